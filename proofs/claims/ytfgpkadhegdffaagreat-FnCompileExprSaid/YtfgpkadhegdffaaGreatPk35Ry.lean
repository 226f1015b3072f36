/-
  The walks over the reference's reader of expressions, l4Read. It reads as the plain reader rdP does.
  Conditions: the text is one of bytes, at most 120.
-/
import Derived.Test.YtfgpkadhegdffaaGreatRows
import Derived.Test.YtfgpkadhegdffaaGreatPk11Lm
import Derived.Test.YtfgpkadhegdffaaGreatPk33Jf
import Derived.Test.YtfgpkadhegdffaaGreatPk34Cmp
set_option maxHeartbeats 4000000
set_option maxRecDepth 100000
namespace Go.Proofs.YtfgpkadhegdffaaGreat
open Go.RowKit
def endI (S:List Nat) (x:PS):Int:=if x.2.2=true then -1 else((S.length-x.2.1.length:Nat):Int)
def RRs (S:List Nat) (x:PS) (w:World) (e:Ending) (w':World):Prop:=∃ a c,e = .returned (.tuple #[.slice a x.1.length c,.int .i64 (endI S x)])∧St w w' [Ent.row 59 2 (.slice a x.1.length c) x.1.length (x.1.flatMap Zaa)]
theorem RRs.nil (S:List Nat) (q:List Nat) {w w':World} {a:Option Addr} {c:Nat} (hS:St w w' [Ent.row 59 2 (.slice a 0 c) 0 []]):RRs S ([],q,true) w (.returned (.tuple #[.slice a 0 c,.int .i64 (-1)])) w':=⟨a,c,rfl,hS⟩
-- ways through an automaton of any size
theorem Zpf {N:Nat} {ms:List (Int × Int × Int)} (hm:mvIn N ms) {v t:Nat} (hv:v<2 ^ N):(clV N ms v).testBit t=true↔∃ s:Nat,s<N∧v.testBit s=true∧Pth ms s [] t:=by
 constructor
 ·intro h;obtain⟨u,hu⟩:=Zoa (fun t=>∃ s:Nat,s<N∧v.testBit s=true∧Pth ms s [] t) N
  have hc:Zcb ms u:=by
   intro m hmm he hf;obtain⟨h1,s,hs,hvs,hp⟩:=(hu _).1 hf;have h2:=hm m hmm;refine(hu _).2 ⟨by omega,s,hs,hvs,?_⟩;have e1:((m.1.toNat:Nat):Int)=m.1:=by omega
   have e2:((m.2.2.toNat:Nat):Int)=m.2.2:=by omega
   rw[e1] at hp;rw[e2];refine hp.append (y:=[]) (.eps ?_ (.here _));rw[← he];exact hmm
  have hsub:subV v u:=by intro s hs;have:=Zg8 hv hs;exact(hu s).2 ⟨this,s,this,hs,.here _⟩
  exact((hu t).1 (Zpd hc hsub t h)).2
 rintro⟨s,hs,hvs,hp⟩;have:=hp.closed (ZcD hm v) rfl (by rw[Int.toNat_natCast];exact Zht N ms v s hvs)
 rwa [Int.toNat_natCast] at this
theorem ZnB {N:Nat} {ms:List (Int × Int × Int)} (hm:mvIn N ms) {v t:Nat} (c:Nat):(stV N ms v (c:Int)).testBit t=true↔∃ x,x∈ms∧x.2.1=(c:Int)∧v.testBit x.1.toNat=true∧Pth ms x.2.2 [] t:=by
 have hlt:ms.foldl (ZaY v c) 0<2 ^ N:=Zb2 _ (fun u=>u<2 ^ N) (fun _ _ hx hu=>ZcE hm hx hu) (Nat.two_pow_pos N);unfold stV;rw[Zpf hm hlt];constructor
 ·rintro⟨s,hs,hb,hp⟩;rw[Zb9] at hb;rcases hb with hb|⟨m,hmm,h1,h2,h3⟩
  ·simp at hb
  refine⟨m,hmm,h1,h2,?_⟩;have e:m.2.2=(s:Int):=by have:=(hm m hmm).2;omega
  rw[e];exact hp
 rintro⟨x,hx,h1,h2,hp⟩;have h4:=(hm x hx).2;refine⟨x.2.2.toNat,by omega,?_,?_⟩
 ·rw[Zb9];exact .inr ⟨x,hx,h1,h2,rfl⟩
 have e:((x.2.2.toNat:Nat):Int)=x.2.2:=by omega
 rw[e];exact hp
theorem Zke {N:Nat} {ms:List (Int × Int × Int)} (hm:mvIn N ms):∀ (cs:List Nat) (V:Nat),V<2 ^ N→Zcb ms V→∀ t,(cs.foldl (fun v (c:Nat)=>stV N ms v (c:Int)) V).testBit t=true↔∃ s:Nat,s<N∧V.testBit s=true∧Pth ms s cs t
 | [],V,hV,hc,t=>by
  rw[List.foldl_nil];constructor
  ·intro h;exact⟨t,Zg8 hV h,h,.here _⟩
  rintro⟨s,hs,h1,h2⟩;have:=h2.closed hc rfl (by rwa [Int.toNat_natCast])
  rwa [Int.toNat_natCast] at this
 | c::cs,V,hV,hc,t=>by
  rw[List.foldl_cons,Zke hm cs _ (Znz hm V c) (ZcD hm _)];constructor
  ·rintro⟨s,hs,h1,h2⟩;rw[ZnB hm] at h1;obtain⟨x,hx,h3,h4,h5⟩:=h1;have h6:=(hm x hx).1;refine⟨x.1.toNat,by omega,h4,?_⟩;have e:((x.1.toNat:Nat):Int)=x.1:=by omega
   rw[e];refine .step (t:=x.2.2) ?_ (h5.append h2);rw[← h3];exact hx
  rintro⟨s,hs,h1,h2⟩;obtain⟨m,h3,h4,h5,h6⟩:=h2.split rfl;have h7:=(hm m h3).2;refine⟨m.2.2.toNat,by omega,?_,?_⟩
  ·rw[ZnB hm];have:=h5.closed hc rfl (by rwa [Int.toNat_natCast]);refine⟨m,h3,h4,this,?_⟩;have e:((m.2.2.toNat:Nat):Int)=m.2.2:=by omega
   rw[e];exact .here _
  have e:((m.2.2.toNat:Nat):Int)=m.2.2:=by omega
  rw[e];exact h6
def accP (n:NfaD) (w:List Nat):Prop:=∃ f∈n.firsts,∃ e∈n.ends,Pth n.moves f w e
theorem Zkc {N:Nat} {n:NfaD}:∀ (w:List Nat) (v:Nat),w.foldl (nxSM N n) (((v:Nat):Int),0)=(((w.foldl (fun v (c:Nat)=>stV N n.moves v (c:Int)) v:Nat):Int),0)
 | [],_=>rfl
 | c::w,v=>by rw[List.foldl_cons,List.foldl_cons,← Zkc w];rfl
theorem Zma {N K:Nat} {n:NfaD} {D:DfaD} (hm:mvIn N n.moves) (hf:inN N n.firsts) (he:inN N n.ends) (h:detM N K n=some D) {w:List Nat} (hw:isW w):accD D w=true↔accP n w:=by
 unfold detM at h
 split at h
 ·rename_i h2;simp only[Option.some.injEq] at h;subst h;unfold metSM at h2 ⊢;rw[Zfv h2 hw,Zkc];show(n.ends.any fun s=>(w.foldl (fun v (c:Nat)=>stV N n.moves v (c:Int)) (clV N n.moves (setV n.firsts))).testBit s.toNat)=true↔_;have hlt:clV N n.moves (setV n.firsts)<2 ^ N:=ZdD hm (Zdq hf) N;have hrun:=Zke hm w _ hlt (ZcD hm (setV n.firsts));rw[List.any_eq_true];constructor
  ·rintro⟨e,hee,hb⟩;obtain⟨s,hs,h1,h2⟩:=(hrun _).1 hb;rw[Zpf hm (Zdq hf)] at h1;obtain⟨r,hr,h3,h4⟩:=h1;rw[ZiH,List.any_eq_true] at h3;obtain⟨f,hff,h5⟩:=h3;have h5:=of_decide_eq_true h5;have h6:=hf f hff;have h7:=he e hee;refine⟨f,hff,e,hee,?_⟩;have e1:(r:Int)=f:=by omega
   have e2:((e.toNat:Nat):Int)=e:=by omega
   rw[e1] at h4;rw[e2] at h2;exact h4.append h2
  rintro⟨f,hff,e,hee,hp⟩;have h6:=hf f hff;have h7:=he e hee;refine⟨e,hee,(hrun _).2 ⟨f.toNat,by omega,?_,?_⟩⟩
  ·exact Zht N n.moves _ _ (ZlE hff)
  have e1:((f.toNat:Nat):Int)=f:=by omega
  have e2:((e.toNat:Nat):Int)=e:=by omega
  rw[e1,e2];exact hp
 cases h
theorem Pth.starred {p:NfaD} {a:Nat} (ha:p.states=(a:Int)) (hpm:mvIn a p.moves) (hpf:inN a p.firsts) (hpe:inN a p.ends) {s t:Int} {x:List Nat} (h:Pth (ZcT p).moves s x t) (ht:t=p.states) :
  (s=p.states→StarL (accP p) x)∧(s<p.states→∃ u v,x=u++v∧(∃ e∈p.ends,Pth p.moves s u e)∧StarL (accP p) v):=by
 have hmem:∀ m∈(ZcT p).moves,m∈p.moves∨(∃ f∈p.firsts,m=(p.states,-1,f))∨∃ e∈p.ends,m=(e,-1,p.states):=fun m hm=>by
  simp only[ZcT,List.mem_append,List.mem_map] at hm;rcases hm with(hm|⟨f,hf,rfl⟩)|⟨e,he,rfl⟩
  ·exact .inl hm
  ·exact .inr (.inl ⟨f,hf,rfl⟩)
  exact .inr (.inr ⟨e,he,rfl⟩)
 induction h with
 | here s=>exact⟨fun _ => .nil,fun h=>by omega⟩
 | @eps s' t' u w hm _ ih =>
  obtain⟨i1,i2⟩:=ih ht;rcases hmem _ hm with hm|⟨f,hf,e⟩|⟨e,he,e'⟩
  ·have h1:=hpm _ hm;simp only at h1;refine⟨fun h=>by omega,fun _ => ?_⟩;obtain⟨x,y,rfl,⟨e,he,h2⟩,h3⟩:=i2 (by omega);exact⟨x,y,rfl,⟨e,he,.eps hm h2⟩,h3⟩
  ·simp only[Prod.mk.injEq] at e;obtain⟨rfl,-,rfl⟩:=e;have h1:=hpf _ hf;refine⟨fun _ => ?_,fun h=>by omega⟩;obtain⟨x,y,rfl,⟨e,he,h2⟩,h3⟩:=i2 (by omega);exact .cons ⟨_,hf,e,he,h2⟩ h3
  simp only[Prod.mk.injEq] at e';obtain⟨rfl,-,rfl⟩:=e';have h1:=hpe _ he;exact⟨fun h=>by omega,fun _=>⟨[],w,rfl,⟨_,he,.here _⟩,i1 rfl⟩⟩
 | @step s' t' u c w hm _ ih =>
  obtain⟨i1,i2⟩:=ih ht;rcases hmem _ hm with hm|⟨f,hf,e⟩|⟨e,he,e'⟩
  ·have h1:=hpm _ hm;simp only at h1;refine⟨fun h=>by omega,fun _ => ?_⟩;obtain⟨x,y,rfl,⟨e,he,h2⟩,h3⟩:=i2 (by omega);exact⟨c::x,y,rfl,⟨e,he,.step hm h2⟩,h3⟩
  ·simp only[Prod.mk.injEq] at e;omega
  simp only[Prod.mk.injEq] at e';omega
theorem Znv {p:NfaD} {a:Nat} (ha:p.states=(a:Int)) (hpm:mvIn a p.moves) (hpf:inN a p.firsts) (hpe:inN a p.ends) (x:List Nat):accP (ZcT p) x↔StarL (accP p) x:=by
 constructor
 ·rintro⟨f,hf,e,he,h⟩;simp only[ZcT,List.mem_singleton] at hf he;subst hf he;exact(h.starred ha hpm hpf hpe rfl).1 rfl
 rintro⟨ws,rfl,hw⟩;refine⟨p.states,by simp[ZcT],p.states,by simp[ZcT],?_⟩
 induction ws with
 | nil=>exact .here _
 | cons u ws ih =>
  rw[List.flatten_cons];refine Pth.append ?_ (ih fun x hx=>hw x (List.mem_cons_of_mem _ hx));obtain⟨f,hf,e,he,h⟩:=hw u (by simp);have h1:Pth (ZcT p).moves f u e:=h.mono fun m hm=>by simp[ZcT,hm]
  have h2:Pth (ZcT p).moves p.states [] f:=.eps (by simp[ZcT,hf]) (.here _);have h3:Pth (ZcT p).moves e [] p.states:=.eps (by simp only[ZcT,List.mem_append,List.mem_map];exact .inr ⟨e,he,rfl⟩) (.here _);have h4:=(h2.append h1).append h3
  rwa [List.nil_append,List.append_nil] at h4
theorem Zoy {p q:NfaD} {a b:Nat} (ha:p.states=(a:Int)) (hpm:mvIn a p.moves) (hqm:mvIn b q.moves) (hpf:inN a p.firsts) (hpe:inN a p.ends) (hqf:inN b q.firsts) (hqe:inN b q.ends) (x:List Nat):accP (Zd2 p q) x↔∃ u v,x=u++v∧accP p u∧accP q v:=by
 constructor
 ·rintro⟨f,hf,e,he,hw⟩;obtain⟨y,hy,rfl⟩:=List.mem_map.1 (show e∈q.ends.map (·+p.states) from he);have h1:=hpf f hf;have h2:=hqe y hy;obtain⟨k,hk,g,hg,z,hz,h3,h4⟩:=(hw.cross ha hpm hqm hpe hqf (by omega)).1 (by omega);rw[show y+p.states-p.states=y by omega] at h4;exact⟨x.take k,x.drop k,(List.take_append_drop k x).symm,⟨f,hf,g,hg,h3⟩,⟨z,hz,y,hy,h4⟩⟩
 rintro⟨u,v,rfl,⟨f,hf,e,he,h3⟩,⟨g,hg,d,hd,h4⟩⟩;refine⟨f,hf,d+p.states,List.mem_map.2 ⟨d,hd,rfl⟩,?_⟩;have h5:Pth (Zd2 p q).moves f u e:=h3.mono fun m hm=>by simp only[Zd2,List.mem_append];exact .inl (.inl hm)
 have h6:Pth (Zd2 p q).moves (g+p.states) v (d+p.states):=(h4.up p.states).mono fun m hm=>by simp only[Zd2,List.mem_append];exact .inl (.inr hm)
 have h7:Pth (Zd2 p q).moves e [] (g+p.states):=.eps (by simp only[Zd2,List.mem_append,List.mem_flatMap,List.mem_map];exact .inr ⟨e,he,g+p.states,List.mem_map.2 ⟨g,hg,rfl⟩,rfl⟩) (.here _);have h8:=(h5.append h7).append h6
 rwa [List.append_nil] at h8
theorem Zdf {d:DfaD} (hd:Zag d.next d.ends=true) {w:List Nat} (hw:isW w):accP (ZaH d) w↔accD d w=true:=by rw[← Zn8 hd hw,ZqN (Ze4 hd)];rfl
theorem ZdZ {d:DfaD} (hd:Zag d.next d.ends=true):inN d.next.length (ZaH d).firsts:=fun s hs=>by have hl:=Zaf hd;have hs:s∈[(0:Int)]:=hs;simp only[List.mem_singleton] at hs;omega
theorem ZfN (d:DfaD):inN d.next.length (ZaH d).ends:=fun s hs=>Zgb d _ s hs
theorem ZgA {u v:List Nat} (h:isW (u++v)):isW u:=fun c hc=>h c (by simp[hc])
theorem Zfb {u v:List Nat} (h:isW (u++v)):isW v:=fun c hc=>h c (by simp[hc])
theorem Zl0 {ws:List (List Nat)} (h:isW ws.flatten):∀ u∈ws,isW u:=fun u hu c hc=>h c (List.mem_flatten.2 ⟨u,hu,hc⟩)
theorem StarL.congr {L M:List Nat→Prop} (h:∀ u,isW u→(L u↔M u)) {w:List Nat} (hw:isW w):StarL L w↔StarL M w:=by
 constructor
 ·rintro⟨ws,rfl,hs⟩;exact⟨ws,rfl,fun u hu=>(h u (Zl0 hw u hu)).1 (hs u hu)⟩
 rintro⟨ws,rfl,hs⟩;exact⟨ws,rfl,fun u hu=>(h u (Zl0 hw u hu)).2 (hs u hu)⟩
theorem Zcg {d:DfaD} (hd:Zag d.next d.ends=true) {w:List Nat} (hw:isW w):accD (Zak d) w=accD d w:=by rw[ZcG (ZaM hd)];exact Zog (ZaM hd) hw
theorem ZlR {K:Nat} {f:Bool→Bool→Bool} {a b d:DfaD} (h:Zbn K f a b=some d) {w:List Nat} (hw:isW w):accD d w=f (accD a w) (accD b w):=by
 unfold Zbn at h
 split at h
 ·rename_i h2;simp only[Option.some.injEq] at h;subst h;unfold metP at h2 ⊢;rw[Zfv h2 hw]
  have key:∀ (w:List Nat) (p:Int × Int),w.foldl (Zav a b) p=(runD a p.1 w,runD b p.2 w):=fun w=>by
   induction w with
   | nil=>intro p;rfl
   | cons c w ih =>intro p;rw[List.foldl_cons,ih];rfl
  rw[key];rfl
 cases h
theorem Zp2 (w:List Nat) (hw:isW w):accD Ze3 w=false:=by
 have key:∀ w,isW w→runD Ze3 0 w=0:=fun w=>by
  induction w with
  | nil=>intro _;rfl
  | cons c w ih =>
   intro h;obtain⟨h1,h2⟩:=Zct h;rw[Za1]
   have:dnx Ze3 0 c=0:=by
    have:c=0∨c=1∨c=2:=by omega
    rcases this with rfl|rfl|rfl<;>rfl
   rw[this];exact ih h2
 unfold accD;rw[key w hw];rfl
theorem Zrf (w:List Nat) (hw:isW w):accD oneD w=true↔w=[]:=by
 have key:∀ w,isW w→runD oneD 1 w=1:=fun w=>by
  induction w with
  | nil=>intro _;rfl
  | cons c w ih =>
   intro h;obtain⟨h1,h2⟩:=Zct h;rw[Za1]
   have:dnx oneD 1 c=1:=by
    have:c=0∨c=1∨c=2:=by omega
    rcases this with rfl|rfl|rfl<;>rfl
   rw[this];exact ih h2
 cases w with
 | nil=>exact⟨fun _=>rfl,fun _=>rfl⟩
 | cons c w =>
  obtain⟨h1,h2⟩:=Zct hw
  have e:dnx oneD 0 c=1:=by
   have:c=0∨c=1∨c=2:=by omega
   rcases this with rfl|rfl|rfl<;>rfl
  have:accD oneD (c::w)=false:=by unfold accD;rw[Za1,e,key w h2];rfl
  rw[this];simp
theorem Zrn (a:Fin 3) (w:List Nat) (hw:isW w):accD (ltrD a) w=true↔w=[a.val]:=by
 have ha:a=0∨a=1∨a=2:=by omega
 have k2:∀ w,isW w→runD (ltrD a) 2 w=2:=fun w=>by
  induction w with
  | nil=>intro _;rfl
  | cons c w ih =>
   intro h;obtain⟨h1,h2⟩:=Zct h;rw[Za1]
   have:dnx (ltrD a) 2 c=2:=by
    have:c=0∨c=1∨c=2:=by omega
    rcases this with rfl|rfl|rfl<;>rcases ha with rfl|rfl|rfl<;>rfl
   rw[this];exact ih h2
 have e2:den (ltrD a) 2=false:=by rcases ha with rfl|rfl|rfl<;>rfl
 have e1:den (ltrD a) 1=true:=by rcases ha with rfl|rfl|rfl<;>rfl
 have e0:den (ltrD a) 0=false:=by rcases ha with rfl|rfl|rfl<;>rfl
 cases w with
 | nil =>have:accD (ltrD a) []=false:=e0;rw[this];simp
 | cons c w =>
  obtain⟨h1,h2⟩:=Zct hw
  have e:dnx (ltrD a) 0 c=if c=a.val then 1 else 2:=by
   have:c=0∨c=1∨c=2:=by omega
   rcases this with rfl|rfl|rfl<;>rcases ha with rfl|rfl|rfl<;>rfl
  have hr:accD (ltrD a) (c::w)=den (ltrD a) (runD (ltrD a) (if c=a.val then 1 else 2) w):=by unfold accD;rw[Za1,e]
  rw[hr];by_cases hc:c=a.val
  ·rw[if_pos hc];cases w with
   | nil =>rw[hc];exact⟨fun _=>rfl,fun _=>e1⟩
   | cons b w =>
    obtain⟨h3,h4⟩:=Zct h2
    have e3:dnx (ltrD a) 1 b=2:=by
     have:b=0∨b=1∨b=2:=by omega
     rcases this with rfl|rfl|rfl<;>rcases ha with rfl|rfl|rfl<;>rfl
    rw[Za1,e3,k2 w h4,e2];simp
  rw[if_neg hc,k2 w h2,e2];simp[hc]
theorem Zfn {K:Nat} (hK:K=40):∀ (t:Ex) {d:DfaD},Zal K t=some d→∀ w,isW w→(accD d w=true↔memE t w):=by
 intro t
 induction t with
 | zero =>intro d h w hw;simp only[Zal,Option.some.injEq] at h;rw[← h,Zcg Ze2 hw,Zp2 w hw];simp[memE]
 | one =>intro d h w hw;simp only[Zal,Option.some.injEq] at h;rw[← h,Zcg Zg3 hw,Zrf w hw];rfl
 | ltr c =>intro d h w hw;simp only[Zal,Option.some.injEq] at h;rw[← h,Zcg (ZeG c) hw,Zrn c w hw];rfl
 | join a b iha ihb =>
  intro d h w hw;simp only[Zal,Option.bind_eq_some_iff,Option.map_eq_some_iff] at h;obtain⟨x,hx,y,hy,z,hz,rfl⟩:=h;have hxo:=Zbe hK a hx;have hyo:=Zbe hK b hy;have hxl:=Zaf hxo;have hyl:=Zaf hyo;rw[Zcg (Zc9 hK hz) hw];have h1:mvIn 81 (Zdo x y).moves:=Zg7 (Ziw hxo hyo) (by omega);have h2:inN 81 (Zdo x y).firsts:=fun s hs=>by have:=ZdN (b:=y) hxo s hs;omega
  have h3:inN 81 (Zdo x y).ends:=fun s hs=>by have:=Zfw s hs;omega
  rw[Zma h1 h2 h3 hz hw,← Zhg,
   Zoy (a:=x.next.length) (b:=y.next.length) rfl (Zf4 hxo _ (Nat.le_refl _)) (Zf4 hyo _ (Nat.le_refl _)) (ZdZ hxo) (ZfN x) (ZdZ hyo) (ZfN y)]
  constructor
  ·rintro⟨u,v,rfl,p,q⟩;exact⟨u,v,rfl,(iha hx u (ZgA hw)).1 ((Zdf hxo (ZgA hw)).1 p),(ihb hy v (Zfb hw)).1 ((Zdf hyo (Zfb hw)).1 q)⟩
  rintro⟨u,v,rfl,p,q⟩;exact⟨u,v,rfl,(Zdf hxo (ZgA hw)).2 ((iha hx u (ZgA hw)).2 p),(Zdf hyo (Zfb hw)).2 ((ihb hy v (Zfb hw)).2 q)⟩
 | alt a b iha ihb =>intro d h w hw;simp only[Zal,Option.bind_eq_some_iff,Option.map_eq_some_iff] at h;obtain⟨x,hx,y,hy,z,hz,rfl⟩:=h;rw[Zcg (Zbv hK hz) hw,ZlR hz hw,Bool.or_eq_true,iha hx w hw,ihb hy w hw];rfl
 | both a b iha ihb =>intro d h w hw;simp only[Zal,Option.bind_eq_some_iff,Option.map_eq_some_iff] at h;obtain⟨x,hx,y,hy,z,hz,rfl⟩:=h;rw[Zcg (Zbv hK hz) hw,ZlR hz hw,Bool.and_eq_true,iha hx w hw,ihb hy w hw];rfl
 | neg a iha =>intro d h w hw;simp only[Zal,Option.map_eq_some_iff] at h;obtain⟨x,hx,rfl⟩:=h;have hxo:=Zbe hK a hx;rw[Zcg (Zg6 hxo) hw,Zn9,Zrx hxo hw];show _↔¬ memE a w;rw[← iha hx w hw];cases accD x w<;>simp[xb]
 | star a iha =>
  intro d h w hw;simp only[Zal,Option.bind_eq_some_iff,Option.map_eq_some_iff] at h;obtain⟨x,hx,z,hz,rfl⟩:=h;have hxo:=Zbe hK a hx;have hxl:=Zaf hxo;rw[Zcg (Zc9 hK hz) hw];have h1:mvIn 81 (ZdM x).moves:=Zg7 (Ziv hxo) (by omega);have h2:inN 81 (ZdM x).firsts:=fun s hs=>by have:=Zda (a:=x) s hs;omega
  have h3:inN 81 (ZdM x).ends:=fun s hs=>by have:=Zda (a:=x) s hs;omega
  rw[Zma h1 h2 h3 hz hw,← ZgO,
   Znv (a:=x.next.length) rfl (Zf4 hxo _ (Nat.le_refl _)) (ZdZ hxo) (ZfN x)]
  exact StarL.congr (fun u hu=>by rw[Zdf hxo hu,iha hx u hu]) hw
theorem Zo4 {K:Nat} (hK:K=40) {es:List (Int × Int)} {D:DfaD} (h:Zjx K es (some D)):Zag D.next D.ends=true∧minQ D=D:=by
 have hok:=ZqD hK h;refine⟨hok,?_⟩;obtain⟨-,t,-,hc⟩|⟨-,h⟩:=h
 ·unfold minQ;rw[if_pos hok];exact Zem hK t hc
 cases h
theorem Zkm {K:Nat} (hK:K=40) {es:List (Int × Int)} {o:Option DfaD} (h:Zjx K es o) {D:DfaD} {fb:Bool} (hD:o.getD Zbj=D) (hfb:o.isSome=fb):(fb=false→D.next.length=0)∧(fb=true→o=some D∧Zag D.next D.ends=true∧minQ D=D):=by
 cases o with
 | none=>subst hD;exact⟨fun _=>rfl,fun e=>(by rw[e] at hfb;cases hfb)⟩
 | some d =>obtain rfl:d=D:=hD;exact⟨fun e=>(by rw[e] at hfb;cases hfb),fun _=>⟨rfl,Zo4 hK h⟩⟩
def PtH (E:Ent) (v:Value) (es:List (Int × Int)):Prop:=∀ w,E.holds w→(∀ k,E.foot k→k<w.heap.size)→Pairs 0 w v es
theorem PtH.r {w0 w:World} {L:List Ent} {E:Ent} {v:Value} {es:List (Int × Int)} (h:PtH E v es) (hS:St w0 w L) (i:Nat) (hx:L[i]? = some E):Pairs 0 w v es :=
 h w (hS.has i _ hx).1 fun k hk=>((hS.has i _ hx).2 k hk).2
theorem ZgX (a:Option Addr) (c:Nat) (es:List (Int × Int)):PtH (Zbf a c es) (.slice a es.length c) es:=fun w h _=>((Zab h).sl (by omega)).mono (Nat.zero_le _)
theorem ZgT (xs:List Bool) (v1 v2:Value) (w:World) (h1:Bools 0 w v1 xs) (h2:Bools 0 w v2 xs) :
  Calls Tryz.prog 53 #[v1,v2] w fun e w'=>e = .returned (.bool true)∧Below w.heap.size w w':=by
 obtain⟨a1,c1,rfl,hc1,hm1,hr1⟩:=h1.form;obtain⟨a2,c2,rfl,hc2,hm2,hr2⟩:=h2.form;clear h1 h2;have hl:((xs.length:Int) != xs.length)=false:=by simp
 go_enter Tryz.func53, Tryz.ntmps53
 go_wp2
 go_loopw [4,5] (fun r i wr=>∃ k:Nat,k≤xs.length∧i = .int .i64 k∧Below w.heap.size w wr) (fun _ i _=>xs.length-(intOf i).toNat)
 case atStart=>exact⟨0,Nat.zero_le _,rfl,Below.refl _ _⟩
 case round =>
  obtain⟨k,hk,rfl,hb⟩:=hrel;by_cases hlt:k<xs.length
  ·obtain⟨b1,o1,rfl,hB1,hbl1,hcs1⟩:=hr1 (by omega);obtain⟨b2,o2,rfl,hB2,hbl2,hcs2⟩:=hr2 (by omega);have hx1:=(bcell hb b1 (o1+k) hbl1).trans (hcs1 k hlt);have hx2:=(bcell hb b2 (o2+k) hbl2).trans (hcs2 k hlt);obtain⟨x,hx⟩:=eI (xs.getD k false);rw[← hx] at hx1 hx2;have hne:(x != x)=false:=by simp
   have hne':(!(x==x))=false:=by simp
   replace hx:=qh hx;replace hb:=qh hb;clear hcs1 hcs2 hr1 hr2;go_wp2
   go_quiet (fail)
   go_wp2;go_roundw
   case rel=>exact⟨k+1,by omega,by go_num,below_drewN hb.out _⟩
   case measure=>simp[intOf];omega
  clear hr1 hr2;replace hb:=qh hb;go_wp2;go_ret;exact⟨rfl,hb.out⟩
theorem ZmB {P:Program} {f:FuncId} {args:Array Value} {w:World} {n:Nat} {v:Value}
  (h:Calls P f args (w.drewN n) fun e w'=>e = .returned v∧∃ m,w'=(w.drewN n).drewN m):Calls P f args (w.drewN n) fun e w''=>e = .returned v∧∃ m,w''=w.drewN m :=
 h.mono fun _ _ ⟨he,_,hm⟩=>⟨he,_,hm.trans (World.drewN_drewN _ _ _)⟩
theorem ZiI (xs:List Int) (v1 v2:Value) (w:World) (h1:Ints 0 w v1 xs) (h2:Ints 0 w v2 xs) :
  Calls Tryz.prog 52 #[v1,v2] w fun e w'=>e = .returned (.bool true)∧∃ m,w'=w.drewN m:=by
 obtain⟨a1,c1,rfl,hc1,hm1,hr1⟩:=h1.form;obtain⟨a2,c2,rfl,hc2,hm2,hr2⟩:=h2.form;clear h1 h2;have hl:((xs.length:Int) != xs.length)=false:=by simp
 go_enter Tryz.func52, Tryz.ntmps52
 go_wp2
 go_loopw [4,5] (fun r i wr=>∃ k:Nat,k≤xs.length∧i = .int .i64 k∧∃ m,wr=w.drewN m) (fun _ i _=>xs.length-(intOf i).toNat)
 case atStart=>exact⟨0,Nat.zero_le _,rfl,0,rfl⟩
 case round =>
  obtain⟨k,hk,rfl,hm⟩:=hrel;by_cases hlt:k<xs.length
  ·obtain⟨b1,o1,rfl,hB1,hbl1,hcs1⟩:=hr1 (by omega);obtain⟨b2,o2,rfl,hB2,hbl2,hcs2⟩:=hr2 (by omega);have hb:Below w.heap.size w wr:=by obtain⟨m,rfl⟩:=hm;exact below_drewN (Below.refl _ _) m
   have hx1:=(bcell hb b1 (o1+k) hbl1).trans (hcs1 k hlt);have hx2:=(bcell hb b2 (o2+k) hbl2).trans (hcs2 k hlt);obtain⟨x,hx⟩:=eI (xs.getD k 0);rw[← hx] at hx1 hx2;have hne:(x != x)=false:=by simp
   have hne':(!(x==x))=false:=by simp
   replace hx:=qh hx;replace hm:=qh hm;clear hcs1 hcs2 hr1 hr2 hb;go_wp2
   go_quiet (fail)
   go_wp2;go_roundw
   case rel=>exact⟨k+1,by omega,by go_num,by obtain⟨m,rfl⟩:=hm.out;exact⟨_,World.drewN_drewN _ _ _⟩⟩
   case measure=>simp[intOf];omega
  clear hr1 hr2;replace hm:=qh hm;go_wp2;go_ret;exact⟨rfl,hm.out⟩
theorem ZbO (d:DfaD) (a b:Value) (w:World) (h1:DfaR 0 w a d) (h2:DfaR 0 w b d) :
  Calls Tryz.prog 20 #[a,b] w fun e w'=>e = .returned (.bool true)∧Below w.heap.size w w':=by
 obtain⟨v1,v2,rfl,g1,g2⟩:=h1;obtain⟨u1,u2,rfl,k1,k2⟩:=h2;obtain⟨a1,c1,rfl,hc1,hm1,hr1⟩:=g1.formI;obtain⟨b1,d1,rfl,hd1,hn1,hq1⟩:=k1.formI;have G2:=qh g2;have K2:=qh k2;have hS0:=((St.start w).alloc _ rfl #[.slice a1 d.next.length c1,v2] 25).alloc (w.heap.size+1) (by simp) #[.slice b1 d.next.length d1,u2] 25;have e0:=hS0.cell (v:=.slice a1 d.next.length c1) 0 0 rfl rfl;have f0:=hS0.cell (v:=.slice b1 d.next.length d1) 1 0 rfl rfl;have hne2:((d.next.length:Int) != d.next.length)=false:=by simp
 replace hS0:=qh hS0;have Hhr1:=qh hr1;clear hr1;have Hhq1:=qh hq1;clear hq1;clear g1 g2 k1 k2
 go_enter Tryz.func20, Tryz.ntmps20
 go_wp2
 go_loopw [5] (fun i wr=>∃ k:Nat,i = .int .i64 k∧k≤d.next.length∧St w wr [Ent.box w.heap.size #[.slice a1 d.next.length c1,v2] 25,Ent.box (w.heap.size+1) #[.slice b1 d.next.length d1,u2] 25]) (fun i _=>d.next.length-(intOf i).toNat)
 case atStart=>exact⟨0,rfl,Nat.zero_le _,hS0.out⟩
 case round =>
  obtain⟨k,rfl,hk,hS⟩:=hrel;clear e0 f0;by_cases hlt:k<d.next.length
  ·have hkI:(k:Int)<d.next.length:=by omega
   obtain⟨x1,y1,rfl,-,hbl1,hcs1⟩:=Hhr1.out (by omega);obtain⟨x2,y2,rfl,-,hbl2,hcs2⟩:=Hhq1.out (by omega);obtain⟨m1,z1,p1,-,-,p2⟩:=hcs1 k hlt;obtain⟨m2,z2,q1,-,-,q2⟩:=hcs2 k hlt;replace p1:=(bcell hS.bel x1 _ hbl1).trans p1;replace q1:=(bcell hS.bel x2 _ hbl2).trans q1;have P2:=qh p2;have Q2:=qh q2;have e1:=hS.cell (v:=.slice (some ⟨x1,y1,none⟩) d.next.length c1) 0 0 rfl rfl;have f1:=hS.cell (v:=.slice (some ⟨x2,y2,none⟩) d.next.length d1) 1 0 rfl rfl;obtain⟨x,hx⟩:=eJ (d.next.getD k []);rw[hx] at p1 q1 P2 Q2;have HS:=qh hS;replace P2:=qh (P2.out.below HS.out.bel);replace Q2:=qh (Q2.out.below HS.out.bel);have Hhx:=qh hx;clear hx;clear hcs1 hcs2 hS p2 q2;go_wp2_with fail
   go_quiet ((go_at_call 52;exact ZmB (ZiI x _ _ _ (P2.out.below (below_drewN (Below.refl _ _) _)) (Q2.out.below (below_drewN (Below.refl _ _) _)))))
   go_wp2;go_roundw
   case rel=>exact⟨k+1,by go_num,by omega,HS.out.drewN nq⟩
   case measure=>simp[intOf];omega
  obtain rfl:k=d.next.length:=by omega
  have e1:=hS.cell (v:=.slice a1 d.next.length c1) 0 0 rfl rfl;have e2:=hS.cell (v:=v2) 0 1 rfl rfl;have f2:=hS.cell (v:=u2) 1 1 rfl rfl;have HS:=qh hS;clear hS;go_wp2_with fail;refine(ZgT d.ends _ _ _ (G2.out.below HS.out.bel) (K2.out.below HS.out.bel)).mono ?_;rintro e w4 ⟨rfl,hb4⟩;have HS4:=qh (HS.out.call hb4);clear hb4;go_wp2;go_ret;exact⟨rfl,HS4.out.bel⟩
theorem Bx.only {lo hi b:Nat} {w w':World} {cs:Array Value} {T:TypeId} (h:Bx w b cs T) (ho:Only lo hi w w') (hd:b<lo∨hi≤b):Bx w' b cs T:=(ho.block b h.lt hd).trans h
theorem DfaO.only {tS tI tB lo hi lo' hi':Nat} {w w':World} {v:Value} {d:DfaD} (h:DfaO tS tI tB lo hi w v d) (ho:Only lo' hi' w w') (hd:hi≤lo'∨hi'≤lo):DfaO tS tI tB lo hi w' v d:=by obtain⟨v1,v2,hv,h1,h2⟩:=h;exact⟨v1,v2,hv,h1.only ho hd,h2.only ho hd⟩
theorem DfaO.below {tS tI tB lo hi:Nat} {w w':World} {v:Value} {d:DfaD} (h:DfaO tS tI tB lo hi w v d) (hb:Below w.heap.size w w'):DfaO tS tI tB lo hi w' v d:=by obtain⟨v1,v2,hv,h1,h2⟩:=h;exact⟨v1,v2,hv,h1.below hb,Own.below h2 hb⟩
end Go.Proofs.YtfgpkadhegdffaaGreat
namespace Go.Proofs.YtfgpkadhegdffaaGreat
open Go.ChangeShapes Go.WideShapes Go.ChangeAt Go.RowKit Go.Joins
theorem Tryz.own:ownKnob Tryz.prog.godebug=none:=by kernel_rfl
section
variable {H:Type} {enc:TypeId × Value→H} {W:World}
end
end Go.Proofs.YtfgpkadhegdffaaGreat
namespace Go.Proofs.YtfgpkadhegdffaaGreat
open Go.ChangeShapes Go.WideShapes Go.ChangeAt Go.RowKit Go.Joins
theorem Tryz.cellsByte:Tryz.prog.cellsOf 5 = 1:=by kernel_rfl
theorem Tryz.recLBytes:Tryz.prog.readableRec 36 = true:=by kernel_rfl
theorem Tryz.rowLBytes:(36:TypeId)<Tryz.prog.types.size:=of_decide_eq_true (by kernel_rfl)
section
variable {H:Type} {enc:TypeId × Value→H} {W:World}
theorem ZcK {held:Bool} {v:Value} {d:DataW H} {p:List MemPlace} (h:DataW.Trod enc Tryz.prog W 0 (fun _=>true) held 36 v d p) (hv:v.cells.toList=[v]):∃ bs,Bytes 0 W v bs:=by obtain⟨fuel,hf⟩:=h;obtain⟨u,bs,hu,hx⟩:=ZjQ Tryz.underlying36 Tryz.underlying5 Tryz.cellsByte hf;rw[hv] at hu;simp only[List.cons.injEq,and_true] at hu;subst hu;exact⟨bs,hx⟩
end
end Go.Proofs.YtfgpkadhegdffaaGreat
