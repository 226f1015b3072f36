/-
  The states after a word, as lists: impl.NfaRun, spec.NfaRun.
  Condition: the automaton is readable, the word is a text of bytes.
  Texts of bytes cut in two, plain and as the program cuts them; what the law over NfaRun says, plain.
  Conditions: none beyond the bounds.
-/
import Derived.Test.YtfikabecgaappaaGreatPb24Nr
namespace Go.Proofs.YtfikabecgaappaaGreat
open Go.RowKit
end Go.Proofs.YtfikabecgaappaaGreat
namespace Go.Proofs.YtfikabecgaappaaGreat
open Go.RowKit
theorem Zna {l:List Nat}:wdOk l=true↔(∀ b∈l,97≤b∧b≤99)∧l.length≤8:=by
 constructor
 ·intro h;obtain⟨h1,h2⟩:=ZgO h;refine⟨fun b hb => ?_,h2⟩;obtain⟨k,hk,e⟩:=List.getElem_of_mem hb;have:=Zoe h1 hk;rw[ZbF hk,e] at this;exact this
 rintro⟨h1,h2⟩;unfold wdOk okT;rw[Bool.and_eq_true,List.all_eq_true,decide_eq_true_eq];refine⟨fun k hk => ?_,h2⟩;have hk:=List.mem_range.1 hk;have:=h1 _ (Zeb hk);simp only[inB,Bool.and_eq_true,decide_eq_true_eq];omega
end Go.Proofs.YtfikabecgaappaaGreat
namespace Go.Proofs.YtfikabecgaappaaGreat
open Go.RowKit
theorem ZnF {l:List Nat} (h:wdOk l=true):isW (lets l):=fun c hc=>by obtain⟨b,hb,rfl⟩:=List.mem_map.1 hc;have:=(Zna.1 h).1 b hb;omega
theorem ZmD {K:Nat} {n:NfaD} {D:DfaD} (h:detK K n=some D):Zal n=true∧(metS n K).length≤K∧D=Zau (nxS n) (enS n) (metS n K):=by
 unfold detK at h
 split at h
 ·rename_i h1;exact⟨h1.1,h1.2,(Option.some.inj h).symm⟩
 cases h
theorem ZiI {n:NfaD}:∀ (w:List Nat) (v:Nat),w.foldl (nxS n) (((v:Nat):Int),0)=(((w.foldl (fun v (c:Nat)=>stV 40 n.moves v (c:Int)) v:Nat):Int),0)
 | [],_=>rfl
 | c::w,v=>by rw[List.foldl_cons,List.foldl_cons,← ZiI w];rfl
theorem Zki {K:Nat} {n:NfaD} {D:DfaD} (h:detK K n=some D) {w:List Nat} (hw:isW w):accD D w=accS n w:=by obtain⟨-,h2,rfl⟩:=ZmD h;rw[Zeq h2 hw,ZiI];rfl
end Go.Proofs.YtfikabecgaappaaGreat
namespace Go.Proofs.YtfikabecgaappaaGreat
open Go.RowKit
theorem ZjR {l:List Int} {m:Int} (h:∀ j,j<l.length→(0≤l.getD j 0∧l.getD j 0≤m-1)∧(0<j→l.getD (j-1) 0<l.getD j 0)):stOk l m=true:=by
 unfold stOk;rw[List.all_eq_true];intro j hj;obtain⟨h1,h2⟩:=h j (List.mem_range.1 hj);unfold okAt;rw[Bool.and_eq_true,Bool.or_eq_true];refine⟨by simp only[inB,Bool.and_eq_true,decide_eq_true_eq];exact h1,?_⟩;by_cases h0:j=0
 ·exact .inl (decide_eq_true h0)
 exact .inr (decide_eq_true (h2 (by omega)))
theorem Zds {s t:Nat}:(2 ^ s).testBit t=decide (s=t):=by rw[Nat.testBit_two_pow]
theorem ZdJ {d:DfaD}:∀ {k:Nat} {m:Int × Int × Int},m∈mvs d k↔∃ s c:Nat,s<k∧c<3∧m=((s:Int),(c:Int),(d.next.getD s []).getD c 0)
 | 0,m=>by simp[mvs]
 | k+1,m=>by
  rw[show mvs d (k+1)=mvs d k++rowM d k from rfl,List.mem_append,ZdJ];constructor
  ·rintro(⟨s,c,h1,h2,h3⟩|h)
   ·exact⟨s,c,by omega,h2,h3⟩
   obtain⟨c,hc,rfl⟩:=List.mem_map.1 h;exact⟨k,c,by omega,List.mem_range.1 hc,rfl⟩
  rintro⟨s,c,h1,h2,h3⟩;by_cases h:s=k
  ·subst h;exact .inr (List.mem_map.2 ⟨c,List.mem_range.2 h2,h3.symm⟩)
  exact .inl ⟨s,c,by omega,h2,h3⟩
theorem Zcu {d:DfaD} (k u:Nat):ZbP (mvs d k) u:=by intro m hm he;obtain⟨s,c,-,-,rfl⟩:=ZdJ.1 hm;simp only at he;omega
theorem Zm1 {a b:Nat} (h:∀ t,a.testBit t=true↔b.testBit t=true):a=b:=by apply Nat.eq_of_testBit_eq;intro t;rw[Bool.eq_iff_iff];exact h t
theorem Zoq {d:DfaD} (hd:Zak d.next d.ends=true) {s c:Nat} (hs:s<d.next.length) (hc:c<3):∃ q:Nat,q<d.next.length∧stV 40 (mvs d d.next.length) (2 ^ s) (c:Int)=2 ^ q:=by
 have hr:=(ZaV hd hs).2 c hc;obtain⟨q,hq⟩:=Int.eq_ofNat_of_zero_le hr.1;refine⟨q,by omega,?_⟩;unfold stV;rw[Zfq (Zcu _ _)];apply Zm1;intro t;rw[ZbN,Zds,decide_eq_true_eq];constructor
 ·rintro(h|⟨m,hm,h1,h2,h3⟩)
  ·simp at h
  obtain⟨s',c',h4,h5,rfl⟩:=ZdJ.1 hm;rw[Zds,decide_eq_true_eq] at h2;simp only[Int.toNat_natCast] at h2;subst h2;have:c'=c:=by simp only at h1;omega
  subst this;simp only[hq] at h3;omega
 rintro rfl;right;refine⟨_,ZdJ.2 ⟨s,c,hs,hc,rfl⟩,rfl,?_,?_⟩
 ·rw[Zds];simp
 simp only[hq];omega
theorem ZoD {d:DfaD} (hd:Zak d.next d.ends=true) (K:Nat):(metS (Za1 d) K).length≤d.next.length:=by
 have hl:=Zaj hd;have hf:fstV (Za1 d)=2 ^ 0:=by unfold fstV;rw[show(Za1 d).moves=mvs d d.next.length from rfl,Zfq (Zcu _ _)];rfl
 have hall:∀ x∈metS (Za1 d) K,∃ s:Nat,s<d.next.length∧x=(((2 ^ s:Nat):Int),0):=by refine Zcs (Q:=fun x=>∃ s:Nat,s<d.next.length∧x=(((2 ^ s:Nat):Int),0)) ⟨0,by omega,by rw[hf]⟩ ?_ K;rintro x c hc ⟨s,hs,rfl⟩;obtain⟨q,hq,h⟩:=Zoq hd hs hc;refine⟨q,hq,?_⟩;unfold nxS;rw[show(Za1 d).moves=mvs d d.next.length from rfl];simp only[Int.toNat_natCast];rw[h]
 have:=ZdZ (Zbf (nx:=nxS (Za1 d)) (a:=(((fstV (Za1 d):Nat):Int),0)) K).1 (m:=(List.range d.next.length).map fun s=>(((2 ^ s:Nat):Int),(0:Int))) fun x hx=>by obtain⟨s,hs,rfl⟩:=hall x hx;exact List.mem_map.2 ⟨s,List.mem_range.2 hs,rfl⟩
 simpa using this
theorem ZhX (d:DfaD):∀ k,(eds d k).Pairwise (·<·)
 | 0=>List.Pairwise.nil
 | k+1=>by
  unfold eds
  split
  ·rw[List.pairwise_append];refine⟨ZhX d k,List.pairwise_singleton _ _,fun x hx y hy => ?_⟩;rw[List.mem_singleton.1 hy];exact(Zgn d k x hx).2
  exact ZhX d k
theorem Zd1 {d:DfaD} (hd:Zak d.next d.ends=true):Zal (Za1 d)=true:=by
 have hl:=Zaj hd;unfold Zal;simp only[Bool.and_eq_true,decide_eq_true_eq];refine⟨⟨⟨⟨?_,?_⟩,?_⟩,?_⟩,?_⟩
 ·show inB (d.next.length:Int) 0 40=true;simp only[inB,Bool.and_eq_true,decide_eq_true_eq];exact⟨by omega,by omega⟩
 ·show(mvs d d.next.length).length≤400;rw[ZdK];omega
 ·refine ZjR fun j hj => ?_
  have hj:j<1:=hj;obtain rfl:j=0:=by omega
  refine⟨?_,fun h=>by omega⟩;simp only[Za1,List.getD_cons_zero];omega
 ·refine ZjR fun j hj => ?_
  have hj:j<(eds d d.next.length).length:=hj;have h1:=Zgn d _ _ (memD (d:=(0:Int)) hj);refine⟨?_,fun h => ?_⟩
  ·show 0≤(eds d d.next.length).getD j 0∧(eds d d.next.length).getD j 0≤(d.next.length:Int)-1;omega
  have:=List.pairwise_iff_getElem.1 (ZhX d d.next.length) (j-1) j (by omega) hj (by omega);show(eds d d.next.length).getD (j-1) 0<(eds d d.next.length).getD j 0;rw[ZbF (by omega),ZbF hj];exact this
 rw[List.all_eq_true];intro m hm;obtain⟨s,c,h1,h2,rfl⟩:=ZdJ.1 (show m∈mvs d d.next.length from hm);have hr:=(ZaV hd h1).2 c h2;show mvOk (d.next.length:Int) _=true;simp only[mvOk,inB,Bool.and_eq_true,decide_eq_true_eq];exact⟨⟨⟨by omega,by omega⟩,by omega,by omega⟩,by omega,by omega⟩
end Go.Proofs.YtfikabecgaappaaGreat
namespace Go.Proofs.YtfikabecgaappaaGreat
open Go.RowKit
theorem Zo9 {d:DfaD} (hd:Zak d.next d.ends=true) {s c:Nat} (hs:s<d.next.length) (hc:c<3):stV 40 (mvs d d.next.length) (2 ^ s) (c:Int)=2 ^ nxD d s c:=by
 have hr:=(ZaV hd hs).2 c hc;unfold stV;rw[Zfq (Zcu _ _)];apply Zm1;intro t;rw[ZbN,Zds,decide_eq_true_eq];constructor
 ·rintro(h|⟨m,hm,h1,h2,h3⟩)
  ·simp at h
  obtain⟨s',c',h4,h5,rfl⟩:=ZdJ.1 hm;rw[Zds,decide_eq_true_eq] at h2;simp only[Int.toNat_natCast] at h2;subst h2;have:c'=c:=by simp only at h1;omega
  subst this;exact h3
 rintro rfl;right;refine⟨_,ZdJ.2 ⟨s,c,hs,hc,rfl⟩,rfl,?_,rfl⟩;rw[Zds];simp
theorem Zmt (d:DfaD):fstV (Za1 d)=2 ^ 0:=by unfold fstV;rw[show(Za1 d).moves=mvs d d.next.length from rfl,Zfq (Zcu _ _)];rfl
theorem ZjE {d:DfaD}:∀ {k:Nat} {x:Int},x∈eds d k↔∃ s:Nat,x=(s:Int)∧s<k∧enD d s=true
 | 0,x=>by simp[eds]
 | k+1,x=>by
  have ih:=ZjE (d:=d) (k:=k) (x:=x);unfold eds;by_cases h:d.ends.getD k false=true
  ·rw[if_pos h,List.mem_append,ih,List.mem_singleton];constructor
   ·rintro(⟨s,h1,h2,h3⟩|rfl)
    ·exact⟨s,h1,by omega,h3⟩
    exact⟨k,rfl,by omega,h⟩
   rintro⟨s,h1,h2,h3⟩;by_cases hk:s=k
   ·subst hk;exact .inr h1
   exact .inl ⟨s,h1,by omega,h3⟩
  rw[if_neg h,ih];constructor
  ·rintro⟨s,h1,h2,h3⟩;exact⟨s,h1,by omega,h3⟩
  rintro⟨s,h1,h2,h3⟩;by_cases hk:s=k
  ·subst hk;exact absurd h3 h
  exact⟨s,h1,by omega,h3⟩
theorem ZmE {d:DfaD} (hd:Zak d.next d.ends=true) {K:Nat} (hK:d.next.length≤K):detK K (Za1 d)=some (Zbi d):=by
 have hl:=Zaj hd;have hf:=ZaP hd;unfold detK;rw[if_pos ⟨Zd1 hd,Nat.le_trans (ZoD hd K) hK⟩];congr 1
 let f:Int→Int × Int:=fun x=>(((2 ^ x.toNat:Nat):Int),0)
 let Q:Int→Prop:=fun x=>∃ s:Nat,x=(s:Int)∧s<d.next.length
 have hm:=Zc3 (nx:=dnx d) (nx':=nxS (Za1 d)) (a:=(0:Int)) (f:=f) (Q:=Q) (en:=den d) (en':=enS (Za1 d)) (K:=K) ⟨0,rfl,by omega⟩ (by
  rintro x c hc ⟨s,rfl,hs⟩;obtain⟨h3,h4⟩:=Zbs hf hs hc;exact⟨_,h4,h3⟩) (by
  rintro x y ⟨s,rfl,hs⟩ ⟨t,rfl,ht⟩ h;have h1:((2 ^ s:Nat):Int)=((2 ^ t:Nat):Int):=congrArg Prod.fst h;have:s=t:=(Nat.pow_right_inj (show 1<2 by omega)).1 (Int.ofNat_inj.1 h1);rw[this]) (by
  rintro x c hc ⟨s,rfl,hs⟩;obtain⟨h3,h4⟩:=Zbs hf hs hc;simp only[f,h4,nxS,Int.toNat_natCast];rw[show(Za1 d).moves=mvs d d.next.length from rfl,Zo9 hd hs hc]) (by
  rintro x ⟨s,rfl,hs⟩;rw[Za9];simp only[f,enS,Int.toNat_natCast];unfold endV;rw[show(Za1 d).ends=eds d d.next.length from rfl,Bool.eq_iff_iff,List.any_eq_true];constructor
  ·rintro⟨x,hx,hb⟩;obtain⟨t,rfl,ht,he⟩:=ZjE.1 hx;rw[Zds,decide_eq_true_eq] at hb;simp only[Int.toNat_natCast] at hb;rw[hb];exact he
  intro he;refine⟨(s:Int),ZjE.2 ⟨s,rfl,hs,he⟩,?_⟩;rw[Zds];simp)
 have h0:f 0=((((fstV (Za1 d):Nat):Int),0):Int × Int):=by rw[Zmt];rfl
 rw[h0] at hm;refine hm.trans ?_;unfold Zbi;rw[ZcB (ZcN hf _).2 hK]
theorem Zl2 {d:DfaD} (hd:Zak d.next d.ends=true) {w:List Nat} (hw:isW w):accS (Za1 d) w=accD d w:=by rw[← Zki (ZmE hd (Nat.le_refl _)) hw,Znd (ZaP hd) hw]
end Go.Proofs.YtfikabecgaappaaGreat
namespace Go.Proofs.YtfikabecgaappaaGreat
def StarL (L:List Nat→Prop) (w:List Nat):Prop:=∃ ws:List (List Nat),w=ws.flatten∧∀ u∈ws,L u
theorem StarL.nil {L:List Nat→Prop}:StarL L []:=⟨[],rfl,by simp⟩
theorem StarL.cons {L:List Nat→Prop} {u w:List Nat} (h:L u) (h':StarL L w):StarL L (u++w):=by
 obtain⟨ws,rfl,hw⟩:=h'
 exact⟨u::ws,rfl,fun x hx=>by
  rcases List.mem_cons.1 hx with rfl|hx
  ·exact h
  exact hw x hx⟩
def memE:Ex→List Nat→Prop
 | .zero,_=>False
 | .one,w=>w=[]
 | .ltr c,w=>w=[c.val]
 | .join a b,w=>∃ u v,w=u++v∧memE a u∧memE b v
 | .alt a b,w=>memE a w∨memE b w
 | .both a b,w=>memE a w∧memE b w
 | .neg a,w=>¬ memE a w
 | .star a,w=>StarL (memE a) w
end Go.Proofs.YtfikabecgaappaaGreat
namespace Go.Proofs.YtfikabecgaappaaGreat
open Go.RowKit
-- ways through an automaton of any size
theorem ZmP {N:Nat} {ms:List (Int × Int × Int)} (hm:mvIn N ms) {v t:Nat} (hv:v<2 ^ N):(clV N ms v).testBit t=true↔∃ s:Nat,s<N∧v.testBit s=true∧Pth ms s [] t:=by
 constructor
 ·intro h;obtain⟨u,hu⟩:=Zl4 (fun t=>∃ s:Nat,s<N∧v.testBit s=true∧Pth ms s [] t) N
  have hc:ZbP ms u:=by
   intro m hmm he hf;obtain⟨h1,s,hs,hvs,hp⟩:=(hu _).1 hf;have h2:=hm m hmm;refine(hu _).2 ⟨by omega,s,hs,hvs,?_⟩;have e1:((m.1.toNat:Nat):Int)=m.1:=by omega
   have e2:((m.2.2.toNat:Nat):Int)=m.2.2:=by omega
   rw[e1] at hp;rw[e2];refine hp.append (y:=[]) (.eps ?_ (.here _));rw[← he];exact hmm
  have hsub:subV v u:=by intro s hs;have:=Zf2 hv hs;exact(hu s).2 ⟨this,s,this,hs,.here _⟩
  exact((hu t).1 (ZmN hc hsub t h)).2
 rintro⟨s,hs,hvs,hp⟩;have:=hp.closed (Zch hm v) rfl (by rw[Int.toNat_natCast];exact Zgs N ms v s hvs)
 rwa [Int.toNat_natCast] at this
theorem Zlp {N:Nat} {ms:List (Int × Int × Int)} (hm:mvIn N ms) {v t:Nat} (c:Nat):(stV N ms v (c:Int)).testBit t=true↔∃ x,x∈ms∧x.2.1=(c:Int)∧v.testBit x.1.toNat=true∧Pth ms x.2.2 [] t:=by
 have hlt:ms.foldl (ZaT v c) 0<2 ^ N:=ZbG _ (fun u=>u<2 ^ N) (fun _ _ hx hu=>Zci hm hx hu) (Nat.two_pow_pos N);unfold stV;rw[ZmP hm hlt];constructor
 ·rintro⟨s,hs,hb,hp⟩;rw[ZbN] at hb;rcases hb with hb|⟨m,hmm,h1,h2,h3⟩
  ·simp at hb
  refine⟨m,hmm,h1,h2,?_⟩;have e:m.2.2=(s:Int):=by have:=(hm m hmm).2;omega
  rw[e];exact hp
 rintro⟨x,hx,h1,h2,hp⟩;have h4:=(hm x hx).2;refine⟨x.2.2.toNat,by omega,?_,?_⟩
 ·rw[ZbN];exact .inr ⟨x,hx,h1,h2,rfl⟩
 have e:((x.2.2.toNat:Nat):Int)=x.2.2:=by omega
 rw[e];exact hp
theorem ZiK {N:Nat} {ms:List (Int × Int × Int)} (hm:mvIn N ms):∀ (cs:List Nat) (V:Nat),V<2 ^ N→ZbP ms V→∀ t,(cs.foldl (fun v (c:Nat)=>stV N ms v (c:Int)) V).testBit t=true↔∃ s:Nat,s<N∧V.testBit s=true∧Pth ms s cs t
 | [],V,hV,hc,t=>by
  rw[List.foldl_nil];constructor
  ·intro h;exact⟨t,Zf2 hV h,h,.here _⟩
  rintro⟨s,hs,h1,h2⟩;have:=h2.closed hc rfl (by rwa [Int.toNat_natCast])
  rwa [Int.toNat_natCast] at this
 | c::cs,V,hV,hc,t=>by
  rw[List.foldl_cons,ZiK hm cs _ (Zig hm V c) (Zch hm _)];constructor
  ·rintro⟨s,hs,h1,h2⟩;rw[Zlp hm] at h1;obtain⟨x,hx,h3,h4,h5⟩:=h1;have h6:=(hm x hx).1;refine⟨x.1.toNat,by omega,h4,?_⟩;have e:((x.1.toNat:Nat):Int)=x.1:=by omega
   rw[e];refine .step (t:=x.2.2) ?_ (h5.append h2);rw[← h3];exact hx
  rintro⟨s,hs,h1,h2⟩;obtain⟨m,h3,h4,h5,h6⟩:=h2.split rfl;have h7:=(hm m h3).2;refine⟨m.2.2.toNat,by omega,?_,?_⟩
  ·rw[Zlp hm];have:=h5.closed hc rfl (by rwa [Int.toNat_natCast]);refine⟨m,h3,h4,this,?_⟩;have e:((m.2.2.toNat:Nat):Int)=m.2.2:=by omega
   rw[e];exact .here _
  have e:((m.2.2.toNat:Nat):Int)=m.2.2:=by omega
  rw[e];exact h6
def accP (n:NfaD) (w:List Nat):Prop:=∃ f∈n.firsts,∃ e∈n.ends,Pth n.moves f w e
theorem ZiJ {N:Nat} {n:NfaD}:∀ (w:List Nat) (v:Nat),w.foldl (nxSM N n) (((v:Nat):Int),0)=(((w.foldl (fun v (c:Nat)=>stV N n.moves v (c:Int)) v:Nat):Int),0)
 | [],_=>rfl
 | c::w,v=>by rw[List.foldl_cons,List.foldl_cons,← ZiJ w];rfl
theorem Zkj {N K:Nat} {n:NfaD} {D:DfaD} (hm:mvIn N n.moves) (hf:inN N n.firsts) (he:inN N n.ends) (h:detM N K n=some D) {w:List Nat} (hw:isW w):accD D w=true↔accP n w:=by
 unfold detM at h
 split at h
 ·rename_i h2;simp only[Option.some.injEq] at h;subst h;unfold metSM at h2 ⊢;rw[Zeq h2 hw,ZiJ];show(n.ends.any fun s=>(w.foldl (fun v (c:Nat)=>stV N n.moves v (c:Int)) (clV N n.moves (setV n.firsts))).testBit s.toNat)=true↔_;have hlt:clV N n.moves (setV n.firsts)<2 ^ N:=Zc8 hm (Zck hf) N;have hrun:=ZiK hm w _ hlt (Zch hm (setV n.firsts));rw[List.any_eq_true];constructor
  ·rintro⟨e,hee,hb⟩;obtain⟨s,hs,h1,h2⟩:=(hrun _).1 hb;rw[ZmP hm (Zck hf)] at h1;obtain⟨r,hr,h3,h4⟩:=h1;rw[Zhn,List.any_eq_true] at h3;obtain⟨f,hff,h5⟩:=h3;have h5:=of_decide_eq_true h5;have h6:=hf f hff;have h7:=he e hee;refine⟨f,hff,e,hee,?_⟩;have e1:(r:Int)=f:=by omega
   have e2:((e.toNat:Nat):Int)=e:=by omega
   rw[e1] at h4;rw[e2] at h2;exact h4.append h2
  rintro⟨f,hff,e,hee,hp⟩;have h6:=hf f hff;have h7:=he e hee;refine⟨e,hee,(hrun _).2 ⟨f.toNat,by omega,?_,?_⟩⟩
  ·exact Zgs N n.moves _ _ (ZjS hff)
  have e1:((f.toNat:Nat):Int)=f:=by omega
  have e2:((e.toNat:Nat):Int)=e:=by omega
  rw[e1,e2];exact hp
 cases h
theorem Pth.starred {p:NfaD} {a:Nat} (ha:p.states=(a:Int)) (hpm:mvIn a p.moves) (hpf:inN a p.firsts) (hpe:inN a p.ends) {s t:Int} {x:List Nat} (h:Pth (Zbj p).moves s x t) (ht:t=p.states) :
  (s=p.states→StarL (accP p) x)∧(s<p.states→∃ u v,x=u++v∧(∃ e∈p.ends,Pth p.moves s u e)∧StarL (accP p) v):=by
 have hmem:∀ m∈(Zbj p).moves,m∈p.moves∨(∃ f∈p.firsts,m=(p.states,-1,f))∨∃ e∈p.ends,m=(e,-1,p.states):=fun m hm=>by
  simp only[Zbj,List.mem_append,List.mem_map] at hm;rcases hm with(hm|⟨f,hf,rfl⟩)|⟨e,he,rfl⟩
  ·exact .inl hm
  ·exact .inr (.inl ⟨f,hf,rfl⟩)
  exact .inr (.inr ⟨e,he,rfl⟩)
 induction h with
 | here s=>exact⟨fun _ => .nil,fun h=>by omega⟩
 | @eps s' t' u w hm _ ih =>
  obtain⟨i1,i2⟩:=ih ht;rcases hmem _ hm with hm|⟨f,hf,e⟩|⟨e,he,e'⟩
  ·have h1:=hpm _ hm;simp only at h1;refine⟨fun h=>by omega,fun _ => ?_⟩;obtain⟨x,y,rfl,⟨e,he,h2⟩,h3⟩:=i2 (by omega);exact⟨x,y,rfl,⟨e,he,.eps hm h2⟩,h3⟩
  ·simp only[Prod.mk.injEq] at e;obtain⟨rfl,-,rfl⟩:=e;have h1:=hpf _ hf;refine⟨fun _ => ?_,fun h=>by omega⟩;obtain⟨x,y,rfl,⟨e,he,h2⟩,h3⟩:=i2 (by omega);exact .cons ⟨_,hf,e,he,h2⟩ h3
  simp only[Prod.mk.injEq] at e';obtain⟨rfl,-,rfl⟩:=e';have h1:=hpe _ he;exact⟨fun h=>by omega,fun _=>⟨[],w,rfl,⟨_,he,.here _⟩,i1 rfl⟩⟩
 | @step s' t' u c w hm _ ih =>
  obtain⟨i1,i2⟩:=ih ht;rcases hmem _ hm with hm|⟨f,hf,e⟩|⟨e,he,e'⟩
  ·have h1:=hpm _ hm;simp only at h1;refine⟨fun h=>by omega,fun _ => ?_⟩;obtain⟨x,y,rfl,⟨e,he,h2⟩,h3⟩:=i2 (by omega);exact⟨c::x,y,rfl,⟨e,he,.step hm h2⟩,h3⟩
  ·simp only[Prod.mk.injEq] at e;omega
  simp only[Prod.mk.injEq] at e';omega
theorem Zif {p:NfaD} {a:Nat} (ha:p.states=(a:Int)) (hpm:mvIn a p.moves) (hpf:inN a p.firsts) (hpe:inN a p.ends) (x:List Nat):accP (Zbj p) x↔StarL (accP p) x:=by
 constructor
 ·rintro⟨f,hf,e,he,h⟩;simp only[Zbj,List.mem_singleton] at hf he;subst hf he;exact(h.starred ha hpm hpf hpe rfl).1 rfl
 rintro⟨ws,rfl,hw⟩;refine⟨p.states,by simp[Zbj],p.states,by simp[Zbj],?_⟩
 induction ws with
 | nil=>exact .here _
 | cons u ws ih =>
  rw[List.flatten_cons];refine Pth.append ?_ (ih fun x hx=>hw x (List.mem_cons_of_mem _ hx));obtain⟨f,hf,e,he,h⟩:=hw u (by simp);have h1:Pth (Zbj p).moves f u e:=h.mono fun m hm=>by simp[Zbj,hm]
  have h2:Pth (Zbj p).moves p.states [] f:=.eps (by simp[Zbj,hf]) (.here _);have h3:Pth (Zbj p).moves e [] p.states:=.eps (by simp only[Zbj,List.mem_append,List.mem_map];exact .inr ⟨e,he,rfl⟩) (.here _);have h4:=(h2.append h1).append h3
  rwa [List.nil_append,List.append_nil] at h4
theorem ZiB {p q:NfaD} {a b:Nat} (ha:p.states=(a:Int)) (hpm:mvIn a p.moves) (hqm:mvIn b q.moves) (hpf:inN a p.firsts) (hpe:inN a p.ends) (hqf:inN b q.firsts) (hqe:inN b q.ends) (x:List Nat):accP (ZbL p q) x↔∃ u v,x=u++v∧accP p u∧accP q v:=by
 constructor
 ·rintro⟨f,hf,e,he,hw⟩;obtain⟨y,hy,rfl⟩:=List.mem_map.1 (show e∈q.ends.map (·+p.states) from he);have h1:=hpf f hf;have h2:=hqe y hy;obtain⟨k,hk,g,hg,z,hz,h3,h4⟩:=(hw.cross ha hpm hqm hpe hqf (by omega)).1 (by omega);rw[show y+p.states-p.states=y by omega] at h4;exact⟨x.take k,x.drop k,(List.take_append_drop k x).symm,⟨f,hf,g,hg,h3⟩,⟨z,hz,y,hy,h4⟩⟩
 rintro⟨u,v,rfl,⟨f,hf,e,he,h3⟩,⟨g,hg,d,hd,h4⟩⟩;refine⟨f,hf,d+p.states,List.mem_map.2 ⟨d,hd,rfl⟩,?_⟩;have h5:Pth (ZbL p q).moves f u e:=h3.mono fun m hm=>by simp only[ZbL,List.mem_append];exact .inl (.inl hm)
 have h6:Pth (ZbL p q).moves (g+p.states) v (d+p.states):=(h4.up p.states).mono fun m hm=>by simp only[ZbL,List.mem_append];exact .inl (.inr hm)
 have h7:Pth (ZbL p q).moves e [] (g+p.states):=.eps (by simp only[ZbL,List.mem_append,List.mem_flatMap,List.mem_map];exact .inr ⟨e,he,g+p.states,List.mem_map.2 ⟨g,hg,rfl⟩,rfl⟩) (.here _);have h8:=(h5.append h7).append h6
 rwa [List.append_nil] at h8
theorem ZcM {d:DfaD} (hd:Zak d.next d.ends=true) {w:List Nat} (hw:isW w):accP (Za1 d) w↔accD d w=true:=by rw[← Zl2 hd hw,ZbK (Zd1 hd)];rfl
theorem Zdl {d:DfaD} (hd:Zak d.next d.ends=true):inN d.next.length (Za1 d).firsts:=fun s hs=>by have hl:=Zaj hd;have hs:s∈[(0:Int)]:=hs;simp only[List.mem_singleton] at hs;omega
theorem ZeC (d:DfaD):inN d.next.length (Za1 d).ends:=fun s hs=>Zgn d _ s hs
theorem Zdx {u v:List Nat} (h:isW (u++v)):isW u:=fun c hc=>h c (by simp[hc])
theorem ZcO {u v:List Nat} (h:isW (u++v)):isW v:=fun c hc=>h c (by simp[hc])
theorem Zj8 {ws:List (List Nat)} (h:isW ws.flatten):∀ u∈ws,isW u:=fun u hu c hc=>h c (List.mem_flatten.2 ⟨u,hu,hc⟩)
theorem StarL.congr {L M:List Nat→Prop} (h:∀ u,isW u→(L u↔M u)) {w:List Nat} (hw:isW w):StarL L w↔StarL M w:=by
 constructor
 ·rintro⟨ws,rfl,hs⟩;exact⟨ws,rfl,fun u hu=>(h u (Zj8 hw u hu)).1 (hs u hu)⟩
 rintro⟨ws,rfl,hs⟩;exact⟨ws,rfl,fun u hu=>(h u (Zj8 hw u hu)).2 (hs u hu)⟩
theorem ZbV {d:DfaD} (hd:Zak d.next d.ends=true) {w:List Nat} (hw:isW w):accD (ZaK d) w=accD d w:=by rw[Zcj (ZaP hd)];exact Zl9 (ZaP hd) hw
theorem Zj1 {K:Nat} {f:Bool→Bool→Bool} {a b d:DfaD} (h:ZbW K f a b=some d) {w:List Nat} (hw:isW w):accD d w=f (accD a w) (accD b w):=by
 unfold ZbW at h
 split at h
 ·rename_i h2;simp only[Option.some.injEq] at h;subst h;unfold metP at h2 ⊢;rw[Zeq h2 hw]
  have key:∀ (w:List Nat) (p:Int × Int),w.foldl (ZcD a b) p=(runD a p.1 w,runD b p.2 w):=fun w=>by
   induction w with
   | nil=>intro p;rfl
   | cons c w ih =>intro p;rw[List.foldl_cons,ih];rfl
  rw[key];rfl
 cases h
theorem Znt (w:List Nat) (hw:isW w):accD ZfX w=false:=by
 have key:∀ w,isW w→runD ZfX 0 w=0:=fun w=>by
  induction w with
  | nil=>intro _;rfl
  | cons c w ih =>
   intro h;obtain⟨h1,h2⟩:=Zb5 h;rw[ZaR]
   have:dnx ZfX 0 c=0:=by
    have:c=0∨c=1∨c=2:=by omega
    rcases this with rfl|rfl|rfl<;>rfl
   rw[this];exact ih h2
 unfold accD;rw[key w hw];rfl
theorem Zox (w:List Nat) (hw:isW w):accD oneD w=true↔w=[]:=by
 have key:∀ w,isW w→runD oneD 1 w=1:=fun w=>by
  induction w with
  | nil=>intro _;rfl
  | cons c w ih =>
   intro h;obtain⟨h1,h2⟩:=Zb5 h;rw[ZaR]
   have:dnx oneD 1 c=1:=by
    have:c=0∨c=1∨c=2:=by omega
    rcases this with rfl|rfl|rfl<;>rfl
   rw[this];exact ih h2
 cases w with
 | nil=>exact⟨fun _=>rfl,fun _=>rfl⟩
 | cons c w =>
  obtain⟨h1,h2⟩:=Zb5 hw
  have e:dnx oneD 0 c=1:=by
   have:c=0∨c=1∨c=2:=by omega
   rcases this with rfl|rfl|rfl<;>rfl
  have:accD oneD (c::w)=false:=by unfold accD;rw[ZaR,e,key w h2];rfl
  rw[this];simp
theorem ZoF (a:Fin 3) (w:List Nat) (hw:isW w):accD (ltrD a) w=true↔w=[a.val]:=by
 have ha:a=0∨a=1∨a=2:=by omega
 have k2:∀ w,isW w→runD (ltrD a) 2 w=2:=fun w=>by
  induction w with
  | nil=>intro _;rfl
  | cons c w ih =>
   intro h;obtain⟨h1,h2⟩:=Zb5 h;rw[ZaR]
   have:dnx (ltrD a) 2 c=2:=by
    have:c=0∨c=1∨c=2:=by omega
    rcases this with rfl|rfl|rfl<;>rcases ha with rfl|rfl|rfl<;>rfl
   rw[this];exact ih h2
 have e2:den (ltrD a) 2=false:=by rcases ha with rfl|rfl|rfl<;>rfl
 have e1:den (ltrD a) 1=true:=by rcases ha with rfl|rfl|rfl<;>rfl
 have e0:den (ltrD a) 0=false:=by rcases ha with rfl|rfl|rfl<;>rfl
 cases w with
 | nil =>have:accD (ltrD a) []=false:=e0;rw[this];simp
 | cons c w =>
  obtain⟨h1,h2⟩:=Zb5 hw
  have e:dnx (ltrD a) 0 c=if c=a.val then 1 else 2:=by
   have:c=0∨c=1∨c=2:=by omega
   rcases this with rfl|rfl|rfl<;>rcases ha with rfl|rfl|rfl<;>rfl
  have hr:accD (ltrD a) (c::w)=den (ltrD a) (runD (ltrD a) (if c=a.val then 1 else 2) w):=by unfold accD;rw[ZaR,e]
  rw[hr];by_cases hc:c=a.val
  ·rw[if_pos hc];cases w with
   | nil =>rw[hc];exact⟨fun _=>rfl,fun _=>e1⟩
   | cons b w =>
    obtain⟨h3,h4⟩:=Zb5 h2
    have e3:dnx (ltrD a) 1 b=2:=by
     have:b=0∨b=1∨b=2:=by omega
     rcases this with rfl|rfl|rfl<;>rcases ha with rfl|rfl|rfl<;>rfl
    rw[ZaR,e3,k2 w h4,e2];simp
  rw[if_neg hc,k2 w h2,e2];simp[hc]
theorem ZmG {K:Nat} (hK:K=40):∀ (t:Ex) {d:DfaD},ZaE K t=some d→∀ w,isW w→(accD d w=true↔memE t w):=by
 intro t
 induction t with
 | zero =>intro d h w hw;simp only[ZaE,Option.some.injEq] at h;rw[← h,ZbV Zfm hw,Znt w hw];simp[memE]
 | one =>intro d h w hw;simp only[ZaE,Option.some.injEq] at h;rw[← h,ZbV ZhC hw,Zox w hw];rfl
 | ltr c =>intro d h w hw;simp only[ZaE,Option.some.injEq] at h;rw[← h,ZbV (ZeE c) hw,ZoF c w hw];rfl
 | join a b iha ihb =>
  intro d h w hw;simp only[ZaE,Option.bind_eq_some_iff,Option.map_eq_some_iff] at h;obtain⟨x,hx,y,hy,z,hz,rfl⟩:=h;have hxo:=Zcz hK a hx;have hyo:=Zcz hK b hy;have hxl:=Zaj hxo;have hyl:=Zaj hyo;rw[ZbV (Zdo hK hz) hw];have h1:mvIn 81 (ZdF x y).moves:=Zg1 (ZjN hxo hyo) (by omega);have h2:inN 81 (ZdF x y).firsts:=fun s hs=>by have:=ZeQ (b:=y) hxo s hs;omega
  have h3:inN 81 (ZdF x y).ends:=fun s hs=>by have:=ZgP s hs;omega
  rw[Zkj h1 h2 h3 hz hw,← Zga,
   ZiB (a:=x.next.length) (b:=y.next.length) rfl (Zf0 hxo _ (Nat.le_refl _)) (Zf0 hyo _ (Nat.le_refl _)) (Zdl hxo) (ZeC x) (Zdl hyo) (ZeC y)]
  constructor
  ·rintro⟨u,v,rfl,p,q⟩;exact⟨u,v,rfl,(iha hx u (Zdx hw)).1 ((ZcM hxo (Zdx hw)).1 p),(ihb hy v (ZcO hw)).1 ((ZcM hyo (ZcO hw)).1 q)⟩
  rintro⟨u,v,rfl,p,q⟩;exact⟨u,v,rfl,(ZcM hxo (Zdx hw)).2 ((iha hx u (Zdx hw)).2 p),(ZcM hyo (ZcO hw)).2 ((ihb hy v (ZcO hw)).2 q)⟩
 | alt a b iha ihb =>intro d h w hw;simp only[ZaE,Option.bind_eq_some_iff,Option.map_eq_some_iff] at h;obtain⟨x,hx,y,hy,z,hz,rfl⟩:=h;rw[ZbV (ZbS hK hz) hw,Zj1 hz hw,Bool.or_eq_true,iha hx w hw,ihb hy w hw];rfl
 | both a b iha ihb =>intro d h w hw;simp only[ZaE,Option.bind_eq_some_iff,Option.map_eq_some_iff] at h;obtain⟨x,hx,y,hy,z,hz,rfl⟩:=h;rw[ZbV (ZbS hK hz) hw,Zj1 hz hw,Bool.and_eq_true,iha hx w hw,ihb hy w hw];rfl
 | neg a iha =>intro d h w hw;simp only[ZaE,Option.map_eq_some_iff] at h;obtain⟨x,hx,rfl⟩:=h;have hxo:=Zcz hK a hx;rw[ZbV (ZhF hxo) hw,Zl3,ZoO hxo hw];show _↔¬ memE a w;rw[← iha hx w hw];cases accD x w<;>simp[xb]
 | star a iha =>
  intro d h w hw;simp only[ZaE,Option.bind_eq_some_iff,Option.map_eq_some_iff] at h;obtain⟨x,hx,z,hz,rfl⟩:=h;have hxo:=Zcz hK a hx;have hxl:=Zaj hxo;rw[ZbV (Zdo hK hz) hw];have h1:mvIn 81 (Zer x).moves:=Zg1 (ZjM hxo) (by omega);have h2:inN 81 (Zer x).firsts:=fun s hs=>by have:=Zdu (a:=x) s hs;omega
  have h3:inN 81 (Zer x).ends:=fun s hs=>by have:=Zdu (a:=x) s hs;omega
  rw[Zkj h1 h2 h3 hz hw,← Zfz,
   Zif (a:=x.next.length) rfl (Zf0 hxo _ (Nat.le_refl _)) (Zdl hxo) (ZeC x)]
  exact StarL.congr (fun u hu=>by rw[ZcM hxo hu,iha hx u hu]) hw
end Go.Proofs.YtfikabecgaappaaGreat
