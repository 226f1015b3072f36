/-
  Plain: letters that begin, end and follow, and what ways through them spell.
  Condition: the expression has neither both nor not.
-/
import Derived.Test.YtfanhfcamblghaaPq08Hem
set_option maxHeartbeats 4000000
set_option maxRecDepth 100000
namespace Go.Proofs.Ytfanhfcamblghaa
open Go.RowKit
def Zar (xs ys:List Nat):List (Nat × Nat):=xs.flatMap fun x=>ys.map fun y=>(x,y)
theorem ZaK {xs ys:List Nat} {x y:Nat}:(x,y)∈Zar xs ys↔x∈xs∧y∈ys:=by simp[Zar]
def edP (f:Bool):Ex→Nat→List Nat
 | .ltr _,n=>[n]
 | .star a,n=>edP f a n
 | .alt a b,n=>edP f a n++edP f b (n+a.post.length)
 | .join a b,n=>if f=true then(if hasE a=true then edP f a n++edP f b (n+a.post.length) else edP f a n) else(if hasE b=true then edP f a n++edP f b (n+a.post.length) else edP f b (n+a.post.length))
 | _,_=>[]
def flP:Ex→Nat→List (Nat × Nat)
 | .join a b,n=>flP a n++flP b (n+a.post.length)++Zar (edP false a n) (edP true b (n+a.post.length))
 | .star a,n=>flP a n++Zar (edP false a n) (edP true a n)
 | .alt a b,n=>flP a n++flP b (n+a.post.length)
 | _,_=>[]
def plnE:Ex→Prop
 | .join a b=>plnE a∧plnE b
 | .alt a b=>plnE a∧plnE b
 | .star a=>plnE a
 | .both _ _=>False
 | .neg _=>False
 | _=>True
def mtc (L:Nat→Nat):Ex→Nat→Prop
 | .ltr c,n=>L n=c.val
 | .join a b,n=>mtc L a n∧mtc L b (n+a.post.length)
 | .alt a b,n=>mtc L a n∧mtc L b (n+a.post.length)
 | .star a,n=>mtc L a n
 | _,_=>True
theorem Zbq (a b:Ex) (p:Int × Int):(a.post++b.post++[p]).length=a.post.length+b.post.length+1:=by simp;omega
theorem ZaZ (f:Bool):∀ (t:Ex) (n p:Nat),p∈edP f t n→n≤p∧p<n+t.post.length:=by
 intro t
 induction t with
 | zero=>intro n p h;cases h
 | one=>intro n p h;cases h
 | ltr c =>
  intro n p h;obtain rfl:p=n:=by simpa [edP] using h
  exact⟨Nat.le_refl _,Nat.lt_succ_self _⟩
 | join a b ha hb =>
  intro n p h;have hl:(Ex.join a b).post.length=a.post.length+b.post.length+1:=Zbq a b _;rw[hl]
  have key:p∈edP f a n∨p∈edP f b (n+a.post.length):=by
   unfold edP at h
   split at h
   ·split at h
    ·exact List.mem_append.1 h
    exact .inl h
   split at h
   ·exact List.mem_append.1 h
   exact .inr h
  rcases key with h|h
  ·have:=ha n p h;omega
  have:=hb _ p h;omega
 | alt a b ha hb =>
  intro n p h;have hl:(Ex.alt a b).post.length=a.post.length+b.post.length+1:=Zbq a b _;rw[hl];rcases List.mem_append.1 (show p∈edP f a n++edP f b (n+a.post.length) from h) with h|h
  ·have:=ha n p h;omega
  have:=hb _ p h;omega
 | both a b ha hb=>intro n p h;cases h
 | neg a ha=>intro n p h;cases h
 | star a ha =>
  intro n p h;have:=ha n p h;have hl:(Ex.star a).post.length=a.post.length+1:=by simp[Ex.post]
  omega
theorem Zhr:∀ (t:Ex) (n p q:Nat),(p,q)∈flP t n→(n≤p∧p<n+t.post.length)∧(n≤q∧q<n+t.post.length):=by
 intro t
 induction t with
 | zero=>intro n p q h;cases h
 | one=>intro n p q h;cases h
 | ltr c=>intro n p q h;cases h
 | join a b ha hb =>
  intro n p q h;have hl:(Ex.join a b).post.length=a.post.length+b.post.length+1:=Zbq a b _;rw[hl];rcases List.mem_append.1 (show(p,q)∈flP a n++flP b (n+a.post.length)++Zar (edP false a n) (edP true b (n+a.post.length)) from h) with h|h
  ·rcases List.mem_append.1 h with h|h
   ·have:=ha n p q h;omega
   have:=hb _ p q h;omega
  obtain⟨h1,h2⟩:=ZaK.1 h;have:=ZaZ _ _ _ _ h1;have:=ZaZ _ _ _ _ h2;omega
 | alt a b ha hb =>
  intro n p q h;have hl:(Ex.alt a b).post.length=a.post.length+b.post.length+1:=Zbq a b _;rw[hl];rcases List.mem_append.1 (show(p,q)∈flP a n++flP b (n+a.post.length) from h) with h|h
  ·have:=ha n p q h;omega
  have:=hb _ p q h;omega
 | both a b ha hb=>intro n p q h;cases h
 | neg a ha=>intro n p q h;cases h
 | star a ha =>
  intro n p q h;have hl:(Ex.star a).post.length=a.post.length+1:=by simp[Ex.post]
  rw[hl];rcases List.mem_append.1 (show(p,q)∈flP a n++Zar (edP false a n) (edP true a n) from h) with h|h
  ·have:=ha n p q h;omega
  obtain⟨h1,h2⟩:=ZaK.1 h;have:=ZaZ _ _ _ _ h1;have:=ZaZ _ _ _ _ h2;omega
def chn (F:List (Nat × Nat)):List Nat→Prop
 | []=>True
 | [_]=>True
 | p::q::r=>(p,q)∈F∧chn F (q::r)
theorem Zb1 {F G:List (Nat × Nat)} (h:∀ x∈F,x∈G):∀ ps,chn F ps→chn G ps
 | [],_=>trivial
 | [_],_=>trivial
 | _::q::r,hc=>⟨h _ hc.1,Zb1 h (q::r) hc.2⟩
theorem Zif {F:List (Nat × Nat)}:∀ (xs ys:List Nat),chn F xs→chn F ys→(∀ x y,xs.getLast? = some x→ys.head? = some y→(x,y)∈F)→chn F (xs++ys)
 | [],_,_,hy,_=>hy
 | [x],[],_,_,_=>trivial
 | [x],y::ys,_,hy,h=>⟨h x y rfl rfl,hy⟩
 | x::x2::xs,ys,hx,hy,h=>⟨hx.1,Zif (x2::xs) ys hx.2 hy fun a b ha hb=>h a b (by rw[List.getLast?_cons_cons];exact ha) hb⟩
def wayP (t:Ex) (n:Nat) (ps:List Nat):Prop:=(∃ p,ps.head? = some p∧p∈edP true t n)∧(∃ q,ps.getLast? = some q∧q∈edP false t n)∧chn (flP t n) ps
theorem ZeJ {xs ys:List Nat} (h:ys≠[]):(xs++ys).getLast? = ys.getLast?:=by
 rw[List.getLast?_append];cases h2:ys.getLast? with
 | none=>exact absurd (List.getLast?_eq_none_iff.1 h2) h
 | some y=>rfl
theorem ZeL {xs ys:List Nat} (h:xs≠[]):(xs++ys).head? = xs.head?:=by
 cases xs with
 | nil=>exact absurd rfl h
 | cons x xs=>rfl
theorem ZdH {xs:List Nat} {x:Nat} (h:xs.getLast? = some x):x∈xs:=List.mem_of_getLast? h
theorem ZeK {xs:List Nat} {x:Nat} (h:xs.head? = some x):x∈xs:=List.mem_of_head? h
theorem ZjE {t:Ex} {n:Nat} {ps:List Nat} (h:wayP t n ps):ps≠[]:=by rintro rfl;obtain⟨⟨p,h1,-⟩,-⟩:=h;cases h1
theorem ZfI {F A B C:List (Nat × Nat)} {m:Nat} (hF:∀ x,x∈F→x∈A∨x∈B∨x∈C) (hA:∀ p q,(p,q)∈A→p<m∧q<m) (hB:∀ p q,(p,q)∈B→m≤p∧m≤q) (hC:∀ p q,(p,q)∈C→p<m∧m≤q):∀ ps,chn F ps→∃ xs ys,ps=xs++ys∧(∀ x∈xs,x<m)∧(∀ y∈ys,m≤y)∧chn A xs∧chn B ys∧(∀ x y,xs.getLast? = some x→ys.head? = some y→(x,y)∈C)
 | [],_=>⟨[],[],rfl,(fun x h=>by cases h),(fun x h=>by cases h),trivial,trivial,(fun x y h=>by cases h)⟩
 | [p],_=>by
  by_cases hp:p<m
  ·exact⟨[p],[],rfl,(fun x h=>by rw[List.mem_singleton.1 h];exact hp),(fun x h=>by cases h),trivial,trivial,(fun x y _ h=>by cases h)⟩
  exact⟨[],[p],rfl,(fun x h=>by cases h),(fun x h=>by rw[List.mem_singleton.1 h];omega),trivial,trivial,(fun x y h=>by cases h)⟩
 | p::q::r,hc=>by
  obtain⟨xs,ys,e,h1,h2,h3,h4,h5⟩:=ZfI hF hA hB hC (q::r) hc.2;cases xs with
  | nil =>
   have e:q::r=ys:=e;subst e;have hq:=h2 q (List.mem_cons_self ..);rcases hF _ hc.1 with h|h|h
   ·have:=hA _ _ h;omega
   ·refine⟨[],p::q::r,rfl,(fun x h=>by cases h),(fun y hy => ?_),trivial,⟨h,h4⟩,(fun x y h=>by cases h)⟩;rcases List.mem_cons.1 hy with rfl|hy
    ·exact(hB _ _ h).1
    exact h2 y hy
   refine⟨[p],q::r,rfl,(fun x hx=>by rw[List.mem_singleton.1 hx];exact(hC _ _ h).1),h2,trivial,h4,(fun x y hx hy => ?_)⟩;cases hx;cases hy;exact h
  | cons x xs =>
   obtain⟨rfl,rfl⟩:=List.cons.inj (show q::r=x::(xs++ys) from e);have hq:=h1 q (List.mem_cons_self ..)
   have hpq:(p,q)∈A:=by
    rcases hF _ hc.1 with h|h|h
    ·exact h
    ·have:=hB _ _ h;omega
    have:=hC _ _ h;omega
   refine⟨p::q::xs,ys,rfl,(fun x hx => ?_),h2,⟨hpq,h3⟩,h4,(fun x y hx hy=>h5 x y (by rw[List.getLast?_cons_cons] at hx;exact hx) hy)⟩;rcases List.mem_cons.1 hx with rfl|hx
   ·exact(hA _ _ hpq).1
   exact h1 x hx
theorem ZiT {F A:List (Nat × Nat)} {la fi:List Nat} (hF:∀ x y,(x,y)∈F→(x,y)∈A∨(x∈la∧y∈fi)):∀ ps,ps≠[]→chn F ps→∃ xs ys,ps=xs++ys∧xs≠[]∧chn A xs∧chn F ys∧(ys=[]∨((∃ x,xs.getLast? = some x∧x∈la)∧∃ y,ys.head? = some y∧y∈fi))
 | [],h,_=>absurd rfl h
 | [p],_,_=>⟨[p],[],rfl,(by simp),trivial,trivial,.inl rfl⟩
 | p::q::r,_,hc=>by
  rcases hF _ _ hc.1 with h|⟨h1,h2⟩
  ·obtain⟨xs,ys,e,g1,g2,g3,g4⟩:=ZiT hF (q::r) (by simp) hc.2;cases xs with
   | nil=>exact absurd rfl g1
   | cons x xs =>
    obtain⟨rfl,rfl⟩:=List.cons.inj (show q::r=x::(xs++ys) from e);refine⟨p::q::xs,ys,rfl,by simp,⟨h,g2⟩,g3,?_⟩;rcases g4 with g4|⟨⟨x,g5,g6⟩,g7⟩
    ·exact .inl g4
    exact .inr ⟨⟨x,by rw[List.getLast?_cons_cons];exact g5,g6⟩,g7⟩
  exact⟨[p],q::r,rfl,by simp,trivial,hc.2,.inr ⟨⟨p,rfl,h1⟩,q,rfl,h2⟩⟩
theorem Ziz {L:Nat→Nat} {ps:List Nat} (h:ps≠[]):ps.map L≠[]:=fun h2=>h (List.map_eq_nil_iff.1 h2)
theorem Zl3 (L:Nat→Nat):∀ (t:Ex) (n:Nat),plnE t→mtc L t n→∀ w,w≠[]→(memE t w↔∃ ps,ps.map L=w∧wayP t n ps):=by
 intro t
 induction t with
 | zero =>intro n _ _ w _;refine⟨fun h=>h.elim,?_⟩;rintro⟨ps,-,⟨p,-,h⟩,-⟩;cases h
 | one =>intro n _ _ w hw;refine⟨fun h=>absurd h hw,?_⟩;rintro⟨ps,-,⟨p,-,h⟩,-⟩;cases h
 | ltr c =>
  intro n _ hm w hw;have hm:L n=c.val:=hm;constructor
  ·intro h;have h:w=[c.val]:=h;exact⟨[n],by rw[h];simp[hm],⟨n,rfl,List.mem_singleton.2 rfl⟩,⟨n,rfl,List.mem_singleton.2 rfl⟩,trivial⟩
  rintro⟨ps,rfl,⟨p,h1,h2⟩,-,h3⟩;show ps.map L=[c.val]
  match ps,h1,h3 with
  | [x],h1,_ =>
   cases h1;obtain rfl:p=n:=by simpa [edP] using h2
   simp[hm]
  | x::y::r,_,h3=>cases h3.1
 | join a b ha hb =>
  intro n hp hm w hw;obtain⟨ha1,hb1⟩:=hp;obtain⟨ha2,hb2⟩:=hm;have ia:=ha n ha1 ha2;have ib:=hb _ hb1 hb2;have hfl:flP (.join a b) n=flP a n++flP b (n+a.post.length)++Zar (edP false a n) (edP true b (n+a.post.length)):=rfl
  have hf:∀ p,p∈edP true (.join a b) n↔p∈edP true a n∨(hasE a=true∧p∈edP true b (n+a.post.length)):=fun p=>by
   rw[show edP true (.join a b) n=if hasE a=true then edP true a n++edP true b (n+a.post.length) else edP true a n from rfl]
   split
   ·rename_i h;simp[h]
   rename_i h;simp[h]
  have hl:∀ p,p∈edP false (.join a b) n↔p∈edP false b (n+a.post.length)∨(hasE b=true∧p∈edP false a n):=fun p=>by
   rw[show edP false (.join a b) n=if hasE b=true then edP false a n++edP false b (n+a.post.length) else edP false b (n+a.post.length) from rfl]
   split
   ·rename_i h;simp[h,or_comm]
   rename_i h;simp[h]
  rw[ZiE];constructor
  ·rintro⟨u,v,rfl,hu,hv⟩;by_cases hun:u=[]
   ·subst hun;obtain⟨ps,h1,⟨p,h2,h3⟩,⟨q,h4,h5⟩,h6⟩:=(ib v hw).1 hv;exact⟨ps,h1,⟨p,h2,(hf p).2 (.inr ⟨(Zc9 a).2 hu,h3⟩)⟩,⟨q,h4,(hl q).2 (.inl h5)⟩,Zb1 (fun x hx=>by rw[hfl];simp[hx]) ps h6⟩
   obtain⟨ps,h1,⟨p,h2,h3⟩,⟨q,h4,h5⟩,h6⟩:=(ia u hun).1 hu;by_cases hvn:v=[]
   ·subst hvn;exact⟨ps,by rw[h1,List.append_nil],⟨p,h2,(hf p).2 (.inl h3)⟩,⟨q,h4,(hl q).2 (.inr ⟨(Zc9 b).2 hv,h5⟩)⟩,Zb1 (fun x hx=>by rw[hfl];simp[hx]) ps h6⟩
   obtain⟨qs,g1,⟨p2,g2,g3⟩,⟨q2,g4,g5⟩,g6⟩:=(ib v hvn).1 hv;have hps:ps≠[]:=fun h=>by rw[h] at h2;cases h2
   have hqs:qs≠[]:=fun h=>by rw[h] at g2;cases g2
   refine⟨ps++qs,by rw[List.map_append,h1,g1],⟨p,by rw[ZeL hps];exact h2,(hf p).2 (.inl h3)⟩,⟨q2,by rw[ZeJ hqs];exact g4,(hl q2).2 (.inl g5)⟩,Zif ps qs (Zb1 (fun x hx=>by rw[hfl];simp[hx]) ps h6) (Zb1 (fun x hx=>by rw[hfl];simp[hx]) qs g6) fun x y hx hy => ?_⟩;rw[h4] at hx;rw[g2] at hy;cases hx;cases hy;rw[hfl];exact List.mem_append.2 (.inr (ZaK.2 ⟨h5,g3⟩))
  rintro⟨ps,rfl,⟨p,h2,h3⟩,⟨q,h4,h5⟩,h6⟩;rw[hfl] at h6
  obtain⟨xs,ys,rfl,g1,g2,g3,g4,g5⟩:=ZfI (m:=n+a.post.length) (fun x hx=>by
   rcases List.mem_append.1 hx with hx|hx
   ·rcases List.mem_append.1 hx with hx|hx
    ·exact .inl hx
    exact .inr (.inl hx)
   exact .inr (.inr hx)) (fun p q h=>by have:=Zhr _ _ _ _ h;omega) (fun p q h=>by have:=Zhr _ _ _ _ h;omega) (fun p q h=>by
   obtain⟨e1,e2⟩:=ZaK.1 h;have:=ZaZ _ _ _ _ e1;have:=ZaZ _ _ _ _ e2;omega) ps h6
  by_cases hx:xs=[]
  ·subst hx;rw[List.nil_append] at h2 h4 hw ⊢;have hpm:=g2 p (ZeK h2);have hqm:=g2 q (ZdH h4);rcases(hf p).1 h3 with h|⟨hE,hpb⟩
   ·have:=ZaZ _ _ _ _ h;omega
   rcases(hl q).1 h5 with hqb|⟨-,h⟩
   ·exact⟨[],ys.map L,rfl,(Zc9 a).1 hE,(ib _ hw).2 ⟨ys,rfl,⟨p,h2,hpb⟩,⟨q,h4,hqb⟩,g4⟩⟩
   have:=ZaZ _ _ _ _ h;omega
  have h2':xs.head? = some p:=by rw[← ZeL hx];exact h2
  have hpm:=g1 p (ZeK h2')
  have hpa:p∈edP true a n:=by
   rcases(hf p).1 h3 with h|⟨-,h⟩
   ·exact h
   have:=ZaZ _ _ _ _ h;omega
  by_cases hy:ys=[]
  ·subst hy;rw[List.append_nil] at h4 hw ⊢;have hqm:=g1 q (ZdH h4);rcases(hl q).1 h5 with h|⟨hE,hqa⟩
   ·have:=ZaZ _ _ _ _ h;omega
   exact⟨xs.map L,[],by rw[List.append_nil],(ia _ hw).2 ⟨xs,rfl,⟨p,h2',hpa⟩,⟨q,h4,hqa⟩,g3⟩,(Zc9 b).1 hE⟩
  have h4':ys.getLast? = some q:=by rw[← ZeJ (xs:=xs) hy];exact h4
  have hqm:=g2 q (ZdH h4')
  have hqb:q∈edP false b (n+a.post.length):=by
   rcases(hl q).1 h5 with h|⟨-,h⟩
   ·exact h
   have:=ZaZ _ _ _ _ h;omega
  obtain⟨x,hx1⟩:∃ x,xs.getLast? = some x:=by
   cases h:xs.getLast? with
   | none=>exact absurd (List.getLast?_eq_none_iff.1 h) hx
   | some x=>exact⟨x,rfl⟩
  obtain⟨y,hy1⟩:∃ y,ys.head? = some y:=by
   cases ys with
   | nil=>exact absurd rfl hy
   | cons y ys=>exact⟨y,rfl⟩
  obtain⟨e1,e2⟩:=ZaK.1 (g5 x y hx1 hy1);exact⟨xs.map L,ys.map L,List.map_append,(ia _ (Ziz hx)).2 ⟨xs,rfl,⟨p,h2',hpa⟩,⟨x,hx1,e1⟩,g3⟩,(ib _ (Ziz hy)).2 ⟨ys,rfl,⟨y,hy1,e2⟩,⟨q,h4',hqb⟩,g4⟩⟩
 | alt a b ha hb =>
  intro n hp hm w hw;obtain⟨ha1,hb1⟩:=hp;obtain⟨ha2,hb2⟩:=hm;have ia:=ha n ha1 ha2 w hw;have ib:=hb _ hb1 hb2 w hw;have hfl:flP (.alt a b) n=flP a n++flP b (n+a.post.length):=rfl;have he:∀ f p,p∈edP f (.alt a b) n↔p∈edP f a n∨p∈edP f b (n+a.post.length):=fun f p=>List.mem_append
  show memE a w∨memE b w↔_;rw[ia,ib];constructor
  ·rintro(⟨ps,h1,⟨p,h2,h3⟩,⟨q,h4,h5⟩,h6⟩|⟨ps,h1,⟨p,h2,h3⟩,⟨q,h4,h5⟩,h6⟩)
   ·exact⟨ps,h1,⟨p,h2,(he _ _).2 (.inl h3)⟩,⟨q,h4,(he _ _).2 (.inl h5)⟩,Zb1 (fun x hx=>by rw[hfl];simp[hx]) ps h6⟩
   exact⟨ps,h1,⟨p,h2,(he _ _).2 (.inr h3)⟩,⟨q,h4,(he _ _).2 (.inr h5)⟩,Zb1 (fun x hx=>by rw[hfl];simp[hx]) ps h6⟩
  rintro⟨ps,h1,⟨p,h2,h3⟩,⟨q,h4,h5⟩,h6⟩;rw[hfl] at h6;obtain⟨xs,ys,rfl,g1,g2,g3,g4,g5⟩:=ZfI (C:=[]) (m:=n+a.post.length) (fun x hx=>(List.mem_append.1 hx).elim .inl fun h => .inr (.inl h)) (fun p q h=>by have:=Zhr _ _ _ _ h;omega) (fun p q h=>by have:=Zhr _ _ _ _ h;omega) (fun p q h=>by cases h) ps h6;by_cases hx:xs=[]
  ·subst hx;rw[List.nil_append] at h1 h2 h4;have hpm:=g2 p (ZeK h2);have hqm:=g2 q (ZdH h4);refine .inr ⟨ys,h1,⟨p,h2,?_⟩,⟨q,h4,?_⟩,g4⟩
   ·rcases(he _ _).1 h3 with h|h
    ·have:=ZaZ _ _ _ _ h;omega
    exact h
   rcases(he _ _).1 h5 with h|h
   ·have:=ZaZ _ _ _ _ h;omega
   exact h
  by_cases hy:ys=[]
  ·subst hy;rw[List.append_nil] at h1 h2 h4;have hpm:=g1 p (ZeK h2);have hqm:=g1 q (ZdH h4);refine .inl ⟨xs,h1,⟨p,h2,?_⟩,⟨q,h4,?_⟩,g3⟩
   ·rcases(he _ _).1 h3 with h|h
    ·exact h
    have:=ZaZ _ _ _ _ h;omega
   rcases(he _ _).1 h5 with h|h
   ·exact h
   have:=ZaZ _ _ _ _ h;omega
  obtain⟨x,hx1⟩:∃ x,xs.getLast? = some x:=by
   cases h:xs.getLast? with
   | none=>exact absurd (List.getLast?_eq_none_iff.1 h) hx
   | some x=>exact⟨x,rfl⟩
  obtain⟨y,hy1⟩:∃ y,ys.head? = some y:=by
   cases ys with
   | nil=>exact absurd rfl hy
   | cons y ys=>exact⟨y,rfl⟩
  cases g5 x y hx1 hy1
 | both a b ha hb=>intro n hp;exact hp.elim
 | neg a ha=>intro n hp;exact hp.elim
 | star a ha =>
  intro n hp hm w hw;have ia:=ha n hp hm;have hfl:flP (.star a) n=flP a n++Zar (edP false a n) (edP true a n):=rfl;have he:∀ f,edP f (.star a) n=edP f a n:=fun f=>rfl
  show StarL (memE a) w↔_;constructor
  ·rintro⟨ws,rfl,hws⟩
   induction ws with
   | nil=>exact absurd rfl hw
   | cons u ws ih =>
    rw[List.flatten_cons] at hw ⊢;have hu:=hws u (List.mem_cons_self ..);have hws2:=fun x hx=>hws x (List.mem_cons_of_mem _ hx)
    by_cases hun:u=[]
    ·subst hun;rw[List.nil_append] at hw ⊢;exact ih hws2 hw
    obtain⟨ps,h1,⟨p,h2,h3⟩,⟨q,h4,h5⟩,h6⟩:=(ia u hun).1 hu;have h6':=Zb1 (G:=flP (.star a) n) (fun x hx=>by rw[hfl];simp[hx]) ps h6;by_cases hvn:ws.flatten=[]
    ·exact⟨ps,by rw[h1,hvn,List.append_nil],⟨p,h2,h3⟩,⟨q,h4,h5⟩,h6'⟩
    obtain⟨qs,g1,⟨p2,g2,g3⟩,⟨q2,g4,g5⟩,g6⟩:=ih hws2 hvn;have hps:ps≠[]:=fun h=>by rw[h] at h2;cases h2
    have hqs:qs≠[]:=fun h=>by rw[h] at g2;cases g2
    refine⟨ps++qs,by rw[List.map_append,h1,g1],⟨p,by rw[ZeL hps];exact h2,h3⟩,⟨q2,by rw[ZeJ hqs];exact g4,g5⟩,Zif ps qs h6' g6 fun x y hx hy => ?_⟩;rw[h4] at hx;rw[g2] at hy;cases hx;cases hy;rw[hfl];exact List.mem_append.2 (.inr (ZaK.2 ⟨h5,g3⟩))
  rintro⟨ps,rfl,h⟩
  have key:∀ (k:Nat) (ps:List Nat),ps.length≤k→wayP (.star a) n ps→StarL (memE a) (ps.map L):=by
   intro k
   induction k with
   | zero =>intro ps hk h;exact absurd (List.eq_nil_of_length_eq_zero (by omega)) (ZjE h)
   | succ k ih =>
    intro ps hk h;have hne:=ZjE h;obtain⟨⟨p,h2,h3⟩,⟨q,h4,h5⟩,h6⟩:=h;obtain⟨xs,ys,rfl,g1,g2,g3,g4⟩:=ZiT (F:=flP (.star a) n) (A:=flP a n) (la:=edP false a n) (fi:=edP true a n) (fun x y hx=>(List.mem_append.1 (show(x,y)∈flP a n++Zar (edP false a n) (edP true a n) from hx)).elim .inl fun h => .inr (ZaK.1 h)) ps hne h6;have h2':xs.head? = some p:=by rw[← ZeL g1];exact h2
    rcases g4 with rfl|⟨⟨x,e1,e2⟩,y,e3,e4⟩
    ·rw[List.append_nil] at h4 ⊢;exact⟨[xs.map L],by simp,fun u hu=>by rw[List.mem_singleton.1 hu];exact(ia _ (Ziz g1)).2 ⟨xs,rfl,⟨p,h2',h3⟩,⟨q,h4,h5⟩,g2⟩⟩
    have hy:ys≠[]:=fun h=>by rw[h] at e3;cases e3
    have hxl:1≤xs.length:=by
     cases xs with
     | nil=>exact absurd rfl g1
     | cons x xs=>simp
    obtain⟨ws,hw1,hw2⟩:=ih ys (by rw[List.length_append] at hk;omega) ⟨⟨y,e3,e4⟩,⟨q,by rw[← ZeJ (xs:=xs) hy];exact h4,h5⟩,g3⟩;refine⟨xs.map L::ws,by rw[List.map_append,List.flatten_cons,hw1],fun u hu => ?_⟩;rcases List.mem_cons.1 hu with rfl|hu
    ·exact(ia _ (Ziz g1)).2 ⟨xs,rfl,⟨p,h2',h3⟩,⟨x,e1,e2⟩,g2⟩
    exact hw2 u hu
  exact key ps.length ps (Nat.le_refl _) h
def zeN:NfaD:=⟨0,[],[],[]⟩
theorem Za1 {w:World} {n:NfaD} {v1 v2 v3:Value} (h1:Moves 0 w v1 n.moves) (h2:Ints 0 w v2 n.firsts) (h3:Ints 0 w v3 n.ends) (hs0:-9223372036854775808≤n.states) (hs1:n.states≤9223372036854775807):NfaR 0 w (.agg #[.int .i64 n.states,v1,v2,v3]) n:=⟨v1,v2,v3,rfl,h1,h2,h3,hs0,hs1⟩
def RNt (n:NfaD) (b:Bool) (w:World) (e:Ending) (w':World):Prop:=∃ a1 c1 a2 c2 a3 c3,e = .returned (.tuple #[.agg #[.int .i64 n.states,.slice a1 n.moves.length c1,.slice a2 n.firsts.length c2,.slice a3 n.ends.length c3],.bool b]) ∧
 St w w' [Ent.row 34 3 (.slice a1 n.moves.length c1) n.moves.length (n.moves.flatMap Zab),Ent.row 3 1 (.slice a2 n.firsts.length c2) n.firsts.length (intCells n.firsts),Ent.row 3 1 (.slice a3 n.ends.length c3) n.ends.length (intCells n.ends)]
theorem ZaJ {w w':World} (h:Below w.heap.size w w'):RNt zeN false w (.returned (.tuple #[.agg #[.int .i64 0,.slice none 0 0,.slice none 0 0,.slice none 0 0],.bool false])) w' :=
 ⟨none,0,none,0,none,0,rfl,(((((St.start w).call h).nilRow 34 3).nilRow 3 1).nilRow 3 1)⟩
theorem Zl2 (n:Nat) (w:World) (hn:n≤100000) :
  Calls Try.prog 151 #[.slice none 0 0,.int .i64 (n:Int)] w fun e w'=>∃ a c,e = .returned (.slice a 0 c)∧St w w' [Ent.row 3 1 (.slice a 0 c) 0 []]:=by
 obtain⟨j0,hj,hy0,hy1,hy2⟩:=info_parts Try.infoInt;have h1:¬ ((n:Int)<0):=by omega
 by_cases h0:n=0
 ·subst h0;have hS0:=(St.start w).nilRow 3 1;have HhS0:=qh hS0;clear hS0
  go_enter Try.func151, Try.ntmps151
  go_wp2;go_ret;exact⟨none,0,rfl,HhS0.out⟩
 have hrz:∀ ty,(Builtin.append_ #[26,3] ty #[.slice none 0 0,.int .i64 (n:Int)]).run Try.prog w =
   .ok (.slice (some ⟨w.heap.size,0,none⟩) n (grownCap w n 0 3)) (w.drew.alloc (.cells (Builtin.zeroCells (Value.int .i64 0).cells n++Builtin.zeroCells (Value.int .i64 0).cells (grownCap w n 0 3 - n)) 3)):=fun ty=>by
  have h:=Lib.run_append_grow_zeros w 26 3 ty 3 j0 (.int .i64 0) .i64 .i64 Try.underlying26 Try.underlying3 hj hy0 none 0 0 [] (run_firstCells_none w.drew j0.size 0 0 0) n (by omega) (by omega) (by omega) (by omega) (by rw[hy2];omega) (by rw[hy2];exact growslice_fits (by omega) (by omega));simpa using h
 have hGn:n≤grownCap w n 0 3:=grownCap_ge w _ _ _;have hG63:grownCap w n 0 3 ≤ maxLen:=grownCap_le_maxLen w n 0 3 (by unfold maxLen;omega);obtain⟨G,hG⟩:=eI (grownCap w n 0 3);obtain⟨cur,hcur⟩:=eI (Builtin.zeroCells (Value.int .i64 0).cells n++Builtin.zeroCells (Value.int .i64 0).cells (G-n));have hcs:cur.size=G*1:=by rw[hcur,Array.size_append,size_zeroCells,size_zeroCells];show n*1+(G-n)*1=G*1;omega
 rw[← hG] at hrz hGn hG63;rw[← hcur] at hrz
 have hown:(w.drew.alloc (.cells cur 3)).ownsRow w.heap.size 3 1 (.slice (some ⟨w.heap.size,0,none⟩) 0 G) 0 [] :=
  ⟨rfl,.inr ⟨w.heap.size,G,cur,rfl,Nat.le_refl _,heap_alloc_new w.drew _,Nat.zero_le _,hG63,hcs,by simp⟩⟩
 have hS0:=(St.start w).made ((Below.refl _ _).drew.alloc (Nat.le_refl _) (.cells cur 3)) hown;have hG63':G≤9223372036854775807:=by unfold maxLen at hG63;omega
 replace hG:=qh hG;have Hhcur:=qh hcur;clear hcur;have Hhcs:=qh hcs;clear hcs;have Hhown:=qh hown;clear hown;have HhS0:=qh hS0;clear hS0
 go_enter Try.func151, Try.ntmps151
 go_wp2_with (at_builtin;refine Lib.wpList_append_run _ rfl _ _ _ _ rfl _ _ rfl rfl _ _ (hrz _) ?_);go_ret;exact⟨_,G,rfl,HhS0.out⟩
theorem Zco (xs ys:List Int) (va vb:Value) (b cap:Nat) (w:World) (hxl:xs.length≤1000) (hyl:ys.length≤1000) (hb:b<w.heap.size) (c0:w.cell? ⟨b,0,none⟩=some va) (c1:w.cell? ⟨b,1,none⟩=some vb) (hx:Ints 0 w va xs) (hy:Ints 0 w vb ys) :
  Calls Try.prog 124 #[.slice (some ⟨b,0,none⟩) 2 cap] w fun e w'=>∃ a c,e = .returned (.slice a (xs.length+ys.length) c)∧St w w' [Ent.row 3 1 (.slice a (xs.length+ys.length) c) (xs.length+ys.length) (intCells (xs++ys))]:=by
 obtain⟨j0,hj,hy0,hy1,hy2⟩:=info_parts Try.infoInt;have HX:=qh hx;have HY:=qh hy;obtain⟨ax,cx,rfl,-,-,-⟩:=hx.form;obtain⟨ay,cy,rfl,-,-,-⟩:=hy.form;obtain⟨L1,hL1⟩:∃ L,L=xs.length:=⟨_,rfl⟩;obtain⟨L2,hL2⟩:∃ L,L=ys.length:=⟨_,rfl⟩;rw[← hL1] at hxl c0 HX;rw[← hL2] at hyl c1 HY;rw[← hL1,← hL2];have C0:=qh c0;have C1:=qh c1;replace hL1:=qh hL1;have HhL2:=qh hL2;clear hL2;clear hx hy
 go_enter Try.func124, Try.ntmps124
 go_wp2
 go_loopw [3,11] (fun n i wr=>∃ k s:Nat,i = .int .i64 k∧n = .int .i64 s∧k≤2∧(k=0→s=0)∧(k=1→s=L1)∧(k=2→s=L1+L2)∧w=wr) (fun _ i _=>2-(intOf i).toNat)
 case atStart=>exact⟨0,0,rfl,rfl,by omega,fun _=>rfl,fun h=>by omega,fun h=>by omega,rfl⟩
 case round =>
  obtain⟨k,s,rfl,rfl,hk,hk0,hk1,hk2,rfl⟩:=hrel;obtain rfl|rfl|rfl:k=0∨k=1∨k=2:=by omega
  ·obtain rfl:=hk0 rfl;clear hk hk0 hk1 hk2;have hw:IntKind.i64.wrap (L1:Int)=(L1:Int):=IntWalk.i64_in _ (by omega);have hng:¬ (L1:Int)<0:=by omega
   go_wp2;go_roundw
   case rel=>exact⟨1,L1,rfl,rfl,by omega,fun h=>by omega,fun _=>rfl,fun h=>by omega,trivial⟩
   case measure=>simp[intOf]
  ·obtain rfl:=hk1 rfl;clear hk hk0 hk1 hk2;have hw:IntKind.i64.wrap ((s:Int)+(L2:Int))=(s:Int)+(L2:Int):=IntWalk.i64_in _ (by omega);have hng:¬ (s:Int)+(L2:Int)<0:=by omega
   go_wp2;go_roundw
   case rel=>exact⟨2,s+L2,rfl,by congr 1,by omega,fun h=>by omega,fun h=>by omega,fun _=>rfl,trivial⟩
   case measure=>simp[intOf]
  obtain rfl:=hk2 rfl;clear hk hk0 hk1 hk2 c0 c1;go_wp2_with fail;refine(Zl2 (L1+L2) _ (by omega)).mono ?_;rintro e w1 ⟨a6,c6,rfl,hS'⟩;have HS1:=qh hS';clear hS';go_wp2
  go_loopw [6,27] (fun vo i wr=>∃ (k N:Nat) (Z:List Int) (a:Option Addr) (c:Nat),i = .int .i64 k∧vo = .slice a N c∧k≤2∧(k=0→N=0∧Z=[])∧(k=1→N=L1∧Z=xs)∧(k=2→N=L1+L2∧Z=xs++ys)∧St w wr [Ent.row 3 1 (.slice a N c) N (intCells Z)]) (fun _ i _=>2-(intOf i).toNat)
  case atStart=>exact⟨0,0,[],a6,c6,rfl,rfl,by omega,fun _=>⟨rfl,rfl⟩,fun h=>by omega,fun h=>by omega,HS1.out⟩
  case round =>
   obtain⟨k,N,Z,a,c,rfl,rfl,hk,hk0,hk1,hk2,hS⟩:=hrel;obtain rfl|rfl|rfl:k=0∨k=1∨k=2:=by omega
   ·obtain⟨rfl,rfl⟩:=hk0 rfl;clear hk hk0 hk1 hk2;have m0:=(bcell hS.bel b 0 hb).trans C0.out;have HS:=qh hS;have HR:=qh (hS.row 0 rfl);have HXw:Hid (Sl 0 wr (.slice ax L1 cx) L1 1 (intCells xs)):=qh (by have:=HX.out.below hS.bel;unfold Ints at this;rwa [← hL1.out] at this);clear hS;go_wp2_with (at_builtin;refine Zay _ rfl _ _ _ rfl _ 3 j0 (.int .i64 0) 1 8 Try.underlying26 hj hy0 hy1 hy2 rfl (by omega) _ 0 _ rfl HR.out _ L1 (intCells xs) rfl HXw.out ZmX (by unfold maxLen;omega) (by omega) HS.out.size ?_;intro a6 c6 w6 hown6 hgrow6 hat6;have HS6:=qh (HS.out.appS 0 rfl hown6 hgrow6 hat6);clear hown6 hgrow6 hat6);go_roundw
    case rel=>exact⟨1,L1,xs,a6,c6,rfl,rfl,by omega,fun h=>by omega,fun _=>⟨rfl,rfl⟩,fun h=>by omega,by have h:St w w6 [Ent.row 3 1 (.slice a6 (0+L1) c6) (0+L1) (intCells xs)]:=HS6.out;rwa [Nat.zero_add] at h⟩
    case measure=>simp[intOf]
   ·obtain⟨rfl,rfl⟩:=hk1 rfl;clear hk hk0 hk1 hk2;have m0:=(bcell hS.bel b 1 hb).trans C1.out;have HS:=qh hS;have HR:=qh (hS.row 0 rfl);have HXw:Hid (Sl 0 wr (.slice ay L2 cy) L2 1 (intCells ys)):=qh (by have:=HY.out.below hS.bel;unfold Ints at this;rwa [← HhL2.out] at this);clear hS;go_wp2_with (at_builtin;refine Zay _ rfl _ _ _ rfl _ 3 j0 (.int .i64 0) 1 8 Try.underlying26 hj hy0 hy1 hy2 rfl (by omega) _ N _ rfl HR.out _ L2 (intCells ys) rfl HXw.out ZmX (by unfold maxLen;omega) (by omega) HS.out.size ?_;intro a6 c6 w6 hown6 hgrow6 hat6;have HS6:=qh (HS.out.appS 0 rfl hown6 hgrow6 hat6);clear hown6 hgrow6 hat6);go_roundw
    case rel=>exact⟨2,N+L2,Z++ys,a6,c6,rfl,rfl,by omega,fun h=>by omega,fun h=>by omega,fun _=>⟨rfl,rfl⟩,by unfold intCells;rw[List.map_append];exact HS6.out⟩
    case measure=>simp[intOf]
   obtain⟨rfl,rfl⟩:=hk2 rfl;have HS:=qh hS;clear hk hk0 hk1 hk2 hS;go_wp2;go_ret;exact⟨a,c,rfl,HS.out⟩
end Go.Proofs.Ytfanhfcamblghaa
namespace Go.Proofs.Ytfanhfcamblghaa
open Go.RowKit
def subV (v u:Nat):Prop:=∀ s,v.testBit s=true→u.testBit s=true
theorem ZeY (v:Nat):subV v v:=fun _ h=>h
theorem ZfZ {a b c:Nat} (h:subV a b) (h':subV b c):subV a c:=fun s hs=>h' s (h s hs)
theorem ZmN {a b:Nat} (h:subV a b) (h':subV b a):a=b:=by apply Nat.eq_of_testBit_eq;intro i;have h1:=h i;have h2:=h' i;cases ha:a.testBit i<;>cases hb:b.testBit i<;>simp_all
theorem Zlu (v s:Nat):subV v (adj v s):=fun t ht=>by rw[ZcA,ht];rfl
theorem Zge (v:Nat) (m:Int × Int × Int):subV v (Zax v m):=by
 unfold Zax
 split
 ·exact Zlu _ _
 exact ZeY _
theorem Zei:∀ (ms:List (Int × Int × Int)) (v:Nat),subV v (ms.foldl Zax v)
 | [],v=>ZeY v
 | m::ms,v=>ZfZ (Zge v m) (Zei ms _)
theorem ZiS (ms:List (Int × Int × Int)) (v:Nat):∀ k,subV v (clIt ms v k)
 | 0=>ZeY v
 | k+1=>ZfZ (ZiS ms v k) (Zei ms _)
def ZcE (ms:List (Int × Int × Int)) (u:Nat):Prop:=∀ m∈ms,m.2.1 = -1→u.testBit m.1.toNat=true→u.testBit m.2.2.toNat=true
theorem Zk9 {ms:List (Int × Int × Int)} {u v:Nat} (hu:ZcE ms u) (h:subV v u) {m:Int × Int × Int} (hm:m∈ms):subV (Zax v m) u:=by
 unfold Zax
 split
 ·rename_i hc;simp only[Bool.and_eq_true,decide_eq_true_eq] at hc;intro s hs;rw[ZcA,Bool.or_eq_true] at hs;rcases hs with hs|hs
  ·exact h s hs
  rw[← of_decide_eq_true hs];exact hu m hm hc.1.1 (h _ hc.1.2)
 exact h
theorem ZhA {ms:List (Int × Int × Int)} {u:Nat} (hu:ZcE ms u):∀ (l:List (Int × Int × Int)) (v:Nat),(∀ m∈l,m∈ms)→subV v u→subV (l.foldl Zax v) u
 | [],_,_,h=>h
 | m::l,v,hl,h=>ZhA hu l _ (fun x hx=>hl x (by simp[hx])) (Zk9 hu h (hl m (by simp)))
theorem Zla {ms:List (Int × Int × Int)} {u v:Nat} (hu:ZcE ms u) (h:subV v u):∀ k,subV (clIt ms v k) u
 | 0=>h
 | k+1=>ZhA hu ms _ (fun _ hx=>hx) (Zla hu h k)
theorem Zny {n:Nat} {ms:List (Int × Int × Int)} (h:mvIn n ms) (v:Nat):Zhy ms (clV n ms v)=clV n ms v:=by
 rcases ZdW h v n with h1|h1
 ·exact h1
 have:=Zk4 n v;omega
theorem ZiJ:∀ {l:List (Int × Int × Int)} {v:Nat},l.foldl Zax v=v→∀ m∈l,Zax v m=v
 | [],_,_,_,hm=>by cases hm
 | m::l,v,h,x,hx=>by
  have h1:Zax v m=v:=ZmN (by have:=Zei l (Zax v m);rw[List.foldl_cons] at h;rw[h] at this;exact this) (Zge v m);rw[List.foldl_cons,h1] at h;rcases List.mem_cons.1 hx with rfl|hx
  ·exact h1
  exact ZiJ h x hx
theorem Zef {n:Nat} {ms:List (Int × Int × Int)} (h:mvIn n ms) (v:Nat):ZcE ms (clV n ms v):=by
 intro m hm hl hf;have h1:=ZiJ (Zny h v) m hm;cases ht:(clV n ms v).testBit m.2.2.toNat with
 | true=>rfl
 | false =>exfalso;unfold Zax at h1;rw[if_pos (by simp[hl,hf,ht])] at h1;have:=ZcA (clV n ms v) m.2.2.toNat m.2.2.toNat;rw[h1,ht] at this;simp at this
theorem Zk6 (n:Nat) (ms:List (Int × Int × Int)) (v:Nat):subV v (clV n ms v):=ZiS ms v n
theorem ZnZ {n:Nat} {ms:List (Int × Int × Int)} {u v:Nat} (hu:ZcE ms u) (h:subV v u):subV (clV n ms v) u:=Zla hu h n
theorem Zin:∀ (l:List Int) (v t:Nat),(l.foldl (fun v s=>adj v s.toNat) v).testBit t=(v.testBit t||l.any fun s=>decide (s.toNat=t))
 | [],v,t=>by simp
 | s::l,v,t=>by rw[List.foldl_cons,Zin l,ZcA,List.any_cons,Bool.or_assoc]
theorem Zio (l:List Int) (t:Nat):(setV l).testBit t=l.any fun s=>decide (s.toNat=t):=by unfold setV;rw[Zin];simp
theorem Zly {l:List Int} {x:Int} (hx:x∈l):(setV l).testBit x.toNat=true:=by rw[Zio,List.any_eq_true];exact⟨x,hx,by simp⟩
inductive Pth (ms:List (Int × Int × Int)):Int→List Nat→Int→Prop
 | here (s:Int):Pth ms s [] s
 | eps {s t u:Int} {w:List Nat}:(s,-1,t)∈ms→Pth ms t w u→Pth ms s w u
 | step {s t u:Int} {c:Nat} {w:List Nat}:(s,(c:Int),t)∈ms→Pth ms t w u→Pth ms s (c::w) u
theorem Pth.append {ms:List (Int × Int × Int)} {s t u:Int} {x y:List Nat} (h:Pth ms s x t) (h':Pth ms t y u):Pth ms s (x++y) u:=by
 induction h with
 | here s=>exact h'
 | eps hm _ ih=>exact .eps hm (ih h')
 | step hm _ ih=>exact .step hm (ih h')
theorem Pth.mono {ms ns:List (Int × Int × Int)} (hs:∀ m∈ms,m∈ns) {s t:Int} {x:List Nat} (h:Pth ms s x t):Pth ns s x t:=by
 induction h with
 | here s=>exact .here s
 | eps hm _ ih=>exact .eps (hs _ hm) ih
 | step hm _ ih=>exact .step (hs _ hm) ih
theorem Pth.map {ms ns:List (Int × Int × Int)} (f:Int→Int) (hs:∀ m∈ms,(f m.1,m.2.1,f m.2.2)∈ns∨(m.2.1 = -1∧f m.1=f m.2.2)) {s t:Int} {x:List Nat} (h:Pth ms s x t):Pth ns (f s) x (f t):=by
 induction h with
 | here s=>exact .here _
 | eps hm _ ih =>
  rcases hs _ hm with h|⟨_,h⟩
  ·exact .eps h ih
  exact h ▸ ih
 | step hm _ ih =>
  rcases hs _ hm with h|⟨h,_⟩
  ·exact .step h ih
  simp only at h;omega
theorem Pth.in {ms:List (Int × Int × Int)} {n:Nat} (hm:mvIn n ms) {s t:Int} {x:List Nat} (h:Pth ms s x t) (hs:0≤s∧s<(n:Int)):0≤t∧t<(n:Int):=by
 induction h with
 | here s=>exact hs
 | eps h _ ih=>exact ih (hm _ h).2
 | step h _ ih=>exact ih (hm _ h).2
def runS (n:NfaD) (cs:List Nat):Nat:=cs.foldl (fun v (c:Nat)=>stV 40 n.moves v (c:Int)) (clV 40 n.moves (setV n.firsts))
def accS (n:NfaD) (cs:List Nat):Bool:=n.ends.any fun s=>(runS n cs).testBit s.toNat
theorem ZmB (P:Nat→Prop):∀ n:Nat,∃ u:Nat,∀ t,u.testBit t=true↔t<n∧P t
 | 0=>⟨0,fun t=>by simp⟩
 | n+1=>by
  obtain⟨u,hu⟩:=ZmB P n;by_cases hp:P n
  ·refine⟨adj u n,fun t => ?_⟩;rw[ZcA,Bool.or_eq_true,hu,decide_eq_true_eq];constructor
   ·rintro(⟨h1,h2⟩|rfl)
    ·exact⟨by omega,h2⟩
    exact⟨by omega,hp⟩
   rintro⟨h1,h2⟩;by_cases h:n=t
   ·exact .inr h
   exact .inl ⟨by omega,h2⟩
  refine⟨u,fun t => ?_⟩;rw[hu];constructor
  ·rintro⟨h1,h2⟩;exact⟨by omega,h2⟩
  rintro⟨h1,h2⟩;by_cases h:t=n
  ·subst h;exact absurd h2 hp
  exact⟨by omega,h2⟩
theorem Pth.closed {ms:List (Int × Int × Int)} {u:Nat} (hu:ZcE ms u) {s t:Int} {x:List Nat} (h:Pth ms s x t) (hx:x=[]) (hs:u.testBit s.toNat=true):u.testBit t.toNat=true:=by
 induction h with
 | here s=>exact hs
 | eps hm _ ih=>exact ih hx (hu _ hm rfl hs)
 | step hm _ ih=>cases hx
theorem Zk7 {ms:List (Int × Int × Int)} (hm:mvIn 40 ms) {v t:Nat} (hv:v<2 ^ 40):(clV 40 ms v).testBit t=true↔∃ s:Nat,s<40∧v.testBit s=true∧Pth ms s [] t:=by
 constructor
 ·intro h;obtain⟨u,hu⟩:=ZmB (fun t=>∃ s:Nat,s<40∧v.testBit s=true∧Pth ms s [] t) 40
  have hc:ZcE ms u:=by
   intro m hmm he hf;obtain⟨h1,s,hs,hvs,hp⟩:=(hu _).1 hf;have h2:=hm m hmm;refine(hu _).2 ⟨by omega,s,hs,hvs,?_⟩;have e1:((m.1.toNat:Nat):Int)=m.1:=by omega
   have e2:((m.2.2.toNat:Nat):Int)=m.2.2:=by omega
   rw[e1] at hp;rw[e2];refine hp.append (y:=[]) (.eps ?_ (.here _));rw[← he];exact hmm
  have hsub:subV v u:=by
   intro s hs
   have:s<40:=by
    by_cases h:s<40
    ·exact h
    rw[Nat.testBit_lt_two_pow (Nat.lt_of_lt_of_le hv (Nat.pow_le_pow_right (by omega) (by omega)))] at hs;cases hs
   exact(hu s).2 ⟨this,s,this,hs,.here _⟩
  exact((hu t).1 (ZnZ hc hsub t h)).2
 rintro⟨s,hs,hvs,hp⟩;have:=hp.closed (Zef hm v) rfl (by rw[Int.toNat_natCast];exact Zk6 40 ms v s hvs)
 rwa [Int.toNat_natCast] at this
theorem Zd1 {c:Int} {v:Nat}:∀ (l:List (Int × Int × Int)) (u t:Nat),(l.foldl (Zbo v c) u).testBit t=true↔u.testBit t=true∨∃ m∈l,m.2.1=c∧v.testBit m.1.toNat=true∧m.2.2.toNat=t
 | [],u,t=>by simp
 | m::l,u,t=>by
  rw[List.foldl_cons,Zd1 l,Zbo]
  split
  ·rename_i h;rw[Bool.and_eq_true,decide_eq_true_eq] at h;rw[ZcA,Bool.or_eq_true,decide_eq_true_eq];constructor
   ·rintro((h1|h1)|⟨x,hx,h1⟩)
    ·exact .inl h1
    ·exact .inr ⟨m,by simp,h.1,h.2,h1⟩
    exact .inr ⟨x,by simp[hx],h1⟩
   rintro(h1|⟨x,hx,h1⟩)
   ·exact .inl (.inl h1)
   rcases List.mem_cons.1 hx with rfl|hx
   ·exact .inl (.inr h1.2.2)
   exact .inr ⟨x,hx,h1⟩
  rename_i h;rw[Bool.and_eq_true,decide_eq_true_eq] at h;constructor
  ·rintro(h1|⟨x,hx,h1⟩)
   ·exact .inl h1
   exact .inr ⟨x,by simp[hx],h1⟩
  rintro(h1|⟨x,hx,h1⟩)
  ·exact .inl h1
  rcases List.mem_cons.1 hx with rfl|hx
  ·exact absurd ⟨h1.1,h1.2.1⟩ h
  exact .inr ⟨x,hx,h1⟩
theorem ZkC {v s n:Nat} (hv:v<2 ^ n) (hs:v.testBit s=true):s<n:=by
 by_cases h:s<n
 ·exact h
 rw[Nat.testBit_lt_two_pow (Nat.lt_of_lt_of_le hv (Nat.pow_le_pow_right (by omega) (by omega)))] at hs;cases hs
theorem ZjT {ms:List (Int × Int × Int)} (hm:mvIn 40 ms) {v t:Nat} (c:Nat):(stV 40 ms v (c:Int)).testBit t=true↔∃ x,x∈ms∧x.2.1=(c:Int)∧v.testBit x.1.toNat=true∧Pth ms x.2.2 [] t:=by
 have hlt:ms.foldl (Zbo v c) 0<2 ^ 40:=ZbM _ (fun u=>u<2 ^ 40) (fun _ _ hx hu=>Zdu hm hx hu) (by decide);unfold stV;rw[Zk7 hm hlt];constructor
 ·rintro⟨s,hs,hb,hp⟩;rw[Zd1] at hb;rcases hb with hb|⟨m,hmm,h1,h2,h3⟩
  ·simp at hb
  refine⟨m,hmm,h1,h2,?_⟩;have e:m.2.2=(s:Int):=by have:=(hm m hmm).2;omega
  rw[e];exact hp
 rintro⟨x,hx,h1,h2,hp⟩;have h4:=(hm x hx).2;refine⟨x.2.2.toNat,by omega,?_,?_⟩
 ·rw[Zd1];exact .inr ⟨x,hx,h1,h2,rfl⟩
 have e:((x.2.2.toNat:Nat):Int)=x.2.2:=by omega
 rw[e];exact hp
theorem Pth.split {ms:List (Int × Int × Int)} {s u:Int} {x:List Nat} (h:Pth ms s x u):∀ {c:Nat} {w:List Nat},x=c::w→∃ m,m∈ms∧m.2.1=(c:Int)∧Pth ms s [] m.1∧Pth ms m.2.2 w u:=by
 induction h with
 | here s=>intro c w h;cases h
 | eps hm _ ih =>intro c w h;obtain⟨m,h1,h2,h3,h4⟩:=ih h;exact⟨m,h1,h2,.eps hm h3,h4⟩
 | step hm hp ih =>
  intro c w h
  injection h with h1 h2
  subst h1;subst h2;exact⟨_,hm,rfl,.here _,hp⟩
theorem Zi0 {ms:List (Int × Int × Int)} (hm:mvIn 40 ms) (v:Nat) (c:Int):ZcE ms (stV 40 ms v c):=Zef hm _
theorem Zhn {ms:List (Int × Int × Int)} (hm:mvIn 40 ms):∀ (cs:List Nat) (V:Nat),V<2 ^ 40→ZcE ms V→∀ t,(cs.foldl (fun v (c:Nat)=>stV 40 ms v (c:Int)) V).testBit t=true↔∃ s:Nat,s<40∧V.testBit s=true∧Pth ms s cs t
 | [],V,hV,hc,t=>by
  rw[List.foldl_nil];constructor
  ·intro h;exact⟨t,ZkC hV h,h,.here _⟩
  rintro⟨s,hs,h1,h2⟩;have:=h2.closed hc rfl (by rwa [Int.toNat_natCast])
  rwa [Int.toNat_natCast] at this
 | c::cs,V,hV,hc,t=>by
  rw[List.foldl_cons,Zhn hm cs _ (ZjU hm V c) (Zi0 hm V c)];constructor
  ·rintro⟨s,hs,h1,h2⟩;rw[ZjT hm] at h1;obtain⟨x,hx,h3,h4,h5⟩:=h1;have h6:=(hm x hx).1;refine⟨x.1.toNat,by omega,h4,?_⟩;have e:((x.1.toNat:Nat):Int)=x.1:=by omega
   rw[e];refine .step (t:=x.2.2) ?_ (h5.append h2);rw[← h3];exact hx
  rintro⟨s,hs,h1,h2⟩;obtain⟨m,h3,h4,h5,h6⟩:=h2.split rfl;have h7:=(hm m h3).2;refine⟨m.2.2.toNat,by omega,?_,?_⟩
  ·rw[ZjT hm];have:=h5.closed hc rfl (by rwa [Int.toNat_natCast]);refine⟨m,h3,h4,this,?_⟩;have e:((m.2.2.toNat:Nat):Int)=m.2.2:=by omega
   rw[e];exact .here _
  have e:((m.2.2.toNat:Nat):Int)=m.2.2:=by omega
  rw[e];exact h6
theorem Zbf {n:NfaD} (hn:Zaq n=true) (cs:List Nat):accS n cs=true↔∃ f∈n.firsts,∃ e∈n.ends,Pth n.moves f cs e:=by
 obtain⟨m,hm,hm40,hmv,-,hf,-,he,-⟩:=Zao hn;have hm4:=Zd8 hmv hm40;have hfi:inN 40 n.firsts:=fun s hs=>by have:=hf s hs;omega
 have hlt:clV 40 n.moves (setV n.firsts)<2 ^ 40:=Zeh hm4 (Zd2 hfi) 40;have hrun:=Zhn hm4 cs _ hlt (Zef hm4 (setV n.firsts));unfold accS runS;rw[List.any_eq_true];constructor
 ·rintro⟨e,hee,hb⟩;obtain⟨s,hs,h1,h2⟩:=(hrun _).1 hb;rw[Zk7 hm4 (Zd2 hfi)] at h1;obtain⟨r,hr,h3,h4⟩:=h1;rw[Zio,List.any_eq_true] at h3;obtain⟨f,hff,h5⟩:=h3;have h5:=of_decide_eq_true h5;have h6:=hf f hff;have h7:=he e hee;refine⟨f,hff,e,hee,?_⟩;have e1:(r:Int)=f:=by omega
  have e2:((e.toNat:Nat):Int)=e:=by omega
  rw[e1] at h4;rw[e2] at h2;exact h4.append h2
 rintro⟨f,hff,e,hee,hp⟩;have h6:=hf f hff;have h7:=he e hee;refine⟨e,hee,(hrun _).2 ⟨f.toNat,by omega,?_,?_⟩⟩
 ·exact Zk6 40 n.moves _ _ (Zly hff)
 have e1:((f.toNat:Nat):Int)=f:=by omega
 have e2:((e.toNat:Nat):Int)=e:=by omega
 rw[e1,e2];exact hp
end Go.Proofs.Ytfanhfcamblghaa
