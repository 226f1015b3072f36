/-
  Expressions as trees, plain: the list of parts of a tree; every list that is in order is that of a tree; its operands.
  No condition: this text speaks of no program.
-/
import Derived.Test.YtfanhfcamblghaaPv02Nk
set_option maxHeartbeats 4000000
set_option maxRecDepth 100000
namespace Go.Proofs.Ytfanhfcamblghaa
inductive Ex where
 | zero|one|ltr (c:Fin 3)|join (a b:Ex)|alt (a b:Ex)|both (a b:Ex)|neg (a:Ex)|star (a:Ex)
 deriving DecidableEq
def Ex.post:Ex→List (Int × Int)
 | .zero=>[(1,0)]
 | .one=>[(2,0)]
 | .ltr c=>[(3,(c.val:Int))]
 | .join a b=>a.post++b.post++[(4,0)]
 | .alt a b=>a.post++b.post++[(5,0)]
 | .both a b=>a.post++b.post++[(6,0)]
 | .neg a=>a.post++[(7,0)]
 | .star a=>a.post++[(8,0)]
theorem Zht:Zai (1,0)=0:=by decide
theorem Zhs:Zai (2,0)=0:=by decide
theorem Zhr (c:Fin 3):Zai (3,(c.val:Int))=0:=by
 have:c=0∨c=1∨c=2:=by omega
 rcases this with rfl|rfl|rfl<;>decide
theorem ZiV:Zai (4,0)=2:=by decide
theorem ZkN:Zai (5,0)=2:=by decide
theorem ZiW:Zai (6,0)=2:=by decide
theorem ZkM:Zai (7,0)=1:=by decide
theorem ZiU:Zai (8,0)=1:=by decide
theorem Zbc:∀ t:Ex,1≤t.post.length:=by intro t;cases t<;>simp[Ex.post]<;>omega
theorem ZbL (xs ys:List (Int × Int)):∀ k,k≤xs.length→dep (xs++ys) k=dep xs k
 | 0,_=>rfl
 | k+1,h=>by
  have ih:=ZbL xs ys k (by omega);have e:(xs++ys).getD k (0,0)=xs.getD k (0,0):=by simp[List.getD_eq_getElem?_getD,List.getElem?_append_left (show k<xs.length by omega)]
  unfold dep;rw[ih,e]
theorem Zeu (xs ys:List (Int × Int)):∀ k,dep (xs++ys) (xs.length+k)=dep xs xs.length+dep ys k
 | 0=>by rw[Nat.add_zero,ZbL xs ys _ (Nat.le_refl _)];simp[dep]
 | k+1=>by
  have ih:=Zeu xs ys k;have e:(xs++ys).getD (xs.length+k) (0,0)=ys.getD k (0,0):=by simp[List.getD_eq_getElem?_getD,List.getElem?_append_right (show xs.length≤xs.length+k by omega)]
  show dep (xs++ys) (xs.length+k)-Zai ((xs++ys).getD (xs.length+k) (0,0))+1=dep xs xs.length+(dep ys k-Zai (ys.getD k (0,0))+1);rw[ih,e];omega
theorem ZfC {xs ys:List (Int × Int)} {k:Nat} (h:k<xs.length):(xs++ys).getD k (0,0)=xs.getD k (0,0):=by simp[List.getD_eq_getElem?_getD,List.getElem?_append_left h]
theorem ZeE (xs ys:List (Int × Int)) (k:Nat):(xs++ys).getD (xs.length+k) (0,0)=ys.getD k (0,0):=by simp[List.getD_eq_getElem?_getD,List.getElem?_append_right (show xs.length≤xs.length+k by omega)]
def ZbD (m:Int) (es:List (Int × Int)):Prop:=∀ k,k<es.length→0≤Zai (es.getD k (0,0))∧Zai (es.getD k (0,0))≤m+dep es k
theorem ZgY {m m':Int} {es:List (Int × Int)} (h:ZbD m es) (hm:m≤m'):ZbD m' es:=fun k hk=>by have:=h k hk;omega
theorem Zdn {m:Int} {xs ys:List (Int × Int)} (h:ZbD m xs) (h':ZbD (m+dep xs xs.length) ys):ZbD m (xs++ys):=fun k hk=>by
 by_cases hx:k<xs.length
 ·rw[ZfC hx,ZbL _ _ _ (by omega)];exact h k hx
 obtain⟨j,rfl⟩:=Nat.exists_eq_add_of_le (Nat.le_of_not_lt hx);rw[ZeE,Zeu];have:=h' j (by simp at hk;omega);omega
theorem Zdm {m:Int} {p:Int × Int} (h0:0≤Zai p) (h1:Zai p≤m):ZbD m [p]:=fun k hk=>by
 obtain rfl:k=0:=by simpa using hk
 simp[dep];omega
theorem ZjE (p:Int × Int):dep [p] 1=1-Zai p:=by simp[dep];omega
theorem ZhN (xs:List (Int × Int)) (p:Int × Int):dep (xs++[p]) (xs++[p]).length=dep xs xs.length+(1-Zai p):=by rw[List.length_append,Zeu];show dep xs xs.length+dep [p] 1=_;rw[ZjE]
theorem Zlh (xs ys:List (Int × Int)):dep (xs++ys) (xs++ys).length=dep xs xs.length+dep ys ys.length:=by rw[List.length_append,Zeu]
theorem ZgV:∀ t:Ex,ZbD 0 t.post∧dep t.post t.post.length=1:=by
 intro t;have leaf:∀ p,Zai p=0→ZbD 0 [p]∧dep [p] [p].length=1:=fun p hp=>⟨Zdm (by omega) (by omega),by show dep [p] 1=1;rw[ZjE];omega⟩
 have two:∀ (xs ys:List (Int × Int)) p,Zai p=2→ZbD 0 xs→dep xs xs.length=1→ZbD 0 ys→dep ys ys.length=1→ZbD 0 (xs++ys++[p])∧dep (xs++ys++[p]) (xs++ys++[p]).length=1:=fun xs ys p hp h1 h2 h3 h4=>by have hc:=Zlh xs ys;refine⟨Zdn (Zdn h1 (ZgY h3 (by omega))) (Zdm (by omega) (by omega)),?_⟩;rw[ZhN];omega
 have one:∀ (xs:List (Int × Int)) p,Zai p=1→ZbD 0 xs→dep xs xs.length=1→ZbD 0 (xs++[p])∧dep (xs++[p]) (xs++[p]).length=1:=fun xs p hp h1 h2=>by refine⟨Zdn h1 (Zdm (by omega) (by omega)),?_⟩;rw[ZhN];omega
 induction t with
 | zero=>exact leaf _ Zht
 | one=>exact leaf _ Zhs
 | ltr c=>exact leaf _ (Zhr c)
 | join a b ha hb=>exact two _ _ _ ZiV ha.1 ha.2 hb.1 hb.2
 | alt a b ha hb=>exact two _ _ _ ZkN ha.1 ha.2 hb.1 hb.2
 | both a b ha hb=>exact two _ _ _ ZiW ha.1 ha.2 hb.1 hb.2
 | neg a ha=>exact one _ _ ZkM ha.1 ha.2
 | star a ha=>exact one _ _ ZiU ha.1 ha.2
theorem ZbV (t:Ex) (h:t.post.length≤60):exOk t.post=true:=by obtain⟨h1,h2⟩:=ZgV t;simp only[exOk,exAt,Bool.and_eq_true,List.all_eq_true,List.mem_range,decide_eq_true_eq];refine⟨⟨fun k hk => ?_,h2⟩,h⟩;have:=h1 k hk;omega
theorem Zd0 {α:Type}:∀ (l:List α),1≤l.length→∃ L b,l=L++[b]
 | [],h=>by simp at h
 | [a],_=>⟨[],a,rfl⟩
 | a::b::l,_=>by obtain⟨L,c,h⟩:=Zd0 (b::l) (by simp);exact⟨a::L,c,by rw[h];rfl⟩
def cat (st:List Ex):List (Int × Int):=st.flatMap Ex.post
theorem ZfN (a b:List Ex):cat (a++b)=cat a++cat b:=by simp[cat]
theorem Zex (a:Ex):cat [a]=a.post:=by simp[cat]
theorem Zhu {es:List (Int × Int)} (h:ZbD 0 es):∀ k,k≤es.length→∃ st:List Ex,cat st=es.take k∧(st.length:Int)=dep es k
 | 0,_=>⟨[],rfl,rfl⟩
 | k+1,hk=>by
  obtain⟨st,h1,h2⟩:=Zhu h k (by omega);obtain⟨h3,h4⟩:=h k (by omega);have ht:es.take (k+1)=es.take k++[es.getD k (0,0)]:=by rw[List.take_succ_eq_append_getElem (by omega)];simp[show k<es.length by omega]
  have hd:dep es (k+1)=dep es k-Zai (es.getD k (0,0))+1:=rfl;obtain⟨p,hp⟩:=eI (es.getD k (0,0));rw[← hp] at h3 h4 ht hd;have hok:=ZiZ h3;obtain⟨p1,p2⟩:=p;rw[ht,hd,← h1];have leaf:∀ t:Ex,t.post=[(p1,p2)]→Zai (p1,p2)=0→∃ st':List Ex,cat st'=cat st++[(p1,p2)]∧(st'.length:Int)=dep es k-Zai (p1,p2)+1:=fun t e0 e1=>⟨st++[t],by rw[ZfN,Zex,e0],by simp;omega⟩
  have one:∀ f:Ex→Ex,(∀ a,(f a).post=a.post++[(p1,p2)])→Zai (p1,p2)=1→∃ st':List Ex,cat st'=cat st++[(p1,p2)]∧(st'.length:Int)=dep es k-Zai (p1,p2)+1:=fun f e0 e1=>by obtain⟨L,a,rfl⟩:=Zd0 st (by omega);refine⟨L++[f a],by rw[ZfN,ZfN,Zex,Zex,e0];simp,?_⟩;simp at h2 ⊢;omega
  have two:∀ f:Ex→Ex→Ex,(∀ a b,(f a b).post=a.post++b.post++[(p1,p2)])→Zai (p1,p2)=2→∃ st':List Ex,cat st'=cat st++[(p1,p2)]∧(st'.length:Int)=dep es k-Zai (p1,p2)+1:=fun f e0 e1=>by obtain⟨L,b,rfl⟩:=Zd0 st (by omega);obtain⟨L,a,rfl⟩:=Zd0 L (by simp at h2;omega);refine⟨L++[f a b],by simp only[ZfN,Zex,e0,List.append_assoc],?_⟩;simp at h2 ⊢;omega
  simp only[pOk,inB,Bool.and_eq_true,Bool.or_eq_true,decide_eq_true_eq,Bool.not_eq_true',decide_eq_false_iff_not] at hok;obtain⟨⟨q1,q2⟩,q3⟩:=hok;have hc:(p1=1∧p2=0)∨(p1=2∧p2=0)∨(p1=3∧0≤p2∧p2≤2)∨(p1=4∧p2=0)∨(p1=5∧p2=0)∨(p1=6∧p2=0)∨(p1=7∧p2=0)∨(p1=8∧p2=0):=by omega
  rcases hc with⟨rfl,rfl⟩|⟨rfl,rfl⟩|⟨rfl,g1,g2⟩|⟨rfl,rfl⟩|⟨rfl,rfl⟩|⟨rfl,rfl⟩|⟨rfl,rfl⟩|⟨rfl,rfl⟩
  ·exact leaf .zero rfl Zht
  ·exact leaf .one rfl Zhs
  ·obtain⟨c,rfl⟩:=Int.eq_ofNat_of_zero_le g1;exact leaf (.ltr ⟨c,by omega⟩) rfl (Zhr ⟨c,by omega⟩)
  ·exact two .join (fun _ _=>rfl) ZiV
  ·exact two .alt (fun _ _=>rfl) ZkN
  ·exact two .both (fun _ _=>rfl) ZiW
  ·exact one .neg (fun _=>rfl) ZkM
  exact one .star (fun _=>rfl) ZiU
theorem parse {es:List (Int × Int)} (h:exOk es=true):∃ t:Ex,t.post=es:=by
 obtain⟨h1,h2,h3,h4⟩:=ZcH h;obtain⟨st,e1,e2⟩:=Zhu (es:=es) (fun k hk=>by have:=h1 k hk;omega) es.length (Nat.le_refl _);rw[h2] at e2;rw[List.take_length] at e1;obtain⟨L,t,rfl⟩:=Zd0 st (by omega)
 have hL:L=[]:=by
  cases L with
  | nil=>rfl
  | cons=>simp at e2;omega
 subst hL;exact⟨t,by simpa [Zex] using e1⟩
theorem Zbq (xs:List (Int × Int)) (p:Int × Int):(xs++[p]).getD ((xs++[p]).length-1) (0,0)=p:=by simp[List.getD_eq_getElem?_getD]
theorem ZfR {es:List (Int × Int)} {n a b:Nat} (h:ZbB es n a) (h':ZbB es n b):a=b:=by
 obtain⟨h1,h2,h3⟩:=h;obtain⟨g1,g2,g3⟩:=h';rcases Nat.lt_trichotomy a b with hl|hl|hl
 ·exact absurd g2 (h3 b hl g1)
 ·exact hl
 exact absurd h2 (g3 a hl h1)
theorem Zib {es:List (Int × Int)} (h:ZbD 0 es) {k:Nat} (h0:0<k) (hk:k≤es.length):1≤dep es k:=Zlg (fun j hj=>by have:=h j hj;omega) k h0 hk
theorem ZiF {a b:Ex} {p:Int × Int} (hp:Zai p=2) {xs ys:List (Int × Int)} (h:splits (a.post++b.post++[p]) xs ys):xs=a.post∧ys=b.post:=by
 obtain⟨-,-,h3⟩:=h;rw[Zbq] at h3;obtain⟨at',hb,rfl,rfl⟩:=h3 hp;obtain⟨a1,a2⟩:=ZgV a;obtain⟨b1,b2⟩:=ZgV b;have hl:(a.post++b.post++[p]).length-1=a.post.length+b.post.length:=by simp
 rw[hl] at hb ⊢
 have hbeg:ZbB (a.post++b.post++[p]) (a.post.length+b.post.length) a.post.length:=by
  have hd:∀ j,j≤b.post.length→dep (a.post++b.post++[p]) (a.post.length+j)=1+dep b.post j:=fun j hj=>by rw[ZbL _ _ _ (by simp;omega),Zeu,a2]
  have h0:=hd 0 (Nat.zero_le _);have hn:=hd b.post.length (Nat.le_refl _);rw[b2] at hn;rw[Nat.add_zero] at h0;refine⟨by have:=Zbc b;omega,by rw[h0,hn];rfl,fun j h1 h2 => ?_⟩;obtain⟨i,rfl⟩:=Nat.exists_eq_add_of_le (Nat.le_of_lt h1);rw[hd i (by omega),hn];have:=Zib b1 (show 0<i by omega) (by omega);omega
 obtain rfl:=ZfR hb hbeg;constructor
 ·rw[List.append_assoc,List.take_left'];rfl
 rw[List.append_assoc,List.drop_left' rfl,Nat.add_sub_cancel_left,List.take_left' rfl]
theorem Zf2 {a:Ex} {p:Int × Int} (hp:Zai p=1) {xs ys:List (Int × Int)} (h:splits (a.post++[p]) xs ys):xs=a.post∧ys=[]:=by obtain⟨-,h2,-⟩:=h;rw[Zbq] at h2;obtain⟨rfl,rfl⟩:=h2 hp;simp
theorem Zdj {p:Int × Int} (hp:Zai p=0) {xs ys:List (Int × Int)} (h:splits [p] xs ys):xs=[]∧ys=[]:=h.1 (by simpa using hp)
section
variable (n:Nat) (nx:Nat→Nat→Nat)
def Za8 (cl:Nat→Nat) (t s:Nat):Bool:=decide (cl t=cl s)&&(List.range 3).all fun c=>decide (cl (nx t c)=cl (nx s c))
theorem Zap {cl:Nat→Nat} {t s:Nat}:Za8 nx cl t s=true↔cl t=cl s∧∀ c,c<3→cl (nx t c)=cl (nx s c):=by simp[Za8]
theorem ZgP (cl:Nat→Nat) (s:Nat):Za8 nx cl s s=true:=(Zap nx).2 ⟨rfl,fun _ _=>rfl⟩
theorem Zd2 {cl:Nat→Nat} {t s:Nat} (h:Za8 nx cl t s=true):Za8 nx cl s t=true:=by obtain⟨h1,h2⟩:=(Zap nx).1 h;exact(Zap nx).2 ⟨h1.symm,fun c hc=>(h2 c hc).symm⟩
theorem Zcj {cl:Nat→Nat} {t s r:Nat} (h:Za8 nx cl t s=true) (h':Za8 nx cl s r=true):Za8 nx cl t r=true:=by obtain⟨h1,h2⟩:=(Zap nx).1 h;obtain⟨h3,h4⟩:=(Zap nx).1 h';exact(Zap nx).2 ⟨h1.trans h3,fun c hc=>(h2 c hc).trans (h4 c hc)⟩
def ZaN (p:Nat→Bool):Nat→Nat
 | 0=>0
 | k+1=>if p (ZaN p k)&&decide (ZaN p k<k) then ZaN p k else if p k then k else k+1
end
theorem ZeY (p:Nat→Bool):∀ k,(ZaN p k<k∧p (ZaN p k)=true∧∀ j,j<ZaN p k→p j=false)∨(ZaN p k=k∧∀ j,j<k→p j=false)
 | 0=>Or.inr ⟨rfl,fun j hj=>absurd hj (by omega)⟩
 | k+1=>by
  rcases ZeY p k with⟨h1,h2,h3⟩|⟨h1,h2⟩
  ·left;have e:ZaN p (k+1)=ZaN p k:=by simp[ZaN,h1,h2]
   rw[e];exact⟨by omega,h2,h3⟩
  by_cases hp:p k=true
  ·left;have e:ZaN p (k+1)=k:=by simp[ZaN,h1,hp]
   rw[e];exact⟨by omega,hp,h2⟩
  right;have e:ZaN p (k+1)=k+1:=by simp[ZaN,h1,hp]
  refine⟨e,fun j hj => ?_⟩;by_cases hjk:j=k
  ·subst hjk;simpa using hp
  exact h2 j (by omega)
theorem ZhD {p:Nat→Bool} {k s:Nat} (hs:s<k) (hp:p s=true):ZaN p k≤s∧p (ZaN p k)=true∧∀ j,j<ZaN p k→p j=false:=by
 rcases ZeY p k with⟨h1,h2,h3⟩|⟨h1,h2⟩
 ·refine⟨?_,h2,h3⟩;rcases Nat.lt_or_ge s (ZaN p k) with h|h
  ·rw[h3 s h] at hp;cases hp
  exact h
 rw[h2 s hs] at hp;cases hp
section
variable {n:Nat} {nx:Nat→Nat→Nat}
structure GoodC (n:Nat) (cl:Nat→Nat):Prop where
 le:∀ s,s<n→cl s≤s
 id:∀ s,s<n→cl (cl s)=cl s
def Zam (n:Nat) (nx:Nat→Nat→Nat) (cl:Nat→Nat) (s:Nat):Nat:=ZaN (fun t=>Za8 nx cl t s) n
theorem ZaH {cl:Nat→Nat} {s:Nat} (hs:s<n):Zam n nx cl s≤s∧Za8 nx cl (Zam n nx cl s) s=true∧∀ j,j<Zam n nx cl s→Za8 nx cl j s=false :=
 ZhD hs (ZgP nx cl s)
theorem Zbb {cl:Nat→Nat} {s t:Nat} (hs:s<n) (ht:t<n):Zam n nx cl s=Zam n nx cl t↔Za8 nx cl s t=true:=by
 obtain⟨a1,a2,a3⟩:=ZaH (nx:=nx) (cl:=cl) hs;obtain⟨b1,b2,b3⟩:=ZaH (nx:=nx) (cl:=cl) ht;constructor
 ·intro h;rw[h] at a2;exact Zcj nx (Zd2 nx a2) b2
 intro h;have h1:¬ Zam n nx cl s<Zam n nx cl t:=fun hlt=>by have:=b3 _ hlt;rw[Zcj nx a2 h] at this;cases this
 have h2:¬ Zam n nx cl t<Zam n nx cl s:=fun hlt=>by have:=a3 _ hlt;rw[Zcj nx b2 (Zd2 nx h)] at this;cases this
 omega
theorem ZcS {cl:Nat→Nat}:GoodC n (Zam n nx cl):=by refine⟨fun s hs=>(ZaH hs).1,fun s hs => ?_⟩;obtain⟨a1,a2,a3⟩:=ZaH (nx:=nx) (cl:=cl) hs;exact(Zbb (by omega) hs).2 a2
theorem Zh6 {cl:Nat→Nat} (hg:GoodC n cl) {s:Nat} (hs:s<n) (h:cl s=s):Zam n nx cl s=s:=by obtain⟨a1,a2,a3⟩:=ZaH (nx:=nx) (cl:=cl) hs;have e:=((Zap nx).1 a2).1;have:=hg.le (Zam n nx cl s) (by omega);omega
def reps (n:Nat) (cl:Nat→Nat):Nat:=((List.range n).filter fun s=>decide (cl s=s)).length
theorem Zd3 {cl:Nat→Nat} (hg:GoodC n cl) {s:Nat} (hs:s<n) (hne:Zam n nx cl s≠cl s):reps n cl<reps n (Zam n nx cl):=by
 obtain⟨a1,a2,a3⟩:=ZaH (nx:=nx) (cl:=cl) hs;have e:=((Zap nx).1 a2).1;have hr:Zam n nx cl s<n:=by omega
 refine Zcw (a:=Zam n nx cl s) ?_ ?_ (List.mem_range.2 hr) fun x hx h => ?_
 ·have:cl (Zam n nx cl s)≠Zam n nx cl s:=by rw[e];exact fun h=>hne h.symm
  simpa using this
 ·simpa using ZcS.id s hs
 simp only[decide_eq_true_eq] at h ⊢;exact Zh6 hg (List.mem_range.1 hx) h
theorem ZgS (n:Nat) (cl:Nat→Nat):reps n cl≤n:=by have:=List.length_filter_le (fun s=>decide (cl s=s)) (List.range n);simpa [reps] using this
def clAt (n:Nat) (nx:Nat→Nat→Nat) (en:Nat→Bool):Nat→Nat→Nat
 | 0=>fun s=>ZaN (fun t=>en t==en s) n
 | i+1=>Zam n nx (clAt n nx en i)
theorem Zcz {en:Nat→Bool} {s:Nat} (hs:s<n):clAt n nx en 0 s≤s∧en (clAt n nx en 0 s)=en s∧∀ j,j<clAt n nx en 0 s→en j≠en s:=by
 obtain⟨a,b,c⟩:=ZhD (p:=fun t=>en t==en s) hs (by simp);have b':en (ZaN (fun t=>en t==en s) n)=en s:=by simpa using b
 exact⟨a,b',fun j hj=>by simpa using c j hj⟩
theorem Zfa {en:Nat→Bool} {s t:Nat} (hs:s<n) (ht:t<n):clAt n nx en 0 s=clAt n nx en 0 t↔en s=en t:=by
 obtain⟨a1,a2,a3⟩:=Zcz (nx:=nx) (en:=en) hs;obtain⟨b1,b2,b3⟩:=Zcz (nx:=nx) (en:=en) ht;constructor
 ·intro h;rw[← a2,← b2,h]
 intro h;have h1:¬ clAt n nx en 0 s<clAt n nx en 0 t:=fun hlt=>b3 _ hlt (a2.trans h)
 have h2:¬ clAt n nx en 0 t<clAt n nx en 0 s:=fun hlt=>a3 _ hlt (b2.trans h.symm)
 omega
theorem Zcy (en:Nat→Bool):∀ i,GoodC n (clAt n nx en i)
 | 0=>⟨fun s hs=>(Zcz hs).1,fun s hs=>by obtain⟨a1,a2,a3⟩:=Zcz (nx:=nx) (en:=en) hs;exact(Zfa (by omega) hs).2 a2⟩
 | _+1=>ZcS
def stays (n:Nat) (nx:Nat→Nat→Nat) (en:Nat→Bool) (i:Nat):Prop:=∀ s,s<n→clAt n nx en (i+1) s=clAt n nx en i s
theorem Zfh (en:Nat→Bool):∃ i,i≤n∧stays n nx en i∧∀ j,j<i→¬ stays n nx en j:=by
 have key:∀ k,(∀ j,j<k→¬ stays n nx en j)→k≤reps n (clAt n nx en k):=by
  intro k
  induction k with
  | zero=>intro _;exact Nat.zero_le _
  | succ k ih =>
   intro h;have h1:=ih fun j hj=>h j (by omega)
   have h2:=h k (by omega);have h3:∃ s,s<n∧clAt n nx en (k+1) s≠clAt n nx en k s:=Classical.byContradiction fun hn=>h2 fun s hs=>Classical.byContradiction fun hne=>hn ⟨s,hs,hne⟩
   obtain⟨s,hs,hne⟩:=h3;have:=Zd3 (nx:=nx) (Zcy (nx:=nx) en k) hs hne;show k+1≤reps n (Zam n nx (clAt n nx en k));omega
 have hex:∃ i,i≤n∧stays n nx en i:=Classical.byContradiction fun hn=>by
  have:=key (n+1) fun j hj hs=>hn ⟨j,by omega,hs⟩
  have:=ZgS n (clAt n nx en (n+1));omega
 obtain⟨i,hi,hs⟩:=hex
 have key2:∀ k,(∃ j,j<k∧stays n nx en j)→∃ i,i<k∧stays n nx en i∧∀ j,j<i→¬ stays n nx en j:=by
  intro k
  induction k with
  | zero=>rintro⟨j,hj,-⟩;omega
  | succ k ih =>
   rintro⟨j,hj,hs⟩;by_cases h:∃ j,j<k∧stays n nx en j
   ·obtain⟨i,h1,h2⟩:=ih h;exact⟨i,by omega,h2⟩
   have:j=k:=Classical.byContradiction fun hne=>h ⟨j,by omega,hs⟩
   subst this;exact⟨j,by omega,hs,fun i hi hs'=>h ⟨i,hi,hs'⟩⟩
 obtain⟨i',h1,h2⟩:=key2 (n+1) ⟨i,by omega,hs⟩;exact⟨i',by omega,h2⟩
theorem Zcp {p q:Nat→Bool}:∀ {k:Nat},(∀ t,t<k→p t=q t)→ZaN p k=ZaN q k
 | 0,_=>rfl
 | k+1,h=>by
  have ih:=Zcp (k:=k) fun t ht=>h t (by omega)
  have hk:=h k (by omega);unfold ZaN;rw[← ih,← hk];by_cases hl:ZaN p k<k
  ·rw[h _ (by omega)]
  simp[hl]
theorem Zf9 (hnx:∀ s c,s<n→c<3→nx s c<n) {cl cl':Nat→Nat} (h:∀ s,s<n→cl s=cl' s) {s:Nat} (hs:s<n):Zam n nx cl s=Zam n nx cl' s:=by
 unfold Zam;refine Zcp fun t ht => ?_
 rw[Bool.eq_iff_iff,Zap,Zap,h t ht,h s hs];constructor
 ·rintro⟨h1,h2⟩;exact⟨h1,fun c hc=>by rw[← h _ (hnx t c ht hc),← h _ (hnx s c hs hc)];exact h2 c hc⟩
 rintro⟨h1,h2⟩;exact⟨h1,fun c hc=>by rw[h _ (hnx t c ht hc),h _ (hnx s c hs hc)];exact h2 c hc⟩
theorem Zch (hnx:∀ s c,s<n→c<3→nx s c<n) {en:Nat→Bool} {i:Nat} (h:stays n nx en i):∀ j,i≤j→∀ s,s<n→clAt n nx en j s=clAt n nx en i s:=by
 intro j
 induction j with
 | zero =>
  intro hj s _;obtain rfl:i=0:=by omega
  rfl
 | succ j ih =>
  intro hj s hs;by_cases hij:i=j+1
  ·subst hij;rfl
  have e:clAt n nx en (j+1) s=Zam n nx (clAt n nx en j) s:=rfl;rw[e,Zf9 hnx (ih (by omega)) hs];exact h s hs
def Zdf (n:Nat) (nx:Nat→Nat→Nat) (en:Nat→Bool):Nat→Nat:=clAt n nx en n
theorem ZhR (hnx:∀ s c,s<n→c<3→nx s c<n) {en:Nat→Bool} {i:Nat} (hi:i≤n) (h:stays n nx en i) {s:Nat} (hs:s<n):Zdf n nx en s=clAt n nx en i s:=Zch hnx h n hi s hs
theorem Zew (hnx:∀ s c,s<n→c<3→nx s c<n) (en:Nat→Bool):stays n nx en n:=by obtain⟨i,hi,hs,-⟩:=Zfh (n:=n) (nx:=nx) en;intro s hsn;rw[Zch hnx hs (n+1) (by omega) s hsn,Zch hnx hs n hi s hsn]
theorem ZfM (hnx:∀ s c,s<n→c<3→nx s c<n) {en:Nat→Bool} {s t:Nat} (hs:s<n) (ht:t<n):Zdf n nx en s=Zdf n nx en t→∀ c,c<3→Zdf n nx en (nx s c)=Zdf n nx en (nx t c):=by
 intro h;have h1:=Zew hnx en;have h2:Zam n nx (Zdf n nx en) s=Zam n nx (Zdf n nx en) t:=by have a:=h1 s hs;have b:=h1 t ht;exact a.trans (h.trans b.symm)
 exact((Zap nx).1 ((Zbb hs ht).1 h2)).2
theorem ZgC {en:Nat→Bool}:∀ (i:Nat) {s t:Nat},s<n→t<n→clAt n nx en i s=clAt n nx en i t→en s=en t
 | 0,_,_,hs,ht,h=>(Zfa hs ht).1 h
 | i+1,_,_,hs,ht,h=>ZgC i hs ht ((Zap nx).1 ((Zbb hs ht).1 h)).1
theorem Zdw {en:Nat→Bool} {s t:Nat} (hs:s<n) (ht:t<n) (h:Zdf n nx en s=Zdf n nx en t):en s=en t:=ZgC n hs ht h
end
end Go.Proofs.Ytfanhfcamblghaa
namespace Go.Proofs.Ytfanhfcamblghaa
open Go.RowKit
def nxD (d:DfaD) (s c:Nat):Nat:=((d.next.getD s []).getD c 0).toNat
def enD (d:DfaD) (s:Nat):Bool:=d.ends.getD s false
def Zbo (d:DfaD):DfaD:=Zaz (dnx d) (den d) (bat (dnx d) 0 d.next.length).met
theorem Zbp {d:DfaD} (hd:fine d) {s c:Nat} (hs:s<d.next.length) (hc:c<3):nxD d s c<d.next.length∧dnx d (s:Int) c=((nxD d s c:Nat):Int):=by obtain⟨-,-,-,h⟩:=hd;obtain⟨-,h2⟩:=h s hs;obtain⟨a,b⟩:=h2 c hc;unfold nxD dnx;rw[Int.toNat_natCast];omega
theorem ZbX {d:DfaD} (hd:fine d) (K:Nat):(∀ x∈(bat (dnx d) 0 K).met,0≤x∧x<(d.next.length:Int))∧(bat (dnx d) 0 K).met.length≤d.next.length:=by
 have h1:∀ x∈(bat (dnx d) 0 K).met,0≤x∧x<(d.next.length:Int):=by refine Zbu (Q:=fun x=>0≤x∧x<(d.next.length:Int)) ⟨by omega,by have:=hd.1;omega⟩ (fun x c hc hx => ?_) K;obtain⟨s,rfl⟩:=Int.eq_ofNat_of_zero_le hx.1;obtain⟨a,b⟩:=Zbp hd (s:=s) (by omega) hc;rw[b];omega
 refine⟨h1,?_⟩;have:=ZcF (Zbm (nx:=dnx d) (a:=0) K).1 (m:=ZcZ d.next.length) fun x hx=>by obtain⟨a,b⟩:=h1 x hx;obtain⟨s,rfl⟩:=Int.eq_ofNat_of_zero_le a;exact ZbY.2 (by omega)
 rwa [ZbU] at this
theorem ZaE {d:DfaD} (h:Zaf d.next d.ends=true):fine d:=by have:=Zag h;exact⟨by omega,by omega,by omega,fun i hi=>ZaI h hi⟩
section
variable {α β:Type} [DecidableEq α] [DecidableEq β] {nx:α→Nat→α} {nx':β→Nat→β} {a:α} {f:α→β} {Q:α→Prop}
theorem ZgD (hv:∀ x c,c<3→Q x→Q (nx x c)) (hf:∀ x y,Q x→Q y→f x=f y→x=y) (hn:∀ x c,c<3→Q x→f (nx x c)=nx' (f x) c) {x:α} (hx:Q x) (wd:List Nat) {s:Bs α} (hs:∀ y∈s.met,Q y) :
  ∀ n,n≤3→brow nx' (f x) wd ⟨s.met.map f,s.words⟩ n=⟨(brow nx x wd s n).met.map f,(brow nx x wd s n).words⟩∧∀ y∈(brow nx x wd s n).met,Q y
 | 0,_=>⟨rfl,hs⟩
 | n+1,hn3=>by
  obtain⟨h1,h2⟩:=ZgD hv hf hn hx wd hs n (by omega);have hq:=hv x n (by omega) hx
  have hm:nx' (f x) n∈(brow nx x wd s n).met.map f↔nx x n∈(brow nx x wd s n).met:=by
   rw[← hn x n (by omega) hx];constructor
   ·intro h;obtain⟨y,hy,e⟩:=List.mem_map.1 h;rw[← hf _ _ (h2 y hy) hq e];exact hy
   exact fun h=>List.mem_map.2 ⟨_,h,rfl⟩
  have e:brow nx' (f x) wd ⟨s.met.map f,s.words⟩ (n+1)=bvisit nx' (f x) wd (brow nx' (f x) wd ⟨s.met.map f,s.words⟩ n) n:=rfl;have e2:brow nx x wd s (n+1)=bvisit nx x wd (brow nx x wd s n) n:=rfl;rw[e,e2,h1];unfold bvisit;by_cases h:nx x n∈(brow nx x wd s n).met
  ·rw[if_pos h,if_pos (hm.2 h)];exact⟨rfl,h2⟩
  rw[if_neg h,if_neg (fun h2=>h (hm.1 h2))];refine⟨by simp[hn x n (by omega) hx],fun y hy => ?_⟩;simp only[List.mem_append,List.mem_singleton] at hy;rcases hy with hy|rfl
  ·exact h2 y hy
  exact hq
theorem ZhV (h0:Q a) (hv:∀ x c,c<3→Q x→Q (nx x c)) (hf:∀ x y,Q x→Q y→f x=f y→x=y) (hn:∀ x c,c<3→Q x→f (nx x c)=nx' (f x) c):∀ k,bat nx' (f a) k=⟨(bat nx a k).met.map f,(bat nx a k).words⟩
 | 0=>rfl
 | k+1=>by
  have ih:=ZhV h0 hv hf hn k;have hl:(bat nx' (f a) k).met.length=(bat nx a k).met.length:=by rw[ih];simp
  by_cases h:k<(bat nx a k).met.length
  ·rw[Za2 h,Za2 (by rw[hl];exact h)];unfold bpart;rw[ih];have hx:((bat nx a k).met.map f).getD k (f a)=f ((bat nx a k).met.getD k a):=by simp[h]
   simp only[hx];exact(ZgD hv hf hn (Zbu h0 hv k _ (memD h)) _ (Zbu h0 hv k) 3 (by omega)).1
  rw[ZcK (by omega),ZcK (by omega),ih]
theorem ZgW {L:List α} {x:α} (hf:∀ y∈L,f y=f x→y=x):Zad (L.map f) (f x)=Zad L x:=by
 unfold Zad
 induction L with
 | nil=>rfl
 | cons y l ih =>
  have h1:=hf y (by simp);have h2:=ih fun z hz=>hf z (by simp[hz])
  simp only[List.map_cons,List.idxOf_cons];by_cases h:y=x
  ·subst h;simp
  have:f y≠f x:=fun e=>h (h1 e)
  have e1:(f y==f x)=false:=by simpa using this
  have e2:(y==x)=false:=by simpa using h
  rw[e1,e2];simp[h2]
theorem ZcU {en:α→Bool} {en':β→Bool} {K:Nat} (h0:Q a) (hv:∀ x c,c<3→Q x→Q (nx x c)) (hf:∀ x y,Q x→Q y→f x=f y→x=y) (hn:∀ x c,c<3→Q x→f (nx x c)=nx' (f x) c) (he:∀ x,Q x→en' (f x)=en x) :
  Zaz nx' en' (bat nx' (f a) K).met=Zaz nx en (bat nx a K).met:=by
 have hm:=congrArg Bs.met (ZhV h0 hv hf hn K);simp only at hm;have hq:=Zbu h0 hv K;rw[hm];unfold Zaz
 have e1:((bat nx a K).met.map f).map (Zab nx' ((bat nx a K).met.map f))=(bat nx a K).met.map (Zab nx (bat nx a K).met):=by
  rw[List.map_map];refine List.map_congr_left fun x hx => ?_
  unfold Zab;refine List.map_congr_left fun c hc => ?_
  have hc3:c<3:=List.mem_range.1 hc;rw[← hn x c hc3 (hq x hx),ZgW fun y hy e=>hf _ _ (hq y hy) (hv x c hc3 (hq x hx)) e]
 have e2:((bat nx a K).met.map f).map en'=(bat nx a K).met.map en:=by rw[List.map_map];exact List.map_congr_left fun x hx=>he x (hq x hx)
 rw[e1,e2]
end
theorem ZhS {n m:Nat} {nx nx':Nat→Nat→Nat} {en en':Nat→Bool} (φ:Nat→Nat) (hφ:∀ i,i<m→φ i<n) (hst:∀ i c,i<m→c<3→nx' i c<m∧φ (nx' i c)=nx (φ i) c) (hen:∀ i,i<m→en' i=en (φ i)) :
  ∀ (r:Nat) {i j:Nat},i<m→j<m→(clAt m nx' en' r i=clAt m nx' en' r j↔clAt n nx en r (φ i)=clAt n nx en r (φ j))
 | 0,i,j,hi,hj=>by rw[Zfa hi hj,Zfa (hφ i hi) (hφ j hj),hen i hi,hen j hj]
 | r+1,i,j,hi,hj=>by
  have ih:=fun {i j:Nat} (hi:i<m) (hj:j<m)=>ZhS φ hφ hst hen r hi hj
  show Zam m nx' (clAt m nx' en' r) i=Zam m nx' (clAt m nx' en' r) j↔Zam n nx (clAt n nx en r) (φ i)=Zam n nx (clAt n nx en r) (φ j);rw[Zbb hi hj,Zbb (hφ i hi) (hφ j hj),Zap,Zap,ih hi hj];constructor
  ·rintro⟨h1,h2⟩;refine⟨h1,fun c hc => ?_⟩;have h:=(ih (hst i c hi hc).1 (hst j c hj hc).1).1 (h2 c hc)
   rwa [(hst i c hi hc).2,(hst j c hj hc).2] at h
  rintro⟨h1,h2⟩;refine⟨h1,fun c hc=>(ih (hst i c hi hc).1 (hst j c hj hc).1).2 ?_⟩;rw[(hst i c hi hc).2,(hst j c hj hc).2];exact h2 c hc
theorem ZjH {n m:Nat} {nx nx':Nat→Nat→Nat} {en en':Nat→Bool} (φ:Nat→Nat) (hmn:m≤n) (hφ:∀ i,i<m→φ i<n) (hst:∀ i c,i<m→c<3→nx' i c<m∧φ (nx' i c)=nx (φ i) c) (hen:∀ i,i<m→en' i=en (φ i)) {i j:Nat} (hi:i<m) (hj:j<m) :
  Zdf m nx' en' i=Zdf m nx' en' j↔Zdf n nx en (φ i)=Zdf n nx en (φ j):=by
 have hin:∀ s c,s<m→c<3→nx' s c<m:=fun s c hs hc=>(hst s c hs hc).1
 have hs:=Zew hin en';have e1:=Zch hin hs n hmn i hi;have e2:=Zch hin hs n hmn j hj;show clAt m nx' en' m i=clAt m nx' en' m j↔_;rw[← e1,← e2];exact ZhS φ hφ hst hen n hi hj
def clD (d:DfaD) (s:Nat):Nat:=Zdf d.next.length (nxD d) (enD d) s
def nxM (d:DfaD) (s:Int) (c:Nat):Int:=(clD d (nxD d s.toNat c):Nat)
def minD (d:DfaD):DfaD:=Zaz (nxM d) (den d) (bat (nxM d) ((clD d 0:Nat):Int) d.next.length).met
def ZbS (x:DfaD):DfaD:=⟨(List.range x.next.length).map fun k=>(List.range 3).map fun c=>((clD x (nxD x k c):Nat):Int),x.ends⟩
def Zal (d:DfaD):DfaD:=Zbo (ZbS (Zbo d))
theorem Za9 {d:DfaD} (s:Nat) (hs:s<d.next.length):clD d s≤s∧clD d (clD d s)=clD d s:=by have h:=Zcy (n:=d.next.length) (nx:=nxD d) (enD d) d.next.length;exact⟨h.le s hs,h.id s hs⟩
def phiD (d:DfaD) (i:Nat):Nat:=((bat (dnx d) 0 d.next.length).met.getD i 0).toNat
theorem ZeK {d:DfaD} (hd:fine d):fine (Zbo d)∧(Zbo d).next.length≤d.next.length∧(∀ i,i<(Zbo d).next.length→phiD d i<d.next.length) ∧
  (∀ i c,i<(Zbo d).next.length→c<3→nxD (Zbo d) i c<(Zbo d).next.length∧phiD d (nxD (Zbo d) i c)=nxD d (phiD d i) c)∧(∀ i,i<(Zbo d).next.length→enD (Zbo d) i=enD d (phiD d i))∧phiD d 0=0:=by
 obtain⟨h1,h2⟩:=ZbX hd d.next.length;have hf:=ZdU (nx:=dnx d) (a:=(0:Int)) (en:=den d) h2 (by have:=hd.2.1;omega);have hl:(Zbo d).next.length=(bat (dnx d) 0 d.next.length).met.length:=Zbj _ _ _;have hphi:∀ i,i<(bat (dnx d) 0 d.next.length).met.length→(bat (dnx d) 0 d.next.length).met.getD i 0=((phiD d i:Nat):Int)∧phiD d i<d.next.length:=fun i hi=>by obtain⟨a,b⟩:=h1 _ (memD (d:=0) hi);unfold phiD;omega
 refine⟨hf,by rw[hl];exact h2,fun i hi=>(hphi i (by rw[← hl];exact hi)).2,fun i c hi hc => ?_,fun i hi => ?_,?_⟩
 ·have hi':i<(bat (dnx d) 0 d.next.length).met.length:=by rw[← hl];exact hi
  refine⟨(Zbp hf hi hc).1,?_⟩;obtain⟨p1,p2⟩:=hphi i hi';have hn:nxD (Zbo d) i c=Zad (bat (dnx d) 0 d.next.length).met (dnx d ((bat (dnx d) 0 d.next.length).met.getD i 0) c):=by unfold nxD Zbo;rw[Zdo (a:=(0:Int)) hi',Zea hc,Int.toNat_natCast]
  have hm:=ZdA (nx:=dnx d) (a:=(0:Int)) h2 (memD (d:=0) hi') hc;rw[hn];unfold phiD;rw[ZfB hm,p1,(Zbp hd p2 hc).2,Int.toNat_natCast];rfl
 ·have hi':i<(bat (dnx d) 0 d.next.length).met.length:=by rw[← hl];exact hi
  unfold enD Zbo phiD;simp[Zaz,hi',den]
 unfold phiD;rw[ZeA];rfl
theorem Ze6 {x:DfaD} (hx:fine x):fine (ZbS x)∧(ZbS x).next.length=x.next.length∧∀ k c,k<x.next.length→c<3→dnx (ZbS x) (k:Int) c=((clD x (nxD x k c):Nat):Int):=by
 have hl:(ZbS x).next.length=x.next.length:=by simp[ZbS]
 have hr:∀ k,k<x.next.length→(ZbS x).next.getD k []=(List.range 3).map fun c=>((clD x (nxD x k c):Nat):Int):=fun k hk=>by simp[ZbS,hk]
 have hc:∀ k c,k<x.next.length→c<3→((ZbS x).next.getD k []).getD c 0=((clD x (nxD x k c):Nat):Int):=fun k c hk hc=>by rw[hr k hk];simp[hc]
 refine⟨⟨by rw[hl];exact hx.1,by rw[hl];exact hx.2.1,by rw[hl];exact hx.2.2.1,fun i hi => ?_⟩,hl,fun k c hk h3 => ?_⟩
 ·rw[hl] at hi;refine⟨by rw[hr i hi];simp,fun c h3 => ?_⟩;rw[hc i c hi h3,hl];have h1:=(Zbp hx hi h3).1;have h2:=(Za9 (nxD x i c) h1).1;omega
 unfold dnx;rw[Int.toNat_natCast];exact hc k c hk h3
theorem Zf3 {d:DfaD} (hd:fine d):Zal d=minD d:=by
 obtain⟨hx,hmn,hφ,hst,hen,hφ0⟩:=ZeK hd;obtain⟨x,hxe⟩:=eI (Zbo d);unfold Zal;rw[← hxe] at hx hmn hφ hst hen ⊢;obtain⟨hff,hfl,hfn⟩:=Ze6 hx;have hm0:0<x.next.length:=hx.1;have hsim:=fun {i j:Nat} (hi:i<x.next.length) (hj:j<x.next.length)=>ZjH (n:=d.next.length) (m:=x.next.length) (nx:=nxD d) (nx':=nxD x) (en:=enD d) (en':=enD x) (phiD d) hmn hφ hst hen hi hj
 have hdin:∀ s c,s<d.next.length→c<3→nxD d s c<d.next.length:=fun s c hs hc=>(Zbp hd hs hc).1
 have hmet:=(ZbX hff x.next.length).2;rw[hfl] at hmet;have hbat:bat (dnx (ZbS x)) 0 d.next.length=bat (dnx (ZbS x)) 0 x.next.length:=Zbn hmet hmn
 have key:=ZcU (nx:=dnx (ZbS x)) (nx':=nxM d) (a:=(0:Int)) (f:=fun j:Int=>((clD d (phiD d j.toNat):Nat):Int)) (Q:=fun j=>∃ k:Nat,j=(k:Int)∧k<x.next.length∧clD x k=k) (en:=den (ZbS x)) (en':=den d) (K:=d.next.length)
  ⟨0,rfl,hm0,Nat.le_zero.1 (Za9 0 hm0).1⟩ ?_ ?_ ?_ ?_
 ·unfold Zbo minD;rw[hfl,← hbat,← key];have e:((clD d (phiD d (0:Int).toNat):Nat):Int)=((clD d 0:Nat):Int):=by show((clD d (phiD d 0):Nat):Int)=_;rw[hφ0]
  simp only[e]
 ·rintro j c hc ⟨k,rfl,hk,-⟩;rw[hfn k c hk hc];have h1:=(Zbp hx hk hc).1;obtain⟨h2,h3⟩:=Za9 (nxD x k c) h1;exact⟨_,rfl,by omega,h3⟩
 ·rintro j j' ⟨k,rfl,hk,hr⟩ ⟨k',rfl,hk',hr'⟩ h;simp only[Int.toNat_natCast] at h;have h1:clD d (phiD d k)=clD d (phiD d k'):=by omega
  have h2:clD x k=clD x k':=(hsim hk hk').2 h1;rw[hr,hr'] at h2;rw[h2]
 ·rintro j c hc ⟨k,rfl,hk,-⟩;rw[hfn k c hk hc];obtain⟨h1,-⟩:=Zbp hx hk hc;obtain⟨h2,h3⟩:=Za9 (nxD x k c) h1;simp only[Int.toNat_natCast,nxM];have a1:clD d (phiD d (clD x (nxD x k c)))=clD d (phiD d (nxD x k c)):=(hsim (by omega) h1).1 h3;rw[a1,(hst k c hk hc).2];obtain⟨h4,h5⟩:=Za9 (phiD d k) (hφ k hk);have a2:clD d (nxD d (clD d (phiD d k)) c)=clD d (nxD d (phiD d k) c):=ZfM hdin (en:=enD d) (s:=clD d (phiD d k)) (t:=phiD d k) (by have:=hφ k hk;omega) (hφ k hk) h5 c hc;rw[a2]
 rintro j ⟨k,rfl,hk,-⟩;obtain⟨h4,h5⟩:=Za9 (phiD d k) (hφ k hk);have a:=Zdw (n:=d.next.length) (nx:=nxD d) (en:=enD d) (s:=clD d (phiD d k)) (t:=phiD d k) (by have:=hφ k hk;omega) (hφ k hk) h5;simp only[Int.toNat_natCast];show enD d (((clD d (phiD d k):Nat):Int).toNat)=enD x (((k:Nat):Int).toNat);rw[Int.toNat_natCast,Int.toNat_natCast,a,hen k hk]
def clsL (n:Nat) (cl:Nat→Nat):List Int:=(List.range n).map fun s=>(cl s:Int)
theorem Za0 (n:Nat) (cl:Nat→Nat):(clsL n cl).length=n:=by simp[clsL]
theorem ZfJ {n s:Nat} (cl:Nat→Nat) (h:s<n):(clsL n cl).getD s 0=(cl s:Int):=by simp[clsL,h]
def ZcQ (d:DfaD) (cl:Nat→Nat) (s o:Nat) (k:Nat):Bool:=(List.range k).all fun c=>decide (cl (nxD d s c)=cl (nxD d o c))
theorem ZeR (d:DfaD) (cl:Nat→Nat) (s o k:Nat):ZcQ d cl s o (k+1)=(ZcQ d cl s o k&&decide (cl (nxD d s k)=cl (nxD d o k))):=by unfold ZcQ;rw[List.range_succ,List.all_append];simp
theorem Zj1 {d:DfaD} {cl:Nat→Nat} {s o k:Nat} (hk:k<3) (h:cl (nxD d s k)≠cl (nxD d o k)):ZcQ d cl s o 3=false:=by
 cases he:ZcQ d cl s o 3 with
 | false=>rfl
 | true =>have:=List.all_eq_true.1 he k (List.mem_range.2 hk);exact absurd (by simpa using this) h
theorem ZgO (d:DfaD) (cl:Nat→Nat) (s o:Nat) (dv cv:Value) (w:World) (hd:Zaf d.next d.ends=true) (hs:s<d.next.length) (ho:o<d.next.length) (hcl:∀ t,t<d.next.length→cl t<d.next.length) (h:DfaR 0 w dv d) (hc:Ints 0 w cv (clsL d.next.length cl)) (r:Bool) (hr:ZcQ d cl s o 3=r) :
  Calls Try.prog 146 #[dv,cv,.int .i64 s,.int .i64 o] w fun e w'=>e = .returned (.bool r)∧Below w.heap.size w w':=by
 obtain⟨v1,v2,rfl,q1,q2⟩:=h;have hf:=ZaE hd;obtain⟨L,hL⟩:=eI (d.next.length);obtain⟨hl1,hl2,-⟩:=Zag hd;have hrow:=fun (i:Nat) (hi:i<d.next.length)=>(ZaI hd hi).1
 have hnx:=fun (i c:Nat) (hi:i<d.next.length) (h3:c<3)=>(Zbp hf hi h3)
 obtain⟨av,cvv,rfl,hc1,hc2,hr1⟩:=q1.formI;obtain⟨b1,o1,rfl,-,hb1,hcs1⟩:=hr1 (by omega);obtain⟨ac,cc,rfl,hc3,hc4,hr2⟩:=hc.form;rw[Za0] at hc3 hr2;rw[Za0];obtain⟨b2,o2,rfl,-,hb2,hcs2⟩:=hr2 (by omega);have hcell:∀ t,t<d.next.length→w.cell? ⟨b2,o2+t,none⟩=some (.int .i64 (cl t:Nat)):=fun t ht=>by rw[hcs2 t ht,ZfJ cl ht]
 obtain⟨ax,cs,hks,-,-,hIs⟩:=hcs1 s hs;obtain⟨ao,co,hko,-,-,hIo⟩:=hcs1 o ho;rw[hrow s hs] at hks hIs;rw[hrow o ho] at hko hIo;obtain⟨_,_,hform,-,-,hrs⟩:=hIs.form;rw[hrow s hs] at hform hrs;simp only[Value.slice.injEq,true_and] at hform;obtain⟨rfl,rfl⟩:=hform;obtain⟨b3,o3,rfl,-,hb3,hcs3⟩:=hrs (by omega);obtain⟨_,_,hform,-,-,hro⟩:=hIo.form;rw[hrow o ho] at hform hro;simp only[Value.slice.injEq,true_and] at hform;obtain⟨rfl,rfl⟩:=hform;obtain⟨b4,o4,rfl,-,hb4,hcs4⟩:=hro (by omega)
 have hval:∀ i c,i<d.next.length→c<3→(d.next.getD i []).getD c 0=((nxD d i c:Nat):Int):=fun i c hi h3=>by
  have:=(hnx i c hi h3).2;unfold dnx at this
  rwa [Int.toNat_natCast] at this
 have hS0:=(St.start w).alloc _ rfl #[.slice (some ⟨b1,o1,none⟩) d.next.length cvv,v2] 45;have Hnx:=qh hnx;have Hval:=qh hval;have Hcell:=qh hcell;have Hks:=qh hks;have Hko:=qh hko;have Hcs3:=qh hcs3;have Hcs4:=qh hcs4;have Hcl:=qh hcl;rw[← hL] at hs ho hl1 hl2 hS0;rw[← hL];have hsI:(s:Int)<L:=by omega
 have hoI:(o:Int)<L:=by omega
 replace hS0:=qh hS0;have Hhr:=qh hr;clear hr;replace hL:=qh hL;clear hnx hval hcell hks hko hcs3 hcs4 hcl hcs1 hcs2 hr1 hr2 hrs hro hIs hIo q1 q2 hc hd hrow hf
 go_enter Try.func146, Try.ntmps146
 go_wp2
 go_loopw [10] (fun i wr=>∃ k:Nat,i = .int .i64 k∧k≤3∧ZcQ d cl s o k=true∧St w wr [Ent.box w.heap.size #[.slice (some ⟨b1,o1,none⟩) L cvv,v2] 45]) (fun i _=>3-(intOf i).toNat)
 case atStart=>exact⟨0,rfl,by omega,rfl,hS0.out⟩
 case round =>
  obtain⟨k,rfl,hk,hsm,hS⟩:=hrel;by_cases hlt:k<3
  ·have hlt2:(k:Int)<3:=by omega
   have hsn:s<d.next.length:=by have:=hL.out;omega
   have hon:o<d.next.length:=by have:=hL.out;omega
   have h1:=(Hnx.out s k hsn hlt).1;have h2:=(Hnx.out o k hon hlt).1;have e0:=hS.cell (v:=.slice (some ⟨b1,o1,none⟩) L cvv) 0 0 rfl rfl;have e1:=(bcell hS.bel b1 _ hb1).trans Hks.out;have e2:=(bcell hS.bel b1 _ hb1).trans Hko.out;have e3:=(bcell hS.bel b3 _ hb3).trans (Hcs3.out k hlt);have e4:=(bcell hS.bel b4 _ hb4).trans (Hcs4.out k hlt);rw[Hval.out s k hsn hlt] at e3;rw[Hval.out o k hon hlt] at e4;have e5:=(bcell hS.bel b2 _ hb2).trans (Hcell.out _ h1);have e6:=(bcell hS.bel b2 _ hb2).trans (Hcell.out _ h2);have hsucc:=ZeR d cl s o k;obtain⟨p,hp⟩:=eI (nxD d s k);obtain⟨q,hq⟩:=eI (nxD d o k);rw[← hp] at h1 e3 e5 hsucc;rw[← hq] at h2 e4 e6 hsucc;rw[hsm,Bool.true_and] at hsucc;rw[← hL.out] at h1 h2;have hpI:(p:Int)<L:=by omega
   have hqI:(q:Int)<L:=by omega
   have Hhp:=qh hp;clear hp;have Hhq:=qh hq;clear hq;have HhS:=qh hS;clear hS;have Hhsm:=qh hsm;clear hsm;have Hhsucc:=qh hsucc;clear hsucc;clear h1 h2 hsn hon;by_cases he:cl p=cl q
   ·have heI:((cl p:Int) != (cl q:Int))=false:=by rw[he];simp
    have heI2:((cl p:Int)=(cl q:Int))=True:=by simp[he]
    have heI3:(!((cl p:Int)==(cl q:Int)))=false:=by rw[he];simp
    have Hhe:=qh he;clear he;go_wp2
    go_quiet (fail)
    go_wp2;go_roundw
    case rel=>exact⟨k+1,by go_num,by omega,by rw[Hhsucc.out];simp[Hhe.out],HhS.out.drewN _⟩
    case measure=>simp[intOf];omega
   have heI:((cl p:Int) != (cl q:Int))=true:=by simp;omega
   have heI2:((cl p:Int)=(cl q:Int))=False:=by simp;omega
   have heI3:(!((cl p:Int)==(cl q:Int)))=true:=by simp;omega
   have Hhe:=qh he;clear he;go_wp2
   go_quiet (fail)
   go_wp2;go_ret;have hrf:false=r:=by rw[← Hhr.out];exact(Zj1 hlt (by rw[← Hhp.out,← Hhq.out];exact Hhe.out)).symm
   subst hrf;exact⟨rfl,(HhS.out.drewN _).bel⟩
  obtain rfl:k=3:=by omega
  have hrt:true=r:=by rw[← Hhr.out,hsm]
  subst hrt;have HhS:=qh hS;clear hS;have Hhsm:=qh hsm;clear hsm;go_wp2;go_ret;exact⟨rfl,HhS.out.bel⟩
end Go.Proofs.Ytfanhfcamblghaa
