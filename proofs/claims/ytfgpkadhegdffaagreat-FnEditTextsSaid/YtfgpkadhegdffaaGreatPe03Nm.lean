/-
  Expressions as trees, plain: the list of parts of a tree; every list that is in order is that of a tree; its operands.
  No condition: this text speaks of no program.
-/
import Derived.Test.YtfgpkadhegdffaaGreatPe02Ev
namespace Go.Proofs.YtfgpkadhegdffaaGreat
inductive Ex where
 | zero|one|ltr (c:Fin 3)|join (a b:Ex)|alt (a b:Ex)|both (a b:Ex)|neg (a:Ex)|star (a:Ex)
 deriving DecidableEq
def Ex.post:Ex→List (Int × Int)
 | .zero=>[(1,0)]
 | .one=>[(2,0)]
 | .ltr c=>[(3,(c.val:Int))]
 | .join a b=>a.post++b.post++[(4,0)]
 | .alt a b=>a.post++b.post++[(5,0)]
 | .both a b=>a.post++b.post++[(6,0)]
 | .neg a=>a.post++[(7,0)]
 | .star a=>a.post++[(8,0)]
theorem Zgg:Zad (1,0)=0:=by decide
theorem Zgf:Zad (2,0)=0:=by decide
theorem ZeD (c:Fin 3):Zad (3,(c.val:Int))=0:=by
 have:c=0∨c=1∨c=2:=by omega
 rcases this with rfl|rfl|rfl<;>decide
theorem Zfi:Zad (4,0)=2:=by decide
theorem ZhY:Zad (5,0)=2:=by decide
theorem Zfj:Zad (6,0)=2:=by decide
theorem ZhX:Zad (7,0)=1:=by decide
theorem Zfh:Zad (8,0)=1:=by decide
theorem Za8:∀ t:Ex,1≤t.post.length:=by intro t;cases t<;>simp[Ex.post]<;>omega
theorem ZcU (xs ys:List (Int × Int)):∀ k,k≤xs.length→dep (xs++ys) k=dep xs k
 | 0,_=>rfl
 | k+1,h=>by
  have ih:=ZcU xs ys k (by omega);have e:(xs++ys).getD k (0,0)=xs.getD k (0,0):=by simp[List.getD_eq_getElem?_getD,List.getElem?_append_left (show k<xs.length by omega)]
  unfold dep;rw[ih,e]
theorem Zhi (xs ys:List (Int × Int)):∀ k,dep (xs++ys) (xs.length+k)=dep xs xs.length+dep ys k
 | 0=>by rw[Nat.add_zero,ZcU xs ys _ (Nat.le_refl _)];simp[dep]
 | k+1=>by
  have ih:=Zhi xs ys k;have e:(xs++ys).getD (xs.length+k) (0,0)=ys.getD k (0,0):=by simp[List.getD_eq_getElem?_getD,List.getElem?_append_right (show xs.length≤xs.length+k by omega)]
  show dep (xs++ys) (xs.length+k)-Zad ((xs++ys).getD (xs.length+k) (0,0))+1=dep xs xs.length+(dep ys k-Zad (ys.getD k (0,0))+1);rw[ih,e];omega
theorem ZiX {xs ys:List (Int × Int)} {k:Nat} (h:k<xs.length):(xs++ys).getD k (0,0)=xs.getD k (0,0):=by simp[List.getD_eq_getElem?_getD,List.getElem?_append_left h]
theorem ZhH (xs ys:List (Int × Int)) (k:Nat):(xs++ys).getD (xs.length+k) (0,0)=ys.getD k (0,0):=by simp[List.getD_eq_getElem?_getD,List.getElem?_append_right (show xs.length≤xs.length+k by omega)]
def ZcL (m:Int) (es:List (Int × Int)):Prop:=∀ k,k<es.length→0≤Zad (es.getD k (0,0))∧Zad (es.getD k (0,0))≤m+dep es k
theorem ZkF {m m':Int} {es:List (Int × Int)} (h:ZcL m es) (hm:m≤m'):ZcL m' es:=fun k hk=>by have:=h k hk;omega
theorem Zfp {m:Int} {xs ys:List (Int × Int)} (h:ZcL m xs) (h':ZcL (m+dep xs xs.length) ys):ZcL m (xs++ys):=fun k hk=>by
 by_cases hx:k<xs.length
 ·rw[ZiX hx,ZcU _ _ _ (by omega)];exact h k hx
 obtain⟨j,rfl⟩:=Nat.exists_eq_add_of_le (Nat.le_of_not_lt hx);rw[ZhH,Zhi];have:=h' j (by simp at hk;omega);omega
theorem Zfo {m:Int} {p:Int × Int} (h0:0≤Zad p) (h1:Zad p≤m):ZcL m [p]:=fun k hk=>by
 obtain rfl:k=0:=by simpa using hk
 simp[dep];omega
theorem ZoC (p:Int × Int):dep [p] 1=1-Zad p:=by simp[dep];omega
theorem ZlP (xs:List (Int × Int)) (p:Int × Int):dep (xs++[p]) (xs++[p]).length=dep xs xs.length+(1-Zad p):=by rw[List.length_append,Zhi];show dep xs xs.length+dep [p] 1=_;rw[ZoC]
theorem ZqZ (xs ys:List (Int × Int)):dep (xs++ys) (xs++ys).length=dep xs xs.length+dep ys ys.length:=by rw[List.length_append,Zhi]
theorem ZkD:∀ t:Ex,ZcL 0 t.post∧dep t.post t.post.length=1:=by
 intro t;have leaf:∀ p,Zad p=0→ZcL 0 [p]∧dep [p] [p].length=1:=fun p hp=>⟨Zfo (by omega) (by omega),by show dep [p] 1=1;rw[ZoC];omega⟩
 have two:∀ (xs ys:List (Int × Int)) p,Zad p=2→ZcL 0 xs→dep xs xs.length=1→ZcL 0 ys→dep ys ys.length=1→ZcL 0 (xs++ys++[p])∧dep (xs++ys++[p]) (xs++ys++[p]).length=1:=fun xs ys p hp h1 h2 h3 h4=>by have hc:=ZqZ xs ys;refine⟨Zfp (Zfp h1 (ZkF h3 (by omega))) (Zfo (by omega) (by omega)),?_⟩;rw[ZlP];omega
 have one:∀ (xs:List (Int × Int)) p,Zad p=1→ZcL 0 xs→dep xs xs.length=1→ZcL 0 (xs++[p])∧dep (xs++[p]) (xs++[p]).length=1:=fun xs p hp h1 h2=>by refine⟨Zfp h1 (Zfo (by omega) (by omega)),?_⟩;rw[ZlP];omega
 induction t with
 | zero=>exact leaf _ Zgg
 | one=>exact leaf _ Zgf
 | ltr c=>exact leaf _ (ZeD c)
 | join a b ha hb=>exact two _ _ _ Zfi ha.1 ha.2 hb.1 hb.2
 | alt a b ha hb=>exact two _ _ _ ZhY ha.1 ha.2 hb.1 hb.2
 | both a b ha hb=>exact two _ _ _ Zfj ha.1 ha.2 hb.1 hb.2
 | neg a ha=>exact one _ _ ZhX ha.1 ha.2
 | star a ha=>exact one _ _ Zfh ha.1 ha.2
theorem ZaH (t:Ex) (h:t.post.length≤60):exOk t.post=true:=by obtain⟨h1,h2⟩:=ZkD t;simp only[exOk,exAt,Bool.and_eq_true,List.all_eq_true,List.mem_range,decide_eq_true_eq];refine⟨⟨fun k hk => ?_,h2⟩,h⟩;have:=h1 k hk;omega
theorem ZgC {α:Type}:∀ (l:List α),1≤l.length→∃ L b,l=L++[b]
 | [],h=>by simp at h
 | [a],_=>⟨[],a,rfl⟩
 | a::b::l,_=>by obtain⟨L,c,h⟩:=ZgC (b::l) (by simp);exact⟨a::L,c,by rw[h];rfl⟩
def cat (st:List Ex):List (Int × Int):=st.flatMap Ex.post
theorem Zja (a b:List Ex):cat (a++b)=cat a++cat b:=by simp[cat]
theorem Zho (a:Ex):cat [a]=a.post:=by simp[cat]
theorem Zls {es:List (Int × Int)} (h:ZcL 0 es):∀ k,k≤es.length→∃ st:List Ex,cat st=es.take k∧(st.length:Int)=dep es k
 | 0,_=>⟨[],rfl,rfl⟩
 | k+1,hk=>by
  obtain⟨st,h1,h2⟩:=Zls h k (by omega);obtain⟨h3,h4⟩:=h k (by omega);have ht:es.take (k+1)=es.take k++[es.getD k (0,0)]:=by rw[List.take_succ_eq_append_getElem (by omega)];simp[show k<es.length by omega]
  have hd:dep es (k+1)=dep es k-Zad (es.getD k (0,0))+1:=rfl;obtain⟨p,hp⟩:=eI (es.getD k (0,0));rw[← hp] at h3 h4 ht hd;have hok:=ZeF h3;obtain⟨p1,p2⟩:=p;rw[ht,hd,← h1];have leaf:∀ t:Ex,t.post=[(p1,p2)]→Zad (p1,p2)=0→∃ st':List Ex,cat st'=cat st++[(p1,p2)]∧(st'.length:Int)=dep es k-Zad (p1,p2)+1:=fun t e0 e1=>⟨st++[t],by rw[Zja,Zho,e0],by simp;omega⟩
  have one:∀ f:Ex→Ex,(∀ a,(f a).post=a.post++[(p1,p2)])→Zad (p1,p2)=1→∃ st':List Ex,cat st'=cat st++[(p1,p2)]∧(st'.length:Int)=dep es k-Zad (p1,p2)+1:=fun f e0 e1=>by obtain⟨L,a,rfl⟩:=ZgC st (by omega);refine⟨L++[f a],by rw[Zja,Zja,Zho,Zho,e0];simp,?_⟩;simp at h2 ⊢;omega
  have two:∀ f:Ex→Ex→Ex,(∀ a b,(f a b).post=a.post++b.post++[(p1,p2)])→Zad (p1,p2)=2→∃ st':List Ex,cat st'=cat st++[(p1,p2)]∧(st'.length:Int)=dep es k-Zad (p1,p2)+1:=fun f e0 e1=>by obtain⟨L,b,rfl⟩:=ZgC st (by omega);obtain⟨L,a,rfl⟩:=ZgC L (by simp at h2;omega);refine⟨L++[f a b],by simp only[Zja,Zho,e0,List.append_assoc],?_⟩;simp at h2 ⊢;omega
  simp only[pOk,inB,Bool.and_eq_true,Bool.or_eq_true,decide_eq_true_eq,Bool.not_eq_true',decide_eq_false_iff_not] at hok;obtain⟨⟨q1,q2⟩,q3⟩:=hok;have hc:(p1=1∧p2=0)∨(p1=2∧p2=0)∨(p1=3∧0≤p2∧p2≤2)∨(p1=4∧p2=0)∨(p1=5∧p2=0)∨(p1=6∧p2=0)∨(p1=7∧p2=0)∨(p1=8∧p2=0):=by omega
  rcases hc with⟨rfl,rfl⟩|⟨rfl,rfl⟩|⟨rfl,g1,g2⟩|⟨rfl,rfl⟩|⟨rfl,rfl⟩|⟨rfl,rfl⟩|⟨rfl,rfl⟩|⟨rfl,rfl⟩
  ·exact leaf .zero rfl Zgg
  ·exact leaf .one rfl Zgf
  ·obtain⟨c,rfl⟩:=Int.eq_ofNat_of_zero_le g1;exact leaf (.ltr ⟨c,by omega⟩) rfl (ZeD ⟨c,by omega⟩)
  ·exact two .join (fun _ _=>rfl) Zfi
  ·exact two .alt (fun _ _=>rfl) ZhY
  ·exact two .both (fun _ _=>rfl) Zfj
  ·exact one .neg (fun _=>rfl) ZhX
  exact one .star (fun _=>rfl) Zfh
theorem parse {es:List (Int × Int)} (h:exOk es=true):∃ t:Ex,t.post=es:=by
 obtain⟨h1,h2,h3,h4⟩:=ZbS h;obtain⟨st,e1,e2⟩:=Zls (es:=es) (fun k hk=>by have:=h1 k hk;omega) es.length (Nat.le_refl _);rw[h2] at e2;rw[List.take_length] at e1;obtain⟨L,t,rfl⟩:=ZgC st (by omega)
 have hL:L=[]:=by
  cases L with
  | nil=>rfl
  | cons=>simp at e2;omega
 subst hL;exact⟨t,by simpa [Zho] using e1⟩
theorem Zci (xs:List (Int × Int)) (p:Int × Int):(xs++[p]).getD ((xs++[p]).length-1) (0,0)=p:=by simp[List.getD_eq_getElem?_getD]
theorem Zjd {es:List (Int × Int)} {n a b:Nat} (h:Zcy es n a) (h':Zcy es n b):a=b:=by
 obtain⟨h1,h2,h3⟩:=h;obtain⟨g1,g2,g3⟩:=h';rcases Nat.lt_trichotomy a b with hl|hl|hl
 ·exact absurd g2 (h3 b hl g1)
 ·exact hl
 exact absurd h2 (g3 a hl h1)
theorem Zmk {es:List (Int × Int)} (h:ZcL 0 es) {k:Nat} (h0:0<k) (hk:k≤es.length):1≤dep es k:=ZqY (fun j hj=>by have:=h j hj;omega) k h0 hk
theorem Zez {a b:Ex} {p:Int × Int} (hp:Zad p=2) {xs ys:List (Int × Int)} (h:splits (a.post++b.post++[p]) xs ys):xs=a.post∧ys=b.post:=by
 obtain⟨-,-,h3⟩:=h;rw[Zci] at h3;obtain⟨at',hb,rfl,rfl⟩:=h3 hp;obtain⟨a1,a2⟩:=ZkD a;obtain⟨b1,b2⟩:=ZkD b;have hl:(a.post++b.post++[p]).length-1=a.post.length+b.post.length:=by simp
 rw[hl] at hb ⊢
 have hbeg:Zcy (a.post++b.post++[p]) (a.post.length+b.post.length) a.post.length:=by
  have hd:∀ j,j≤b.post.length→dep (a.post++b.post++[p]) (a.post.length+j)=1+dep b.post j:=fun j hj=>by rw[ZcU _ _ _ (by simp;omega),Zhi,a2]
  have h0:=hd 0 (Nat.zero_le _);have hn:=hd b.post.length (Nat.le_refl _);rw[b2] at hn;rw[Nat.add_zero] at h0;refine⟨by have:=Za8 b;omega,by rw[h0,hn];rfl,fun j h1 h2 => ?_⟩;obtain⟨i,rfl⟩:=Nat.exists_eq_add_of_le (Nat.le_of_lt h1);rw[hd i (by omega),hn];have:=Zmk b1 (show 0<i by omega) (by omega);omega
 obtain rfl:=Zjd hb hbeg;constructor
 ·rw[List.append_assoc,List.take_left'];rfl
 rw[List.append_assoc,List.drop_left' rfl,Nat.add_sub_cancel_left,List.take_left' rfl]
theorem ZeA {a:Ex} {p:Int × Int} (hp:Zad p=1) {xs ys:List (Int × Int)} (h:splits (a.post++[p]) xs ys):xs=a.post∧ys=[]:=by obtain⟨-,h2,-⟩:=h;rw[Zci] at h2;obtain⟨rfl,rfl⟩:=h2 hp;simp
theorem Zfe {p:Int × Int} (hp:Zad p=0) {xs ys:List (Int × Int)} (h:splits [p] xs ys):xs=[]∧ys=[]:=h.1 (by simpa using hp)
def StarL (L:List Nat→Prop) (w:List Nat):Prop:=∃ ws:List (List Nat),w=ws.flatten∧∀ u∈ws,L u
theorem StarL.nil {L:List Nat→Prop}:StarL L []:=⟨[],rfl,by simp⟩
theorem StarL.cons {L:List Nat→Prop} {u w:List Nat} (h:L u) (h':StarL L w):StarL L (u++w):=by
 obtain⟨ws,rfl,hw⟩:=h'
 exact⟨u::ws,rfl,fun x hx=>by
  rcases List.mem_cons.1 hx with rfl|hx
  ·exact h
  exact hw x hx⟩
def memE:Ex→List Nat→Prop
 | .zero,_=>False
 | .one,w=>w=[]
 | .ltr c,w=>w=[c.val]
 | .join a b,w=>∃ u v,w=u++v∧memE a u∧memE b v
 | .alt a b,w=>memE a w∨memE b w
 | .both a b,w=>memE a w∧memE b w
 | .neg a,w=>¬ memE a w
 | .star a,w=>StarL (memE a) w
def seg (w:List Nat) (i j:Nat):List Nat:=(w.drop i).take (j-i)
theorem Zej {w:List Nat} {i j:Nat} (hij:i≤j) (hj:j≤w.length):(seg w i j).length=j-i:=by unfold seg;rw[List.length_take,List.length_drop];omega
theorem Zlk (w:List Nat) (i:Nat):seg w i i=[]:=by unfold seg;simp
theorem ZqC (w:List Nat):seg w 0 w.length=w:=by unfold seg;simp
theorem ZeC {w:List Nat} {i k j:Nat} (h1:i≤k) (h2:k≤j):seg w i j=seg w i k++seg w k j:=by
 unfold seg;have e:j-i=(k-i)+(j-k):=by omega
 rw[e,List.take_add,List.drop_drop];congr 3;omega
theorem ZgE {w u v:List Nat} {i j:Nat} (hij:i≤j) (hj:j≤w.length) (h:seg w i j=u++v):i+u.length≤j∧u=seg w i (i+u.length)∧v=seg w (i+u.length) j:=by
 have hl:=Zej hij hj;rw[h,List.length_append] at hl;have hk:i+u.length≤j:=by omega
 have hs:=ZeC (w:=w) (i:=i) (k:=i+u.length) (j:=j) (by omega) hk;rw[h] at hs;have hul:u.length=(seg w i (i+u.length)).length:=by rw[Zej (by omega) (by omega)];omega
 obtain⟨e1,e2⟩:=List.append_inj hs hul;exact⟨hk,e1,e2⟩
theorem Zne {w:List Nat} {i c:Nat} (hi:i<w.length):seg w i (i+1)=[c]↔w.getD i 0=c:=by
 have e:seg w i (i+1)=[w.getD i 0]:=by unfold seg;rw[Nat.add_sub_cancel_left,List.drop_eq_getElem_cons hi,List.take_succ_cons,List.take_zero];simp[hi]
 rw[e];simp
def memS (t:Ex) (w:List Nat) (i j:Nat):Prop:=memE t (seg w i j)
theorem ZnU (w:List Nat) (i j:Nat):¬ memS .zero w i j:=fun h=>h
theorem ZpI {w:List Nat} {i j:Nat} (hij:i≤j) (hj:j≤w.length):memS .one w i j↔i=j:=by
 show seg w i j=[]↔_;have hl:=Zej hij hj;constructor
 ·intro h;rw[h] at hl;simp at hl;omega
 rintro rfl;exact Zlk w i
theorem ZpJ {w:List Nat} {i j:Nat} {c:Fin 3} (hij:i≤j) (hj:j≤w.length):memS (.ltr c) w i j↔j=i+1∧w.getD i 0=c.val:=by
 show seg w i j=[c.val]↔_;have hl:=Zej hij hj;constructor
 ·intro h;have e:j=i+1:=by rw[h] at hl;simp at hl;omega
  subst e;exact⟨rfl,(Zne (by omega)).1 h⟩
 rintro⟨rfl,h⟩;exact(Zne (by omega)).2 h
theorem ZnW {a b:Ex} {w:List Nat} {i j:Nat} (hij:i≤j) (hj:j≤w.length):memS (.join a b) w i j↔∃ k,i≤k∧k≤j∧memS a w i k∧memS b w k j:=by
 constructor
 ·rintro⟨u,v,h,h1,h2⟩;obtain⟨hk,e1,e2⟩:=ZgE hij hj h;exact⟨i+u.length,by omega,hk,by unfold memS;rw[← e1];exact h1,by unfold memS;rw[← e2];exact h2⟩
 rintro⟨k,h1,h2,h3,h4⟩;exact⟨_,_,ZeC h1 h2,h3,h4⟩
theorem StarL.first {L:List Nat→Prop} {w:List Nat} (h:StarL L w):w=[]∨∃ u v,u≠[]∧w=u++v∧L u∧StarL L v:=by
 obtain⟨ws,rfl,hs⟩:=h
 induction ws with
 | nil=>exact .inl rfl
 | cons u ws ih =>
  by_cases hu:u=[]
  ·subst hu;exact ih fun x hx=>hs x (by simp[hx])
  exact .inr ⟨u,ws.flatten,hu,rfl,hs u (by simp),ws,rfl,fun x hx=>hs x (by simp[hx])⟩
theorem StarL.snoc {L:List Nat→Prop} {u w:List Nat} (h:StarL L w) (h':L u):StarL L (w++u):=by
 obtain⟨ws,rfl,hw⟩:=h;refine⟨ws++[u],by simp,fun x hx => ?_⟩;rcases List.mem_append.1 hx with hx|hx
 ·exact hw x hx
 simp at hx;subst hx;exact h'
theorem StarL.last {L:List Nat→Prop} {w:List Nat} (h:StarL L w):w=[]∨∃ u v,v≠[]∧w=u++v∧StarL L u∧L v:=by
 obtain⟨ws,rfl,hs⟩:=h;obtain⟨rs,rfl⟩:∃ rs:List (List Nat),ws=rs.reverse:=⟨ws.reverse,by simp⟩
 induction rs with
 | nil=>exact .inl rfl
 | cons u rs ih =>
  have hu:L u:=hs u (by simp);have hr:∀ x∈rs.reverse,L x:=fun x hx=>hs x (by simp at hx ⊢;exact .inl hx)
  rw[List.reverse_cons,List.flatten_append];by_cases hn:u=[]
  ·subst hn;simpa using ih hr
  exact .inr ⟨rs.reverse.flatten,u,hn,by simp,⟨rs.reverse,rfl,hr⟩,hu⟩
theorem ZnV {a:Ex} {w:List Nat} {i j:Nat} (hij:i≤j) (hj:j≤w.length):memS (.star a) w i j↔i=j∨∃ k,i+1≤k∧k≤j∧memS a w i k∧memS (.star a) w k j:=by
 constructor
 ·intro h;rcases StarL.first h with h|⟨u,v,hu,h,h1,h2⟩
  ·have hl:=Zej hij hj;rw[h] at hl;simp at hl;exact .inl (by omega)
  obtain⟨hk,e1,e2⟩:=ZgE hij hj h;have hpos:=List.length_pos_iff.2 hu;exact .inr ⟨i+u.length,by omega,hk,by unfold memS;rw[← e1];exact h1,by unfold memS;rw[← e2];exact h2⟩
 rintro(rfl|⟨k,h1,h2,h3,h4⟩)
 ·unfold memS;rw[Zlk];exact StarL.nil
 unfold memS;rw[ZeC (show i≤k by omega) h2];exact StarL.cons h3 h4
def stR (A:Nat→Nat→Prop):Nat→Nat→Nat→Prop
 | 0,i,j=>i=j
 | m+1,i,j=>stR A m i j∨∃ k,i≤k∧k≤j∧stR A m i k∧A k j
theorem Zps {A:Nat→Nat→Prop} {i j:Nat}:∀ {m n:Nat},m≤n→stR A m i j→stR A n i j
 | m,n,h,hm=>by
  induction n with
  | zero=>obtain rfl:m=0:=by omega
          exact hm
  | succ n ih =>
   by_cases he:m=n+1
   ·subst he;exact hm
   exact .inl (ih (by omega))
theorem Zit {a:Ex} {w:List Nat}:∀ (m:Nat) {i j:Nat},i≤j→j≤w.length→stR (memS a w) m i j→memS (.star a) w i j
 | 0,i,j,hij,hj,h=>(ZnV hij hj).2 (.inl h)
 | m+1,i,j,hij,hj,h=>by
  rcases h with h|⟨k,h1,h2,h3,h4⟩
  ·exact Zit m hij hj h
  have hs:=Zit m h1 (by omega) h3;unfold memS at hs h4 ⊢;rw[ZeC h1 h2];exact StarL.snoc hs h4
theorem Zpq {a:Ex} {w:List Nat}:∀ (d:Nat) {i j:Nat},i≤j→j≤w.length→j-i≤d→memS (.star a) w i j→stR (memS a w) d i j:=by
 intro d
 induction d with
 | zero =>intro i j hij hj hd h;exact(show i=j by omega)
 | succ d ih =>
  intro i j hij hj hd h;rcases StarL.last h with h|⟨u,v,hv,h,h1,h2⟩
  ·have hl:=Zej hij hj;rw[h] at hl;simp at hl;exact Zps (Nat.zero_le _) (show i=j by omega)
  obtain⟨hk,e1,e2⟩:=ZgE hij hj h;have hl:=Zej hij hj;rw[h,List.length_append] at hl;have hpos:=List.length_pos_iff.2 hv;exact .inr ⟨i+u.length,by omega,hk,ih (by omega) (by omega) (by omega) (by unfold memS;rw[← e1];exact h1),by unfold memS;rw[← e2];exact h2⟩
theorem ZqA {a:Ex} {w:List Nat} {i j:Nat} (hij:i≤j) (hj:j≤w.length):stR (memS a w) w.length i j↔memS (.star a) w i j :=
 ⟨Zit _ hij hj,Zpq _ hij hj (by omega)⟩
end Go.Proofs.YtfgpkadhegdffaaGreat
namespace Go.Proofs.YtfgpkadhegdffaaGreat
open Go.RowKit
variable {P:Program}
theorem Zbi {w:World} {b:Nat} {cs cs':Array Value} {T:TypeId} (h:Bx w b cs T) (hn:cs'.size=cs.size) (h1:∀ v∈cs'.toList,v.oneCell'=true):(storeCells ⟨b,0,none⟩ cs'.toList 0).run P w = .ok () (w.setRow b cs'):=by have:=run_storeCells_from (P:=P) b T cs'.toList 0 cs w h (by simpa using hn) h1;simpa using this
theorem St.setAll {w0 w:World} {L:List Ent} (h:St w0 w L) (i:Nat) {b:Nat} {cs:Array Value} {T:TypeId} (hx:L[i]? = some (Ent.box b cs T)) (cs':Array Value):St w0 (w.setRow b cs') (L.set i (Ent.box b cs' T)):=by have hb:Bx w b cs T:=(h.has i _ hx).1;have hb':Bx (w.setRow b cs') b cs' T:=setRow_heap w b cs cs' T (0,0) hb;exact h.turn i hx _ rfl rfl rfl (by simp[World.setRow]) (fun k _ hk=>setRow_other w b k cs' hk) hb' fun k hk=>by have hk:k=b:=hk;subst hk;exact⟨hb'.lt,Or.inl rfl⟩
theorem Zht {ops:Array Oper} {rest:List Oper} {op:Oper} {a:Act} {w:World} {Q:Exit→Act→World→Prop} (hgd:op.guard=none) (ty:TypeId) (x:Operand) (ho:op.op = .load ty x) (b:Nat) (hx:a.eval x = .pointer (some ⟨b,0,none⟩)) (T:TypeId) (cs:Array Value) (d:TypeDesc) (hb:Bx w b cs T)
  (hu:P.underlying ty=some d) (hd:d.isRow=true) (hi:(P.info? ty).map (·.size)=some cs.size) (h:wpList P ops Q rest (a.put op.dst (.agg cs)) w):wpList P ops Q (op::rest) a w:=by
 have hc:w.rangeAt b 0 cs.toList:=fun j v hv=>by rw[Nat.zero_add,hb.cell j];simpa using hv
 exact wpList_load_mid hgd ty x ho b 0 hx cs.toList d hc hu hd (by simpa using hi) (by simpa using h)
theorem Zgs {ops:Array Oper} {rest:List Oper} {op:Oper} {a:Act} {w:World} {Q:Exit→Act→World→Prop} (hgd:op.guard=none) (ty:TypeId) (x y:Operand) (ho:op.op = .store ty x y) (b:Nat) (T:TypeId) (cs cs':Array Value) (hx:a.eval x = .pointer (some ⟨b,0,none⟩)) (hy:a.eval y = .agg cs')
  (hb:Bx w b cs T) (hi:(P.info? ty).map (·.size)=some cs'.size) (hl:cs.size=cs'.size) (h1:∀ v∈cs'.toList,v.oneCell'=true) (h:wpList P ops Q rest (a.put op.dst undef) (w.setRow b cs')):wpList P ops Q (op::rest) a w :=
 wpList_plain hgd fun K hK=>by have hr:=run_storeVar_row (P:=P) w b T ty cs cs' hb hi hl (Array.all_eq_true_iff_forall_mem.2 fun v hv=>h1 v (by simpa using hv));unfold Oper.wp execOp;simp only[ho,hx,hy,Instr.storeAt,Instr.sureAddr,Sem.run_bind,Sem.run_pure,Result.andThen_ok,hr];exact hK _ _ h
theorem ZiE {fn:Func} {p:Tmp} {ty:TypeId} (h:fn.results=#[.cell p ty]) (tmps:Array Value) (P:Program) (w:World) :
  (results fn tmps).run P w=((asAddr (tmps.getD p undef)).run P w).andThen fun a w₁=>(loadVar ty a).run P w₁:=by
 simp only[results,h];simp[Sem.run_bind,Result.andThen]
theorem ZbV {fn:Func} {p:Tmp} {ty:TypeId} (h:fn.results=#[.cell p ty]) (tmps:Array Value) (P:Program) (w:World) (b:Nat) (T:TypeId) (cs:Array Value) (d:TypeDesc) (hp:tmps.getD p undef = .pointer (some ⟨b,0,none⟩)) (hb:Bx w b cs T) (hu:P.underlying ty=some d) (hd:d.isRow=true) (hi:(P.info? ty).map (·.size)=some cs.size) :
  (results fn tmps).run P w = .ok (.agg cs) w:=by
 rw[ZiE h,hp];have hl:(loadVar ty ⟨b,0,none⟩).run P w = .ok (.agg cs) w:=run_loadVar_row w b T ty cs (0,0) d hb hu (by cases d<;>simp_all [TypeDesc.isRow]) hi;simp[asAddr,Result.andThen,hl]
theorem ZkE {w:World} {B e size n cap m:Nat} {a:Option Addr} {cs:List Value} (h:w.ownsRow B e size (.slice a n cap) n cs) (hm:m≤n):w.ownsRow B e size (.slice a m cap) m (cs.take (m*size)):=by
 obtain⟨h1,h2⟩:=h;have hle:m*size≤n*size:=Nat.mul_le_mul_right size hm;refine⟨by rw[List.length_take,h1];omega,?_⟩;rcases h2 with⟨h3,h4⟩|⟨g,c,cur,h3,h4,h5,h6,h7,h8,h9⟩
 ·simp only[Value.slice.injEq] at h3;obtain⟨rfl,rfl,rfl⟩:=h3;obtain rfl:m=0:=by omega
  exact .inl ⟨rfl,rfl⟩
 simp only[Value.slice.injEq] at h3;obtain⟨rfl,-,rfl⟩:=h3;refine .inr ⟨g,cap,cur,rfl,h4,h5,by omega,h7,h8,?_⟩;rw[← h9,List.take_take,Nat.min_eq_left hle]
theorem St.cut {w0 w:World} {L:List Ent} (h:St w0 w L) (i:Nat) {e size n cap:Nat} {a:Option Addr} {cs:List Value} (hx:L[i]? = some (Ent.row e size (.slice a n cap) n cs)) (m:Nat) (hm:m≤n):St w0 w (L.set i (Ent.row e size (.slice a m cap) m (cs.take (m*size)))) :=
 h.same i hx _ (fun hb=>ZkE hb hm) fun k hk=>by
  cases a with
  | none=>cases hk
  | some a=>exact hk
theorem St.rangeR {w0 w:World} {L:List Ent} (h:St w0 w L) (i:Nat) {e size g n cap:Nat} {cs:List Value} (hx:L[i]? = some (Ent.row e size (.slice (some ⟨g,0,none⟩) n cap) n cs)) (o:Nat) (xs:List Value) (hxs:∀ k v,xs[k]? = some v→o+k<n*size∧cs[o+k]? = some v):w.rangeAt g o xs:=fun k v hv=>h.rcell i (o+k) hx (hxs k v hv).1 (hxs k v hv).2
theorem St.rangeB {w0 w:World} {L:List Ent} (h:St w0 w L) (i:Nat) {b:Nat} {cs:Array Value} {T:TypeId} (hx:L[i]? = some (Ent.box b cs T)):w.rangeAt b 0 cs.toList:=fun k v hv=>by rw[Nat.zero_add];exact h.cell i k hx (by simpa using hv)
theorem Zo9 {op:Oper} {a:Act} {w:World} {K:Act→World→Prop} {Q:Exit→Act→World→Prop} (ty:TypeId) (x:Operand) (ho:op.op = .load ty x) (b off:Nat) (hx:a.eval x = .pointer (some ⟨b,off,none⟩)) (cs:Array Value) (d:TypeDesc) (hc:w.rangeAt b off cs.toList)
  (hu:P.underlying ty=some d) (hd:d.isRow=true) (hi:(P.info? ty).map (·.size)=some cs.size) (h:K (a.put op.dst (.agg cs)) w):op.wp P a w K Q :=
 wp_load_mid ty x ho b off hx cs.toList d hc hu hd (by simpa using hi) (by simpa using h)
theorem Zfc {ops:Array Oper} {o:Oper} {a:Act} {w:World} {K:Act→World→Prop} {Q:Exit→Act→World→Prop} {E:Prop} (hgd:o.guard=none) (ty:TypeId) (x:Operand) (ho:o.op = .load ty x) (b off:Nat) (hx:a.eval x = .pointer (some ⟨b,off,none⟩)) (cs:Array Value) (d:TypeDesc) (hc:w.rangeAt b off cs.toList)
  (hu:P.underlying ty=some d) (hd:d.isRow=true) (hi:(P.info? ty).map (·.size)=some cs.size) (h:K (a.put o.dst (.agg cs)) w):if Region.wanted o (yielded ops a.tmps)=true then Oper.wp P o a w K Q else E:=by
 have hw:Region.wanted o (yielded ops a.tmps)=true:=by simp[Region.wanted,hgd]
 rw[if_pos hw];exact wp_load_mid ty x ho b off hx cs.toList d hc hu hd (by simpa using hi) (by simpa using h)
theorem Zkq {ops:Array Oper} {o:Oper} {a:Act} {w:World} {K:Act→World→Prop} {Q:Exit→Act→World→Prop} {E:Prop} (hgd:o.guard=none) (t e:TypeId) (x:Operand) (ho:o.op = .buildSlice t 1 #[(0,x)]) (cs:Array Value) (hx:a.eval x = .agg cs) (ie:TypeInfo) (z:Value) (s:Nat)
  (hu:P.underlying t=some (.slice e)) (hie:P.info? e=some ie) (hz:ie.zero=some z) (hs:ie.size=s) (hcs:cs.size=s) (h0:0<s) (hsm:s≤16777216) (h:K (a.put o.dst (.slice (some ⟨w.heap.size,0,none⟩) 1 1)) (w.alloc (.cells cs e))):if Region.wanted o (yielded ops a.tmps)=true then Oper.wp P o a w K Q else E:=by
 have hw:Region.wanted o (yielded ops a.tmps)=true:=by simp[Region.wanted,hgd]
 rw[if_pos hw];refine wp_buildSlice t e 1 _ ho cs ie z hu hie hz (by rw[hs];omega) (by rw[hs];omega) ?_ h;rw[hs];have hf:=Great.fill_whole h0 [.agg cs] ((Array.range (1*s)).map (z.cells[· % z.cells.size]!)) (by intro v hv;rw[List.mem_singleton] at hv;subst hv;exact hcs) (by simp);simpa [Value.cells,hx] using hf
theorem Zgx {ops:Array Oper} {o:Oper} {a:Act} {w:World} {K:Act→World→Prop} {Q:Exit→Act→World→Prop} {E:Prop} (hgd:o.guard=none) (ty:TypeId) (x y:Operand) (ho:o.op = .store ty x y) (b:Nat) (T:TypeId) (cs cs':Array Value) (hx:a.eval x = .pointer (some ⟨b,0,none⟩)) (hy:a.eval y = .agg cs')
  (hb:Bx w b cs T) (hi:(P.info? ty).map (·.size)=some cs'.size) (hl:cs.size=cs'.size) (h1:∀ v∈cs'.toList,v.oneCell'=true) (h:K (a.put o.dst undef) (w.setRow b cs')):if Region.wanted o (yielded ops a.tmps)=true then Oper.wp P o a w K Q else E:=by
 have hw:Region.wanted o (yielded ops a.tmps)=true:=by simp[Region.wanted,hgd]
 rw[if_pos hw];have hr:=run_storeVar_row (P:=P) w b T ty cs cs' hb hi hl (Array.all_eq_true_iff_forall_mem.2 fun v hv=>h1 v (by simpa using hv));unfold Oper.wp execOp;simp only[ho,hx,hy,Instr.storeAt,Instr.sureAddr,Sem.run_bind,Sem.run_pure,Result.andThen_ok,hr];exact h
def adj (v s:Nat):Nat:=v ||| 2 ^ s
theorem Zcq (v s t:Nat):(adj v s).testBit t=(v.testBit t||decide (s=t)):=by unfold adj;rw[Nat.testBit_or,Nat.testBit_two_pow]
theorem Zo5 {v s n:Nat} (hv:v<2 ^ n) (hs:s<n):adj v s<2 ^ n:=Nat.or_lt_two_pow hv (Nat.pow_lt_pow_right (by omega) hs)
def flags (n v:Nat):List Bool:=(List.range n).map v.testBit
theorem Zhg (n v:Nat):(flags n v).length=n:=by simp[flags]
theorem Zfv {n v s:Nat} (h:s<n):(flags n v).getD s false=v.testBit s:=by simp[flags,h]
theorem Zos {n v s:Nat}:flags n (adj v s)=(flags n v).set s true:=by
 apply List.ext_getElem
 ·simp[flags]
 intro i h1 h2;simp only[flags,List.getElem_map,List.getElem_range];rw[List.getElem_set,Zcq];by_cases h:s=i<;>simp[h]
theorem ZmB (n:Nat):flags n 0=List.replicate n false:=by
 apply List.ext_getElem
 ·simp[flags]
 intro i h1 h2;simp[flags]
theorem Zor {n u v:Nat} (hu:u<2 ^ n) (hv:v<2 ^ n) (h:flags n u=flags n v):u=v:=by
 apply Nat.eq_of_testBit_eq;intro i;by_cases hi:i<n
 ·rw[← Zfv (v:=u) hi,h,Zfv hi]
 rw[Nat.testBit_lt_two_pow (Nat.lt_of_lt_of_le hu (Nat.pow_le_pow_right (by omega) (by omega))),Nat.testBit_lt_two_pow (Nat.lt_of_lt_of_le hv (Nat.pow_le_pow_right (by omega) (by omega)))]
def setV (l:List Int):Nat:=l.foldl (fun v s=>adj v s.toNat) 0
theorem Zb8 {α β:Type} (f:β→α→β) (b:β) {l:List α} {k:Nat} (hk:k<l.length) (d:α):(l.take (k+1)).foldl f b=f ((l.take k).foldl f b) (l.getD k d):=by rw[List.take_succ_eq_append_getElem hk,List.foldl_append];simp[hk]
theorem Zb0 {α β:Type} (f:β→α→β) (Q:β→Prop) {l:List α} (hf:∀ b,∀ x∈l,Q b→Q (f b x)):∀ {b:β},Q b→Q (l.foldl f b):=by
 induction l with
 | nil=>intro b h;exact h
 | cons x l ih=>intro b h;exact ih (fun b y hy=>hf b y (by simp[hy])) (hf b x (by simp) h)
theorem Zc0 {α β:Type} (f:β→α→β) (Q:β→Prop) {l:List α} (hf:∀ b,∀ x∈l,Q b→Q (f b x)) {b:β} (h:Q b) (k:Nat):Q ((l.take k).foldl f b) :=
 Zb0 f Q (fun b x hx=>hf b x (List.mem_of_mem_take hx)) h
def inN (n:Nat) (l:List Int):Prop:=∀ s∈l,0≤s∧s<(n:Int)
theorem Zdk {n:Nat} {l:List Int} (h:inN n l):setV l<2 ^ n :=
 Zb0 _ (fun v=>v<2 ^ n) (fun v s hs hv=>Zo5 hv (by have:=h s hs;omega)) (Nat.two_pow_pos n)
def mvIn (n:Nat) (ms:List (Int × Int × Int)):Prop:=∀ m∈ms,(0≤m.1∧m.1<(n:Int))∧(0≤m.2.2∧m.2.2<(n:Int))
def Zaq (v:Nat) (m:Int × Int × Int):Nat:=if (decide (m.2.1 = -1)&&v.testBit m.1.toNat && !v.testBit m.2.2.toNat)=true then adj v m.2.2.toNat else v
def Zj6 (ms:List (Int × Int × Int)) (v:Nat):Nat:=ms.foldl Zaq v
def clIt (ms:List (Int × Int × Int)) (v:Nat):Nat→Nat
 | 0=>v
 | k+1=>Zj6 ms (clIt ms v k)
def clV (n:Nat) (ms:List (Int × Int × Int)) (v:Nat):Nat:=clIt ms v n
def ZaS (v:Nat) (c:Int) (u:Nat) (m:Int × Int × Int):Nat:=if (decide (m.2.1=c)&&v.testBit m.1.toNat)=true then adj u m.2.2.toNat else u
def stV (n:Nat) (ms:List (Int × Int × Int)) (v:Nat) (c:Int):Nat:=clV n ms (ms.foldl (ZaS v c) 0)
theorem Zhm {n:Nat} {ms:List (Int × Int × Int)} (h:mvIn n ms) {m:Int × Int × Int} (hm:m∈ms) {v:Nat} (hv:v<2 ^ n):Zaq v m<2 ^ n:=by
 unfold Zaq
 split
 ·exact Zo5 hv (by have:=(h m hm).2;omega)
 exact hv
theorem ZoP {n:Nat} {ms:List (Int × Int × Int)} (h:mvIn n ms) {v:Nat} (hv:v<2 ^ n):Zj6 ms v<2 ^ n:=Zb0 _ (fun v=>v<2 ^ n) (fun _ _ hm hv=>Zhm h hm hv) hv
theorem Zdw {n:Nat} {ms:List (Int × Int × Int)} (h:mvIn n ms) {v:Nat} (hv:v<2 ^ n):∀ k,clIt ms v k<2 ^ n
 | 0=>hv
 | k+1=>ZoP h (Zdw h hv k)
theorem ZcH {n:Nat} {ms:List (Int × Int × Int)} (h:mvIn n ms) {m:Int × Int × Int} (hm:m∈ms) {v u:Nat} {c:Int} (hu:u<2 ^ n):ZaS v c u m<2 ^ n:=by
 unfold ZaS
 split
 ·exact Zo5 hu (by have:=(h m hm).2;omega)
 exact hu
theorem Zna {n:Nat} {ms:List (Int × Int × Int)} (h:mvIn n ms) (v:Nat) (c:Int):stV n ms v c<2 ^ n :=
 Zdw h (Zb0 _ (fun v=>v<2 ^ n) (fun _ _ hm hv=>ZcH h hm hv) (Nat.two_pow_pos n)) n
def clr (n v:Nat):Nat:=((List.range n).filter fun i => !v.testBit i).length
theorem Zj0 {α:Type} {p q:α→Bool}:∀ {l:List α},(∀ x∈l,p x=true→q x=true)→(l.filter p).length≤(l.filter q).length
 | [],_=>by simp
 | x::l,h=>by
  have ih:=Zj0 (l:=l) fun y hy=>h y (by simp[hy])
  have hx:=h x (by simp);simp only[List.filter_cons];by_cases hp:p x=true
  ·rw[if_pos hp,if_pos (hx hp)];simp;omega
  rw[if_neg hp]
  split<;>simp<;>omega
theorem ZdT {α:Type} {p q:α→Bool} {a:α} (hp:p a=false) (hq:q a=true):∀ {l:List α},a∈l→(∀ x∈l,p x=true→q x=true)→(l.filter p).length<(l.filter q).length
 | [],h,_=>by simp at h
 | x::l,ha,h=>by
  have hle:=Zj0 (l:=l) fun y hy=>h y (by simp[hy])
  simp only[List.filter_cons];by_cases hx:a=x
  ·subst hx;rw[if_neg (by simp[hp]),if_pos hq];simp;omega
  have ih:=ZdT hp hq (l:=l) (by simpa [hx] using ha) fun y hy=>h y (by simp[hy])
  have hxx:=h x (by simp);by_cases hpx:p x=true
  ·rw[if_pos hpx,if_pos (hxx hpx)];simp;omega
  rw[if_neg hpx]
  split<;>simp<;>omega
theorem ZoL (n v:Nat):clr n v≤n:=by have:=List.length_filter_le (fun i => !v.testBit i) (List.range n);simpa [clr] using this
theorem Zq0 {n v s:Nat} (hs:s<n) (h:v.testBit s=false):clr n (adj v s)<clr n v:=by
 unfold clr;refine ZdT (a:=s) (by simp[Zcq]) (by simp[h]) (by simpa using hs) fun x _ hx => ?_
 rw[Zcq] at hx;simp at hx ⊢;exact hx.1
theorem Zfz {n:Nat} {m:Int × Int × Int} (hm:0≤m.2.2∧m.2.2<(n:Int)) (v:Nat):Zaq v m=v∨clr n (Zaq v m)<clr n v:=by
 unfold Zaq
 split
 ·rename_i h;simp only[Bool.and_eq_true,Bool.not_eq_true'] at h;exact .inr (Zq0 (by omega) h.2)
 exact .inl rfl
theorem Zdd {n:Nat}:∀ {ms:List (Int × Int × Int)},(∀ m∈ms,0≤m.2.2∧m.2.2<(n:Int))→∀ v,ms.foldl Zaq v=v∨clr n (ms.foldl Zaq v)<clr n v
 | [],_,v => .inl rfl
 | m::ms,h,v=>by
  have h1:=Zfz (h m (by simp)) v;have h2:=Zdd (ms:=ms) (fun m hm=>h m (by simp[hm])) (Zaq v m);simp only[List.foldl_cons];rcases h1 with h1|h1
  ·rw[h1] at h2 ⊢;exact h2
  rcases h2 with h2|h2
  ·rw[h2];exact .inr h1
  exact .inr (Nat.lt_trans h2 h1)
theorem Ze4 {ms:List (Int × Int × Int)} {v j:Nat} (h:clIt ms v (j+1)=clIt ms v j):∀ k,j≤k→clIt ms v k=clIt ms v j
 | 0,hk=>by obtain rfl:j=0:=by omega
            rfl
 | k+1,hk=>by
  by_cases e:j=k+1
  ·subst e;rfl
  have ih:=Ze4 h k (by omega);show Zj6 ms (clIt ms v k)=_;rw[ih];exact h
theorem Ze5 {n:Nat} {ms:List (Int × Int × Int)} (h:mvIn n ms) (v:Nat):∀ k,clIt ms v (k+1)=clIt ms v k∨clr n (clIt ms v (k+1))+(k+1)≤clr n v
 | 0=>by
  rcases Zdd (n:=n) (ms:=ms) (fun m hm=>(h m hm).2) v with e|e
  ·exact .inl e
  exact .inr (by show clr n (Zj6 ms v)+1≤_;exact e)
 | k+1=>by
  rcases Ze5 h v k with e|e
  ·left;have:=Ze4 e (k+1+1) (by omega);rw[this,e]
  rcases Zdd (n:=n) (ms:=ms) (fun m hm=>(h m hm).2) (clIt ms v (k+1)) with e2|e2
  ·exact .inl e2
  right;have:clr n (clIt ms v (k+1+1))<clr n (clIt ms v (k+1)):=e2;omega
theorem Zqv {n:Nat} {ms:List (Int × Int × Int)} (h:mvIn n ms) {v j:Nat} (hj:clIt ms v (j+1)=clIt ms v j):clV n ms v=clIt ms v j:=by
 unfold clV;by_cases hjn:j≤n
 ·exact Ze4 hj n hjn
 rcases Ze5 h v n with e|e
 ·exact(Ze4 e j (by omega)).symm
 have:=ZoL n v;omega
theorem ZfA {n:Nat} {ms:List (Int × Int × Int)} (h:mvIn n ms) {v k:Nat} (hk:clIt ms v (k+1)≠clIt ms v k):k<n:=by
 rcases Ze5 h v k with e|e
 ·exact absurd e hk
 have:=ZoL n v;omega
theorem Zj7 {n:Nat} {ms:List (Int × Int × Int)} (h:mvIn n ms) {v:Nat} {k:Nat} (hk:k<ms.length) (hne:Zaq ((ms.take k).foldl Zaq v) (ms.getD k (0,0,0))≠(ms.take k).foldl Zaq v):(ms.take (k+1)).foldl Zaq v≠v:=by
 have h1:=Zdd (n:=n) (ms:=ms.take k) (fun m hm=>(h m (List.mem_of_mem_take hm)).2) v;have hmem:ms.getD k (0,0,0)∈ms:=by rw[List.getD_eq_getElem?_getD,List.getElem?_eq_getElem hk];simp
 have h2:=Zfz (n:=n) (h _ hmem).2 ((ms.take k).foldl Zaq v);rw[Zb8 Zaq v hk (0,0,0)];intro e;rcases h2 with h2|h2
 ·exact hne h2
 rw[e] at h2;rcases h1 with h1|h1
 ·rw[h1] at h2;omega
 omega
theorem Zeh {n:Nat} {ms:List (Int × Int × Int)} (h:mvIn n ms) {v:Nat} {k:Nat} (hk:k<ms.length) (hne:(ms.take k).foldl Zaq v≠v):(ms.take (k+1)).foldl Zaq v≠v:=by
 have h1:=Zdd (n:=n) (ms:=ms.take k) (fun m hm=>(h m (List.mem_of_mem_take hm)).2) v;have hmem:ms.getD k (0,0,0)∈ms:=by rw[List.getD_eq_getElem?_getD,List.getElem?_eq_getElem hk];simp
 have h2:=Zfz (n:=n) (h _ hmem).2 ((ms.take k).foldl Zaq v);rw[Zb8 Zaq v hk (0,0,0)];rcases h1 with h1|h1
 ·exact absurd h1 hne
 rcases h2 with h2|h2
 ·rw[h2];exact hne
 intro e;rw[e] at h2;omega
end Go.Proofs.YtfgpkadhegdffaaGreat
namespace Go.Proofs.YtfgpkadhegdffaaGreat
open Go.RowKit
theorem offL {x p q:Bool} (h:x=true→p=true∧q=true) (hp:p=false):x=false:=by
 cases x with
 | false=>rfl
 | true=>rw[hp] at h;exact absurd (h rfl).1 (by decide)
theorem offR {x p q:Bool} (h:x=true→p=true∧q=true) (hq:q=false):x=false:=by
 cases x with
 | false=>rfl
 | true=>rw[hq] at h;exact absurd (h rfl).2 (by decide)
section
variable {P:Program} {ops:Array Oper} {Q:Exit→Act→World→Prop} {md:Region.Mode}
def unl (n:Nat) (listed:Array Bool):Nat:=((List.range n).filter fun i => !listed.getD i true).length
theorem Zqk (n:Nat) (listed:Array Bool):unl n listed≤n:=by unfold unl;have:=List.length_filter_le (fun i => !listed.getD i true) (List.range n);simpa using this
theorem ZmP {n i:Nat} {listed:Array Bool} (hi:i<n) (h:listed.getD i true=false):unl n (listed.setIfInBounds i true)<unl n listed:=by
 refine ZdT (a:=i) ?_ (by simp only[h];rfl) (List.mem_range.2 hi) fun x _ hx => ?_
 ·simp only[Bool.not_eq_false'];rcases Nat.lt_or_ge i listed.size with h1|h1
  ·simp[h1]
  simp[Array.getElem?_eq_none h1] at h
 by_cases hxi:i=x
 ·subst hxi;simp only[h];rfl
 simpa [hxi] using hx
theorem Zgt (Inv:Array Bool→Act→World→Prop) (hstep:∀ listed a w,Inv listed a w→∀ i∈Region.ready md ops listed,wpOp P ops Q i (Inv (listed.setIfInBounds i true)) a w)
  (hdone:∀ listed a w,Inv listed a w→Region.ready md ops listed=[]→Q .normal a w):∀ (fuel:Nat) (listed:Array Bool) (a:Act) (w:World),unl ops.size listed≤fuel→Inv listed a w→wpAny P md ops Q fuel listed a w
 | 0,listed,a,w,hf,h=>by
  have hr:Region.ready md ops listed=[]:=by
   refine List.eq_nil_iff_forall_not_mem.2 fun i hi => ?_
   obtain⟨hun,o,ho,-⟩:=mem_ready.1 hi;have:=ZmP (n:=ops.size) (Array.getElem?_eq_some_iff.1 ho).1 hun;omega
  exact⟨hr,hdone _ _ _ h hr⟩
 | fuel+1,listed,a,w,hf,h=>⟨fun h0=>hdone _ _ _ h h0,fun i hi=>wpOp_mono (fun a' w' h'=>Zgt Inv hstep hdone fuel _ a' w' (by obtain⟨hun,o,ho,-⟩:=mem_ready.1 hi;have:=ZmP (n:=ops.size) (Array.getElem?_eq_some_iff.1 ho).1 hun;omega) h') (hstep _ _ _ h i hi)⟩
theorem Zau (Inv:Act→Array Bool→Act→World→Prop) {a:Act} {w:World} (hstep:∀ listed b w,Inv a listed b w→∀ i∈Region.ready md ops listed,wpOp P ops Q i (Inv a (listed.setIfInBounds i true)) b w)
  (hdone:∀ listed b w,Inv a listed b w→Region.ready md ops listed=[]→Q .normal b w) (h0:Inv a (Array.replicate ops.size false) a w):wpAny P md ops Q ops.size (Array.replicate ops.size false) a w :=
 Zgt (Inv a) hstep hdone _ _ _ _ (Zqk _ _) h0
def ZlO (ops:Array Oper):Bool:=(List.range ops.size).all fun i=>match ops[i]? with
 | some o=>o.after.all fun e=>decide (e.on<i)
 | none=>true
theorem Zbx {listed:Array Bool} (hd:ZlO ops=true) (hs:listed.size=ops.size) (hr:Region.ready md ops listed=[]):∀ i,i<ops.size→listed.getD i true=true:=by
 intro i
 induction i using Nat.strongRecOn with
 | ind i ih =>
  intro hi;cases h:listed.getD i true with
  | true=>rfl
  | false =>
   exfalso
   have hmem:i∈Region.ready md ops listed:=by
    refine mem_ready.2 ⟨h,ops[i],by simp[hi],fun e he _ => ?_⟩;simp only[ZlO,List.all_eq_true,List.mem_range] at hd;have h1:=hd i hi;simp only[Array.getElem?_eq_getElem hi] at h1;have h2:e.on<i:=by have:=(Array.all_eq_true_iff_forall_mem.1 h1) e he;simpa using this
    have h3:=ih e.on h2 (by omega);have h4:e.on<listed.size:=by omega
    simpa [h4] using h3
   rw[hr] at hmem;cases hmem
end
end Go.Proofs.YtfgpkadhegdffaaGreat
namespace Go.Proofs.YtfgpkadhegdffaaGreat
open Go.RowKit
section
variable {ops:Array Oper} {md:Region.Mode}
def Zj5 (md:Region.Mode) (ops:Array Oper):Bool:=(List.range ops.size).all fun i=>match ops[i]? with
 | some o=>o.after.all fun e => !Region.binds md e||decide (e.on<i)
 | none=>true
theorem ZaU {listed:Array Bool} (hd:Zj5 md ops=true) (hs:listed.size=ops.size) (hr:Region.ready md ops listed=[]):∀ i,i<ops.size→listed.getD i true=true:=by
 intro i
 induction i using Nat.strongRecOn with
 | ind i ih =>
  intro hi;cases h:listed.getD i true with
  | true=>rfl
  | false =>
   exfalso
   have hmem:i∈Region.ready md ops listed:=by
    refine mem_ready.2 ⟨h,ops[i],by simp[hi],fun e he hbd => ?_⟩;simp only[Zj5,List.all_eq_true,List.mem_range] at hd;have h1:=hd i hi;simp only[Array.getElem?_eq_getElem hi] at h1;have h2:e.on<i:=by have:=(Array.all_eq_true_iff_forall_mem.1 h1) e he;rw[hbd] at this;simpa using this
    have h3:=ih e.on h2 (by omega);have h4:e.on<listed.size:=by omega
    simpa [h4] using h3
   rw[hr] at hmem;cases hmem
end
end Go.Proofs.YtfgpkadhegdffaaGreat
