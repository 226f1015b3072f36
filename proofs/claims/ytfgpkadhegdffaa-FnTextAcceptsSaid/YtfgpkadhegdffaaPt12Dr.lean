/-
  Texts of expressions, plain: the text of a tree; a reader of texts; it reads the text of a tree as that tree.
  No condition: this text speaks of no program.
-/
import Derived.Test.YtfgpkadhegdffaaPt05Nk
import Derived.Test.YtfgpkadhegdffaaPt09S9
set_option maxHeartbeats 1600000
set_option maxRecDepth 100000
namespace Go.Proofs.Ytfgpkadhegdffaa
def bnd:Ex→Nat
 | .alt _ _=>1
 | .both _ _=>2
 | .join _ _=>3
 | .neg _=>4
 | .star _=>5
 | _=>6
def brk (l:Nat) (a:Ex) (x:List Nat):List Nat:=if bnd a<l then 40::(x++[41]) else x
def prE:Ex→List Nat
 | .zero=>[48]
 | .one=>[49]
 | .ltr c=>[97+c.val]
 | .join a b=>brk 3 a (prE a)++brk 4 b (prE b)
 | .alt a b=>brk 1 a (prE a)++124::brk 2 b (prE b)
 | .both a b=>brk 2 a (prE a)++38::brk 3 b (prE b)
 | .neg a=>33::brk 4 a (prE a)
 | .star a=>brk 5 a (prE a)++[42]
def prB (l:Nat) (t:Ex):List Nat:=brk l t (prE t)
theorem Zej (t:Ex):1≤bnd t∧bnd t≤6:=by cases t<;>simp[bnd]
theorem Zbr {l:Nat} {t:Ex} (h:l≤bnd t):prB l t=prE t:=by unfold prB brk;rw[if_neg (by omega)]
theorem Zb7 {l:Nat} {t:Ex} (h:bnd t<l):prB l t=40::(prE t++[41]):=by unfold prB brk;rw[if_pos h]
theorem Zcy (t:Ex):prB 1 t=prE t:=Zbr (Zej t).1
theorem Zfs {l:Nat} {t:Ex} (h:bnd t≠l):prB l t=prB (l+1) t:=by
 by_cases hl:bnd t<l
 ·rw[Zb7 hl,Zb7 (by omega)]
 rw[Zbr (by omega),Zbr (by omega)]
def isSt (c:Nat):Prop:=c=48∨c=49∨c=97∨c=98∨c=99∨c=40∨c=33
theorem ZdP {l:Nat} {a:Ex} {x:List Nat} (h:∃ c r,x=c::r∧isSt c):∃ c r,brk l a x=c::r∧isSt c:=by
 unfold brk
 split
 ·exact⟨40,_,rfl,by simp[isSt]⟩
 exact h
theorem ZgU:∀ t:Ex,∃ c r,prE t=c::r∧isSt c:=by
 intro t
 induction t with
 | zero=>exact⟨48,[],rfl,by simp[isSt]⟩
 | one=>exact⟨49,[],rfl,by simp[isSt]⟩
 | ltr c =>refine⟨97+c.val,[],rfl,?_⟩;have:c.val<3:=c.isLt;unfold isSt;omega
 | neg a=>exact⟨33,_,rfl,by simp[isSt]⟩
 | join a b ha hb =>obtain⟨c,r,h,hc⟩:=ZdP (l:=3) (a:=a) ha;exact⟨c,r++brk 4 b (prE b),by simp[prE,h],hc⟩
 | alt a b ha hb =>obtain⟨c,r,h,hc⟩:=ZdP (l:=1) (a:=a) ha;exact⟨c,r++124::brk 2 b (prE b),by simp[prE,h],hc⟩
 | both a b ha hb =>obtain⟨c,r,h,hc⟩:=ZdP (l:=2) (a:=a) ha;exact⟨c,r++38::brk 3 b (prE b),by simp[prE,h],hc⟩
 | star a ha =>obtain⟨c,r,h,hc⟩:=ZdP (l:=5) (a:=a) ha;exact⟨c,r++[42],by simp[prE,h],hc⟩
theorem Zes (l:Nat) (t:Ex):∃ c r,prB l t=c::r∧isSt c:=ZdP (ZgU t)
def isTb (c:Nat):Prop:=isSt c∨c=41∨c=42∨c=38∨c=124
theorem Zcf {l:Nat} {a:Ex} {x:List Nat} (h:∀ c∈x,isTb c):∀ c∈brk l a x,isTb c:=by
 unfold brk
 split
 ·intro c hc;rcases List.mem_cons.1 hc with rfl|hc
  ·simp[isTb,isSt]
  rcases List.mem_append.1 hc with hc|hc
  ·exact h c hc
  rw[List.mem_singleton.1 hc];simp[isTb]
 exact h
theorem ZgT:∀ t:Ex,∀ c∈prE t,isTb c:=by
 intro t
 induction t with
 | zero=>intro c hc;rw[List.mem_singleton.1 hc];simp[isTb,isSt]
 | one=>intro c hc;rw[List.mem_singleton.1 hc];simp[isTb,isSt]
 | ltr k =>intro c hc;have:k.val<3:=k.isLt;rw[List.mem_singleton.1 hc];unfold isTb isSt;omega
 | neg a ha =>
  intro c hc;rcases List.mem_cons.1 hc with rfl|hc
  ·simp[isTb,isSt]
  exact Zcf ha c hc
 | star a ha =>
  intro c hc;rcases List.mem_append.1 hc with hc|hc
  ·exact Zcf ha c hc
  rw[List.mem_singleton.1 hc];simp[isTb]
 | join a b ha hb =>
  intro c hc;rcases List.mem_append.1 hc with hc|hc
  ·exact Zcf ha c hc
  exact Zcf hb c hc
 | alt a b ha hb =>
  intro c hc;rcases List.mem_append.1 hc with hc|hc
  ·exact Zcf ha c hc
  rcases List.mem_cons.1 hc with rfl|hc
  ·simp[isTb]
  exact Zcf hb c hc
 | both a b ha hb =>
  intro c hc;rcases List.mem_append.1 hc with hc|hc
  ·exact Zcf ha c hc
  rcases List.mem_cons.1 hc with rfl|hc
  ·simp[isTb]
  exact Zcf hb c hc
theorem ZgH {c:Nat} (h:isTb c):c<256:=by unfold isTb isSt at h;omega
theorem Zam (l:Nat) (a:Ex) (x:List Nat):(brk l a x).length≤x.length+2:=by
 unfold brk
 split
 ·simp
 omega
theorem Zau:∀ t:Ex,(prE t).length+1≤4*t.post.length:=by
 intro t
 induction t with
 | zero=>simp[prE,Ex.post]
 | one=>simp[prE,Ex.post]
 | ltr c=>simp[prE,Ex.post]
 | neg a ha=>have:=Zam 4 a (prE a);simp[prE,Ex.post];omega
 | star a ha=>have:=Zam 5 a (prE a);simp[prE,Ex.post];omega
 | join a b ha hb=>have:=Zam 3 a (prE a);have:=Zam 4 b (prE b);simp[prE,Ex.post];omega
 | alt a b ha hb=>have:=Zam 1 a (prE a);have:=Zam 2 b (prE b);simp[prE,Ex.post];omega
 | both a b ha hb=>have:=Zam 2 a (prE a);have:=Zam 3 b (prE b);simp[prE,Ex.post];omega
/-! The reader. -/
abbrev PS:Type:=List (Int × Int) × List Nat × Bool
def Zcb (c:Nat):Option (Int × Int):=if c=48 then some (1,0) else if c=49 then some (2,0) else if 97≤c∧c≤99 then some (3,(c:Int)-97) else none
def Zaw:List (Int × Int)→List Nat→List (Int × Int) × List Nat
 | e,[]=>(e,[])
 | e,c::r=>if c=42 then Zaw (e++[(8,0)]) r else(e,c::r)
def opK (l:Nat):Int:=if l=1 then 5 else if l=2 then 6 else 4
def Zb0 (jx:Nat→Bool) (l:Nat):List Nat→Option (List Nat)
 | []=>none
 | c::r=>if l=1∧c=124∨l=2∧c=38 then some r else if l=3∧jx c=true then some (c::r) else none
def Zan (rd:List Nat→PS) (jx:Nat→Bool) (l:Nat):Nat→List (Int × Int)→List Nat→Bool→PS
 | 0,e,r,_=>(e,r,true)
 | n+1,e,r,f=>if f=true then(e,r,true) else match Zb0 jx l r with
  | none=>(e,r,false)
  | some r1=>Zan rd jx l n (e++(rd r1).1++[(opK l,0)]) (rd r1).2.1 (rd r1).2.2
def brkP (x:PS):PS:=match x with
 | (e,c::r,false)=>if c=41 then(e,r,false) else([],c::r,true)
 | (_,r,_)=>([],r,true)
def ZcL (x:PS):PS:=if x.2.2=true then(x.1,x.2.1,true) else((Zaw x.1 x.2.1).1,(Zaw x.1 x.2.1).2,false)
def rdP (jx:Nat→Bool):Nat→Nat→List Nat→PS
 | 0,_,r=>([],r,true)
 | n+1,l,r =>
  if l=6 then match r with
   | []=>([],[],true)
   | c::r1=>match Zcb c with
    | some p=>([p],r1,false)
    | none=>if c=40 then brkP (rdP jx n 1 r1) else([],r1,true)
  else if l=5 then ZcL (rdP jx n 6 r)
  else if l=4 then match r with
   | []=>rdP jx n 5 []
   | c::r1=>if c=33 then((rdP jx n 4 r1).1++[(7,0)],(rdP jx n 4 r1).2) else rdP jx n 5 (c::r1)
  else Zan (rdP jx n (l+1)) jx l n (rdP jx n (l+1) r).1 (rdP jx n (l+1) r).2.1 (rdP jx n (l+1) r).2.2
def stopz (l:Nat) (z:List Nat):Prop:=∀ c r,z=c::r→(l≤5→c≠42)∧(l≤3→c=124∨c=38∨c=41)∧(l≤2→c≠38)∧(l≤1→c≠124)
theorem Zfb (l:Nat):stopz l []:=fun _ _ h=>by cases h
theorem Zen {l m:Nat} {z:List Nat} (h:stopz l z) (hm:l≤m):stopz m z:=fun c r e=>by obtain⟨h1,h2,h3,h4⟩:=h c r e;exact⟨fun x=>h1 (by omega),fun x=>h2 (by omega),fun x=>h3 (by omega),fun x=>h4 (by omega)⟩
theorem ZdW (l:Nat) (z:List Nat):stopz l (41::z):=fun c r e=>by cases e;exact⟨fun _=>by omega,fun _=>by omega,fun _=>by omega,fun _=>by omega⟩
def fuP (l:Nat) (r:List Nat):Nat:=8*r.length+8-l
theorem ZcU:∀ (k:Nat) (e:List (Int × Int)) (z:List Nat),stopz 5 z→Zaw e (List.replicate k 42++z)=(e++List.replicate k (8,0),z)
 | 0,e,[],_=>by simp[Zaw]
 | 0,e,c::z,h=>by have:=(h c z rfl).1 (by omega);simp[Zaw,this]
 | k+1,e,z,h=>by have ih:=ZcU k (e++[(8,0)]) z h;show Zaw e (42::(List.replicate k 42++z))=_;unfold Zaw;rw[if_pos rfl,ih,List.append_assoc];rfl
def ZbO (t:Ex):Nat→Ex
 | 0=>t
 | k+1 => .star (ZbO t k)
theorem ZcV:∀ t:Ex,∃ t0 k,t=ZbO t0 k∧bnd t0≠5:=by
 intro t
 induction t with
 | star a ha =>obtain⟨t0,k,h,h0⟩:=ha;exact⟨t0,k+1,by rw[h];rfl,h0⟩
 | _=>exact⟨_,0,rfl,by simp[bnd]⟩
theorem Zc7 (t0:Ex) (h:bnd t0≠5):∀ k,prB 5 (ZbO t0 k)=prB 6 t0++List.replicate k 42
 | 0=>by simp[ZbO,Zfs h]
 | k+1=>by have ih:=Zc7 t0 h k;show prB 5 (.star (ZbO t0 k))=_;rw[Zbr (Nat.le_refl 5)];show prB 5 (ZbO t0 k)++[42]=_;rw[ih,List.append_assoc,← List.replicate_succ']
theorem Zdw (t0:Ex):∀ k,(ZbO t0 k).post=t0.post++List.replicate k (8,0)
 | 0=>by simp[ZbO]
 | k+1=>by have ih:=Zdw t0 k;show(ZbO t0 k).post++[(8,0)]=_;rw[ih,List.append_assoc,← List.replicate_succ']
def sepP (l:Nat):List Nat:=if l=1 then [124] else if l=2 then [38] else []
def ZaD (l:Nat) (bs:List Ex):List Nat:=bs.flatMap fun b=>sepP l++prB (l+1) b
def ZdJ (l:Nat):List (Int × Int)→List Ex→List (Int × Int)
 | e,[]=>e
 | e,b::bs=>ZdJ l (e++b.post++[(opK l,0)]) bs
theorem Zc1 (l:Nat) (b:Ex):∀ (bs:List Ex) (e:List (Int × Int)),ZdJ l e (bs++[b])=ZdJ l e bs++b.post++[(opK l,0)]
 | [],_=>rfl
 | _::bs,_=>Zc1 l b bs _
theorem spine (l:Nat) (h1:1≤l) (h3:l≤3):∀ t:Ex,∃ t0 bs,prB l t=prB (l+1) t0++ZaD l bs∧t.post=ZdJ l t0.post bs:=by
 have base:∀ t:Ex,bnd t≠l→∃ t0 bs,prB l t=prB (l+1) t0++ZaD l bs∧t.post=ZdJ l t0.post bs:=fun t h=>⟨t,[],by simp[ZaD,Zfs h],rfl⟩
 have step:∀ (t a b:Ex),prB l t=prB l a++(sepP l++prB (l+1) b)→t.post=a.post++b.post++[(opK l,0)]→(∃ t0 bs,prB l a=prB (l+1) t0++ZaD l bs∧a.post=ZdJ l t0.post bs)→∃ t0 bs,prB l t=prB (l+1) t0++ZaD l bs∧t.post=ZdJ l t0.post bs:=fun t a b e1 e2 ⟨t0,bs,q1,q2⟩=>by
  refine⟨t0,bs++[b],?_,?_⟩
  ·rw[e1,q1];simp[ZaD,List.flatMap_append]
  rw[e2,q2,Zc1]
 intro t
 induction t with
 | join a b ha hb =>
  by_cases h:l=3
  ·subst h;exact step _ a b (by rw[Zbr (Nat.le_refl 3)];rfl) rfl ha
  exact base _ (by show 3≠l;omega)
 | alt a b ha hb =>
  by_cases h:l=1
  ·subst h;exact step _ a b (by rw[Zbr (Nat.le_refl 1)];rfl) rfl ha
  exact base _ (by show 1≠l;omega)
 | both a b ha hb =>
  by_cases h:l=2
  ·subst h;exact step _ a b (by rw[Zbr (Nat.le_refl 2)];rfl) rfl ha
  exact base _ (by show 2≠l;omega)
 | zero=>exact base _ (by show 6≠l;omega)
 | one=>exact base _ (by show 6≠l;omega)
 | ltr=>exact base _ (by show 6≠l;omega)
 | neg=>exact base _ (by show 4≠l;omega)
 | star=>exact base _ (by show 5≠l;omega)
theorem ZgI {c:Nat} (h:isSt c):c≠42∧c≠124∧c≠38∧c≠41:=by unfold isSt at h;omega
theorem Zdv {l:Nat} (h1:1≤l) (h3:l≤3) (bs:List Ex) {z:List Nat} (h:stopz l z):stopz (l+1) (ZaD l bs++z):=by
 cases bs with
 | nil=>exact Zen h (by omega)
 | cons b bs =>
  intro c r e;obtain⟨c0,r0,hb,hc0⟩:=Zes (l+1) b;obtain rfl|rfl|rfl:l=1∨l=2∨l=3:=by omega
  ·simp[ZaD,sepP] at e;obtain⟨rfl,-⟩:=e;exact⟨fun _=>by omega,fun _=>by omega,fun _=>by omega,fun _=>by omega⟩
  ·simp[ZaD,sepP] at e;obtain⟨rfl,-⟩:=e;exact⟨fun _=>by omega,fun _=>by omega,fun _=>by omega,fun _=>by omega⟩
  simp[ZaD,sepP,hb] at e;obtain⟨rfl,-⟩:=e;exact⟨fun _=>(ZgI hc0).1,fun _=>by omega,fun _=>by omega,fun _=>by omega⟩
theorem Zey {rd:List Nat→PS} {jx:Nat→Bool} (hj1:∀ c,isSt c→jx c=true) (hj2:∀ c,c=124∨c=38∨c=41→jx c=false) {l:Nat} (h1:1≤l) (h3:l≤3) {M:Nat} {z:List Nat} (hz:stopz l z)
  (hrd:∀ (b:Ex) (z':List Nat),stopz (l+1) z'→(prB (l+1) b++z').length≤M→rd (prB (l+1) b++z')=(b.post,z',false)):∀ (bs:List Ex) (e:List (Int × Int)) (k:Nat),(ZaD l bs++z).length≤M→(ZaD l bs++z).length+1≤k→Zan rd jx l k e (ZaD l bs++z) false=(ZdJ l e bs,z,false)
 | _,_,0,_,hk=>absurd hk (by omega)
 | [],e,k+1,_,_=>by
  show Zan rd jx l (k+1) e z false=_
  have hc:Zb0 jx l z=none:=by
   cases z with
   | nil=>rfl
   | cons c r =>
    obtain⟨q1,q2,q3,q4⟩:=hz c r rfl
    have n1:¬ (l=1∧c=124∨l=2∧c=38):=by
     rintro(⟨rfl,rfl⟩|⟨rfl,rfl⟩)
     ·exact q4 (by omega) rfl
     exact q3 (by omega) rfl
    show(if l=1∧c=124∨l=2∧c=38 then some r else if l=3∧jx c=true then some (c::r) else none)=none;rw[if_neg n1,if_neg];rintro⟨rfl,h⟩;rw[hj2 c (q2 (by omega))] at h;cases h
  unfold Zan;rw[if_neg (by simp),hc];rfl
 | b::bs,e,k+1,hM,hk=>by
  have hst:=Zdv h1 h3 bs hz;have hlen:(ZaD l (b::bs)++z).length=(sepP l).length+(prB (l+1) b++(ZaD l bs++z)).length:=by simp[ZaD]
  obtain⟨c0,r0,hb,hc0⟩:=Zes (l+1) b;have hpos:(prB (l+1) b++(ZaD l bs++z)).length=1+r0.length+(ZaD l bs++z).length:=by rw[hb];simp;omega
  have hc:Zb0 jx l (ZaD l (b::bs)++z)=some (prB (l+1) b++(ZaD l bs++z)):=by
   have e1:ZaD l (b::bs)++z=sepP l++(prB (l+1) b++(ZaD l bs++z)):=by simp[ZaD]
   rw[e1];obtain rfl|rfl|rfl:l=1∨l=2∨l=3:=by omega
   ·rfl
   ·rfl
   rw[hb];show Zb0 jx 3 (c0::(r0++(ZaD 3 bs++z)))=_;show(if 3=1∧c0=124∨3=2∧c0=38 then some (r0++(ZaD 3 bs++z)) else if 3=3∧jx c0=true then some (c0::(r0++(ZaD 3 bs++z))) else none)=_;rw[if_neg (by omega),if_pos ⟨rfl,hj1 c0 hc0⟩];rfl
  unfold Zan;rw[if_neg (by simp),hc];have hr:=hrd b (ZaD l bs++z) hst (by omega);simp only[hr];exact Zey hj1 hj2 h1 h3 hz hrd bs _ k (by omega) (by omega)
theorem Zgr {jx:Nat→Bool} (hj1:∀ c,isSt c→jx c=true) (hj2:∀ c,c=124∨c=38∨c=41→jx c=false):∀ (n l:Nat) (t:Ex) (z:List Nat),1≤l→l≤6→fuP l (prB l t++z)≤n→stopz l z→rdP jx n l (prB l t++z)=(t.post,z,false)
 | 0,l,t,z,_,h6,hn,_=>by unfold fuP at hn;omega
 | n+1,l,t,z,h1,h6,hn,hz=>by
  obtain⟨c0,r0,hb,hc0⟩:=Zes l t;have ih:=Zgr hj1 hj2 n;obtain rfl|rfl|rfl|hl:l=6∨l=5∨l=4∨l≤3:=by omega
  ·have inner:bnd t<6→rdP jx (n+1) 6 (prB 6 t++z)=(t.post,z,false):=fun h=>by rw[Zb7 h] at hn ⊢;have h2:=ih 1 t (41::z) (by omega) (by omega) (by unfold fuP at hn ⊢;rw[Zcy];simp at hn ⊢;omega) (ZdW 1 z);rw[Zcy] at h2;show rdP jx (n+1) 6 (40::(prE t++[41]++z))=_;unfold rdP;rw[if_pos rfl];simp only[List.append_assoc,List.cons_append,List.nil_append];rw[h2];rfl
   cases t with
   | zero=>rfl
   | one=>rfl
   | ltr c =>
    obtain⟨c,hc⟩:=c;obtain rfl|rfl|rfl:c=0∨c=1∨c=2:=by omega
    all_goals rfl
   | join a b=>exact inner (by simp[bnd])
   | alt a b=>exact inner (by simp[bnd])
   | both a b=>exact inner (by simp[bnd])
   | neg a=>exact inner (by simp[bnd])
   | star a=>exact inner (by simp[bnd])
  ·obtain⟨t0,k,ht,h0⟩:=ZcV t;have hp:=Zc7 t0 h0 k;rw[← ht] at hp;have hq:prB 5 t++z=prB 6 t0++(List.replicate k 42++z):=by rw[hp,List.append_assoc]
   have h2:=ih 6 t0 (List.replicate k 42++z) (by omega) (by omega) (by rw[← hq];unfold fuP at hn ⊢;omega) (fun c r _=>⟨fun h=>by omega,fun h=>by omega,fun h=>by omega,fun h=>by omega⟩);rw[hq];unfold rdP;rw[if_neg (by omega),if_pos rfl,h2];show((Zaw t0.post (List.replicate k 42++z)).1,(Zaw t0.post (List.replicate k 42++z)).2,false)=_;rw[ZcU k t0.post z hz,ht,Zdw]
  ·by_cases h4:bnd t=4
   ·cases t with
    | neg a =>
     have e1:prB 4 (.neg a)++z=33::(prB 4 a++z):=by rw[Zbr (Nat.le_refl 4)];rfl
     rw[e1] at hn ⊢;have h2:=ih 4 a z (by omega) (by omega) (by unfold fuP at hn ⊢;simp at hn ⊢;omega) hz;unfold rdP;rw[if_neg (by omega),if_neg (by omega),if_pos rfl];simp only[↓reduceIte,h2];rfl
    | _=>simp[bnd] at h4
   have e1:prB 4 t=prB 5 t:=Zfs h4
   have hne:c0≠33:=fun e=>by
    subst e;by_cases hlt:bnd t<4
    ·rw[Zb7 hlt] at hb;cases hb
    rw[Zbr (by omega)] at hb;cases t with
    | zero=>cases hb
    | one=>cases hb
    | ltr c =>simp[prE] at hb;omega
    | neg a=>exact h4 rfl
    | join a b=>simp[bnd] at hlt
    | alt a b=>simp[bnd] at hlt
    | both a b=>simp[bnd] at hlt
    | star a =>
     obtain⟨t0,k,ht,h0⟩:=ZcV (.star a);have hp:=Zc7 t0 h0 k;rw[← ht,Zbr (Nat.le_refl 5),hb] at hp
     have h5:bnd t0≠4∨prB 6 t0=40::(prE t0++[41]):=by
      by_cases h:bnd t0=4
      ·exact .inr (Zb7 (by omega))
      exact .inl h
     rcases h5 with h5|h5
     ·by_cases h6':bnd t0<6
      ·rw[Zb7 h6'] at hp;cases hp
      rw[Zbr (by omega)] at hp;cases t0 with
      | zero=>cases hp
      | one=>cases hp
      | ltr c =>simp[prE] at hp;omega
      | _=>simp[bnd] at h6'
     rw[h5] at hp;cases hp
   have h2:=ih 5 t z (by omega) (by omega) (by unfold fuP at hn ⊢;rw[e1] at hn;omega) (Zen hz (by omega));rw[← e1] at h2;rw[hb] at h2 ⊢;show rdP jx (n+1) 4 (c0::(r0++z))=_;unfold rdP;rw[if_neg (by omega),if_neg (by omega),if_pos rfl];simp only[hne,↓reduceIte];exact h2
  obtain⟨t0,bs,q1,q2⟩:=spine l h1 hl t;have hq:prB l t++z=prB (l+1) t0++(ZaD l bs++z):=by rw[q1,List.append_assoc]
  have hst:=Zdv h1 hl bs hz;have h2:=ih (l+1) t0 (ZaD l bs++z) (by omega) (by omega) (by rw[← hq];unfold fuP at hn ⊢;omega) hst;rw[hq] at hn ⊢;unfold rdP;rw[if_neg (by omega),if_neg (by omega),if_neg (by omega),h2];obtain⟨c1,r1,hb1,-⟩:=Zes (l+1) t0;have hlt:(ZaD l bs++z).length+1≤(prB (l+1) t0++(ZaD l bs++z)).length:=by rw[hb1];simp
  rw[q2];refine Zey hj1 hj2 h1 hl (M:=(prB (l+1) t0++(ZaD l bs++z)).length) hz (fun b z' hz' hM=>ih (l+1) b z' (by omega) (by omega) ?_ hz') bs t0.post n (by omega) ?_
  ·unfold fuP at hn ⊢;omega
  unfold fuP at hn;omega
theorem Zcr:∀ (r:List Nat) (e:List (Int × Int)),(Zaw e r).2.length≤r.length
 | [],_=>Nat.le_refl _
 | c::r,e=>by
  unfold Zaw
  split
  ·have:=Zcr r (e++[(8,0)]);simp;omega
  exact Nat.le_refl _
def Zg3 (p:Int × Int) (st:List Ex):Option (List Ex) :=
 if p.1=1 then some (.zero::st) else if p.1=2 then some (.one::st) else if p.1=3 then some (.ltr (Fin.ofNat 3 p.2.toNat)::st)
 else if p.1=7 then(match st with|a::st=>some (.neg a::st)|[]=>none)
 else if p.1=8 then(match st with|a::st=>some (.star a::st)|[]=>none)
 else match st with
  | b::a::st=>if p.1=4 then some (.join a b::st) else if p.1=5 then some (.alt a b::st) else some (.both a b::st)
  | _=>none
def Zb1:List (Int × Int)→List Ex→Option (List Ex)
 | [],st=>some st
 | p::r,st=>(Zg3 p st).bind (Zb1 r)
theorem ZeV:∀ (t:Ex) (r:List (Int × Int)) (st:List Ex),Zb1 (t.post++r) st=Zb1 r (t::st):=by
 intro t
 induction t with
 | zero=>intro r st;rfl
 | one=>intro r st;rfl
 | ltr c =>
  intro r st;obtain⟨c,hc⟩:=c;obtain rfl|rfl|rfl:c=0∨c=1∨c=2:=by omega
  all_goals rfl
 | neg a ha=>intro r st;show Zb1 (a.post++[(7,0)]++r) st=_;rw[List.append_assoc,ha];rfl
 | star a ha=>intro r st;show Zb1 (a.post++[(8,0)]++r) st=_;rw[List.append_assoc,ha];rfl
 | join a b ha hb=>intro r st;show Zb1 (a.post++b.post++[(4,0)]++r) st=_;rw[List.append_assoc,List.append_assoc,ha,hb];rfl
 | alt a b ha hb=>intro r st;show Zb1 (a.post++b.post++[(5,0)]++r) st=_;rw[List.append_assoc,List.append_assoc,ha,hb];rfl
 | both a b ha hb=>intro r st;show Zb1 (a.post++b.post++[(6,0)]++r) st=_;rw[List.append_assoc,List.append_assoc,ha,hb];rfl
def Ze3 (e:List (Int × Int)):Option Ex:=match Zb1 e [] with
 | some [t]=>some t
 | _=>none
theorem ZdT (t:Ex):Ze3 t.post=some t:=by have:=ZeV t [] [];rw[List.append_nil] at this;unfold Ze3;rw[this];rfl
def ZbL (e:List (Int × Int)):List Nat:=if exOk e=true then(match Ze3 e with|some t=>prE t|none=>[]) else []
theorem Zck {e:List (Int × Int)} (h:exOk e=false):ZbL e=[]:=by unfold ZbL;rw[if_neg (by rw[h];simp)]
theorem Zb2 {t:Ex} (h:t.post.length≤60):ZbL t.post=prE t:=by unfold ZbL;rw[if_pos (Zaz t h),ZdT]
theorem Zcj {e:List (Int × Int)} (h:exOk e=true):∃ t:Ex,t.post=e∧e.length≤60∧ZbL e=prE t:=by obtain⟨t,rfl⟩:=parse h;have hl:=(ZaP h).2.2.2;exact⟨t,rfl,by omega,Zb2 (by omega)⟩
theorem Zem (e:List (Int × Int)):(∀ c∈ZbL e,isTb c)∧(ZbL e).length≤240:=by
 cases h:exOk e
 ·rw[Zck h];simp
 obtain⟨t,rfl,hl,ht⟩:=Zcj h;rw[ht];have:=Zau t;exact⟨ZgT t,by omega⟩
def jI (c:Nat):Bool:=decide (c=48)||decide (c=49)||decide (c=97)||decide (c=98)||decide (c=99)||decide (c=40)||decide (c=33)
def jS (c:Nat):Bool:=!(decide (c=124)||decide (c=38)||decide (c=41)||decide (c=42))
theorem Zgu:(∀ c,isSt c→jI c=true)∧∀ c,c=124∨c=38∨c=41→jI c=false:=by
 constructor
 ·rintro c (rfl|rfl|rfl|rfl|rfl|rfl|rfl)<;>decide
 rintro c (rfl|rfl|rfl)<;>decide
theorem ZgX:(∀ c,isSt c→jS c=true)∧∀ c,c=124∨c=38∨c=41→jS c=false:=by
 constructor
 ·rintro c (rfl|rfl|rfl|rfl|rfl|rfl|rfl)<;>decide
 rintro c (rfl|rfl|rfl)<;>decide
def yesR (x:PS) (s:List Nat):Prop:=x.2.2=false∧x.2.1=[]∧ZbL x.1=s
instance (x:PS) (s:List Nat):Decidable (yesR x s):=by unfold yesR;infer_instance
def ZaZ (s:List Nat):Option (List (Int × Int)):=if s.length≤120∧yesR (rdP jI (fuP 1 s) 1 s) s then some (rdP jI (fuP 1 s) 1 s).1 else none
theorem Zfm (jx:Nat→Bool):∀ (n l:Nat),1≤l→l≤6→(rdP jx n l []).2.2=true
 | 0,_,_,_=>rfl
 | n+1,l,h1,h6=>by
  have ih:=Zfm jx n;unfold rdP
  split
  ·rfl
  split
  ·show(ZcL (rdP jx n 6 [])).2.2=true;unfold ZcL;rw[if_pos (ih 6 (by omega) (by omega))]
  split
  ·exact ih 5 (by omega) (by omega)
  have:=ih (l+1) (by omega) (by omega);rw[this];cases n with
  | zero=>rfl
  | succ n=>rfl
theorem Zdn {jx:Nat→Bool} {n:Nat} {s:List Nat} (h:yesR (rdP jx n 1 s) s):∃ t:Ex,(rdP jx n 1 s).1=t.post∧prE t=s∧t.post.length≤60:=by
 obtain⟨h1,-,h3⟩:=h;cases he:exOk (rdP jx n 1 s).1
 ·rw[Zck he] at h3;subst h3;rw[Zfm jx n 1 (by omega) (by omega)] at h1;cases h1
 obtain⟨t,e1,e2,e3⟩:=Zcj he;exact⟨t,e1.symm,by rw[← e3];exact h3,by rw[e1];exact e2⟩
theorem Zfl {jx:Nat→Bool} (hj:(∀ c,isSt c→jx c=true)∧∀ c,c=124∨c=38∨c=41→jx c=false) {n:Nat} {t:Ex} (hn:fuP 1 (prE t)≤n):rdP jx n 1 (prE t)=(t.post,[],false):=by
 have h:=Zgr hj.1 hj.2 n 1 t [] (by omega) (by omega) (by rw[List.append_nil,Zcy];exact hn) (Zfb 1)
 rwa [List.append_nil,Zcy] at h
theorem Zge {t:Ex} (h:t.post.length≤60) (hl:(prE t).length≤120):ZaZ (prE t)=some t.post:=by have h1:=Zfl Zgu (Nat.le_refl (fuP 1 (prE t)));unfold ZaZ;rw[h1,if_pos ⟨hl,rfl,rfl,Zb2 h⟩]
theorem ZcX {s:List Nat} {e:List (Int × Int)} (h:ZaZ s=some e):∃ t:Ex,e=t.post∧prE t=s∧t.post.length≤60∧s.length≤120:=by
 unfold ZaZ at h
 split at h
 ·rename_i hc;obtain⟨t,e1,e2,e3⟩:=Zdn hc.2;exact⟨t,by rw[← Option.some.inj h,e1],e2,e3,hc.1⟩
 cases h
theorem Zer {jx:Nat→Bool} (hj:(∀ c,isSt c→jx c=true)∧∀ c,c=124∨c=38∨c=41→jx c=false) {n:Nat} {s:List Nat} (hn:fuP 1 s≤n) (hl:s.length≤120):ZaZ s=if yesR (rdP jx n 1 s) s then some (rdP jx n 1 s).1 else none:=by
 split
 ·rename_i h;obtain⟨t,e1,e2,e3⟩:=Zdn h;rw[e1,← e2];exact Zge e3 (by rw[e2];exact hl)
 rename_i h;cases hr:ZaZ s with
 | none=>rfl
 | some e =>obtain⟨t,e1,e2,e3,-⟩:=ZcX hr;subst e2;exact absurd (by rw[Zfl hj hn];exact⟨rfl,rfl,Zb2 e3⟩) h
theorem ZcY {s:List Nat} (h:120<s.length):ZaZ s=none:=by unfold ZaZ;rw[if_neg (by omega)]
/-! How much is read. -/
def meas (R:Nat) (x:PS):Prop:=x.2.1.length≤R∧x.1.length≤2*R∧(x.2.2=false→x.2.1.length<R∧x.1.length+1≤2*(R-x.2.1.length))
theorem Zb4:∀ (r:List Nat) (e:List (Int × Int)),(Zaw e r).1.length+(Zaw e r).2.length=e.length+r.length
 | [],_=>rfl
 | c::r,e=>by
  unfold Zaw
  split
  ·have:=Zb4 r (e++[(8,0)]);simp at this ⊢;omega
  rfl
theorem Zgo {jx:Nat→Bool} {l:Nat} {r r1:List Nat} (h:Zb0 jx l r=some r1):r1.length≤r.length:=by
 cases r with
 | nil=>cases h
 | cons c r =>
  have h2:(if l=1∧c=124∨l=2∧c=38 then some r else if l=3∧jx c=true then some (c::r) else none)=some r1:=h
  split at h2
  ·rw[← Option.some.inj h2];simp
  split at h2
  ·rw[← Option.some.inj h2];exact Nat.le_refl _
  cases h2
theorem ZfE {rd:List Nat→PS} {jx:Nat→Bool} {l R:Nat} (hrd:∀ r:List Nat,r.length≤R→meas r.length (rd r)):∀ (n:Nat) (e:List (Int × Int)) (r:List Nat) (f:Bool),meas R (e,r,f)→meas R (Zan rd jx l n e r f)
 | 0,e,r,f,h=>⟨h.1,h.2.1,fun h2=>by cases h2⟩
 | n+1,e,r,f,h=>by
  unfold Zan
  split
  ·exact⟨h.1,h.2.1,fun h2=>by cases h2⟩
  rename_i hf;have hf:f=false:=by simpa using hf
  subst hf
  split
  ·exact h
  rename_i r1 hc;have h1:=Zgo hc;obtain⟨a1,a2,a3⟩:=h;obtain⟨a4,a5⟩:=a3 rfl;simp only at a1 a2 a4 a5;obtain⟨b1,b2,b3⟩:=hrd r1 (by omega);refine ZfE hrd n _ _ _ ⟨by simp only;omega,by simp only[List.length_append,List.length_singleton];omega,fun h2 => ?_⟩;obtain⟨b4,b5⟩:=b3 h2;simp only[List.length_append,List.length_singleton];omega
theorem Zbk (jx:Nat→Bool):∀ (n l:Nat) (r:List Nat),meas r.length (rdP jx n l r)
 | 0,l,r=>⟨Nat.le_refl _,Nat.zero_le _,fun h=>by cases h⟩
 | n+1,l,r=>by
  have ih:=Zbk jx n;unfold rdP
  split
  ·cases r with
   | nil=>exact⟨Nat.le_refl _,Nat.zero_le _,fun h=>by cases h⟩
   | cons c r1 =>
    simp only;cases ha:Zcb c with
    | some p=>exact⟨by simp,by simp;omega,fun _=>by simp⟩
    | none =>
     simp only
     split
     ·obtain⟨b1,b2,b3⟩:=ih 1 r1;obtain⟨x,hx⟩:=eJ (rdP jx n 1 r1);rw[hx] at b1 b2 b3 ⊢;obtain⟨e,r2,f⟩:=x;cases f with
      | true =>
       cases r2 with
       | nil=>exact⟨by simp[brkP],by simp[brkP],fun h=>by cases h⟩
       | cons c2 r2=>exact⟨by simp[brkP] at b1 ⊢;omega,by simp[brkP],fun h=>by cases h⟩
      | false =>
       cases r2 with
       | nil=>exact⟨by simp[brkP],by simp[brkP],fun h=>by cases h⟩
       | cons c2 r2 =>
        obtain⟨b4,b5⟩:=b3 rfl;simp only[List.length_cons] at b1 b2 b4 b5;show meas _ (if c2=41 then(e,r2,false) else([],c2::r2,true))
        split
        ·exact⟨by simp only[List.length_cons];omega,by simp only[List.length_cons];omega,fun _=>by simp only[List.length_cons];omega⟩
        exact⟨by simp only[List.length_cons];omega,by simp,fun h=>by cases h⟩
     exact⟨by simp,by simp,fun h=>by cases h⟩
  split
  ·obtain⟨b1,b2,b3⟩:=ih 6 r;obtain⟨x,hx⟩:=eJ (rdP jx n 6 r);rw[hx] at b1 b2 b3 ⊢;obtain⟨e,r2,f⟩:=x;unfold ZcL;cases f with
   | true=>exact⟨b1,b2,fun h=>by cases h⟩
   | false =>obtain⟨b4,b5⟩:=b3 rfl;have h1:=Zb4 r2 e;have h2:=Zcr r2 e;simp only at b1 b2 b4 b5;exact⟨by simp;omega,by simp;omega,fun _=>by simp;omega⟩
  split
  ·cases r with
   | nil=>exact ih 5 []
   | cons c r1 =>
    simp only
    split
    ·obtain⟨b1,b2,b3⟩:=ih 4 r1;refine⟨by simp;omega,by simp;omega,fun h => ?_⟩;obtain⟨b4,b5⟩:=b3 h;simp;omega
    exact ih 5 (c::r1)
  exact ZfE (fun r1 _=>ih (l+1) r1) n _ _ _ (ih (l+1) r)
/-! What is left is an end of what was there. -/
theorem ZcT:∀ (r:List Nat) (e:List (Int × Int)),(Zaw e r).2 <:+ r
 | [],_=>List.suffix_refl _
 | c::r,e=>by
  unfold Zaw
  split
  ·exact(ZcT r _).trans (List.suffix_cons c r)
  exact List.suffix_refl _
theorem ZfO {jx:Nat→Bool} {l:Nat} {r r1:List Nat} (h:Zb0 jx l r=some r1):r1 <:+ r:=by
 cases r with
 | nil=>cases h
 | cons c r =>
  have h2:(if l=1∧c=124∨l=2∧c=38 then some r else if l=3∧jx c=true then some (c::r) else none)=some r1:=h
  split at h2
  ·rw[← Option.some.inj h2];exact List.suffix_cons c r
  split at h2
  ·rw[← Option.some.inj h2];exact List.suffix_refl _
  cases h2
theorem Zex {rd:List Nat→PS} {jx:Nat→Bool} {l:Nat} (hrd:∀ r:List Nat,(rd r).2.1 <:+ r):∀ (n:Nat) (e:List (Int × Int)) (r:List Nat) (f:Bool),(Zan rd jx l n e r f).2.1 <:+ r
 | 0,_,_,_=>List.suffix_refl _
 | n+1,e,r,f=>by
  unfold Zan
  split
  ·exact List.suffix_refl _
  split
  ·exact List.suffix_refl _
  rename_i r1 hc;exact(Zex hrd n _ _ _).trans ((hrd r1).trans (ZfO hc))
theorem Zgp (x:PS):(brkP x).2.1 <:+ x.2.1:=by
 obtain⟨e,r,f⟩:=x;cases f with
 | true=>cases r<;>exact List.suffix_refl _
 | false =>
  cases r with
  | nil=>exact List.suffix_refl _
  | cons c r =>
   show(if c=41 then((e,r,false):PS) else([],c::r,true)).2.1 <:+ c::r
   split
   ·exact List.suffix_cons c r
   exact List.suffix_refl _
theorem ZbA (jx:Nat→Bool):∀ (n l:Nat) (r:List Nat),(rdP jx n l r).2.1 <:+ r
 | 0,_,_=>List.suffix_refl _
 | n+1,l,r=>by
  have ih:=ZbA jx n;unfold rdP
  split
  ·cases r with
   | nil=>exact List.suffix_refl _
   | cons c r1 =>
    simp only;cases ha:Zcb c with
    | some p=>exact List.suffix_cons c r1
    | none =>
     simp only
     split
     ·exact((Zgp _).trans (ih 1 r1)).trans (List.suffix_cons c r1)
     exact List.suffix_cons c r1
  split
  ·show(ZcL (rdP jx n 6 r)).2.1 <:+ r;unfold ZcL
   split
   ·exact ih 6 r
   exact(ZcT _ _).trans (ih 6 r)
  split
  ·cases r with
   | nil=>exact ih 5 []
   | cons c r1 =>
    simp only
    split
    ·exact(ih 4 r1).trans (List.suffix_cons c r1)
    exact ih 5 (c::r1)
  exact(Zex (ih (l+1)) n _ _ _).trans (ih (l+1) r)
theorem Zf7 {r s:List Nat} (h:r <:+ s):r=s.drop (s.length-r.length):=by obtain⟨t,rfl⟩:=h;rw[List.length_append,Nat.add_sub_cancel,List.drop_left]
end Go.Proofs.Ytfgpkadhegdffaa
namespace Go.Proofs.Ytfgpkadhegdffaa
open Go.RowKit
theorem Ze0 (l:List Nat) (k:Nat):(txB l).extract k (txB l).size=txB (l.drop k):=by apply ByteArray.ext;rw[Zah];simp only[txB,ByteArray.data_extract,List.map_drop,List.extract_toArray,List.extract_eq_take_drop];rw[List.take_of_length_le (by simp)]
theorem ZfN (s:List Nat) (k:Nat) (j:Int) (hj:j=(k:Int)) (hk:k≤s.length):∀ w':World,(Instr.slice 9 (.string (txB s)) (some (.int .i64 j)) none none).run Try.prog w' = .ok (.string (txB (s.drop k))) w':=fun w'=>by subst hj;rw[run_slice_string_l w' 9 (txB s) Try.underlying9 .i64 k (by omega) (by rw[Zah];omega),Int.toNat_natCast,Ze0]
theorem Zbw (l:List Nat):(txB l).toList.isEmpty=l.isEmpty:=by rw[ByteArray.toList_eq];cases l<;>rfl
theorem Zcv (s:ByteArray) (c:Int) (w:World) :
  Calls Try.prog 123 #[.string s,.int .u8 c] w fun e w'=>e = .returned (.int .i64 (Lib.indexByte s.data.toList c.toNat.toUInt8))∧w=w':=by
 go_enter Try.func123, Try.ntmps123
 go_wp2;rw[run_callFunc_extern Try.func138 (by kernel_rfl) (by kernel_rfl) (by kernel_rfl) (e:=Extern.BytealgIndexByte.indexByte) (by kernel_rfl),Lib.run_indexByteString];simp only[Result.andThen];rw[Oper.upon_value];go_wp2;go_ret;exact⟨rfl,rfl⟩
theorem ZbX (s:ByteArray) (c:Int) (w:World) (r:Int) (hr:Lib.indexByte s.data.toList c.toNat.toUInt8=r) :
  Calls Try.prog 96 #[.string s,.int .u8 c] w fun e w'=>e = .returned (.int .i64 r)∧w=w':=by
 subst hr
 go_enter Try.func96, Try.ntmps96
 go_wp2_with (go_at_call 123;refine(Zcv _ _ _).mono ?_;rintro e w' ⟨rfl,rfl⟩);go_ret;exact⟨rfl,rfl⟩
theorem ZgG {c:Nat} (hc:c<256):(0≤Lib.indexByte [48,49,97,98,99,40,33] ((c:Int).toNat.toUInt8))↔jI c=true:=by
 have h:∀ k:Fin 256,(0≤Lib.indexByte [48,49,97,98,99,40,33] (k.val.toUInt8))↔jI k.val=true:=by decide
 simpa using h ⟨c,hc⟩
def ZgW (r:List Nat) (f:Bool):Nat:=if f=true then 0 else r.headD 0
theorem Zai (r:List Nat) (f:Bool) (b:Nat) (w:World) (ht:isT r) (h0:w.cell? ⟨b,0,none⟩=some (.string (txB r))) (h1:w.cell? ⟨b,1,none⟩=some (.bool f)) (c:Nat) (hc:ZgW r f=c) :
  Calls Try.prog 94 #[.pointer (some ⟨b,0,none⟩)] w fun e w'=>e = .returned (.int .u8 (c:Int))∧w=w':=by
 subst hc;cases f with
 | true =>
  go_enter Try.func94, Try.ntmps94
  go_wp2;go_ret;exact⟨rfl,rfl⟩
 | false =>
  have he:=Zbw r;cases r with
  | nil =>
   simp only[List.isEmpty_nil] at he
   go_enter Try.func94, Try.ntmps94
   go_wp2;go_ret;exact⟨rfl,rfl⟩
  | cons x r =>
   simp only[List.isEmpty_cons] at he;have hix:=fun u=>Zat (l:=x::r) (i:=0) (by simp) ht u
   simp only[List.getD_cons_zero,Int.ofNat_zero] at hix;obtain⟨s,hs⟩:=eJ (txB (x::r));rw[hs] at he hix h0;replace hs:=qh hs
   go_enter Try.func94, Try.ntmps94
   go_wp2;go_ret;exact⟨rfl,rfl⟩
def Qs (lo:Nat) (w:World) (e:TypeId) (v:Value) (xs:List Value):Prop :=
 ∃ g off cap cur,v = .slice (some ⟨g,off,none⟩) xs.length cap∧lo≤g∧w.heap[g]? = some (.cells cur e (0,0))∧xs.length≤cap∧cap≤maxLen∧off+cap≤cur.size∧∀ j,j<xs.length→cur[off+j]? = xs[j]?
theorem Qs.obj {lo:Nat} {w:World} {e:TypeId} {v:Value} {xs:List Value} (h:Qs lo w e v xs) {k:Nat} (hk:v.ownBlock=some k):∃ cur,w.heap[k]? = some (.cells cur e (0,0)):=by
 obtain⟨g,off,cap,cur,rfl,_,hg,_⟩:=h;have:g=k:=by simpa [Value.ownBlock] using hk
 subst this;exact⟨cur,hg⟩
theorem Qs.kept {lo:Nat} {w w':World} {e:TypeId} {v:Value} {xs:List Value} (h:Qs lo w e v xs) (hk:∀ k,v.ownBlock=some k→w'.heap[k]? = w.heap[k]?):Qs lo w' e v xs:=by obtain⟨g,off,cap,cur,rfl,h1,hg,h2⟩:=h;exact⟨g,off,cap,cur,rfl,h1,(hk g rfl).trans hg,h2⟩
theorem Qs.grown {lo:Nat} {w w':World} {e:TypeId} {v:Value} {xs:List Value} {row:Option Nat} (h:Qs lo w e v xs) (hg:w.grownBy w' row) (ha:Zci w row e):Qs lo w' e v xs :=
 h.kept fun k hk=>by obtain⟨cur,hc⟩:=h.obj hk;exact hg.block k (Array.getElem?_eq_some_iff.1 hc).1 fun hr=>ha k hr.symm _ _ hc
theorem Qs.below {lo:Nat} {w w':World} {e:TypeId} {v:Value} {xs:List Value} (h:Qs lo w e v xs) (hb:Below w.heap.size w w'):Qs lo w' e v xs :=
 h.kept fun k hk=>by obtain⟨cur,hc⟩:=h.obj hk;exact hb.block k (Array.getElem?_eq_some_iff.1 hc).1
theorem Qs.form {lo:Nat} {w:World} {e:TypeId} {v:Value} {xs:List Value} (h:Qs lo w e v xs):∃ g off cap,v = .slice (some ⟨g,off,none⟩) xs.length cap∧lo≤g∧g<w.heap.size∧xs.length≤cap∧cap≤9223372036854775807∧∀ j,j<xs.length→w.cell? ⟨g,off+j,none⟩=xs[j]?:=by obtain⟨g,off,cap,cur,rfl,h1,hg,h2,h3,h4,h5⟩:=h;exact⟨g,off,cap,rfl,h1,(Array.getElem?_eq_some_iff.1 hg).1,h2,h3,fun j hj=>(cell_of_row w g _ cur e (0,0) hg).trans (h5 j hj)⟩
theorem Qs.lo {lo:Nat} {w:World} {e:TypeId} {v:Value} {xs:List Value} (h:Qs lo w e v xs) {k:Nat} (hk:v.ownBlock=some k):lo≤k:=by
 obtain⟨g,off,cap,cur,rfl,h1,_⟩:=h;have:g=k:=by simpa [Value.ownBlock] using hk
 omega
def wdB (l:List Nat):ByteArray:=⟨(l.map fun c=>UInt8.ofNat (97+c)).toArray⟩
theorem ZcP (c:Nat) (hc:c<3) (w:World):Calls Try.prog 124 #[.int .i64 c] w fun e w'=>e = .returned (.string (wdB [c]))∧w=w':=by
 obtain rfl|rfl|rfl:c=0∨c=1∨c=2:=by omega
 all_goals
  go_enter Try.func124, Try.ntmps124
  go_wp2;go_ret;exact⟨rfl,rfl⟩
def knows (n:Nat) (s:Bs Int) (cs:List Value):Prop:=cs.length=n∧∀ j,j<s.met.length→cs[(s.met.getD j 0).toNat]? = some (.string (wdB (s.words.getD j [])))
def marks (n:Nat) (s:Bs Int) (bs:List Value):Prop:=bs.length=n∧∀ x:Nat,x<n→bs[x]? = some (.bool (decide ((x:Int)∈s.met)))
structure FwW (d:DfaD) (W0 bw bs:Nat) (bx:Array Value) (w:World) (s:Bs Int) (k:Nat) (vq:Value):Prop where
 wo:∃ cs,w.ownsRow W0 9 1 (.slice (some ⟨bw,0,none⟩) d.next.length d.next.length) d.next.length cs∧knows d.next.length s cs
 se:∃ ms,w.ownsRow W0 4 1 (.slice (some ⟨bs,0,none⟩) d.next.length d.next.length) d.next.length ms∧marks d.next.length s ms
 qu:Qs W0 w 3 vq ((s.met.drop k).map (Value.int .i64))
 bx:Bx w W0 bx 30
theorem FwW.below {d:DfaD} {W0 bw bs k:Nat} {bx:Array Value} {w w':World} {s:Bs Int} {vq:Value} (h:FwW d W0 bw bs bx w s k vq) (hb:Below w.heap.size w w'):FwW d W0 bw bs bx w' s k vq:=by obtain⟨⟨cs,h1,h2⟩,⟨ms,h3,h4⟩,h5,h6⟩:=h;exact⟨⟨cs,(Own.below (Zaf h1) hb).1,h2⟩,⟨ms,(Own.below (Zaf h3) hb).1,h4⟩,h5.below hb,h6.below hb h6.lt⟩
theorem FwW.cells {d:DfaD} {W0 bw bs k:Nat} {bx:Array Value} {w:World} {s:Bs Int} {vq:Value} (h:FwW d W0 bw bs bx w s k vq) {x:Nat} (hxn:x<d.next.length):(∃ u,w.cell? ⟨bw,x,none⟩=some u)∧w.frozen? ⟨bw,x,none⟩=false∧w.frozen? ⟨bs,x,none⟩=false:=by obtain⟨⟨cs,h1,h2⟩,⟨ms,h3,h4⟩,_⟩:=h;exact⟨Zgc h1 x (by omega),h1.frozenAt x,h3.frozenAt x⟩
theorem FwW.lt {d:DfaD} {W0 bw bs k:Nat} {bx:Array Value} {w:World} {s:Bs Int} {vq:Value} (h:FwW d W0 bw bs bx w s k vq):W0≤bw∧W0≤bs∧bw<w.heap.size∧bs<w.heap.size∧bw≠bs∧W0≠bw∧W0≠bs:=by
 obtain⟨⟨cs,h1,h2⟩,⟨ms,h3,h4⟩,_,h6⟩:=h;refine⟨(h1.lt bw rfl).1,(h3.lt bs rfl).1,(h1.lt bw rfl).2,(h3.lt bs rfl).2,?_,?_,?_⟩
 ·intro e;obtain⟨cu,hcu⟩:=ZbI (k:=bs) h3 rfl;exact Zak (e':=4) h1 (by decide) bs (by rw[e];rfl) _ _ hcu
 ·intro e;exact Zak (e':=30) h1 (by decide) bw rfl _ _ (by rw[← e];exact h6)
 intro e;exact Zak (e':=30) h3 (by decide) bs rfl _ _ (by rw[← e];exact h6)
theorem FwW.q2 {d:DfaD} {W0 bw bs k:Nat} {bx:Array Value} {w w4 w5:World} {s:Bs Int} {vq:Value} (h:FwW d W0 bw bs bx w s k vq) (x:Nat) {u v:Value} (_:bw≠bs)
  (h5:w5=(w4.setCell ⟨bw,x,none⟩ u).drew) (h4:w4=w.setCell ⟨bs,x,none⟩ v):Qs W0 w5 3 vq ((s.met.drop k).map (Value.int .i64)):=by
 obtain⟨⟨cs,h1,h2⟩,⟨ms,h3,h4'⟩,hq,h6⟩:=h;subst h4;subst h5;have a1:(w.setCell ⟨bs,x,none⟩ v).ownsRow W0 9 1 (.slice (some ⟨bw,0,none⟩) d.next.length d.next.length) d.next.length cs:=ZaV h1 (ZbY w bs x _) (fun k hk=>by cases hk;exact Zak (e':=9) h3 (by decide) bs rfl);exact((hq.grown (ZbY w bs x v) (fun k hk=>by cases hk;exact Zak (e':=3) h3 (by decide) bs rfl)).grown (ZbY (w.setCell ⟨bs,x,none⟩ v) bw x u) (fun k hk=>by cases hk;exact Zak (e':=3) a1 (by decide) bw rfl)).below (Below.refl _ _).drew
end Go.Proofs.Ytfgpkadhegdffaa
namespace Go.Proofs.Ytfgpkadhegdffaa
open Go.RowKit Go.Deep Go.ChangeShapes Go.ChangeAt
section
variable {H:Type} {enc:TypeId × Value→H} {P:Program} {w:World} {held:Bool}
end
end Go.Proofs.Ytfgpkadhegdffaa
namespace Go.Proofs.Ytfgpkadhegdffaa
open Go.RowKit Go.Deep Go.ChangeShapes Go.ChangeAt
def Bytes (B:Nat) (w:World) (v:Value) (bs:List Nat):Prop:=(∀ b∈bs,b<256)∧Sl B w v bs.length 1 (bs.map fun (b:Nat)=>Value.int .u8 (b:Int))
theorem Bytes.below {B:Nat} {w w':World} {v:Value} {bs:List Nat} (h:Bytes B w v bs) (he:Below w.heap.size w w'):Bytes B w' v bs:=⟨h.1,Sl.below h.2 he⟩
theorem Bytes.form {B:Nat} {w:World} {v:Value} {bs:List Nat} (h:Bytes B w v bs):∃ a cap,v = .slice a bs.length cap∧bs.length≤cap∧cap≤9223372036854775807 ∧
  (0<bs.length→∃ b off,a=some ⟨b,off,none⟩∧B≤b∧b<w.heap.size∧∀ j,j<bs.length→w.cell? ⟨b,off+j,none⟩=some (.int .u8 (bs.getD j 0:Nat))∧bs.getD j 0<256):=by
 obtain⟨h0,hl,a,cap,hv,h1,h2,h3⟩:=h;refine⟨a,cap,hv,h1,h2,fun hn => ?_⟩;obtain⟨b,off,ha,hb,hlt,hc⟩:=h3 hn;refine⟨b,off,ha,hb,hlt,fun j hj=>⟨?_,h0 _ (by rw[show bs.getD j 0=bs[j] by simp[hj]];exact List.getElem_mem hj)⟩⟩;rw[hc j (by omega)];simp[hj]
section
variable {H:Type} {enc:TypeId × Value→H} {P:Program} {w:World} {held:Bool}
end
end Go.Proofs.Ytfgpkadhegdffaa
namespace Go.Proofs.Ytfgpkadhegdffaa
open Go.RowKit
end Go.Proofs.Ytfgpkadhegdffaa
