/-
  Plain: tables of the parts of a word for the trees of an expression, and which trees stand on the program's stack and in the reference's table.
  No condition.
-/
import Derived.Test.YtfgpkadhegdffaaPt03Spn
set_option maxHeartbeats 8000000
set_option maxRecDepth 100000
namespace Go.Proofs.Ytfgpkadhegdffaa
open Go.RowKit
theorem Zcs {A B:Nat→Nat→Prop} {n:Nat} (h:∀ a b,a≤b→b≤n→(A a b↔B a b)):∀ (m:Nat) {i j:Nat},i≤j→j≤n→(stR A m i j↔stR B m i j)
 | 0,_,_,_,_=>Iff.rfl
 | m+1,i,j,hij,hj=>or_congr (Zcs h m hij hj) (exists_congr fun k=>and_congr_right fun h1=>and_congr_right fun h2=>and_congr (Zcs h m h1 (by omega)) (h k j h2 hj))
def tabE (n:Nat) (ls:List Nat):Ex→Nat→Nat→Bool
 | .zero=>fun _ _=>false
 | .one=>fun i j=>decide (i=j)
 | .ltr c=>fun i j=>decide (j=i+1∧ls.getD i 0=c.val)
 | .join a b=>ZcG (Zad n (tabE n ls a)) (Zad n (tabE n ls b))
 | .alt a b=>fun i j=>Zad n (tabE n ls a) i j||Zad n (tabE n ls b) i j
 | .both a b=>fun i j=>Zad n (tabE n ls a) i j&&Zad n (tabE n ls b) i j
 | .neg a=>fun i j => !Zad n (tabE n ls a) i j
 | .star a=>stB n (Zad n (tabE n ls a)) n
theorem ZaI {n:Nat} {ls:List Nat} (hl:ls.length=n) (hn:n≤8):∀ (t:Ex) {i j:Nat},i≤j→j≤n→(tabE n ls t i j=true↔memS t ls i j)
 | .zero,i,j,_,_=>by simp[tabE,ZfB]
 | .one,i,j,hij,hj=>by rw[Zgj hij (by omega)];simp[tabE]
 | .ltr c,i,j,hij,hj=>by rw[Zgk hij (by omega)];simp[tabE]
 | .join a b,i,j,hij,hj=>by
  rw[ZfC hij (by omega)];show ZcG _ _ i j=true↔_;rw[Zbu hn hj];refine exists_congr fun k=>and_congr_right fun h1=>and_congr_right fun h2 => ?_
  rw[ZaF _ h1 (by omega),ZaF _ h2 hj,ZaI hl hn a h1 (by omega),ZaI hl hn b h2 hj]
 | .alt a b,i,j,hij,hj=>by show(Zad n _ i j||Zad n _ i j)=true↔_;rw[ZaF _ hij hj,ZaF _ hij hj,Bool.or_eq_true,ZaI hl hn a hij hj,ZaI hl hn b hij hj];rfl
 | .both a b,i,j,hij,hj=>by show(Zad n _ i j&&Zad n _ i j)=true↔_;rw[ZaF _ hij hj,ZaF _ hij hj,Bool.and_eq_true,ZaI hl hn a hij hj,ZaI hl hn b hij hj];rfl
 | .neg a,i,j,hij,hj=>by show(!Zad n _ i j)=true↔¬ memS a ls i j;rw[ZaF _ hij hj,← ZaI hl hn a hij hj];simp
 | .star a,i,j,hij,hj=>by show stB n _ n i j=true↔_;rw[ZdZ hn _ n hij hj,← Zgz hij (by omega),hl];refine Zcs (n:=n) (fun x y hx hy => ?_) n hij hj;rw[ZaF _ hx hy,ZaI hl hn a hx hy]
theorem Zfa {n:Nat} {ls:List Nat} (hl:ls.length=n) (hn:n≤8) (a:Ex) {i j:Nat} (hij:i≤j) (hj:j≤n):tabE n ls (.star a) i j=true↔i=j∨∃ k,i+1≤k∧k≤j∧tabE n ls a i k=true∧tabE n ls (.star a) k j=true:=by rw[ZaI hl hn _ hij hj,ZdF hij (by omega)];refine or_congr Iff.rfl (exists_congr fun k=>and_congr_right fun h1=>and_congr_right fun h2 => ?_);rw[ZaI hl hn a (by omega) (by omega),ZaI hl hn _ h2 hj]
def mkE (p:Int × Int) (a b:Ex):Ex:=if p.1=1 then .zero else if p.1=2 then .one else if p.1=3 then .ltr (if p.2=1 then 1 else if p.2=2 then 2 else 0) else if p.1=4 then .join a b else if p.1=5 then .alt a b else if p.1=6 then .both a b else if p.1=7 then .neg a else .star a
theorem Zd8 (c:Fin 3) (a b:Ex):mkE (3,(c.val:Int)) a b = .ltr c:=by
 have:c=0∨c=1∨c=2:=by omega
 rcases this with rfl|rfl|rfl<;>rfl
def stpE (p:Int × Int) (st:List Ex):Option (List Ex) :=
 if Zab p=0 then some (mkE p .zero .zero::st)
 else if Zab p=1 then
  match st with
  | a::r=>some (mkE p a a::r)
  | []=>none
 else
  match st with
  | b::a::r=>some (mkE p a b::r)
  | _=>none
def runE:List (Int × Int)→List Ex→Option (List Ex)
 | [],st=>some st
 | p::ps,st=>(stpE p st).bind (runE ps)
theorem Zcx {p:Int × Int} (hp:Zab p=0) (rest:List (Int × Int)) (st:List Ex):runE (p::rest) st=runE rest (mkE p .zero .zero::st):=by show(stpE p st).bind _=_;unfold stpE;rw[if_pos hp];rfl
theorem Zeq {p:Int × Int} (hp:Zab p=1) (rest:List (Int × Int)) (a:Ex) (st:List Ex):runE (p::rest) (a::st)=runE rest (mkE p a a::st):=by show(stpE p (a::st)).bind _=_;unfold stpE;rw[if_neg (by omega),if_pos hp];rfl
theorem Zdd {p:Int × Int} (hp:Zab p=2) (rest:List (Int × Int)) (a b:Ex) (st:List Ex):runE (p::rest) (b::a::st)=runE rest (mkE p a b::st):=by show(stpE p (b::a::st)).bind _=_;unfold stpE;rw[if_neg (by omega),if_neg (by omega)];rfl
theorem ZaK:∀ (t:Ex) (rest:List (Int × Int)) (st:List Ex),runE (t.post++rest) st=runE rest (t::st)
 | .zero,rest,st=>Zcx ZbS rest st
 | .one,rest,st=>Zcx ZbR rest st
 | .ltr c,rest,st=>by have:=Zcx (ZbQ c) rest st;rw[Zd8] at this;exact this
 | .join a b,rest,st=>by show runE (a.post++b.post++[(4,0)]++rest) st=_;rw[List.append_assoc,List.append_assoc,ZaK a,ZaK b];exact Zdd ZbG rest a b st
 | .alt a b,rest,st=>by show runE (a.post++b.post++[(5,0)]++rest) st=_;rw[List.append_assoc,List.append_assoc,ZaK a,ZaK b];exact Zdd ZcB rest a b st
 | .both a b,rest,st=>by show runE (a.post++b.post++[(6,0)]++rest) st=_;rw[List.append_assoc,List.append_assoc,ZaK a,ZaK b];exact Zdd ZbH rest a b st
 | .neg a,rest,st=>by show runE (a.post++[(7,0)]++rest) st=_;rw[List.append_assoc,ZaK a];exact Zeq ZcA rest a st
 | .star a,rest,st=>by show runE (a.post++[(8,0)]++rest) st=_;rw[List.append_assoc,ZaK a];exact Zeq ZbF rest a st
theorem ZeI (t:Ex):runE t.post []=some [t]:=by
 have:=ZaK t [] []
 rwa [List.append_nil] at this
theorem Zfi {es:List (Int × Int)} {k:Nat} (hk:k<es.length) (st:List Ex):runE (es.drop k) st=(stpE (es.getD k (0,0)) st).bind (runE (es.drop (k+1))):=by
 have e:es.drop k=es.getD k (0,0)::es.drop (k+1):=by rw[show es.getD k (0,0)=es[k] by simp[hk]];exact(List.getElem_cons_drop hk).symm
 rw[e];rfl
-- steps, over a stack whose top is its end
theorem Zdg {l:List Ex} {t:Nat} (h:l.length=t+1):l=l.take t++[l.getD t .zero]:=by
 have e:l.take (t+1)=l:=by rw[← h];exact List.take_length
 rw[List.take_succ_eq_append_getElem (by omega)] at e;have e2:l.getD t .zero=l[t]:=by simp[show t<l.length by omega]
 rw[e2];exact e.symm
theorem Zg2 {p:Int × Int} (hp:Zab p=0) (ds:List Ex):stpE p ds.reverse=some ((ds.take (ds.length-0)++[mkE p .zero .zero]).reverse):=by unfold stpE;rw[if_pos hp,Nat.sub_zero,List.take_length,List.reverse_append];rfl
theorem Zg1 {p:Int × Int} (hp:Zab p=1) {ds:List Ex} {t:Nat} (h:ds.length=t+1):stpE p ds.reverse=some ((ds.take t++[mkE p (ds.getD t .zero) (ds.getD t .zero)]).reverse):=by
 have e:=Zdg h;have er:ds.reverse=ds.getD t .zero::(ds.take t).reverse:=by rw[show ds.reverse=(ds.take t++[ds.getD t .zero]).reverse by rw[← e]];simp
 rw[er];unfold stpE;rw[if_neg (by omega),if_pos hp];simp
theorem Zg0 {p:Int × Int} (hp:Zab p=2) {ds:List Ex} {t:Nat} (h:ds.length=t+1+1):stpE p ds.reverse=some ((ds.take t++[mkE p (ds.getD t .zero) (ds.getD (t+1) .zero)]).reverse):=by
 have e:=Zdg h;have hl:(ds.take (t+1)).length=t+1:=by rw[List.length_take];omega
 have e2:=Zdg hl;have e3:(ds.take (t+1)).getD t .zero=ds.getD t .zero:=by simp only[List.getD_eq_getElem?_getD];rw[List.getElem?_take,if_pos (Nat.lt_succ_self t)]
 rw[List.take_take,Nat.min_eq_left (by omega),e3] at e2;have er:ds.reverse=ds.getD (t+1) .zero::ds.getD t .zero::(ds.take t).reverse:=by rw[show ds.reverse=(ds.take (t+1)++[ds.getD (t+1) .zero]).reverse by rw[← e],e2];simp
 rw[er];unfold stpE;rw[if_neg (by omega),if_neg (by omega)];simp
-- the trees that end at the parts
def subs:Ex→List Ex
 | .zero=>[.zero]
 | .one=>[.one]
 | .ltr c=>[.ltr c]
 | .join a b=>subs a++subs b++[.join a b]
 | .alt a b=>subs a++subs b++[.alt a b]
 | .both a b=>subs a++subs b++[.both a b]
 | .neg a=>subs a++[.neg a]
 | .star a=>subs a++[.star a]
theorem Zas:∀ t:Ex,(subs t).length=t.post.length
 | .zero=>rfl
 | .one=>rfl
 | .ltr _=>rfl
 | .join a b=>by simp[subs,Ex.post,Zas a,Zas b]
 | .alt a b=>by simp[subs,Ex.post,Zas a,Zas b]
 | .both a b=>by simp[subs,Ex.post,Zas a,Zas b]
 | .neg a=>by simp[subs,Ex.post,Zas a]
 | .star a=>by simp[subs,Ex.post,Zas a]
def SubAt (es:List (Int × Int)) (ts:List Ex) (k:Nat):Prop :=
 (Zab (es.getD k (0,0))=0∧ts.getD k .zero=mkE (es.getD k (0,0)) .zero .zero) ∨
 (Zab (es.getD k (0,0))=1∧∃ q,k=q+1∧ts.getD k .zero=mkE (es.getD k (0,0)) (ts.getD q .zero) (ts.getD q .zero)) ∨
 (Zab (es.getD k (0,0))=2∧∃ q a,k=q+1∧a+1≤q∧beginsAt es (q+1) (a+1)∧ts.getD k .zero=mkE (es.getD k (0,0)) (ts.getD a .zero) (ts.getD q .zero))
theorem Za3 {xs ys:List Ex} {k:Nat} (h:k<xs.length):(xs++ys).getD k .zero=xs.getD k .zero:=by simp[List.getD_eq_getElem?_getD,List.getElem?_append_left h]
theorem Zc0 (xs ys:List Ex) (k:Nat):(xs++ys).getD (xs.length+k) .zero=ys.getD k .zero:=by simp[List.getD_eq_getElem?_getD,List.getElem?_append_right (show xs.length≤xs.length+k by omega)]
theorem beginsAt.left {es ys:List (Int × Int)} {n a:Nat} (h:beginsAt es n a) (hn:n≤es.length):beginsAt (es++ys) n a:=by
 obtain⟨h1,h2,h3⟩:=h;refine⟨h1,?_,fun j h4 h5 => ?_⟩
 ·rw[Zar _ _ _ (by omega),Zar _ _ _ hn];exact h2
 rw[Zar _ _ _ (by omega),Zar _ _ _ hn];exact h3 j h4 h5
theorem beginsAt.right (xs:List (Int × Int)) {ys:List (Int × Int)} {n a:Nat} (h:beginsAt ys n a):beginsAt (xs++ys) (xs.length+n) (xs.length+a):=by
 obtain⟨h1,h2,h3⟩:=h;refine⟨by omega,?_,fun j h4 h5 => ?_⟩
 ·rw[Za8,Za8];omega
 obtain⟨i,rfl⟩:=Nat.exists_eq_add_of_le (show xs.length≤j by omega);rw[Za8,Za8];have:=h3 i (by omega) (by omega);omega
theorem SubAt.left {es ys:List (Int × Int)} {ts us:List Ex} {k:Nat} (hl:ts.length=es.length) (hk:k<es.length) (h:SubAt es ts k):SubAt (es++ys) (ts++us) k:=by
 unfold SubAt at h ⊢;rw[ZbZ hk,Za3 (show k<ts.length by omega)];rcases h with h|⟨h1,q,rfl,h2⟩|⟨h1,q,a,rfl,h2,h3,h4⟩
 ·exact .inl h
 ·exact .inr (.inl ⟨h1,q,rfl,by rw[Za3 (by omega)];exact h2⟩)
 exact .inr (.inr ⟨h1,q,a,rfl,h2,h3.left (by omega),by rw[Za3 (by omega),Za3 (by omega)];exact h4⟩)
theorem SubAt.right {es xs:List (Int × Int)} {ts us:List Ex} {k:Nat} (hx:us.length=xs.length) (h:SubAt es ts k):SubAt (xs++es) (us++ts) (xs.length+k):=by
 have g:∀ i,(us++ts).getD (xs.length+i) .zero=ts.getD i .zero:=fun i=>by rw[← hx];exact Zc0 us ts i
 unfold SubAt at h ⊢;rw[ZbC,g];rcases h with h|⟨h1,q,rfl,h2⟩|⟨h1,q,a,rfl,h2,h3,h4⟩
 ·exact .inl h
 ·exact .inr (.inl ⟨h1,xs.length+q,rfl,by rw[g];exact h2⟩)
 exact .inr (.inr ⟨h1,xs.length+q,xs.length+a,rfl,by omega,h3.right xs,by rw[g,g];exact h4⟩)
theorem ZbN (t:Ex):(subs t).getD (t.post.length-1) .zero=t:=by
 have key:∀ (l:List Ex) (x:Ex) (n:Nat),n=l.length→(l++[x]).getD n .zero=x:=fun l x n e=>by subst e;simp[List.getD_eq_getElem?_getD]
 cases t with
 | zero=>rfl
 | one=>rfl
 | ltr c=>rfl
 | join a b=>exact key _ _ _ (by simp[Ex.post,Zas])
 | alt a b=>exact key _ _ _ (by simp[Ex.post,Zas])
 | both a b=>exact key _ _ _ (by simp[Ex.post,Zas])
 | neg a=>exact key _ _ _ (by simp[Ex.post,Zas])
 | star a=>exact key _ _ _ (by simp[Ex.post,Zas])
theorem ZeW (a b:Ex) (rest:List (Int × Int)):beginsAt (a.post++b.post++rest) (a.post.length+b.post.length) a.post.length:=by
 obtain⟨a1,a2⟩:=Zcz a;obtain⟨b1,b2⟩:=Zcz b;have hd:∀ j,j≤b.post.length→dep (a.post++b.post++rest) (a.post.length+j)=1+dep b.post j:=fun j hj=>by rw[Zar _ _ _ (by simp;omega),Za8,a2]
 have h0:=hd 0 (Nat.zero_le _);have hn:=hd b.post.length (Nat.le_refl _);rw[b2] at hn;rw[Nat.add_zero] at h0;refine⟨by have:=ZaU b;omega,by rw[h0,hn];rfl,fun j h1 h2 => ?_⟩;obtain⟨i,rfl⟩:=Nat.exists_eq_add_of_le (Nat.le_of_lt h1);rw[hd i (by omega),hn];have:=ZcZ b1 (show 0<i by omega) (by omega);omega
theorem Zcp {a b t:Ex} {p:Int × Int} (hp:Zab p=2) (ht:t=mkE p a b) (ha:∀ k,k<a.post.length→SubAt a.post (subs a) k) (hb:∀ k,k<b.post.length→SubAt b.post (subs b) k):∀ k,k<(a.post++b.post++[p]).length→SubAt (a.post++b.post++[p]) (subs a++subs b++[t]) k:=fun k hk=>by
 have la:=Zas a;have lb:=Zas b;have pa:=ZaU a;have pb:=ZaU b;simp only[List.length_append,List.length_cons,List.length_nil] at hk;by_cases h1:k<a.post.length
 ·rw[List.append_assoc,List.append_assoc];exact(ha k h1).left la h1
 by_cases h2:k<a.post.length+b.post.length
 ·obtain⟨i,rfl⟩:=Nat.exists_eq_add_of_le (show a.post.length≤k by omega);rw[List.append_assoc,List.append_assoc];exact((hb i (by omega)).left lb (by omega)).right la
 obtain rfl:k=a.post.length+b.post.length:=by omega
 obtain⟨x,hx⟩:∃ x,a.post.length=x+1:=⟨a.post.length-1,by omega⟩;obtain⟨y,hy⟩:∃ y,b.post.length=y+1:=⟨b.post.length-1,by omega⟩;have e1:(a.post++b.post++[p]).getD (a.post.length+b.post.length) (0,0)=p:=by simp[List.getD_eq_getElem?_getD]
 have e2:(subs a++subs b++[t]).getD (a.post.length+b.post.length) .zero=t:=by simp[List.getD_eq_getElem?_getD,← la,← lb]
 have e3:(subs a++subs b++[t]).getD x .zero=a:=by
  rw[List.append_assoc,Za3 (by omega)];have:=ZbN a
  rwa [hx,Nat.add_sub_cancel] at this
 have e4:(subs a++subs b++[t]).getD (a.post.length+y) .zero=b:=by
  rw[List.append_assoc,← la,Zc0,Za3 (by omega)];have:=ZbN b
  rwa [hy,Nat.add_sub_cancel] at this
 refine .inr (.inr ⟨by rw[e1];exact hp,a.post.length+y,x,by omega,by omega,?_,by rw[e1,e2,e3,e4];exact ht⟩);have:=ZeW a b [p];rw[hx] at this ⊢
 rwa [hy] at this
theorem Zdu {a t:Ex} {p:Int × Int} (hp:Zab p=1) (ht:t=mkE p a a) (ha:∀ k,k<a.post.length→SubAt a.post (subs a) k):∀ k,k<(a.post++[p]).length→SubAt (a.post++[p]) (subs a++[t]) k:=fun k hk=>by
 have la:=Zas a;have pa:=ZaU a;simp only[List.length_append,List.length_cons,List.length_nil] at hk;by_cases h1:k<a.post.length
 ·exact(ha k h1).left la h1
 obtain rfl:k=a.post.length:=by omega
 obtain⟨x,hx⟩:∃ x,a.post.length=x+1:=⟨a.post.length-1,by omega⟩;have e1:(a.post++[p]).getD a.post.length (0,0)=p:=by simp[List.getD_eq_getElem?_getD]
 have e2:(subs a++[t]).getD a.post.length .zero=t:=by simp[List.getD_eq_getElem?_getD,← la]
 have e3:(subs a++[t]).getD x .zero=a:=by
  rw[Za3 (by omega)];have:=ZbN a
  rwa [hx,Nat.add_sub_cancel] at this
 exact .inr (.inl ⟨by rw[e1];exact hp,x,hx,by rw[e1,e2,e3];exact ht⟩)
theorem ZaJ:∀ (t:Ex) (k:Nat),k<t.post.length→SubAt t.post (subs t) k
 | .zero,k,h=>by
  obtain rfl:k=0:=by simpa [Ex.post] using h
  exact .inl ⟨ZbS,rfl⟩
 | .one,k,h=>by
  obtain rfl:k=0:=by simpa [Ex.post] using h
  exact .inl ⟨ZbR,rfl⟩
 | .ltr c,k,h=>by
  obtain rfl:k=0:=by simpa [Ex.post] using h
  exact .inl ⟨ZbQ c,(Zd8 c _ _).symm⟩
 | .join a b,k,h=>Zcp ZbG rfl (ZaJ a) (ZaJ b) k h
 | .alt a b,k,h=>Zcp ZcB rfl (ZaJ a) (ZaJ b) k h
 | .both a b,k,h=>Zcp ZbH rfl (ZaJ a) (ZaJ b) k h
 | .neg a,k,h=>Zdu ZcA rfl (ZaJ a) k h
 | .star a,k,h=>Zdu ZbF rfl (ZaJ a) k h
theorem ZeL {p:Nat→Bool} {k:Nat} (h:(List.range k).all p=true) (hp:p k=true):(List.range (k+1)).all p=true:=by rw[List.range_succ,List.all_append,h];simp[hp]
end Go.Proofs.Ytfgpkadhegdffaa
namespace Go.Proofs.Ytfgpkadhegdffaa
open Go.RowKit
end Go.Proofs.Ytfgpkadhegdffaa
namespace Go.Proofs.Ytfgpkadhegdffaa
open Go.RowKit
def txB (l:List Nat):ByteArray:=⟨(l.map UInt8.ofNat).toArray⟩
def isT (l:List Nat):Prop:=∀ b∈l,b<256
theorem Zah (l:List Nat):(txB l).size=l.length:=by simp[txB,ByteArray.size]
theorem ZaE {l:List Nat} {i:Nat} (hi:i<l.length):l.getD i 0∈l:=by rw[List.getD_eq_getElem?_getD,List.getElem?_eq_getElem hi];exact List.getElem_mem hi
theorem ZgR {l:List Nat} {i:Nat} (hi:i<l.length) (ht:isT l) (h:i<(txB l).size):(((txB l)[i]'h).toNat:Int)=(l.getD i 0:Nat):=by
 have hc:l.getD i 0<256:=ht _ (ZaE hi);have e:(txB l)[i]'h=UInt8.ofNat (l.getD i 0):=by show(txB l).data[i]=_;simp[txB,hi]
 rw[e,UInt8.toNat_ofNat'];omega
theorem Zat {l:List Nat} {i:Nat} (hi:i<l.length) (ht:isT l) (w:World):(Instr.index 9 (.string (txB l)) (.int .i64 (i:Int))).run Try.prog w = .ok (.int .u8 ((l.getD i 0:Nat):Int)) w:=by have hs:(txB l).size=l.length:=Zah l;rw[run_index_string w 9 (txB l) .i64 i Try.underlying9,dif_pos (by omega)];congr 2;exact ZgR hi ht _
def okT (l:List Nat) (k:Nat):Bool:=(List.range k).all fun i=>inB ((l.getD i 0:Nat):Int) 97 99
def wdOk (l:List Nat):Bool:=okT l l.length&&decide (l.length≤8)
theorem Zew {l:List Nat} {k:Nat} (h:okT l k=true) (h1:inB ((l.getD k 0:Nat):Int) 97 99=true):okT l (k+1)=true:=ZeL h h1
theorem Zfy {l:List Nat} {k:Nat} (hk:k<l.length) (h1:inB ((l.getD k 0:Nat):Int) 97 99=false):wdOk l=false:=by
 unfold wdOk okT;have:((List.range l.length).all fun i=>inB ((l.getD i 0:Nat):Int) 97 99)=false:=by rw[List.all_eq_false];exact⟨k,List.mem_range.2 hk,by rw[h1];simp⟩
 rw[this];rfl
theorem ZcR (l:List Nat) (w:World) (ht:isT l) (hl:l.length≤2000000) (r:Bool) (hr:wdOk l=r) :
  Calls Try.prog 79 #[.string (txB l),.int .i64 8] w fun e w'=>e = .returned (.bool r)∧w=w':=by
 have hs:(txB l).size=l.length:=Zah l;replace hr:=qh hr;have Hht:=qh ht;clear ht
 go_enter Try.func79, Try.ntmps79
 go_wp2
 go_loopw [8] (fun i wr=>∃ k:Nat,i = .int .i64 k∧k≤l.length∧okT l k=true∧w=wr) (fun i _=>l.length-(intOf i).toNat)
 case atStart=>exact⟨0,rfl,Nat.zero_le _,rfl,rfl⟩
 case round =>
  obtain⟨k,rfl,hk,hok,rfl⟩:=hrel;by_cases hlt:k<l.length
  ·have hkl:(k:Int)<l.length:=by omega
   have hrun:=Zat hlt Hht.out;have hb:=Hht.out _ (ZaE hlt);obtain⟨c,hcc⟩:=eI (l.getD k 0);rw[← hcc] at hrun hb;have hw9:IntKind.i64.wrap (c:Int)=(c:Int):=IntWalk.i64_in _ (by omega);have Hhok:=qh hok;clear hok;replace hcc:=qh hcc;cases hin:inB (c:Int) 97 99
   ·have Hhin:=qh hin;clear hin;go_wp2_with (go_at_call 37;refine(ZaG _ _ _ _ _ Hhin.out).mono ?_;rintro e w' ⟨rfl,rfl⟩);go_ret;exact⟨by rw[← hr.out,Zfy hlt (by rw[← hcc.out];exact Hhin.out)];rfl,rfl⟩
   have Hhin:=qh hin;clear hin;go_wp2_with (go_at_call 37;refine(ZaG _ _ _ _ _ Hhin.out).mono ?_;rintro e w' ⟨rfl,rfl⟩);go_roundw
   case rel=>exact⟨k+1,by go_num,by omega,Zew Hhok.out (by rw[← hcc.out];exact Hhin.out),trivial⟩
   case measure=>simp[intOf];omega
  obtain rfl:k=l.length:=by omega
  have hrr:decide ((l.length:Int)≤8)=r:=by rw[← hr.out];unfold wdOk;rw[hok,Bool.true_and];exact decide_eq_decide.2 (by omega)
  have Hhok:=qh hok;clear hok;have Hhrr:=qh hrr;clear hrr;go_wp2;go_ret;exact⟨by rw[← Hhrr.out];rfl,rfl⟩
theorem Zbg (l:List Nat) (w:World) (ht:isT l) (hl:l.length≤2000000) (r:Bool) (hr:wdOk l=r) :
  Calls Try.prog 41 #[.string (txB l)] w fun e w'=>e = .returned (.bool r)∧w=w':=by
 replace hr:=qh hr;have Hht:=qh ht;clear ht
 go_enter Try.func41, Try.ntmps41
 go_wp2_with (go_at_call 79;refine(ZcR l _ Hht.out hl _ hr.out).mono ?_;rintro e w' ⟨rfl,rfl⟩);go_ret;exact⟨rfl,rfl⟩
theorem Zb5 (l:List Nat) (w:World) (ht:isT l) (hl:l.length≤2000000) (r:Bool) (hr:wdOk l=r) :
  Calls Try.prog 43 #[.string (txB l)] w fun e w'=>e = .returned (.bool r)∧w=w':=by
 have hs:(txB l).size=l.length:=Zah l;replace hr:=qh hr;have Hht:=qh ht;clear ht
 go_enter Try.func43, Try.ntmps43
 go_wp2
 go_loopw [3] (fun i wr=>∃ k:Nat,i = .int .i64 k∧k≤l.length∧okT l k=true∧w=wr) (fun i _=>l.length-(intOf i).toNat)
 case atStart=>exact⟨0,rfl,Nat.zero_le _,rfl,rfl⟩
 case round =>
  obtain⟨k,rfl,hk,hok,rfl⟩:=hrel;by_cases hlt:k<l.length
  ·have hkl:(k:Int)<l.length:=by omega
   have hrun:=Zat hlt Hht.out;have hb:=Hht.out _ (ZaE hlt);obtain⟨c,hcc⟩:=eI (l.getD k 0);rw[← hcc] at hrun hb;have hw9:IntKind.i64.wrap (c:Int)=(c:Int):=IntWalk.i64_in _ (by omega);have Hhok:=qh hok;clear hok;replace hcc:=qh hcc;cases hin:inB (c:Int) 97 99
   ·have Hhin:=qh hin;clear hin;go_wp2_with (go_at_call 80;refine(ZaW _ _ _ _ _ Hhin.out).mono ?_;rintro e w' ⟨rfl,rfl⟩);go_ret;exact⟨by rw[← hr.out,Zfy hlt (by rw[← hcc.out];exact Hhin.out)];rfl,rfl⟩
   have Hhin:=qh hin;clear hin;go_wp2_with (go_at_call 80;refine(ZaW _ _ _ _ _ Hhin.out).mono ?_;rintro e w' ⟨rfl,rfl⟩);go_roundw
   case rel=>exact⟨k+1,by go_num,by omega,Zew Hhok.out (by rw[← hcc.out];exact Hhin.out),trivial⟩
   case measure=>simp[intOf];omega
  obtain rfl:k=l.length:=by omega
  have hrr:decide ((l.length:Int)≤8)=r:=by rw[← hr.out];unfold wdOk;rw[hok,Bool.true_and];exact decide_eq_decide.2 (by omega)
  have Hhok:=qh hok;clear hok;have Hhrr:=qh hrr;clear hrr;go_wp2;go_ret;exact⟨by rw[← Hhrr.out];rfl,rfl⟩
theorem ZbJ (l:List Nat) (i:Nat) (hi:i<l.length) (ht:isT l) (hlo:97≤l.getD i 0) (w:World):Calls Try.prog 77 #[.string (txB l),.int .i64 i] w fun e w'=>e = .returned (.int .i64 ((l.getD i 0-97:Nat):Int))∧w=w':=by
 have hb:=ht _ (ZaE hi);have hrun:=Zat hi ht;obtain⟨c,hcc⟩:=eI (l.getD i 0-97);have hc2:((l.getD i 0:Nat):Int)=97+(c:Int):=by omega
 rw[hc2] at hrun;rw[← hcc]
 have hw8:IntKind.u8.wrap (97+(c:Int)-97)=(c:Int):=by
  have:97+(c:Int)-97=(c:Int):=by omega
  rw[this];exact IntWalk.u8_in _ (by omega)
 have hw9:IntKind.i64.wrap (c:Int)=(c:Int):=IntWalk.i64_in _ (by omega);replace hcc:=qh hcc;clear hc2 hlo hb
 go_enter Try.func77, Try.ntmps77
 go_wp2;go_ret;exact⟨rfl,rfl⟩
theorem Zgb (i j:Nat) (u:World) (r:Bool) (hr:r=true↔i=j) (_hi:i≤8) (hj:j≤8) :
  Calls Try.prog 113 #[.int .i64 (i:Int),.int .i64 (j:Int)] u fun e w'=>e = .returned (.bool r)∧Below u.heap.size u w':=by
 by_cases h:i=j
 ·have hr1:=hr.2 h;subst hr1 h;clear hr
  go_enter Try.func113, Try.ntmps113
  go_wp2;go_ret;exact⟨by simp,Below.refl _ _⟩
 have hr1:r=false:=by
  cases r with
  | false=>rfl
  | true=>exact absurd (hr.1 rfl) h
 subst hr1;have hn:((i:Int)==(j:Int))=false:=by simp;omega
 clear hr
 go_enter Try.func113, Try.ntmps113
 go_wp2;go_ret;exact⟨by simp,Below.refl _ _⟩
theorem ZeU (A B:Nat→Nat→Bool) (b2 b3 i j:Nat) (u:World) (hij:i≤j) (hj:j≤8) (hA:TabAt u b2 A) (hB:TabAt u b3 B) (r:Bool) (hr:(A i j||B i j)=r) :
  Calls Try.prog 116 #[.int .i64 (i:Int),.int .i64 (j:Int),.pointer (some ⟨b2,0,none⟩),.pointer (some ⟨b3,0,none⟩)] u fun e w'=>e = .returned (.bool r)∧Below u.heap.size u w':=by
 have hi9:(i:Int)<9:=by omega
 have hj9:(j:Int)<9:=by omega
 have k0:=hA i j (by omega) (by omega);have k1:=hB i j (by omega) (by omega);cases ha:A i j with
 | true =>
  rw[ha] at k0 hr;subst hr;clear ha hA hB k1
  go_enter Try.func116, Try.ntmps116
  go_wp2;go_ret;exact⟨rfl,Below.refl _ _⟩
 | false =>
  rw[ha] at k0 hr;obtain⟨y,hy⟩:=eJ (B i j);rw[hy] at k1 hr;rw[Bool.false_or] at hr;subst hr;clear ha hA hB hy
  go_enter Try.func116, Try.ntmps116
  go_wp2;go_ret;exact⟨rfl,Below.refl _ _⟩
theorem ZfR (A B:Nat→Nat→Bool) (b2 b3 i j:Nat) (u:World) (hij:i≤j) (hj:j≤8) (hA:TabAt u b2 A) (hB:TabAt u b3 B) (r:Bool) (hr:(A i j&&B i j)=r) :
  Calls Try.prog 117 #[.int .i64 (i:Int),.int .i64 (j:Int),.pointer (some ⟨b2,0,none⟩),.pointer (some ⟨b3,0,none⟩)] u fun e w'=>e = .returned (.bool r)∧Below u.heap.size u w':=by
 have hi9:(i:Int)<9:=by omega
 have hj9:(j:Int)<9:=by omega
 have k0:=hA i j (by omega) (by omega);have k1:=hB i j (by omega) (by omega);cases ha:A i j with
 | false =>
  rw[ha] at k0 hr;subst hr;clear ha hA hB k1
  go_enter Try.func117, Try.ntmps117
  go_wp2;go_ret;exact⟨rfl,Below.refl _ _⟩
 | true =>
  rw[ha] at k0 hr;obtain⟨y,hy⟩:=eJ (B i j);rw[hy] at k1 hr;rw[Bool.true_and] at hr;subst hr;clear ha hA hB hy
  go_enter Try.func117, Try.ntmps117
  go_wp2;go_ret;exact⟨rfl,Below.refl _ _⟩
theorem Zgi (A:Nat→Nat→Bool) (b2 i j:Nat) (u:World) (hij:i≤j) (hj:j≤8) (hA:TabAt u b2 A) (r:Bool) (hr:(!A i j)=r) :
  Calls Try.prog 118 #[.int .i64 (i:Int),.int .i64 (j:Int),.pointer (some ⟨b2,0,none⟩)] u fun e w'=>e = .returned (.bool r)∧Below u.heap.size u w':=by
 have hi9:(i:Int)<9:=by omega
 have hj9:(j:Int)<9:=by omega
 have k0:=hA i j (by omega) (by omega);obtain⟨y,hy⟩:=eJ (A i j);rw[hy] at k0 hr;subst hr;clear hA hy
 go_enter Try.func118, Try.ntmps118
 go_wp2;go_ret;exact⟨rfl,Below.refl _ _⟩
def lsT (l:List Nat):List Nat:=l.map (·-97)
theorem ZgF (l:List Nat):(lsT l).length=l.length:=by simp[lsT]
theorem Zgt {l:List Nat} {i:Nat} (hi:i<l.length):(lsT l).getD i 0=l.getD i 0-97:=by simp[lsT,hi]
theorem Zba {l:List Nat} (h:wdOk l=true):l.length≤8∧∀ i,i<l.length→97≤l.getD i 0∧l.getD i 0≤99:=by unfold wdOk okT at h;rw[Bool.and_eq_true,decide_eq_true_eq,List.all_eq_true] at h;refine⟨h.2,fun i hi => ?_⟩;have h1:=h.1 i (List.mem_range.2 hi);simp only[inB,Bool.and_eq_true,decide_eq_true_eq] at h1;omega
theorem ZfG (l:List Nat) (b2 b3 i j c:Nat) (u:World) (ht:isT l) (hwd:wdOk l=true) (hij:i≤j) (hj:j≤l.length) (h2:u.cell? ⟨b2,0,none⟩=some (.string (txB l))) (h3:u.cell? ⟨b3,1,none⟩=some (.int .i64 (c:Int))) (r:Bool) (hr:decide (j=i+1∧(lsT l).getD i 0=c)=r) :
  Calls Try.prog 114 #[.int .i64 (i:Int),.int .i64 (j:Int),.pointer (some ⟨b2,0,none⟩),.pointer (some ⟨b3,0,none⟩)] u fun e w'=>e = .returned (.bool r)∧Below u.heap.size u w':=by
 obtain⟨hn,h97⟩:=Zba hwd;have hw1:IntKind.i64.wrap ((i:Int)+1)=(i:Int)+1:=IntWalk.i64_in _ (by omega);have Ht:=qh ht;clear ht hwd;by_cases hji:j=i+1
 ·have hd:((j:Int)==(i:Int)+1)=true:=by simp;omega
  have hlt:i<l.length:=by omega
  have hlo:=(h97 i hlt).1;obtain⟨d,hd9⟩:=eJ (l.getD i 0-97);rw[Zgt hlt,hd9] at hr
  have hr2:((d:Int)==(c:Int))=r:=by
   rw[← hr];by_cases h:d=c
   ·subst h;simp[hji]
   rw[decide_eq_false (fun g=>h g.2)];simp;omega
  subst hr2;have hle:=fun u'=>ZbJ l i hlt Ht.out hlo u'
  rw[hd9] at hle;have Hle:=qh hle;clear hle hd9 hr h97 hlo
  go_enter Try.func114, Try.ntmps114
  go_wp2
  go_quiet ((go_at_call 77;with_reducible exact Zgf (Hle.out _)))
  go_wp2;go_ret;exact⟨rfl,below_drewN (Below.refl _ _) _⟩
 have hd:((j:Int)==(i:Int)+1)=false:=by simp;omega
 have hr2:r=false:=by rw[← hr,decide_eq_false (fun g=>hji g.1)]
 subst hr2;clear hr h97
 go_enter Try.func114, Try.ntmps114
 go_wp2
 go_quiet (fail)
 go_wp2;go_ret;exact⟨rfl,below_drewN (Below.refl _ _) _⟩
def anyU (f:Nat→Bool) (lo:Nat):Nat→Bool
 | 0=>false
 | d+1=>anyU f lo d||f (lo+d)
theorem Zdm (f:Nat→Bool) (lo:Nat):∀ d,anyU f lo d=true↔∃ m,lo≤m∧m<lo+d∧f m=true
 | 0=>⟨fun h=>(by cases h),fun ⟨m,h1,h2,_⟩=>(by omega)⟩
 | d+1=>by
  rw[anyU,Bool.or_eq_true,Zdm f lo d];constructor
  ·rintro(⟨m,h1,h2,h3⟩|h)
   ·exact⟨m,h1,by omega,h3⟩
   exact⟨lo+d,by omega,by omega,h⟩
  rintro⟨m,h1,h2,h3⟩;by_cases e:m=lo+d
  ·subst e;exact .inr h3
  exact .inl ⟨m,h1,by omega,h3⟩
theorem Zbi {n:Nat} {F:Nat→Nat→Bool} {i j:Nat} (h1:i≤j) (h2:j≤n):Zad n F i j=F i j:=by unfold Zad;rw[decide_eq_true ⟨h1,h2⟩,Bool.true_and]
theorem Zf6 {n:Nat} (ls:List Nat) (a b:Ex) {i j:Nat} (hn:n≤8) (hij:i≤j) (hj:j≤n):tabE n ls (.join a b) i j=anyU (fun m=>Zad n (tabE n ls a) i m&&Zad n (tabE n ls b) m j) i (j+1-i):=by
 rw[Bool.eq_iff_iff,Zdm];rw[show tabE n ls (.join a b) i j=ZcG (Zad n (tabE n ls a)) (Zad n (tabE n ls b)) i j from rfl,Zbu hn hj];constructor
 ·rintro⟨k,h1,h2,h3,h4⟩;exact⟨k,h1,by omega,by rw[h3,h4];rfl⟩
 rintro⟨k,h1,h2,h3⟩;rw[Bool.and_eq_true] at h3;exact⟨k,h1,by omega,h3.1,h3.2⟩
theorem Zf4 {n:Nat} {ls:List Nat} (hl:ls.length=n) (a:Ex) {i j:Nat} (hn:n≤8) (hij:i≤j) (hj:j≤n):tabE n ls (.star a) i j=(decide (i=j)||anyU (fun m=>Zad n (tabE n ls a) i m&&Zad n (tabE n ls (.star a)) m j) (i+1) (j-i)):=by
 rw[Bool.eq_iff_iff,Zfa hl hn a hij hj,Bool.or_eq_true,decide_eq_true_eq,Zdm];refine or_congr Iff.rfl ⟨?_,?_⟩
 ·rintro⟨k,h1,h2,h3,h4⟩;exact⟨k,h1,by omega,by rw[Zbi (by omega) (by omega),Zbi h2 hj,h3,h4];rfl⟩
 rintro⟨k,h1,h2,h3⟩;rw[Zbi (by omega) (by omega),Zbi (by omega) hj,Bool.and_eq_true] at h3;exact⟨k,h1,by omega,h3.1,h3.2⟩
theorem kinds {p1 p2 r:Int} (h:Zab (p1,p2)=r) (ho:pOk (p1,p2)=true):(p1=1∧r=0)∨(p1=2∧r=0)∨(p1=3∧r=0∧0≤p2∧p2≤2)∨(p1=4∧r=2)∨(p1=5∧r=2)∨(p1=6∧r=2)∨(p1=7∧r=1)∨(p1=8∧r=1):=by
 subst h;unfold Zab;rw[if_pos ho];unfold pOk inB at ho;simp only[Bool.and_eq_true,Bool.or_eq_true,decide_eq_true_eq,Bool.not_eq_true',decide_eq_false_iff_not] at ho;obtain⟨h1,h2⟩:=ho;have h8:p1=1∨p1=2∨p1=3∨p1=4∨p1=5∨p1=6∨p1=7∨p1=8:=by omega
 rcases h8 with rfl|rfl|rfl|rfl|rfl|rfl|rfl|rfl
 all_goals simp
 omega
theorem Zgy {n:Nat} {l:List Nat} {p2:Int} (h0:0≤p2) (h2:p2≤2) {i j:Nat} (hi:i<l.length) (a b:Ex):tabE n (lsT l) (mkE (3,p2) a b) i j=(decide (j=i+1)&&(((l.getD i 0-97:Nat):Int)==p2)):=by
 have e:mkE (3,p2) a b = .ltr (if p2=1 then 1 else if p2=2 then 2 else 0):=rfl;rw[e,tabE];show decide (j=i+1∧(lsT l).getD i 0=_)=_;rw[Zgt hi,Bool.eq_iff_iff,decide_eq_true_eq,Bool.and_eq_true,decide_eq_true_eq,beq_iff_eq];refine and_congr Iff.rfl ?_;have h3:p2=0∨p2=1∨p2=2:=by omega
 rcases h3 with rfl|rfl|rfl
 ·simp
 ·simp;omega
 simp;omega
theorem Zf5 {n:Nat} {ls:List Nat} {p2:Int} {i j:Nat} (hj:j≠i+1) (a b:Ex):tabE n ls (mkE (3,p2) a b) i j=false:=by have e:mkE (3,p2) a b = .ltr (if p2=1 then 1 else if p2=2 then 2 else 0):=rfl;rw[e,tabE];exact decide_eq_false fun h=>hj h.1
theorem yesI {a b:Int} (h:a=b):(a==b)=true∧(a=b)=True∧(a != b)=false:=by simp[h]
theorem ZgC {A B C:Prop} (h:((0:Int)=0∧A)∨((0:Int)=1∧B)∨((0:Int)=2∧C)):A:=by
 rcases h with⟨-,h⟩|⟨h,-⟩|⟨h,-⟩
 ·exact h
 ·exact absurd h (by decide)
 exact absurd h (by decide)
theorem ZfI {vs:List Value} {q:Nat} (h:q<vs.length):vs[q]? = some (vs.getD q undef):=by rw[List.getD_eq_getElem?_getD,List.getElem?_eq_getElem h];rfl
theorem St.tab {w0 w:World} {L:List Ent} (h:St w0 w L) (i x:Nat) {T k c g q N:Nat} {vs:List Value} {X:Ent} {F:Nat→Nat→Bool} (hx:L[i]? = some (Ent.row T 1 (.slice (some ⟨g,0,none⟩) k c) k vs)) (hX:L[x]? = some X) (hvs:vs.length=k) (hq:q<k) (ht:TbH X (vs.getD q undef) N F) :
  ∃ (B c':Nat) (R:Nat→Nat),w.cell? ⟨g,q,none⟩=some (.slice (some ⟨B,0,none⟩) N c')∧(∀ i,i<N→w.cell? ⟨B,i,none⟩=some (.slice (some ⟨R i,0,none⟩) N N))∧∀ i j,i<N→j<N→w.cell? ⟨R i,j,none⟩=some (.bool (F i j)):=by
 obtain⟨B,c',R,hv,h1⟩:=ht;obtain⟨h2,h3⟩:=h1 w (h.has x _ hX).1;exact⟨B,c',R,by rw[← hv];exact h.rcell i q hx (by omega) (ZfI (by omega)),h2,h3⟩
end Go.Proofs.Ytfgpkadhegdffaa
namespace Go.Proofs.Ytfgpkadhegdffaa
open Go.RowKit Go.Maps
theorem Zfx {k:IntKind} {x:Int}:∀ u∈[Value.int k x],u.oneCell'=true:=by intro u hu;simp only[List.mem_singleton] at hu;subst hu;rfl
end Go.Proofs.Ytfgpkadhegdffaa
namespace Go.Proofs.Ytfgpkadhegdffaa
open Go.RowKit
section
variable {P:Program} (w:World)
theorem ZcD {w:World} {base e size n:Nat} {v:Value} {xs:List Value} (h:w.ownsRow base e size v n xs):∃ a cap,v = .slice a n cap∧n≤cap:=by
 rcases h.2 with⟨h1,h2⟩|⟨g',cap',cur,h1,-,-,h4,-⟩
 ·exact⟨none,0,by rw[h1,h2],by omega⟩
 exact⟨_,cap',h1,h4⟩
theorem Zdc (t ty:TypeId) (base:Nat) (e:TypeId) (i:TypeInfo) (z:Value) (size bytes:Nat) (ht:P.underlying t=some (.slice e)) (hi:P.info? e=some i) (hz:i.zero=some z)
  (hsize:i.size=size) (hby:i.bytes=bytes) (hzs:z.cells.size=size) (hsz:0<size)
  (v:Value) (n:Nat) (xs:List Value) (hown:w.ownsRow base e size v n xs) (x:Value) (m:Nat) (news:List Value) (hx:Sl 0 w x m size news) (h1:∀ u∈news,u.oneCell'=true)
  (h63:n+m≤maxLen) (hbytes:(n+m)*bytes≤140737488355328) (hbase:base≤w.heap.size) :
  ∃ a' cap w',(Builtin.append_ #[t,t] ty #[v,x]).run P w = .ok (.slice a' (n+m) cap) w'∧w'.ownsRow base e size (.slice a' (n+m) cap) (n+m) (xs++news)∧w.grownBy w' v.ownBlock ∧
   (∀ k,(Value.slice a' (n+m) cap).ownBlock=some k→v.ownBlock=some k∨w.heap.size≤k):=by
 obtain⟨hl,a,cap,rfl,hle,hm,hc⟩:=hx;cases a with
 | some ad =>
  have hnews:∀ j u,news[j]? = some u→w.cell? (ad.add j)=some u:=fun j u hj=>by
   have hjl:=(List.getElem?_eq_some_iff.1 hj).1
   have hm0:0<m:=by
    rcases Nat.eq_zero_or_pos m with h0|h0
    ·rw[h0] at hl;omega
    exact h0
   obtain⟨b,off,ha,-,-,hcs⟩:=hc hm0;simp only[Option.some.injEq] at ha;subst ha;rw[← hj,← hcs j (by omega),← Go.WideShapes.add_plain]
  obtain⟨v',w',hr,h2,h3,-,h5⟩:=run_append_own_at (P:=P) w base t ty e i z size bytes ht hi hz hsize hby hzs hsz v n xs hown ad m cap news hl hnews h1 h63 hbytes hbase;obtain⟨a',cap',rfl,-⟩:=ZcD h2;refine⟨a',cap',w',hr,h2,h3,fun k hk => ?_⟩;rcases h5 with h5|h5
  ·exact Or.inl (by rw[← h5];exact hk)
  rw[h5] at hk;exact Or.inr (by simp only[Option.some.injEq] at hk;omega)
 | none =>
  have hm0:m=0:=by
   rcases Nat.eq_zero_or_pos m with h0|h0
   ·exact h0
   obtain⟨b,off,ha,-⟩:=hc h0;cases ha
  subst hm0;have hnil:news=[]:=List.eq_nil_of_length_eq_zero (by omega);subst hnil;obtain⟨a',cap',rfl,hlc⟩:=ZcD hown;subst hsize;refine⟨a',cap',w,run_append_nothing w t t ty e i ht hi a' n cap' hlc _ (Src.ofNil w ht cap),by simpa using hown,⟨rfl,rfl,rfl,Nat.le_refl _,fun _ _ _=>rfl⟩,fun k hk=>Or.inl hk⟩
theorem Zdp {o:Oper} {a:Act} {K:Act→World→Prop} {Q:Exit→Act→World→Prop} (s x:Operand) (t:TypeId)
  (ho:o.op = .call { callee:=.builtin .append,args:=#[s,x],argTypes:=#[t,t] })
  (base:Nat) (e:TypeId) (i:TypeInfo) (z:Value) (size bytes:Nat) (ht:P.underlying t=some (.slice e)) (hi:P.info? e=some i) (hz:i.zero=some z)
  (hsize:i.size=size) (hby:i.bytes=bytes) (hzs:z.cells.size=size) (hsz:0<size)
  (v:Value) (n:Nat) (xs:List Value) (hs:a.eval s=v) (hown:w.ownsRow base e size v n xs)
  (y:Value) (m:Nat) (news:List Value) (hy:a.eval x=y) (hx:Sl 0 w y m size news) (h1:∀ u∈news,u.oneCell'=true)
  (h63:n+m≤maxLen) (hbytes:(n+m)*bytes≤140737488355328) (hbase:base≤w.heap.size)
  (h:∀ a' cap w',w'.ownsRow base e size (.slice a' (n+m) cap) (n+m) (xs++news)→w.grownBy w' v.ownBlock→(∀ k,(Value.slice a' (n+m) cap).ownBlock=some k→v.ownBlock=some k∨w.heap.size≤k)→K (a.put o.dst (.slice a' (n+m) cap)) w'):o.wp P a w K Q:=by
 obtain⟨a',cap,w',hr,h2,h3,h4⟩:=Zdc (P:=P) w t o.type base e i z size bytes ht hi hz hsize hby hzs hsz v n xs hown y m news hx h1 h63 hbytes hbase;unfold Oper.wp execOp;simp only[ho,resolve,invoke,builtin,Sem.run_bind,Sem.run_pure,Result.andThen_ok,List.map_toArray,List.map_cons,List.map_nil,hs,hy,hr];exact h a' cap w' h2 h3 h4
theorem Zae {ops:Array Oper} {rest:List Oper} {o:Oper} {a:Act} {Q:Exit→Act→World→Prop} (hgd:o.guard=none) (s x:Operand) (t:TypeId)
  (ho:o.op = .call { callee:=.builtin .append,args:=#[s,x],argTypes:=#[t,t] })
  (base:Nat) (e:TypeId) (i:TypeInfo) (z:Value) (size bytes:Nat) (ht:P.underlying t=some (.slice e)) (hi:P.info? e=some i) (hz:i.zero=some z)
  (hsize:i.size=size) (hby:i.bytes=bytes) (hzs:z.cells.size=size) (hsz:0<size)
  (v:Value) (n:Nat) (xs:List Value) (hs:a.eval s=v) (hown:w.ownsRow base e size v n xs)
  (y:Value) (m:Nat) (news:List Value) (hy:a.eval x=y) (hx:Sl 0 w y m size news) (h1:∀ u∈news,u.oneCell'=true)
  (h63:n+m≤maxLen) (hbytes:(n+m)*bytes≤140737488355328) (hbase:base≤w.heap.size)
  (h:∀ a' cap w',w'.ownsRow base e size (.slice a' (n+m) cap) (n+m) (xs++news)→w.grownBy w' v.ownBlock→(∀ k,(Value.slice a' (n+m) cap).ownBlock=some k→v.ownBlock=some k∨w.heap.size≤k)→wpList P ops Q rest (a.put o.dst (.slice a' (n+m) cap)) w'):wpList P ops Q (o::rest) a w :=
 wpList_plain hgd fun _ hK=>Zdp w s x t ho base e i z size bytes ht hi hz hsize hby hzs hsz v n xs hs hown y m news hy hx h1 h63 hbytes hbase fun a' cap w' h2 h3 h4=>hK _ _ (h a' cap w' h2 h3 h4)
end
theorem Zcc {xs:List (Int × Int)}:∀ u∈xs.flatMap Zaa,u.oneCell'=true:=fun u hu=>by obtain⟨x,-,hx⟩:=List.mem_flatMap.1 hu;simp only[Zaa,List.mem_cons,List.not_mem_nil,or_false] at hx;rcases hx with rfl|rfl<;>simp[Value.oneCell']
theorem St.appS {w0 w w':World} {L:List Ent} (h:St w0 w L) (i:Nat) {B e size n m cap:Nat} {a':Option Addr} {v:Value} {cs cs':List Value} (hx:L[i]? = some (Ent.row e size v n cs)) (hown:w'.ownsRow B e size (.slice a' m cap) m cs') (hg:w.grownBy w' v.ownBlock)
  (hat:∀ k,(Value.slice a' m cap).ownBlock=some k→v.ownBlock=some k∨w.heap.size≤k):St w0 w' (L.set i (Ent.row e size (.slice a' m cap) m cs')):=h.grow i hx hg hown hat
end Go.Proofs.Ytfgpkadhegdffaa
