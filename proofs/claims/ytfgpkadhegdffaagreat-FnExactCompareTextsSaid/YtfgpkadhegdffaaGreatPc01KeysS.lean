/-
  States met in breadth, letter by letter, with the words that lead to them: the plain meaning of the program's and of the reference's searches.
  No condition: this text speaks of no program.
  A map from things to their places in a list.
  No condition: this text speaks of no program.
  The first of the things met that ends, and its word: plain laws; the same for the numbered automaton.
  No condition: this text speaks of no program.
-/
import Derived.Test.YtfgpkadhegdffaaGreatPc00Grow
set_option maxRecDepth 100000
namespace Go.Proofs.YtfgpkadhegdffaaGreat
structure Bs (α:Type) where
 met:List α
 words:List (List Nat)
section
variable {α:Type} [DecidableEq α]
def bvisit (nx:α→Nat→α) (x:α) (wd:List Nat) (s:Bs α) (c:Nat):Bs α :=
 if nx x c∈s.met then s else⟨s.met++[nx x c],s.words++[wd++[c]]⟩
def brow (nx:α→Nat→α) (x:α) (wd:List Nat) (s:Bs α):Nat→Bs α
 | 0=>s
 | n+1=>bvisit nx x wd (brow nx x wd s n) n
def bat (nx:α→Nat→α) (a:α):Nat→Bs α
 | 0=>⟨[a],[[]]⟩
 | k+1=>if k<(bat nx a k).met.length then brow nx ((bat nx a k).met.getD k a) ((bat nx a k).words.getD k []) (bat nx a k) 3 else bat nx a k
def bpart (nx:α→Nat→α) (a:α) (k n:Nat):Bs α:=brow nx ((bat nx a k).met.getD k a) ((bat nx a k).words.getD k []) (bat nx a k) n
variable {nx:α→Nat→α} {a:α}
theorem Zam (k:Nat):bpart nx a k 0=bat nx a k:=rfl
theorem ZaG {k:Nat} (h:k<(bat nx a k).met.length):bat nx a (k+1)=bpart nx a k 3:=by simp only[bat,if_pos h];rfl
theorem Zby {k:Nat} (h:(bat nx a k).met.length≤k):bat nx a (k+1)=bat nx a k:=by simp only[bat,if_neg (show ¬ k<(bat nx a k).met.length by omega)]
theorem Zhg (k n:Nat):bpart nx a k (n+1)=bvisit nx ((bat nx a k).met.getD k a) ((bat nx a k).words.getD k []) (bpart nx a k n) n:=rfl
theorem Zbf {k n:Nat} (h:nx ((bat nx a k).met.getD k a) n∈(bpart nx a k n).met):bpart nx a k (n+1)=bpart nx a k n:=by rw[Zhg,bvisit,if_pos h]
theorem Za4 {k n:Nat} (h:nx ((bat nx a k).met.getD k a) n ∉ (bpart nx a k n).met):bpart nx a k (n+1)=⟨(bpart nx a k n).met++[nx ((bat nx a k).met.getD k a) n],(bpart nx a k n).words++[(bat nx a k).words.getD k []++[n]]⟩:=by rw[Zhg,bvisit,if_neg h]
theorem ZfB (Q:Bs α→Prop) {x:α} {wd:List Nat} {s:Bs α} (hs:Q s) (hv:∀ t c,c<3→Q t→Q (bvisit nx x wd t c)):∀ n,n≤3→Q (brow nx x wd s n)
 | 0,_=>hs
 | n+1,h=>hv _ n (by omega) (ZfB Q hs hv n (by omega))
theorem ZeQ (Q:Bs α→Prop) (h0:Q ⟨[a],[[]]⟩) (hv:∀ s k,k<s.met.length→∀ t c,c<3→Q s→Q t→Q (bvisit nx (s.met.getD k a) (s.words.getD k []) t c)):∀ k,Q (bat nx a k)
 | 0=>h0
 | k+1=>by
  have ih:=ZeQ Q h0 hv k;by_cases h:k<(bat nx a k).met.length
  ·rw[ZaG h];exact ZfB Q ih (fun t c hc ht=>hv _ k h t c hc ih ht) 3 (by omega)
  rw[Zby (by omega)];exact ih
theorem Zi1 (Q:Bs α→Prop) (h0:Q ⟨[a],[[]]⟩) (hv:∀ s k,k<s.met.length→∀ t c,c<3→Q s→Q t→Q (bvisit nx (s.met.getD k a) (s.words.getD k []) t c)) {k n:Nat} (hk:k<(bat nx a k).met.length) (hn:n≤3):Q (bpart nx a k n) :=
 ZfB Q (ZeQ Q h0 hv k) (fun t c hc ht=>hv _ k hk t c hc (ZeQ Q h0 hv k) ht) n hn
omit [DecidableEq α] in
theorem ZcO {l:List α} {x:α} (h:l.Nodup) (hx:x ∉ l):(l++[x]).Nodup:=by rw[List.nodup_append];refine⟨h,by simp,?_⟩;intro b hb c hc;simp only[List.mem_singleton] at hc;subst hc;intro e;subst e;exact hx hb
theorem Zgt (x:α) (wd:List Nat) {t:Bs α} (c:Nat) (h:t.met.Nodup∧t.words.length=t.met.length∧t.met.head? = some a) :
  (bvisit nx x wd t c).met.Nodup∧(bvisit nx x wd t c).words.length=(bvisit nx x wd t c).met.length∧(bvisit nx x wd t c).met.head? = some a:=by
 unfold bvisit
 split
 ·exact h
 rename_i hx;obtain⟨h1,h2,h3⟩:=h;exact⟨ZcO h1 hx,by simp[h2],by simp[h3]⟩
theorem ZaD (k:Nat):(bat nx a k).met.Nodup∧(bat nx a k).words.length=(bat nx a k).met.length∧(bat nx a k).met.head? = some a :=
 ZeQ (fun s=>s.met.Nodup∧s.words.length=s.met.length∧s.met.head? = some a) (by simp) (fun s k _ t c _ _ ht=>Zgt _ _ _ ht) k
theorem ZbD {k n:Nat} (hk:k<(bat nx a k).met.length) (hn:n≤3):(bpart nx a k n).met.Nodup∧(bpart nx a k n).words.length=(bpart nx a k n).met.length∧(bpart nx a k n).met.head? = some a :=
 Zi1 (fun s=>s.met.Nodup∧s.words.length=s.met.length∧s.met.head? = some a) (by simp) (fun s k _ t c _ _ ht=>Zgt _ _ _ ht) hk hn
theorem Zcv (k:Nat):0<(bat nx a k).met.length:=by
 have:=(ZaD (nx:=nx) (a:=a) k).2.2;cases h:(bat nx a k).met with
 | nil=>rw[h] at this;simp at this
 | cons=>simp
theorem Zgv (k:Nat):(bat nx a k).met.getD 0 a=a:=by
 have:=(ZaD (nx:=nx) (a:=a) k).2.2;cases h:(bat nx a k).met with
 | nil=>rw[h] at this;simp at this
 | cons=>rw[h] at this;simpa using this
theorem Zbr {Q:α→Prop} (h0:Q a) (hv:∀ x c,c<3→Q x→Q (nx x c)) (k:Nat):∀ x∈(bat nx a k).met,Q x:=by
 refine ZeQ (fun s=>∀ x∈s.met,Q x) (by simpa using h0) (fun s k hk t c hc hs ht => ?_) k;unfold bvisit
 split
 ·exact ht
 intro x hx;simp only[List.mem_append,List.mem_singleton] at hx;rcases hx with hx|rfl
 ·exact ht x hx
 refine hv _ c hc (hs _ ?_);rw[List.getD_eq_getElem?_getD,List.getElem?_eq_getElem hk];simp
theorem Zi2 {Q:α→Prop} (h0:Q a) (hv:∀ x c,c<3→Q x→Q (nx x c)) {k n:Nat} (hk:k<(bat nx a k).met.length) (hn:n≤3):∀ x∈(bpart nx a k n).met,Q x:=by
 refine Zi1 (fun s=>∀ x∈s.met,Q x) (by simpa using h0) (fun s k hk t c hc hs ht => ?_) hk hn;unfold bvisit
 split
 ·exact ht
 intro x hx;simp only[List.mem_append,List.mem_singleton] at hx;rcases hx with hx|rfl
 ·exact ht x hx
 refine hv _ c hc (hs _ ?_);rw[List.getD_eq_getElem?_getD,List.getElem?_eq_getElem hk];simp
def Bs.le (s t:Bs α):Prop:=s.met <+: t.met∧s.words <+: t.words
omit [DecidableEq α] in
theorem Bs.le_refl (s:Bs α):s.le s:=⟨List.prefix_rfl,List.prefix_rfl⟩
omit [DecidableEq α] in
theorem Bs.le_trans {s t u:Bs α} (h:s.le t) (k:t.le u):s.le u:=⟨h.1.trans k.1,h.2.trans k.2⟩
theorem ZmD (x:α) (wd:List Nat) (s:Bs α) (c:Nat):s.le (bvisit nx x wd s c):=by
 unfold bvisit
 split
 ·exact Bs.le_refl _
 exact⟨List.prefix_append _ _,List.prefix_append _ _⟩
theorem ZmE (x:α) (wd:List Nat) (s:Bs α) (n m:Nat) (h:n≤m):(brow nx x wd s n).le (brow nx x wd s m):=by
 induction m with
 | zero=>obtain rfl:n=0:=by omega
         exact Bs.le_refl _
 | succ m ih =>
  by_cases hn:n=m+1
  ·subst hn;exact Bs.le_refl _
  exact Bs.le_trans (ih (by omega)) (ZmD _ _ _ _)
theorem ZaY {k n m:Nat} (h:n≤m):(bpart nx a k n).le (bpart nx a k m):=ZmE _ _ _ n m h
theorem ZjN (k:Nat):(bat nx a k).le (bat nx a (k+1)):=by
 by_cases h:k<(bat nx a k).met.length
 ·rw[ZaG h];exact ZmE _ _ _ 0 3 (by omega)
 rw[Zby (by omega)];exact Bs.le_refl _
theorem Zdc {k m:Nat} (h:k≤m):(bat nx a k).le (bat nx a m):=by
 induction m with
 | zero=>obtain rfl:k=0:=by omega
         exact Bs.le_refl _
 | succ m ih =>
  by_cases hn:k=m+1
  ·subst hn;exact Bs.le_refl _
  exact Bs.le_trans (ih (by omega)) (ZjN _)
theorem Zay {k n m:Nat} (hk:k<(bat nx a k).met.length) (hn:n≤3) (hm:k<m):(bpart nx a k n).le (bat nx a m):=by
 have h1:(bpart nx a k n).le (bat nx a (k+1)):=by rw[ZaG hk];exact ZaY hn
 exact Bs.le_trans h1 (Zdc hm)
theorem Zbb {k m:Nat} (h:(bat nx a k).met.length≤k) (hm:k≤m):bat nx a m=bat nx a k:=by
 induction m with
 | zero=>obtain rfl:k=0:=by omega
         rfl
 | succ m ih =>
  by_cases hn:k=m+1
  ·subst hn;rfl
  have e:=ih (by omega);rw[Zby (by rw[e];omega),e]
def Zaj (l:List α) (x:α):Nat:=l.idxOf x
theorem ZaM {l:List α} {x:α} (h:x∈l):Zaj l x<l.length:=List.idxOf_lt_length_iff.2 h
omit [DecidableEq α] in
theorem Zao {l m:List α} (h:l <+: m) {k:Nat} (hk:k<l.length) (d:α):m.getD k d=l.getD k d:=by obtain⟨t,rfl⟩:=h;simp[List.getElem?_append_left hk]
theorem Za1 {l m:List α} (h:l <+: m) {x:α} (hx:x∈l):Zaj m x=Zaj l x:=by obtain⟨t,rfl⟩:=h;unfold Zaj;rw[List.idxOf_append,if_pos hx]
theorem Zfy {l m:List α} {x:α} (h:l++[x] <+: m) (hx:x ∉ l):Zaj m x=l.length:=by rw[Za1 h (by simp)];unfold Zaj;rw[List.idxOf_append,if_neg hx];simp
theorem Zee {l:List α} {k:Nat} (hk:k<l.length) (hn:l.Nodup) (d:α):Zaj l (l.getD k d)=k:=by unfold Zaj;rw[List.getD_eq_getElem?_getD,List.getElem?_eq_getElem hk];simp[hn]
theorem ZhU {l:List α} {x:α} (hx:x∈l) (d:α):l.getD (Zaj l x) d=x:=by unfold Zaj;rw[List.getD_eq_getElem?_getD,List.getElem?_eq_getElem (List.idxOf_lt_length_iff.2 hx)];simp
theorem Zi0 {k n c:Nat} (hc:c<n):nx ((bat nx a k).met.getD k a) c∈(bpart nx a k n).met:=by
 have h1:nx ((bat nx a k).met.getD k a) c∈(bpart nx a k (c+1)).met:=by
  by_cases h:nx ((bat nx a k).met.getD k a) c∈(bpart nx a k c).met
  ·rw[Zbf h];exact h
  rw[Za4 h];simp
 exact(ZaY (nx:=nx) (a:=a) (k:=k) (show c+1≤n by omega)).1.subset h1
theorem ZdA {l m:List α} (hn:l.Nodup) (hs:∀ x∈l,x∈m):l.length≤m.length:=by
 induction l generalizing m with
 | nil=>simp
 | cons x l ih =>
  rw[List.nodup_cons] at hn;have h1:=ih (m:=m.erase x) hn.2 fun y hy=>(List.mem_erase_of_ne (fun e=>hn.1 (by rw[← e];exact hy))).2 (hs y (by simp[hy]))
  have h2:=List.length_erase_of_mem (hs x (by simp));have h3:=List.length_pos_of_mem (hs x (by simp));simp only[List.length_cons];omega
end
def Zbg {α:Type} [DecidableEq α] (nx:α→Nat→α) (a:α) (F:List α) (s:Int) (c:Nat):Int:=Zaj F (nx (F.getD s.toNat a) c)
def ZaQ (n:Nat):List Int:=(List.range n).map Int.ofNat
theorem Zi9 (n:Nat):ZaQ (n+1)=ZaQ n++[(n:Int)]:=by simp[ZaQ,List.range_succ]
theorem ZbP {n:Nat} {x:Nat}:(x:Int)∈ZaQ n↔x<n:=by
 simp only[ZaQ,List.mem_map,List.mem_range];constructor
 ·rintro⟨y,hy,e⟩;have e2:(y:Int)=(x:Int):=e;omega
 intro h;exact⟨x,h,rfl⟩
theorem ZfE {n k:Nat} (h:k<n):(ZaQ n).getD k 0=(k:Int):=by simp[ZaQ,h]
theorem ZbN (n:Nat):(ZaQ n).length=n:=by simp[ZaQ]
theorem Zjs {α:Type} [DecidableEq α] (nx:α→Nat→α) (a:α) (K:Nat):∀ k,k≤K →
  bat (Zbg nx a (bat nx a K).met) 0 k=⟨ZaQ (bat nx a k).met.length,(bat nx a k).words⟩
 | 0,_=>rfl
 | k+1,hK=>by
  have ih:=Zjs nx a K k (by omega);have hlen:(bat (Zbg nx a (bat nx a K).met) 0 k).met.length=(bat nx a k).met.length:=by rw[ih];exact ZbN _
  by_cases h:k<(bat nx a k).met.length
  ·rw[ZaG h,ZaG (by rw[hlen];exact h)]
   have hrow:∀ n,n≤3→bpart (Zbg nx a (bat nx a K).met) 0 k n=⟨ZaQ (bpart nx a k n).met.length,(bpart nx a k n).words⟩:=by
    intro n
    induction n with
    | zero=>intro _;rw[Zam,Zam];exact ih
    | succ n ihn =>
     intro hn;have e:=ihn (by omega);have hx:(bat (Zbg nx a (bat nx a K).met) 0 k).met.getD k 0=(k:Int):=by rw[ih];exact ZfE h
     have hF:(bat nx a K).met.getD k a=(bat nx a k).met.getD k a:=Zao (Zdc (show k≤K by omega)).1 h a;have hnx:Zbg nx a (bat nx a K).met (k:Int) n=(Zaj (bat nx a K).met (nx ((bat nx a k).met.getD k a) n):Int):=by unfold Zbg;rw[show((k:Int).toNat)=k from rfl,hF]
     by_cases hm:nx ((bat nx a k).met.getD k a) n∈(bpart nx a k n).met
     ·rw[Zbf hm];have hi:=Za1 (Zay (m:=K) h (show n≤3 by omega) (by omega)).1 hm;have hlt:Zaj (bat nx a K).met (nx ((bat nx a k).met.getD k a) n)<(bpart nx a k n).met.length:=by rw[hi];exact ZaM hm
      rw[Zbf (by rw[hx,hnx,e];exact ZbP.2 hlt),e]
     have hb:=Zay (nx:=nx) (a:=a) (m:=K) h hn (by omega);rw[Za4 hm] at hb;have hi:=Zfy hb.1 hm;rw[Za4 (by rw[hx,hnx,e,hi];simp[ZbP]),Za4 hm,hx,hnx,hi,e,ih];simp[Zi9]
   exact hrow 3 (by omega)
  rw[Zby (k:=k) (a:=a) (by omega),Zby (by rw[hlen];omega)];exact ih
end Go.Proofs.YtfgpkadhegdffaaGreat
namespace Go.Proofs.YtfgpkadhegdffaaGreat
open Go.RowKit
section
variable {α:Type} [DecidableEq α]
def numbered (l:List α):List (α × Value):=l.zipIdx.map fun p=>(p.1,Value.int .i64 (p.2:Int))
omit [DecidableEq α] in
theorem ZhD (l:List α) (x:α):numbered (l++[x])=numbered l++[(x,Value.int .i64 (l.length:Int))]:=by simp[numbered,List.zipIdx_append]
omit [DecidableEq α] in
theorem Zc3 (l:List α):(numbered l).map (·.1)=l:=by simp only[numbered,List.map_map];have:((fun x:α × Value=>x.1) ∘ fun p:α × Nat=>(p.1,Value.int .i64 (p.2:Int)))=Prod.fst:=rfl;rw[this,List.zipIdx_map_fst]
theorem Zbn {l:List α} (hn:l.Nodup) {x:α} (hx:x∈l):look x (numbered l)=some (.int .i64 (Zaj l x:Int)):=by refine Zj8 (by rw[Zc3];exact hn) (j:=Zaj l x) ?_;have hlt:=List.idxOf_lt_length_iff.2 hx;unfold Zaj;simp only[numbered,List.getElem?_map,List.getElem?_zipIdx,List.getElem?_eq_getElem hlt,Option.map_some,Nat.zero_add,List.getElem_idxOf]
theorem Zcq {l:List α} {x:α} (hx:x ∉ l):look x (numbered l)=none :=
 ZiG fun p hp e=>hx (by rw[← Zc3 l,← e];exact List.mem_map.2 ⟨p,hp,rfl⟩)
theorem ZcG {l:List α} {x:α} (hx:x ∉ l):upd x (.int .i64 (l.length:Int)) (numbered l)=numbered (l++[x]):=by rw[ZhD];exact ZjT fun p hp e=>hx (by rw[← Zc3 l,← e];exact List.mem_map.2 ⟨p,hp,rfl⟩)
end
end Go.Proofs.YtfgpkadhegdffaaGreat
namespace Go.Proofs.YtfgpkadhegdffaaGreat
open Go.RowKit
theorem memD {α:Type} {xs:List α} {k:Nat} {d:α} (h:k<xs.length):xs.getD k d∈xs:=by rw[List.getD_eq_getElem?_getD,List.getElem?_eq_getElem h];simp
theorem Zba {α:Type} {xs:List α} {k:Nat} {d:α} (h:k<xs.length):xs.getD k d=xs[k]:=by simp[h]
def dnx (d:DfaD) (s:Int) (c:Nat):Int:=(d.next.getD s.toNat []).getD c 0
def den (d:DfaD) (s:Int):Bool:=d.ends.getD s.toNat false
def ZaJ {α:Type} (en:α→Bool) (s:Bs α):Option (List Nat):=((s.met.zip s.words).find? fun p=>en p.1).map (·.2)
def fine (d:DfaD):Prop:=1≤d.next.length∧d.next.length≤100000∧d.ends.length=d.next.length∧∀ i,i<d.next.length→(d.next.getD i []).length=3∧∀ c,c<3→0≤(d.next.getD i []).getD c 0∧(d.next.getD i []).getD c 0<d.next.length
theorem ZdV {α:Type} {en:α→Bool} {s t:Bs α} {k:Nat} {d:α} (hst:s.le t) (hl:s.words.length=s.met.length) (htl:t.words.length=t.met.length) (hk:k<s.met.length) (hno:∀ j,j<k→en (s.met.getD j d)=false) (hyes:en (s.met.getD k d)=true):ZaJ en t=some (s.words.getD k []):=by
 have hml:s.met.length≤t.met.length:=hst.1.length_le;have hget:∀ j,j<s.met.length→t.met.getD j d=s.met.getD j d:=fun j hj=>by obtain⟨u,hu⟩:=hst.1;rw[← hu];simp[List.getElem?_append_left hj]
 have hgw:t.words.getD k []=s.words.getD k []:=by obtain⟨u,hu⟩:=hst.2;rw[← hu];simp[List.getElem?_append_left (show k<s.words.length by omega)]
 have hat:∀ j,(hj:j<t.met.length)→t.met[j]=t.met.getD j d:=fun j hj=>by simp[hj]
 have hf:(t.met.zip t.words).find? (fun p=>en p.1)=some (t.met.getD k d,t.words.getD k []):=by
  rw[List.find?_eq_some_iff_getElem];refine⟨by simp only;rw[hget k hk];exact hyes,k,by rw[List.length_zip];omega,?_,fun j hj => ?_⟩
  ·simp[List.getElem_zip,show k<t.met.length by omega,show k<t.words.length by omega]
  simp only[List.getElem_zip];rw[hat j (by omega),hget j (by omega),hno j hj];rfl
 unfold ZaJ;rw[hf,← hgw];rfl
theorem Zc6 {α:Type} {en:α→Bool} {s:Bs α} {d:α} (hno:∀ j,j<s.met.length→en (s.met.getD j d)=false):ZaJ en s=none:=by
 unfold ZaJ;rw[List.find?_eq_none.2]
 ·rfl
 intro p hp;obtain⟨j,hj,rfl⟩:=List.mem_iff_getElem.1 hp;have hjm:j<s.met.length:=by rw[List.length_zip] at hj;omega
 have:=hno j hjm;simp only[List.getElem_zip];rw[List.getD_eq_getElem?_getD,List.getElem?_eq_getElem hjm] at this;simpa using this
theorem ZdN {α β:Type} (e1:α→Bool) (e2:β→Bool):∀ (l1:List α) (l2:List β) (ws:List (List Nat)),l1.length=l2.length→(∀ j (h1:j<l1.length) (h2:j<l2.length),e1 l1[j]=e2 l2[j])→ZaJ e1 ⟨l1,ws⟩=ZaJ e2 ⟨l2,ws⟩
 | [],[],ws,_,_=>by simp[ZaJ]
 | [],_::_,_,h,_=>by simp at h
 | _::_,[],_,h,_=>by simp at h
 | x::l1,y::l2,[],_,_=>by simp[ZaJ]
 | x::l1,y::l2,v::ws,hl,h=>by have ih:=ZdN e1 e2 l1 l2 ws (by simpa using hl) (fun j h1 h2=>by have:=h (j+1) (by simpa using h1) (by simpa using h2);simpa using this);have h0:e1 x=e2 y:=h 0 (by simp) (by simp);unfold ZaJ at ih ⊢;simp only[List.zip_cons_cons,List.find?_cons,h0];cases e2 y<;>simp_all
section
variable {α:Type} [DecidableEq α] {nx nx':α→Nat→α} {a:α}
theorem Zhf {x:α} {wd:List Nat} {s:Bs α} (h:∀ c,c<3→nx x c=nx' x c):∀ n,n≤3→brow nx x wd s n=brow nx' x wd s n
 | 0,_=>rfl
 | n+1,hn=>by show bvisit nx x wd (brow nx x wd s n) n=bvisit nx' x wd (brow nx' x wd s n) n;rw[Zhf h n (by omega)];unfold bvisit;rw[h n (by omega)]
theorem Zes {Q:α→Prop} (h0:Q a) (hv:∀ x c,c<3→Q x→Q (nx x c)) (he:∀ x c,c<3→Q x→nx x c=nx' x c):∀ k,bat nx a k=bat nx' a k
 | 0=>rfl
 | k+1=>by
  have ih:=Zes h0 hv he k;by_cases h:k<(bat nx a k).met.length
  ·rw[ZaG h,ZaG (by rw[← ih];exact h)];unfold bpart;rw[← ih];exact Zhf (fun c hc=>he _ c hc (Zbr h0 hv k _ (memD h))) 3 (by omega)
  rw[Zby (by omega),Zby (by rw[← ih];omega),ih]
theorem ZcW {K:Nat} (hK:(bat nx a K).met.length≤K) {x:α} (hx:x∈(bat nx a K).met) {c:Nat} (hc:c<3):nx x c∈(bat nx a K).met:=by
 obtain⟨k,hk,rfl⟩:=List.mem_iff_getElem.1 hx
 have hkk:k<(bat nx a k).met.length:=by
  by_cases h:k<(bat nx a k).met.length
  ·exact h
  have:=Zbb (nx:=nx) (a:=a) (k:=k) (m:=K) (by omega) (by omega);rw[this] at hk;omega
 have e:(bat nx a K).met[k]=(bat nx a k).met.getD k a:=by rw[← Zao (Zdc (nx:=nx) (a:=a) (show k≤K by omega)).1 hkk a,Zba hk]
 rw[e];exact(Zay (nx:=nx) (a:=a) hkk (Nat.le_refl 3) (show k<K by omega)).1.subset (Zi0 hc)
theorem Zer:∀ k:Nat,∀ wd∈(bat nx a k).words,wd.length≤k
 | 0,wd,h=>by simp[bat] at h;simp[h]
 | k+1,wd,h=>by
  have ih:=Zer k;by_cases hk:k<(bat nx a k).met.length
  ·rw[ZaG hk] at h;have hg:=(ZaD (nx:=nx) (a:=a) k).2.1;refine ZfB (fun t=>∀ wd∈t.words,wd.length≤k+1) (fun wd h=>Nat.le_succ_of_le (ih wd h)) (fun t c _ ht => ?_) 3 (Nat.le_refl 3) wd h;unfold bvisit
   split
   ·exact ht
   intro v hv;simp only[List.mem_append,List.mem_singleton] at hv;rcases hv with hv|rfl
   ·exact ht v hv
   have:=ih _ (memD (d:=[]) (show k<(bat nx a k).words.length by omega));simpa using this
  rw[Zby (by omega)] at h;exact Nat.le_succ_of_le (ih wd h)
theorem Zib (K:Nat):a∈(bat nx a K).met:=by
 have h:=memD (d:=a) (Zcv (nx:=nx) (a:=a) K)
 rwa [Zgv] at h
def Zag (nx:α→Nat→α) (F:List α) (x:α):List Int:=(List.range 3).map fun c=>(Zaj F (nx x c):Int)
def Zan (nx:α→Nat→α) (en:α→Bool) (F:List α):DfaD:=⟨F.map (Zag nx F),F.map en⟩
theorem ZaN (nx:α→Nat→α) (en:α→Bool) (F:List α):(Zan nx en F).next.length=F.length:=by simp[Zan]
theorem ZeF {en:α→Bool} {F:List α} {i:Nat} (hi:i<F.length):(Zan nx en F).next.getD i []=Zag nx F (F.getD i a):=by simp[Zan,List.getElem?_eq_getElem hi]
theorem ZfZ {F:List α} {x:α} {c:Nat} (hc:c<3):(Zag nx F x).getD c 0=(Zaj F (nx x c):Int):=by simp[Zag,hc]
theorem Zh0 {en:α→Bool} {F:List α} {s:Int} {c:Nat} (h0:0≤s) (h1:s<F.length) (hc:c<3):dnx (Zan nx en F) s c=Zbg nx a F s c:=by unfold dnx Zbg;rw[ZeF (a:=a) (by omega),ZfZ hc]
theorem Zh3 {en:α→Bool} {F:List α} {i:Nat} (hi:i<F.length):den (Zan nx en F) (i:Int)=en F[i]:=by simp[den,Zan,hi]
theorem ZdB {en:α→Bool} {K:Nat} (hK:(bat nx a K).met.length≤K) (hK2:K≤100000):fine (Zan nx en (bat nx a K).met):=by
 refine⟨?_,?_,?_,fun i hi => ?_⟩
 ·rw[ZaN];exact Zcv K
 ·rw[ZaN];omega
 ·simp[Zan]
 rw[ZaN] at hi;rw[ZeF (a:=a) hi];refine⟨by simp[Zag],fun c hc => ?_⟩;rw[ZfZ hc,ZaN];exact⟨by omega,by exact_mod_cast ZaM (ZcW hK (memD hi) hc)⟩
theorem Ze6 {en:α→Bool} {K:Nat} (hK:(bat nx a K).met.length≤K) :
  ZaJ (den (Zan nx en (bat nx a K).met)) (bat (dnx (Zan nx en (bat nx a K).met)) 0 (Zan nx en (bat nx a K).met).next.length)=ZaJ en (bat nx a K):=by
 rw[ZaN];obtain⟨m,hm⟩:=eI ((bat nx a K).met.length);have hle:(bat nx a m).met.length≤m:=by have:=(Zdc (nx:=nx) (a:=a) (show m≤K by omega)).1.length_le;omega
 have hd:bat nx a K=bat nx a m:=Zbb hle (by omega);have hp:=Zcv (nx:=nx) (a:=a) K;have hlt:∀ (s:Int) c,c<3→0≤s∧s<m→0≤Zbg nx a (bat nx a K).met s c∧Zbg nx a (bat nx a K).met s c<m:=fun s c hc hs=>by unfold Zbg;have:=ZaM (ZcW hK (memD (d:=a) (show s.toNat<(bat nx a K).met.length by omega)) hc);omega
 have e1:bat (Zbg nx a (bat nx a K).met) 0 m=bat (dnx (Zan nx en (bat nx a K).met)) 0 m :=
  Zes (Q:=fun s=>0≤s∧s<(m:Int)) (by omega) (fun s c hc hs=>hlt s c hc hs) (fun s c hc hs=>(Zh0 (by omega) (by omega) hc).symm) m
 rw[← hm,← e1,Zjs nx a K m (by omega),← hd];show ZaJ _ _=ZaJ en ⟨(bat nx a K).met,(bat nx a K).words⟩;refine ZdN _ _ _ _ _ (by simp[ZaQ]) fun j h1 h2 => ?_
 have:(ZaQ (bat nx a K).met.length)[j]=(j:Int):=by simp[ZaQ]
 rw[this];exact Zh3 h2
end
theorem Tryz.infoInt:(Tryz.prog.info? 3).map (fun i=>(i.zero,i.size,i.bytes))=some (some (.int .i64 0),1,8):=by kernel_rfl
theorem Tryz.infoBool:(Tryz.prog.info? 4).map (fun i=>(i.zero,i.size,i.bytes))=some (some (.bool false),1,1):=by kernel_rfl
theorem Tryz.infoInts:(Tryz.prog.info? 67).map (fun i=>(i.zero,i.size,i.bytes))=some (some (.slice none 0 0),1,24):=by kernel_rfl
theorem ZcV {xs:List Value} {n k:Nat} {cs:List Value} {u:Value} (hl:cs.length=n) (hx:xs.length=n) (hk:k<n) (h:cs.take k=xs.take k) (hu:xs[k]? = some u) :
  (cs.set k u).take (k+1)=xs.take (k+1):=by
 apply List.ext_getElem?;intro j;rw[List.getElem?_take,List.getElem?_take];by_cases hj:j<k+1
 ·rw[if_pos hj,if_pos hj,List.getElem?_set];by_cases he:k=j
  ·subst he;rw[if_pos rfl,if_pos (by omega),hu]
  rw[if_neg he];have:=congrArg (fun l=>l[j]?) h;simpa [List.getElem?_take,show j<k by omega] using this
 rw[if_neg hj,if_neg hj]
def small (d:DfaD):Prop:=d.next.length≤1048576∧(∀ i,i<d.next.length→(d.next.getD i []).length≤1048576)∧d.ends.length≤1048576
end Go.Proofs.YtfgpkadhegdffaaGreat
namespace Go.Proofs.YtfgpkadhegdffaaGreat
open Go.RowKit Go.Maps
section
variable {α:Type}
structure ExW (kt sz:Nat) (enc:α→Value) (cel:α→List Value) (B B1 B2 B4 hi:Nat) (w:World) (met:List α) (rows:List (List Int)) (ends:List Bool) (vm vn ve:Value):Prop where
 m:w.ownsRow B kt sz vm met.length (met.flatMap cel)
 n:MapL Tryz.prog kt enc w B2 (numbered met)
 r:Bx w B1 #[.slice none 0 0,.slice none 0 0] 25
 d:Bx w B4 #[vn,ve] 25
 nx:OIntSS 67 3 B hi w vn rows
 en:w.ownsRow B 4 1 ve ends.length (boolCells ends)
 ne:B1≠B4
variable {kt sz B B1 B2 B4 hi:Nat} {enc:α→Value} {cel:α→List Value} {w w':World} {met:List α} {rows:List (List Int)} {ends:List Bool} {vm vn ve:Value}
theorem ExW.below (h:ExW kt sz enc cel B B1 B2 B4 hi w met rows ends vm vn ve) (hb:Below w.heap.size w w'):ExW kt sz enc cel B B1 B2 B4 hi w' met rows ends vm vn ve :=
 ⟨(Own.below (Zab h.m) hb).1,h.n.below hb,h.r.below hb h.r.lt,h.d.below hb h.d.lt,h.nx.below hb,(Own.below (Zab h.en) hb).1,h.ne⟩
theorem ExW.up {hi':Nat} (h:ExW kt sz enc cel B B1 B2 B4 hi w met rows ends vm vn ve) (hh:hi≤hi'):ExW kt sz enc cel B B1 B2 B4 hi' w met rows ends vm vn ve :=
 ⟨h.m,h.n,h.r,h.d,h.nx.mono (Nat.le_refl _) hh,h.en,h.ne⟩
def Own4 (kt:Nat):Prop:=kt ≠ 3 ∧ kt ≠ 67 ∧ kt ≠ 4 ∧ kt ≠ 25
theorem ExW.newState (hk:Own4 kt) (h:ExW kt sz enc cel B B1 B2 B4 hi w met rows ends vm vn ve) {x:α} {w1 w2 w3:World} {vm':Value} (hn:MapL Tryz.prog kt enc w1 B2 (numbered (met++[x]))) (hg1:w.grownBy w1 (some B2))
  (hb:Below w1.heap.size w1 w2) (hown:w3.ownsRow B kt sz vm' (met.length+1) (met.flatMap cel++cel x)) (hg2:w2.grownBy w3 vm.ownBlock) :
  ExW kt sz enc cel B B1 B2 B4 hi w3 (met++[x]) rows ends vm' vn ve:=by
 obtain⟨k1,k2,k3,k4⟩:=hk;have a:∀ e,Zbo w (some B2) e:=fun e=>h.n.apart
 have m2:w2.ownsRow B kt sz vm met.length (met.flatMap cel):=(Own.below (Zab (Zac h.m hg1 (a _))) hb).1;have b:∀ e,kt≠e→Zbo w2 vm.ownBlock e:=fun e he=>Zaf m2 he
 refine⟨?_,(hn.below hb).grown hg2 (Zcc m2),?_,?_,?_,?_,h.ne⟩
 ·simpa using hown
 ·have r1:=h.r.grown hg1 (a _);exact(r1.below hb r1.lt).grown hg2 (b _ k4)
 ·have r1:=h.d.grown hg1 (a _);exact(r1.below hb r1.lt).grown hg2 (b _ k4)
 ·exact((h.nx.grown hg1 (a _) (a _)).below hb).grown hg2 (b _ k2) (b _ k1)
 exact Zac (Own.below (Zab (Zac h.en hg1 (a _))) hb).1 hg2 (b _ k3)
theorem ExW.setRow (hk:Own4 kt) (h:ExW kt sz enc cel B B1 B2 B4 hi w met rows ends vm vn ve) {R n:Nat} {cs:List Value} (hR:hi≤R) {base:Nat} (hrow:w.ownsRow base 3 1 (.slice (some ⟨R,0,none⟩) n n) n cs) (j:Nat) (v:Value) :
  ExW kt sz enc cel B B1 B2 B4 hi (w.setCell ⟨R,j,none⟩ v) met rows ends vm vn ve:=by
 obtain⟨k1,k2,k3,k4⟩:=hk;have hg:=Zat w R j v;have a:∀ e,3 ≠ e→Zbo w (some R) e:=fun e he=>Zaf (v:=.slice (some ⟨R,0,none⟩) n n) hrow he
 have c:ZfC w (some R):=Zcc (v:=.slice (some ⟨R,0,none⟩) n n) hrow;exact⟨Zac h.m hg (a _ (Ne.symm k1)),h.n.grown hg c,h.r.grown hg (a _ (by decide)),h.d.grown hg (a _ (by decide)),h.nx.far hR j v,Zac h.en hg (a _ (by decide)),h.ne⟩
theorem ZjY {w1 w2 w3:World} {R n base e:Nat} {cs:List Value} {vm:Value} {b2 mb:Nat} {ms:List Value} (hrow:w.ownsRow base e 1 (.slice (some ⟨R,0,none⟩) n n) n cs) (hne:kt≠e)
  (hm2:w2.ownsRow mb kt sz vm b2 ms) (ha:Zbo w (some B2) e) (hg1:w.grownBy w1 (some B2)) (hb:Below w1.heap.size w1 w2) (hg2:w2.grownBy w3 vm.ownBlock):w3.ownsRow base e 1 (.slice (some ⟨R,0,none⟩) n n) n cs :=
 Zac (Own.below (Zab (Zac hrow hg1 ha)) hb).1 hg2 (Zaf hm2 hne)
theorem ExW.addRow (hk:Own4 kt) (h:ExW kt sz enc cel B B1 B2 B4 hi w met rows ends vm vn ve) {vs:List Value} {rv vn':Value} {x:List Int} {w3:World} {lr:Nat}
  (h1:Own B hi w 67 1 vn rows.length vs) (h2:∀ i,i<rows.length→OInts 3 B hi w (vs.getD i undef) (rows.getD i []))
  (h3:∀ i j k,i<j→j<rows.length→(vs.getD i undef).ownBlock=some k→(vs.getD j undef).ownBlock≠some k)
  (hrow:OInts 3 lr w.heap.size w rv x) (hlr:hi≤lr) (hlo:B≤lr) (hg:w.grownBy w3 vn.ownBlock) (hown:w3.ownsRow B 67 1 vn' (rows.length+1) (vs++[rv])) :
  ExW kt sz enc cel B B1 B2 B4 w3.heap.size (w3.setCell ⟨B4,0,none⟩ vn') met (rows++[x]) ends vm vn' ve:=by
 obtain⟨k1,k2,k3,k4⟩:=hk;have a:∀ e,67 ≠ e→Zbo w vn.ownBlock e:=fun e he=>Zaf h1.1 he
 have d3:Bx w3 B4 #[vn,ve] 25:=h.d.grown hg (a _ (by decide));have hg4:=Zat w3 B4 0 vn';have b:∀ e,25 ≠ e→Zbo w3 (some B4) e:=fun e he=>d3.apart he
 have r3:Bx w3 B1 #[.slice none 0 0,.slice none 0 0] 25:=h.r.grown hg (a _ (by decide));have n4:MapL Tryz.prog kt enc (w3.setCell ⟨B4,0,none⟩ vn') B2 (numbered met):=(h.n.grown hg (Zcc h1.1)).grown hg4 d3.cells;refine⟨Zac (Zac h.m hg (a _ (Ne.symm k2))) hg4 (b _ (Ne.symm k4)),n4,?_,d3.set 0 vn',?_,Zac (Zac h.en hg (a _ (by decide))) hg4 (b _ (by decide)),h.ne⟩
 ·exact r3.set_ne _ _ h.ne
 exact(OIntSS.snoc h1 h2 h3 hrow hlr hlo (by decide) hg hown).grown hg4 (b _ (by decide)) (b _ (by decide))
theorem ExW.addEnd (hk:Own4 kt) (h:ExW kt sz enc cel B B1 B2 B4 hi w met rows ends vm vn ve) {w3:World} {ve':Value} {e:Bool} (hg:w.grownBy w3 ve.ownBlock) (hown:w3.ownsRow B 4 1 ve' (ends.length+1) (boolCells ends++[.bool e])) :
  ExW kt sz enc cel B B1 B2 B4 hi (w3.setCell ⟨B4,1,none⟩ ve') met rows (ends++[e]) vm vn ve':=by
 obtain⟨k1,k2,k3,k4⟩:=hk;have a:∀ t,4 ≠ t→Zbo w ve.ownBlock t:=fun t ht=>Zaf h.en ht
 have d3:Bx w3 B4 #[vn,ve] 25:=h.d.grown hg (a _ (by decide));have hg4:=Zat w3 B4 1 ve';have b:∀ t,25 ≠ t→Zbo w3 (some B4) t:=fun t ht=>d3.apart ht
 have r3:Bx w3 B1 #[.slice none 0 0,.slice none 0 0] 25:=h.r.grown hg (a _ (by decide));have n4:MapL Tryz.prog kt enc (w3.setCell ⟨B4,1,none⟩ ve') B2 (numbered met):=(h.n.grown hg (Zcc h.en)).grown hg4 d3.cells;refine⟨Zac (Zac h.m hg (a _ (Ne.symm k3))) hg4 (b _ (Ne.symm k4)),n4,r3.set_ne _ _ h.ne,d3.set 1 ve',(h.nx.grown hg (a _ (by decide)) (a _ (by decide))).grown hg4 (b _ (by decide)) (b _ (by decide)),?_,h.ne⟩;refine Zac ?_ hg4 (b _ (by decide));simpa using hown
end
end Go.Proofs.YtfgpkadhegdffaaGreat
namespace Go.Proofs.YtfgpkadhegdffaaGreat
open Go.RowKit
structure Touch (e lo hi:Nat) (w w':World):Prop where
 os:w'.os=w.os
 tape:w'.tape=w.tape
 output:w'.output=w.output
 size:w.heap.size≤w'.heap.size
 block:∀ k,k<w.heap.size→((k<lo∨hi≤k)∨∀ cur fr,w.heap[k]? ≠ some (.cells cur e fr))→w'.heap[k]? = w.heap[k]?
theorem Touch.refl (e lo hi:Nat) (w:World):Touch e lo hi w w:=⟨rfl,rfl,rfl,Nat.le_refl _,fun _ _ _=>rfl⟩
theorem Touch.trans {e lo hi:Nat} {a b c:World} (h:Touch e lo hi a b) (k:Touch e lo hi b c):Touch e lo hi a c:=by
 refine⟨k.os.trans h.os,k.tape.trans h.tape,k.output.trans h.output,Nat.le_trans h.size k.size,fun i hi hh => ?_⟩;have e1:=h.block i hi hh;refine(k.block i (Nat.lt_of_lt_of_le hi h.size) ?_).trans e1;rcases hh with hh|hh
 ·exact .inl hh
 exact .inr (by rw[e1];exact hh)
theorem Touch.only {e lo hi:Nat} {a b:World} (h:Touch e lo hi a b):Only lo hi a b:=⟨h.os,h.tape,h.output,h.size,fun k hk hh=>h.block k hk (.inl hh)⟩
theorem Own.lt' {lo hi e size n:Nat} {w:World} {v:Value} {cs:List Value} (h:Own lo hi w e size v n cs):w.ownsRow lo e size v n cs:=h.1
theorem OIntSS.row {es e lo hi:Nat} {w w':World} {v:Value} {xss:List (List Int)} {vs:List Value} {x:List Int} {j:Nat} (hne:es≠e)
  (h1:Own lo hi w es 1 v xss.length vs) (h2:∀ i,i<xss.length→OInts e lo hi w (vs.getD i undef) (xss.getD i []))
  (h3:∀ i j k,i<j→j<xss.length→(vs.getD i undef).ownBlock=some k→(vs.getD j undef).ownBlock≠some k)
  (hj:j<xss.length) (hx:OInts e lo hi w' (vs.getD j undef) x) (hg:w.grownBy w' (vs.getD j undef).ownBlock) :
  Own lo hi w' es 1 v (xss.set j x).length vs∧(∀ i,i<(xss.set j x).length→OInts e lo hi w' (vs.getD i undef) ((xss.set j x).getD i [])) ∧
   (∀ i j' k,i<j'→j'<(xss.set j x).length→(vs.getD i undef).ownBlock=some k→(vs.getD j' undef).ownBlock≠some k):=by
 have ha:Zbo w (vs.getD j undef).ownBlock es:=Zaf (Own.lt' (h2 j hj)) (Ne.symm hne);rw[List.length_set];refine⟨h1.grown hg ha,fun i hi => ?_,h3⟩;by_cases hij:j=i
 ·subst hij;have:(xss.set j x).getD j []=x:=by simp[hj]
  rw[this];exact hx
 have:(xss.set j x).getD i []=xss.getD i []:=by simp[List.getElem?_set_ne hij]
 rw[this];refine Own.kept (h2 i hi) fun k hk=>hg.block k (Own.lt (h2 i hi) k hk).2.2 fun hr => ?_
 rcases Nat.lt_or_gt_of_ne hij with hlt|hgt
 ·exact h3 j i k hlt hi hr.symm hk
 exact h3 i j k hgt hj hk hr.symm
end Go.Proofs.YtfgpkadhegdffaaGreat
namespace Go.Proofs.YtfgpkadhegdffaaGreat
open Go.RowKit Go.Maps
def fitI (x:Int):Prop:=-9223372036854775808≤x∧x≤9223372036854775807
theorem Zkd {x:Int} (h:fitI x):(Lit.int .i64 x).wf=true:=WalkArith.wf_i64 h
theorem Tryz.laidOut:laidOutB Tryz.prog=true:=by kernel_rfl
theorem ZeL:5+1≤10000:=by omega
def ZaR (p:Int × Int):Value:=.agg #[.int .i64 p.1,.int .i64 p.2]
theorem Zbz:∀ x y:Int × Int,ZaR x=ZaR y→x=y:=by rintro⟨a,b⟩ ⟨c,d⟩ h;simp only[ZaR,Value.agg.injEq] at h;have h1:=congrArg (fun (l:Array Value)=>l[0]?) h;have h2:=congrArg (fun (l:Array Value)=>l[1]?) h;simp at h1 h2;rw[h1,h2]
theorem Zf9 {P:Program} {t:TypeId} {D:Nat} {x:Int} (ht:P.underlying t=some (.int .i64)) (hx:fitI x):P.keyLits (D+1) t [.int .i64 x]=some [.int .i64 x]:=by unfold Program.keyLits;rw[ht];simp[Zkd hx]
end Go.Proofs.YtfgpkadhegdffaaGreat
namespace Go.Proofs.YtfgpkadhegdffaaGreat
open Go.RowKit Go.Maps
theorem Zf8 {P:Program} {t:TypeId} {D:Nat} {q:IntKind} {x:Int} (ht:P.underlying t=some (.int q)) (hx:(Lit.int q x).wf=true):P.keyLits (D+1) t [.int q x]=some [.int q x]:=by unfold Program.keyLits;rw[ht];simp[hx]
theorem ZiN {P:Program} {t e:TypeId} {q:IntKind} (hu:P.underlying t=some (.array 2 e)) (he:P.underlying e=some (.int q)) (hk:P.keyType t=true) (hc:P.cellsOf t=2) (hce:P.cellsOf e=1) (hrow:t<P.types.size)
  (x y:Int) (hx:(Lit.int q x).wf=true) (hy:(Lit.int q y).wf=true):∃ l,keyOf P t (.agg #[.int q x,.int q y])=some l:=by
 have hfm:(Value.agg #[.int q x,.int q y]).formed P t=true:=by simp[Value.formed,hu,hc]
 obtain⟨n,hn⟩:∃ n,P.types.size=n+1:=⟨P.types.size-1,(Nat.succ_pred_eq_of_pos (Nat.lt_of_le_of_lt (Nat.zero_le _) hrow)).symm⟩;have e1:=Zf8 (D:=n) he hx;have e2:=Zf8 (D:=n) he hy;have hlits:P.keyLits (P.types.size+1) t (Value.agg #[.int q x,.int q y]).cells.toList=some [.int q x,.int q y]:=by rw[hn];show P.keyLits (n+1+1) t [.int q x,.int q y]=_;unfold Program.keyLits;rw[hu];simp[hc,hce,List.range_succ,e1,e2]
 exact⟨_,by unfold keyOf;rw[hu];simp only[hk,hfm,Bool.and_self,if_true,hlits];rfl⟩
theorem Zok {q:IntKind}:∀ x y:Int × Int,(Value.agg #[.int q x.1,.int q x.2]) = .agg #[.int q y.1,.int q y.2]→x=y:=by rintro⟨a,b⟩ ⟨c,d⟩ h;simp only[Value.agg.injEq] at h;have h1:=congrArg (fun (l:Array Value)=>l[0]?) h;have h2:=congrArg (fun (l:Array Value)=>l[1]?) h;simp at h1 h2;rw[h1,h2]
theorem Tryz.rowPr:(175:TypeId)<Tryz.prog.types.size:=of_decide_eq_true (by kernel_rfl)
theorem Tryz.widePr:(match Tryz.prog.underlying 175 with|some (.array _ _)|some (.struct _)=>true|_=>false)=true:=by kernel_rfl
theorem Tryz.keyPr:Tryz.prog.keyType 175 = true:=by kernel_rfl
theorem Tryz.keyAtPr:Tryz.prog.keyTypeAt 5 175 = true:=by kernel_rfl
theorem Tryz.cellsPr:Tryz.prog.cellsOf 175 = 2:=by kernel_rfl
theorem Tryz.cellsInt:Tryz.prog.cellsOf 3 = 1:=by kernel_rfl
theorem Tryz.kindPr:Tryz.prog.underlying 175 = some (.array 2 3):=by kernel_rfl
theorem Tryz.lawPr:Keyed Tryz.prog 175:=Keyed.of_law (deep_law_laid Tryz.laidOut ZeL Tryz.rowPr Tryz.keyAtPr Tryz.widePr)
theorem Tryz.keyOfPr (p:Int × Int) (h1:fitI p.1) (h2:fitI p.2):∃ l,keyOf Tryz.prog 175 (ZaR p)=some l :=
 ZiN Tryz.kindPr Tryz.underlying3 Tryz.keyPr Tryz.cellsPr Tryz.cellsInt Tryz.rowPr _ _ (Zkd h1) (Zkd h2)
end Go.Proofs.YtfgpkadhegdffaaGreat
namespace Go.Proofs.YtfgpkadhegdffaaGreat
open Go.RowKit Go.Maps
def fitU (x:Int):Prop:=0≤x∧x≤18446744073709551615
theorem Zmo {x:Int} (h:fitU x):(Lit.int .u64 x).wf=true:=WalkArith.wf_u64 h
def Zcm (p:Int × Int):Value:=.agg #[.int .u64 p.1,.int .u64 p.2]
theorem Zch:∀ x y:Int × Int,Zcm x=Zcm y→x=y:=Zok
def Zbm (p:Int × Int):List Value:=[.int .u64 p.1,.int .u64 p.2]
def ZoV (e lo hi:Nat) (w:World) (v:Value) (xs:List (Int × Int)):Prop:=Own lo hi w e 2 v xs.length (xs.flatMap Zbm)
theorem Tryz.rowSet:(166:TypeId)<Tryz.prog.types.size:=of_decide_eq_true (by kernel_rfl)
theorem Tryz.wideSet:(match Tryz.prog.underlying 166 with|some (.array _ _)|some (.struct _)=>true|_=>false)=true:=by kernel_rfl
theorem Tryz.keySet:Tryz.prog.keyType 166 = true:=by kernel_rfl
theorem Tryz.keyAtSet:Tryz.prog.keyTypeAt 5 166 = true:=by kernel_rfl
theorem Tryz.cellsSet:Tryz.prog.cellsOf 166 = 2:=by kernel_rfl
theorem Tryz.cellsU64:Tryz.prog.cellsOf 164 = 1:=by kernel_rfl
theorem Tryz.kindSet:Tryz.prog.underlying 166 = some (.array 2 164):=by kernel_rfl
theorem Tryz.lawSet:Keyed Tryz.prog 166:=Keyed.of_law (deep_law_laid Tryz.laidOut ZeL Tryz.rowSet Tryz.keyAtSet Tryz.wideSet)
theorem Tryz.keyOfSet (p:Int × Int) (h1:fitU p.1) (h2:fitU p.2):∃ l,keyOf Tryz.prog 166 (Zcm p)=some l :=
 ZiN Tryz.kindSet Tryz.underlying164 Tryz.keySet Tryz.cellsSet Tryz.cellsU64 Tryz.rowSet _ _ (Zmo h1) (Zmo h2)
end Go.Proofs.YtfgpkadhegdffaaGreat
