/-
  States met in breadth, letter by letter, with the words that lead to them: the plain meaning of the program's and of the reference's searches.
  No condition: this text speaks of no program.
  A map from things to their places in a list.
  No condition: this text speaks of no program.
  The first of the things met that ends, and its word: plain laws; the same for the numbered automaton.
  No condition: this text speaks of no program.
-/
import Derived.Test.YtfikabecgaappaaGreatPb01Ctx
set_option maxHeartbeats 4000000
set_option maxRecDepth 100000
namespace Go.Proofs.YtfikabecgaappaaGreat
structure Bs (α:Type) where
 met:List α
 words:List (List Nat)
section
variable {α:Type} [DecidableEq α]
def bvisit (nx:α→Nat→α) (x:α) (wd:List Nat) (s:Bs α) (c:Nat):Bs α :=
 if nx x c∈s.met then s else⟨s.met++[nx x c],s.words++[wd++[c]]⟩
def brow (nx:α→Nat→α) (x:α) (wd:List Nat) (s:Bs α):Nat→Bs α
 | 0=>s
 | n+1=>bvisit nx x wd (brow nx x wd s n) n
def bat (nx:α→Nat→α) (a:α):Nat→Bs α
 | 0=>⟨[a],[[]]⟩
 | k+1=>if k<(bat nx a k).met.length then brow nx ((bat nx a k).met.getD k a) ((bat nx a k).words.getD k []) (bat nx a k) 3 else bat nx a k
def bpart (nx:α→Nat→α) (a:α) (k n:Nat):Bs α:=brow nx ((bat nx a k).met.getD k a) ((bat nx a k).words.getD k []) (bat nx a k) n
variable {nx:α→Nat→α} {a:α}
theorem ZaW (k:Nat):bpart nx a k 0=bat nx a k:=rfl
theorem ZaZ {k:Nat} (h:k<(bat nx a k).met.length):bat nx a (k+1)=bpart nx a k 3:=by simp only[bat,if_pos h];rfl
theorem Zbo {k:Nat} (h:(bat nx a k).met.length≤k):bat nx a (k+1)=bat nx a k:=by simp only[bat,if_neg (show ¬ k<(bat nx a k).met.length by omega)]
theorem Zhc (k n:Nat):bpart nx a k (n+1)=bvisit nx ((bat nx a k).met.getD k a) ((bat nx a k).words.getD k []) (bpart nx a k n) n:=rfl
theorem ZcW {k n:Nat} (h:nx ((bat nx a k).met.getD k a) n∈(bpart nx a k n).met):bpart nx a k (n+1)=bpart nx a k n:=by rw[Zhc,bvisit,if_pos h]
theorem Zcr {k n:Nat} (h:nx ((bat nx a k).met.getD k a) n ∉ (bpart nx a k n).met):bpart nx a k (n+1)=⟨(bpart nx a k n).met++[nx ((bat nx a k).met.getD k a) n],(bpart nx a k n).words++[(bat nx a k).words.getD k []++[n]]⟩:=by rw[Zhc,bvisit,if_neg h]
theorem Zfr (Q:Bs α→Prop) {x:α} {wd:List Nat} {s:Bs α} (hs:Q s) (hv:∀ t c,c<3→Q t→Q (bvisit nx x wd t c)):∀ n,n≤3→Q (brow nx x wd s n)
 | 0,_=>hs
 | n+1,h=>hv _ n (by omega) (Zfr Q hs hv n (by omega))
theorem ZeO (Q:Bs α→Prop) (h0:Q ⟨[a],[[]]⟩) (hv:∀ s k,k<s.met.length→∀ t c,c<3→Q s→Q t→Q (bvisit nx (s.met.getD k a) (s.words.getD k []) t c)):∀ k,Q (bat nx a k)
 | 0=>h0
 | k+1=>by
  have ih:=ZeO Q h0 hv k;by_cases h:k<(bat nx a k).met.length
  ·rw[ZaZ h];exact Zfr Q ih (fun t c hc ht=>hv _ k h t c hc ih ht) 3 (by omega)
  rw[Zbo (by omega)];exact ih
theorem ZmX (Q:Bs α→Prop) (h0:Q ⟨[a],[[]]⟩) (hv:∀ s k,k<s.met.length→∀ t c,c<3→Q s→Q t→Q (bvisit nx (s.met.getD k a) (s.words.getD k []) t c)) {k n:Nat} (hk:k<(bat nx a k).met.length) (hn:n≤3):Q (bpart nx a k n) :=
 Zfr Q (ZeO Q h0 hv k) (fun t c hc ht=>hv _ k hk t c hc (ZeO Q h0 hv k) ht) n hn
omit [DecidableEq α] in
theorem ZcL {l:List α} {x:α} (h:l.Nodup) (hx:x ∉ l):(l++[x]).Nodup:=by rw[List.nodup_append];refine⟨h,by simp,?_⟩;intro b hb c hc;simp only[List.mem_singleton] at hc;subst hc;intro e;subst e;exact hx hb
theorem Zgx (x:α) (wd:List Nat) {t:Bs α} (c:Nat) (h:t.met.Nodup∧t.words.length=t.met.length∧t.met.head? = some a) :
  (bvisit nx x wd t c).met.Nodup∧(bvisit nx x wd t c).words.length=(bvisit nx x wd t c).met.length∧(bvisit nx x wd t c).met.head? = some a:=by
 unfold bvisit
 split
 ·exact h
 rename_i hx;obtain⟨h1,h2,h3⟩:=h;exact⟨ZcL h1 hx,by simp[h2],by simp[h3]⟩
theorem Zbf (k:Nat):(bat nx a k).met.Nodup∧(bat nx a k).words.length=(bat nx a k).met.length∧(bat nx a k).met.head? = some a :=
 ZeO (fun s=>s.met.Nodup∧s.words.length=s.met.length∧s.met.head? = some a) (by simp) (fun s k _ t c _ _ ht=>Zgx _ _ _ ht) k
theorem ZeL {k n:Nat} (hk:k<(bat nx a k).met.length) (hn:n≤3):(bpart nx a k n).met.Nodup∧(bpart nx a k n).words.length=(bpart nx a k n).met.length∧(bpart nx a k n).met.head? = some a :=
 ZmX (fun s=>s.met.Nodup∧s.words.length=s.met.length∧s.met.head? = some a) (by simp) (fun s k _ t c _ _ ht=>Zgx _ _ _ ht) hk hn
theorem ZeN (k:Nat):0<(bat nx a k).met.length:=by
 have:=(Zbf (nx:=nx) (a:=a) k).2.2;cases h:(bat nx a k).met with
 | nil=>rw[h] at this;simp at this
 | cons=>simp
theorem Zgz (k:Nat):(bat nx a k).met.getD 0 a=a:=by
 have:=(Zbf (nx:=nx) (a:=a) k).2.2;cases h:(bat nx a k).met with
 | nil=>rw[h] at this;simp at this
 | cons=>rw[h] at this;simpa using this
theorem Zcs {Q:α→Prop} (h0:Q a) (hv:∀ x c,c<3→Q x→Q (nx x c)) (k:Nat):∀ x∈(bat nx a k).met,Q x:=by
 refine ZeO (fun s=>∀ x∈s.met,Q x) (by simpa using h0) (fun s k hk t c hc hs ht => ?_) k;unfold bvisit
 split
 ·exact ht
 intro x hx;simp only[List.mem_append,List.mem_singleton] at hx;rcases hx with hx|rfl
 ·exact ht x hx
 refine hv _ c hc (hs _ ?_);rw[List.getD_eq_getElem?_getD,List.getElem?_eq_getElem hk];simp
def Bs.le (s t:Bs α):Prop:=s.met <+: t.met∧s.words <+: t.words
omit [DecidableEq α] in
theorem Bs.le_refl (s:Bs α):s.le s:=⟨List.prefix_rfl,List.prefix_rfl⟩
omit [DecidableEq α] in
theorem Bs.le_trans {s t u:Bs α} (h:s.le t) (k:t.le u):s.le u:=⟨h.1.trans k.1,h.2.trans k.2⟩
theorem ZmT (x:α) (wd:List Nat) (s:Bs α) (c:Nat):s.le (bvisit nx x wd s c):=by
 unfold bvisit
 split
 ·exact Bs.le_refl _
 exact⟨List.prefix_append _ _,List.prefix_append _ _⟩
theorem ZmV (x:α) (wd:List Nat) (s:Bs α) (n m:Nat) (h:n≤m):(brow nx x wd s n).le (brow nx x wd s m):=by
 induction m with
 | zero=>obtain rfl:n=0:=by omega
         exact Bs.le_refl _
 | succ m ih =>
  by_cases hn:n=m+1
  ·subst hn;exact Bs.le_refl _
  exact Bs.le_trans (ih (by omega)) (ZmT _ _ _ _)
theorem Zen {k n m:Nat} (h:n≤m):(bpart nx a k n).le (bpart nx a k m):=ZmV _ _ _ n m h
theorem ZjK (k:Nat):(bat nx a k).le (bat nx a (k+1)):=by
 by_cases h:k<(bat nx a k).met.length
 ·rw[ZaZ h];exact ZmV _ _ _ 0 3 (by omega)
 rw[Zbo (by omega)];exact Bs.le_refl _
theorem ZiZ {k m:Nat} (h:k≤m):(bat nx a k).le (bat nx a m):=by
 induction m with
 | zero=>obtain rfl:k=0:=by omega
         exact Bs.le_refl _
 | succ m ih =>
  by_cases hn:k=m+1
  ·subst hn;exact Bs.le_refl _
  exact Bs.le_trans (ih (by omega)) (ZjK _)
theorem Zbw {k n m:Nat} (hk:k<(bat nx a k).met.length) (hn:n≤3) (hm:k<m):(bpart nx a k n).le (bat nx a m):=by
 have h1:(bpart nx a k n).le (bat nx a (k+1)):=by rw[ZaZ hk];exact Zen hn
 exact Bs.le_trans h1 (ZiZ hm)
theorem ZcB {k m:Nat} (h:(bat nx a k).met.length≤k) (hm:k≤m):bat nx a m=bat nx a k:=by
 induction m with
 | zero=>obtain rfl:k=0:=by omega
         rfl
 | succ m ih =>
  by_cases hn:k=m+1
  ·subst hn;rfl
  have e:=ih (by omega);rw[Zbo (by rw[e];omega),e]
def Zao (l:List α) (x:α):Nat:=l.idxOf x
theorem Zbu {l:List α} {x:α} (h:x∈l):Zao l x<l.length:=List.idxOf_lt_length_iff.2 h
omit [DecidableEq α] in
theorem ZaY {l m:List α} (h:l <+: m) {k:Nat} (hk:k<l.length) (d:α):m.getD k d=l.getD k d:=by obtain⟨t,rfl⟩:=h;simp[List.getElem?_append_left hk]
theorem Zbt {l m:List α} (h:l <+: m) {x:α} (hx:x∈l):Zao m x=Zao l x:=by obtain⟨t,rfl⟩:=h;unfold Zao;rw[List.idxOf_append,if_pos hx]
theorem ZnQ {l m:List α} {x:α} (h:l++[x] <+: m) (hx:x ∉ l):Zao m x=l.length:=by rw[Zbt h (by simp)];unfold Zao;rw[List.idxOf_append,if_neg hx];simp
theorem Zfo {l:List α} {k:Nat} (hk:k<l.length) (hn:l.Nodup) (d:α):Zao l (l.getD k d)=k:=by unfold Zao;rw[List.getD_eq_getElem?_getD,List.getElem?_eq_getElem hk];simp[hn]
theorem Zka {l:List α} {x:α} (hx:x∈l) (d:α):l.getD (Zao l x) d=x:=by unfold Zao;rw[List.getD_eq_getElem?_getD,List.getElem?_eq_getElem (List.idxOf_lt_length_iff.2 hx)];simp
theorem ZmW {k n c:Nat} (hc:c<n):nx ((bat nx a k).met.getD k a) c∈(bpart nx a k n).met:=by
 have h1:nx ((bat nx a k).met.getD k a) c∈(bpart nx a k (c+1)).met:=by
  by_cases h:nx ((bat nx a k).met.getD k a) c∈(bpart nx a k c).met
  ·rw[ZcW h];exact h
  rw[Zcr h];simp
 exact(Zen (nx:=nx) (a:=a) (k:=k) (show c+1≤n by omega)).1.subset h1
theorem ZdZ {l m:List α} (hn:l.Nodup) (hs:∀ x∈l,x∈m):l.length≤m.length:=by
 induction l generalizing m with
 | nil=>simp
 | cons x l ih =>
  rw[List.nodup_cons] at hn;have h1:=ih (m:=m.erase x) hn.2 fun y hy=>(List.mem_erase_of_ne (fun e=>hn.1 (by rw[← e];exact hy))).2 (hs y (by simp[hy]))
  have h2:=List.length_erase_of_mem (hs x (by simp));have h3:=List.length_pos_of_mem (hs x (by simp));simp only[List.length_cons];omega
end
def ZbD {α:Type} [DecidableEq α] (nx:α→Nat→α) (a:α) (F:List α) (s:Int) (c:Nat):Int:=Zao F (nx (F.getD s.toNat a) c)
def ZaX (n:Nat):List Int:=(List.range n).map Int.ofNat
theorem Zi1 (n:Nat):ZaX (n+1)=ZaX n++[(n:Int)]:=by simp[ZaX,List.range_succ]
theorem Zcd {n:Nat} {x:Nat}:(x:Int)∈ZaX n↔x<n:=by
 simp only[ZaX,List.mem_map,List.mem_range];constructor
 ·rintro⟨y,hy,e⟩;have e2:(y:Int)=(x:Int):=e;omega
 intro h;exact⟨x,h,rfl⟩
theorem Zfv {n k:Nat} (h:k<n):(ZaX n).getD k 0=(k:Int):=by simp[ZaX,h]
theorem Zb9 (n:Nat):(ZaX n).length=n:=by simp[ZaX]
theorem ZlX {α:Type} [DecidableEq α] (nx:α→Nat→α) (a:α) (K:Nat):∀ k,k≤K →
  bat (ZbD nx a (bat nx a K).met) 0 k=⟨ZaX (bat nx a k).met.length,(bat nx a k).words⟩
 | 0,_=>rfl
 | k+1,hK=>by
  have ih:=ZlX nx a K k (by omega);have hlen:(bat (ZbD nx a (bat nx a K).met) 0 k).met.length=(bat nx a k).met.length:=by rw[ih];exact Zb9 _
  by_cases h:k<(bat nx a k).met.length
  ·rw[ZaZ h,ZaZ (by rw[hlen];exact h)]
   have hrow:∀ n,n≤3→bpart (ZbD nx a (bat nx a K).met) 0 k n=⟨ZaX (bpart nx a k n).met.length,(bpart nx a k n).words⟩:=by
    intro n
    induction n with
    | zero=>intro _;rw[ZaW,ZaW];exact ih
    | succ n ihn =>
     intro hn;have e:=ihn (by omega);have hx:(bat (ZbD nx a (bat nx a K).met) 0 k).met.getD k 0=(k:Int):=by rw[ih];exact Zfv h
     have hF:(bat nx a K).met.getD k a=(bat nx a k).met.getD k a:=ZaY (ZiZ (show k≤K by omega)).1 h a;have hnx:ZbD nx a (bat nx a K).met (k:Int) n=(Zao (bat nx a K).met (nx ((bat nx a k).met.getD k a) n):Int):=by unfold ZbD;rw[show((k:Int).toNat)=k from rfl,hF]
     by_cases hm:nx ((bat nx a k).met.getD k a) n∈(bpart nx a k n).met
     ·rw[ZcW hm];have hi:=Zbt (Zbw (m:=K) h (show n≤3 by omega) (by omega)).1 hm;have hlt:Zao (bat nx a K).met (nx ((bat nx a k).met.getD k a) n)<(bpart nx a k n).met.length:=by rw[hi];exact Zbu hm
      rw[ZcW (by rw[hx,hnx,e];exact Zcd.2 hlt),e]
     have hb:=Zbw (nx:=nx) (a:=a) (m:=K) h hn (by omega);rw[Zcr hm] at hb;have hi:=ZnQ hb.1 hm;rw[Zcr (by rw[hx,hnx,e,hi];simp[Zcd]),Zcr hm,hx,hnx,hi,e,ih];simp[Zi1]
   exact hrow 3 (by omega)
  rw[Zbo (k:=k) (a:=a) (by omega),Zbo (by rw[hlen];omega)];exact ih
end Go.Proofs.YtfikabecgaappaaGreat
namespace Go.Proofs.YtfikabecgaappaaGreat
open Go.RowKit
section
variable {α:Type} [DecidableEq α]
def numbered (l:List α):List (α × Value):=l.zipIdx.map fun p=>(p.1,Value.int .i64 (p.2:Int))
omit [DecidableEq α] in
theorem ZhE (l:List α) (x:α):numbered (l++[x])=numbered l++[(x,Value.int .i64 (l.length:Int))]:=by simp[numbered,List.zipIdx_append]
omit [DecidableEq α] in
theorem Zc2 (l:List α):(numbered l).map (·.1)=l:=by simp only[numbered,List.map_map];have:((fun x:α × Value=>x.1) ∘ fun p:α × Nat=>(p.1,Value.int .i64 (p.2:Int)))=Prod.fst:=rfl;rw[this,List.zipIdx_map_fst]
theorem Zbd {l:List α} (hn:l.Nodup) {x:α} (hx:x∈l):look x (numbered l)=some (.int .i64 (Zao l x:Int)):=by refine Zj6 (by rw[Zc2];exact hn) (j:=Zao l x) ?_;have hlt:=List.idxOf_lt_length_iff.2 hx;unfold Zao;simp only[numbered,List.getElem?_map,List.getElem?_zipIdx,List.getElem?_eq_getElem hlt,Option.map_some,Nat.zero_add,List.getElem_idxOf]
theorem Zcp {l:List α} {x:α} (hx:x ∉ l):look x (numbered l)=none :=
 Zit fun p hp e=>hx (by rw[← Zc2 l,← e];exact List.mem_map.2 ⟨p,hp,rfl⟩)
theorem ZcC {l:List α} {x:α} (hx:x ∉ l):upd x (.int .i64 (l.length:Int)) (numbered l)=numbered (l++[x]):=by rw[ZhE];exact ZjO fun p hp e=>hx (by rw[← Zc2 l,← e];exact List.mem_map.2 ⟨p,hp,rfl⟩)
end
end Go.Proofs.YtfikabecgaappaaGreat
namespace Go.Proofs.YtfikabecgaappaaGreat
open Go.RowKit
theorem memD {α:Type} {xs:List α} {k:Nat} {d:α} (h:k<xs.length):xs.getD k d∈xs:=by rw[List.getD_eq_getElem?_getD,List.getElem?_eq_getElem h];simp
theorem ZbF {α:Type} {xs:List α} {k:Nat} {d:α} (h:k<xs.length):xs.getD k d=xs[k]:=by simp[h]
def dnx (d:DfaD) (s:Int) (c:Nat):Int:=(d.next.getD s.toNat []).getD c 0
def den (d:DfaD) (s:Int):Bool:=d.ends.getD s.toNat false
def ZhT {α:Type} (en:α→Bool) (s:Bs α):Option (List Nat):=((s.met.zip s.words).find? fun p=>en p.1).map (·.2)
def fine (d:DfaD):Prop:=1≤d.next.length∧d.next.length≤100000∧d.ends.length=d.next.length∧∀ i,i<d.next.length→(d.next.getD i []).length=3∧∀ c,c<3→0≤(d.next.getD i []).getD c 0∧(d.next.getD i []).getD c 0<d.next.length
section
variable {α:Type} [DecidableEq α] {nx nx':α→Nat→α} {a:α}
theorem Zhb {x:α} {wd:List Nat} {s:Bs α} (h:∀ c,c<3→nx x c=nx' x c):∀ n,n≤3→brow nx x wd s n=brow nx' x wd s n
 | 0,_=>rfl
 | n+1,hn=>by show bvisit nx x wd (brow nx x wd s n) n=bvisit nx' x wd (brow nx' x wd s n) n;rw[Zhb h n (by omega)];unfold bvisit;rw[h n (by omega)]
theorem ZgA {Q:α→Prop} (h0:Q a) (hv:∀ x c,c<3→Q x→Q (nx x c)) (he:∀ x c,c<3→Q x→nx x c=nx' x c):∀ k,bat nx a k=bat nx' a k
 | 0=>rfl
 | k+1=>by
  have ih:=ZgA h0 hv he k;by_cases h:k<(bat nx a k).met.length
  ·rw[ZaZ h,ZaZ (by rw[← ih];exact h)];unfold bpart;rw[← ih];exact Zhb (fun c hc=>he _ c hc (Zcs h0 hv k _ (memD h))) 3 (by omega)
  rw[Zbo (by omega),Zbo (by rw[← ih];omega),ih]
theorem Zdz {K:Nat} (hK:(bat nx a K).met.length≤K) {x:α} (hx:x∈(bat nx a K).met) {c:Nat} (hc:c<3):nx x c∈(bat nx a K).met:=by
 obtain⟨k,hk,rfl⟩:=List.mem_iff_getElem.1 hx
 have hkk:k<(bat nx a k).met.length:=by
  by_cases h:k<(bat nx a k).met.length
  ·exact h
  have:=ZcB (nx:=nx) (a:=a) (k:=k) (m:=K) (by omega) (by omega);rw[this] at hk;omega
 have e:(bat nx a K).met[k]=(bat nx a k).met.getD k a:=by rw[← ZaY (ZiZ (nx:=nx) (a:=a) (show k≤K by omega)).1 hkk a,ZbF hk]
 rw[e];exact(Zbw (nx:=nx) (a:=a) hkk (Nat.le_refl 3) (show k<K by omega)).1.subset (ZmW hc)
theorem Zkr:∀ k:Nat,∀ wd∈(bat nx a k).words,wd.length≤k
 | 0,wd,h=>by simp[bat] at h;simp[h]
 | k+1,wd,h=>by
  have ih:=Zkr k;by_cases hk:k<(bat nx a k).met.length
  ·rw[ZaZ hk] at h;have hg:=(Zbf (nx:=nx) (a:=a) k).2.1;refine Zfr (fun t=>∀ wd∈t.words,wd.length≤k+1) (fun wd h=>Nat.le_succ_of_le (ih wd h)) (fun t c _ ht => ?_) 3 (Nat.le_refl 3) wd h;unfold bvisit
   split
   ·exact ht
   intro v hv;simp only[List.mem_append,List.mem_singleton] at hv;rcases hv with hv|rfl
   ·exact ht v hv
   have:=ih _ (memD (d:=[]) (show k<(bat nx a k).words.length by omega));simpa using this
  rw[Zbo (by omega)] at h;exact Nat.le_succ_of_le (ih wd h)
theorem Zh8 (K:Nat):a∈(bat nx a K).met:=by
 have h:=memD (d:=a) (ZeN (nx:=nx) (a:=a) K)
 rwa [Zgz] at h
def Zan (nx:α→Nat→α) (F:List α) (x:α):List Int:=(List.range 3).map fun c=>(Zao F (nx x c):Int)
def Zau (nx:α→Nat→α) (en:α→Bool) (F:List α):DfaD:=⟨F.map (Zan nx F),F.map en⟩
theorem ZaM (nx:α→Nat→α) (en:α→Bool) (F:List α):(Zau nx en F).next.length=F.length:=by simp[Zau]
theorem ZeB {en:α→Bool} {F:List α} {i:Nat} (hi:i<F.length):(Zau nx en F).next.getD i []=Zan nx F (F.getD i a):=by simp[Zau,List.getElem?_eq_getElem hi]
theorem ZfW {F:List α} {x:α} {c:Nat} (hc:c<3):(Zan nx F x).getD c 0=(Zao F (nx x c):Int):=by simp[Zan,hc]
theorem ZjF {en:α→Bool} {F:List α} {s:Int} {c:Nat} (h0:0≤s) (h1:s<F.length) (hc:c<3):dnx (Zau nx en F) s c=ZbD nx a F s c:=by unfold dnx ZbD;rw[ZeB (a:=a) (by omega),ZfW hc]
theorem ZjG {en:α→Bool} {F:List α} {i:Nat} (hi:i<F.length):den (Zau nx en F) (i:Int)=en F[i]:=by simp[den,Zau,hi]
theorem Zed {en:α→Bool} {K:Nat} (hK:(bat nx a K).met.length≤K) (hK2:K≤100000):fine (Zau nx en (bat nx a K).met):=by
 refine⟨?_,?_,?_,fun i hi => ?_⟩
 ·rw[ZaM];exact ZeN K
 ·rw[ZaM];omega
 ·simp[Zau]
 rw[ZaM] at hi;rw[ZeB (a:=a) hi];refine⟨by simp[Zan],fun c hc => ?_⟩;rw[ZfW hc,ZaM];exact⟨by omega,by exact_mod_cast Zbu (Zdz hK (memD hi) hc)⟩
end
def okAt (l:List Int) (n:Int) (j:Nat):Bool:=inB (l.getD j 0) 0 (n-1)&&(decide (j=0)||decide (l.getD (j-1) 0<l.getD j 0))
def stOk (l:List Int) (n:Int):Bool:=(List.range l.length).all (okAt l n)
def mvOk (n:Int) (m:Int × Int × Int):Bool:=inB m.1 0 (n-1)&&inB m.2.2 0 (n-1)&&inB m.2.1 (-1) 2
def Zal (n:NfaD):Bool:=inB n.states 0 40&&decide (n.moves.length≤400)&&stOk n.firsts n.states&&stOk n.ends n.states&&n.moves.all (mvOk n.states)
theorem Zfg {l:List Int} {n:Int} {k:Nat} (hk:k<l.length) (h:okAt l n k=false):stOk l n=false:=by unfold stOk;rw[List.all_eq_false];exact⟨k,List.mem_range.2 hk,by rw[h];simp⟩
theorem Zcb {p:Nat→Bool} {k:Nat} (h:(List.range k).all p=true) (hp:p k=true):(List.range (k+1)).all p=true:=by rw[List.range_succ,List.all_append,h];simp[hp]
theorem ZbJ (xs:List Int) (v:Value) (n:Int) (w:World) (hn:0≤n∧n≤40) (h:Ints 0 w v xs) (r:Bool) (hr:stOk xs n=r) :
  Calls Tryz.prog 49 #[v,.int .i64 n] w fun e w'=>e = .returned (.bool r)∧w=w':=by
 obtain⟨a1,c1,rfl,hc1,hm1,hr1⟩:=h.form;obtain⟨hn0,hn1⟩:=hn;clear h;replace hr:=qh hr
 go_enter Tryz.func49, Tryz.ntmps49
 go_wp2
 go_loop [4,9] (fun r i=>∃ k:Nat,k≤xs.length∧i = .int .i64 k∧(List.range k).all (okAt xs n)=true) (fun _ i=>xs.length-(intOf i).toNat)
 case atStart=>exact⟨0,Nat.zero_le _,rfl,rfl⟩
 case round =>
  obtain⟨k,hk,rfl,hall⟩:=hrel;replace hall:=qh hall;by_cases hlt:k<xs.length
  ·obtain⟨b1,o1,rfl,hB1,hbl1,hcs1⟩:=hr1 (by omega);have hx1:=hcs1 k hlt;obtain⟨x,hxx⟩:=eI (xs.getD k 0);rw[← hxx] at hx1;cases hin:inB x 0 (n-1)
   ·have Hhin:=qh hin;clear hin;have Hhxx:=qh hxx;clear hxx;clear hcs1 hr1;go_wp2_with (go_at_call 48;refine(Zav _ _ _ _ _ Hhin.out).mono ?_;rintro e w' ⟨rfl,rfl⟩);go_ret;exact⟨by rw[← hr.out,Zfg hlt (by unfold okAt;rw[← Hhxx.out,Hhin.out];rfl)];rfl,rfl⟩
   have Hhin:=qh hin;clear hin;cases k with
   | zero =>
    have Hhxx:=qh hxx;clear hxx;simp only[Nat.add_zero] at hx1;clear hcs1 hr1;go_wp2_with (go_at_call 48;refine(Zav _ _ _ _ _ Hhin.out).mono ?_;rintro e w' ⟨rfl,rfl⟩)
    go_round
    case rel=>exact⟨1,by omega,by go_num,Zcb hall.out (by unfold okAt;rw[← Hhxx.out,Hhin.out];rfl)⟩
    case measure=>simp[intOf];omega
   | succ j =>
    have hx0:=hcs1 j (by omega);obtain⟨y,hyy⟩:=eI (xs.getD j 0);rw[← hyy] at hx0;have Hhxx:=qh hxx;clear hxx;have Hhyy:=qh hyy;clear hyy;clear hcs1 hr1;have hjl:(j:Int)<xs.length:=by omega
    by_cases hyx:y<x
    ·go_wp2_with (go_at_call 48;refine(Zav _ _ _ _ _ Hhin.out).mono ?_;rintro e w' ⟨rfl,rfl⟩)
     go_round
     case rel=>exact⟨j+1+1,by omega,by go_num,Zcb hall.out (by unfold okAt;rw[Nat.add_sub_cancel,← Hhxx.out,← Hhyy.out,Hhin.out,decide_eq_true hyx];simp)⟩
     case measure=>simp[intOf];omega
    go_wp2_with (go_at_call 48;refine(Zav _ _ _ _ _ Hhin.out).mono ?_;rintro e w' ⟨rfl,rfl⟩);go_ret;exact⟨by rw[← hr.out,Zfg hlt (by unfold okAt;rw[Nat.add_sub_cancel,← Hhxx.out,← Hhyy.out,Hhin.out,decide_eq_false (show ¬ y<x by omega)];simp)];rfl,rfl⟩
  clear hr1;obtain rfl:k=xs.length:=by omega
  go_wp2;go_ret;exact⟨by rw[← hr.out,stOk,hall.out];rfl,rfl⟩
theorem Zf7 (xs:List Int) (v:Value) (n:Int) (w:World) (hn:0≤n∧n≤40) (h:Ints 0 w v xs) (r:Bool) (hr:stOk xs n=r) :
  Calls Tryz.prog 130 #[v,.int .i64 n] w fun e w'=>e = .returned (.bool r)∧Below w.heap.size w w':=by
 obtain⟨a1,c1,rfl,hc1,hm1,hr1⟩:=h.form;obtain⟨hn0,hn1⟩:=hn;have hwn:IntKind.i64.wrap (n-1)=n-1:=IntWalk.i64_in _ (by omega);clear h;replace hr:=qh hr
 go_enter Tryz.func130, Tryz.ntmps130
 go_wp2
 go_loopw [4,5] (fun r i wr=>∃ k:Nat,k≤xs.length∧i = .int .i64 k∧(List.range k).all (okAt xs n)=true∧Below w.heap.size w wr) (fun _ i _=>xs.length-(intOf i).toNat)
 case atStart=>exact⟨0,Nat.zero_le _,rfl,rfl,Below.refl _ _⟩
 case round =>
  obtain⟨k,hk,rfl,hall,hb⟩:=hrel;replace hall:=qh hall;by_cases hlt:k<xs.length
  ·obtain⟨b1,o1,rfl,hB1,hbl1,hcs1⟩:=hr1 (by omega);have hx1:=(bcell hb b1 (o1+k) hbl1).trans (hcs1 k hlt);obtain⟨x,hxx⟩:=eI (xs.getD k 0);rw[← hxx] at hx1;cases hin:inB x 0 (n-1)
   ·have Hhin:=qh hin;clear hin;have Hhxx:=qh hxx;clear hxx;have Hhb:=qh hb;clear hb;clear hcs1 hr1;go_wp2
    go_quiet (((go_at_call 71;with_reducible exact Zc0 (ZaI _ _ _ _ _ Hhin.out))))
    go_wp2;go_ret;exact⟨by rw[← hr.out,Zfg hlt (by unfold okAt;rw[← Hhxx.out,Hhin.out];rfl)];rfl,below_drewN Hhb.out _⟩
   have Hhin:=qh hin;clear hin;cases k with
   | zero =>
    have Hhxx:=qh hxx;clear hxx;have Hhb:=qh hb;clear hb;simp only[Nat.add_zero] at hx1;have hg0:decide ((0:Int)<((0:Nat):Int))=false:=rfl;clear hcs1 hr1;go_wp2
    go_quiet (((go_at_call 71;with_reducible exact Zc0 (ZaI _ _ _ _ _ Hhin.out))))
    go_wp2;go_roundw
    case rel=>exact⟨1,by omega,by go_num,Zcb hall.out (by unfold okAt;rw[← Hhxx.out,Hhin.out];rfl),below_drewN Hhb.out _⟩
    case measure=>simp[intOf];omega
   | succ j =>
    have hx0:=(bcell hb b1 (o1+j) hbl1).trans (hcs1 j (by omega));obtain⟨y,hyy⟩:=eI (xs.getD j 0);rw[← hyy] at hx0;have Hhxx:=qh hxx;clear hxx;have Hhyy:=qh hyy;clear hyy;have Hhb:=qh hb;clear hb;clear hcs1 hr1;have hjl:(j:Int)<xs.length:=by omega
    have hjl1:(j:Int)+1<xs.length:=by omega
    have hwj:IntKind.i64.wrap ((j:Int)+1-1)=(j:Int):=by rw[IntWalk.i64_in _ (by omega)];omega
    have hg0:(0:Int)<(j:Int)+1:=by omega
    by_cases hyx:y<x
    ·go_wp2
     go_quiet (((go_at_call 71;with_reducible exact Zc0 (ZaI _ _ _ _ _ Hhin.out))))
     go_wp2;go_roundw
     case rel=>exact⟨j+1+1,by omega,by go_num,Zcb hall.out (by unfold okAt;rw[Nat.add_sub_cancel,← Hhxx.out,← Hhyy.out,Hhin.out,decide_eq_true hyx];simp),below_drewN Hhb.out _⟩
     case measure=>simp[intOf];omega
    go_wp2
    go_quiet (((go_at_call 71;with_reducible exact Zc0 (ZaI _ _ _ _ _ Hhin.out))))
    go_wp2;go_ret;exact⟨by rw[← hr.out,Zfg hlt (by unfold okAt;rw[Nat.add_sub_cancel,← Hhxx.out,← Hhyy.out,Hhin.out,decide_eq_false (show ¬ y<x by omega)];simp)];rfl,below_drewN Hhb.out _⟩
  clear hr1;obtain rfl:k=xs.length:=by omega
  have Hhb:=qh hb;clear hb;go_wp2;go_ret;exact⟨by rw[← hr.out,stOk,hall.out];rfl,Hhb.out⟩
def badM (n:Int) (m:Int × Int × Int):Bool:=!mvOk n m
theorem Zd0 (x:Int × Int × Int) (n:Int) (b:Nat) (w:World) (hn:0≤n∧n≤40) (hb:b<w.heap.size) (hc:w.cell? ⟨b,0,none⟩=some (.int .i64 n)) (r:Bool) (hr:badM n x=r) :
  Calls Tryz.prog 51 #[.agg #[.int .i64 x.1,.int .i64 x.2.1,.int .i64 x.2.2],.pointer (some ⟨b,0,none⟩)] w fun e w'=>e = .returned (.bool r)∧∃ o,w'=w.alloc o:=by
 obtain⟨x1,x2,x3⟩:=x;obtain⟨hn0,hn1⟩:=hn;replace hr:=qh hr;cases h1:inB x1 0 (n-1)
 ·replace h1:=qh h1
  go_enter Tryz.func51, Tryz.ntmps51
  go_wp2_with (go_at_call 48;(with_reducible refine(Zav _ _ _ _ _ h1.out).mono ?_);rintro e w' ⟨rfl,rfl⟩);go_ret;exact⟨by rw[← hr.out,badM,mvOk,h1.out];rfl,_,rfl⟩
 cases h2:inB x3 0 (n-1)
 ·replace h1:=qh h1;have Hh2:=qh h2;clear h2
  go_enter Tryz.func51, Tryz.ntmps51
  go_wp2_with (first|(go_at_call 48;(with_reducible refine(Zav _ _ _ _ _ h1.out).mono ?_);rintro e w' ⟨rfl,rfl⟩)|(go_at_call 48;(with_reducible refine(Zav _ _ _ _ _ Hh2.out).mono ?_);rintro e w' ⟨rfl,rfl⟩));go_ret;exact⟨by rw[← hr.out,badM,mvOk,h1.out,Hh2.out];rfl,_,rfl⟩
 cases h3:inB x2 (-1) 2
 all_goals
  replace h1:=qh h1;have Hh2:=qh h2;clear h2;have Hh3:=qh h3;clear h3
  go_enter Tryz.func51, Tryz.ntmps51
  go_wp2_with (first|(go_at_call 48;(with_reducible refine(Zav _ _ _ _ _ h1.out).mono ?_);rintro e w' ⟨rfl,rfl⟩)|(go_at_call 48;(with_reducible refine(Zav _ _ _ _ _ Hh2.out).mono ?_);rintro e w' ⟨rfl,rfl⟩)|(go_at_call 48;(with_reducible refine(Zav _ _ _ _ _ Hh3.out).mono ?_);rintro e w' ⟨rfl,rfl⟩));go_ret;exact⟨by rw[← hr.out,badM,mvOk,h1.out,Hh2.out,Hh3.out];rfl,_,rfl⟩
theorem Zge (xs:List (Int × Int × Int)) (v:Value) (n:Int) (b:Nat) (w:World) (hn:0≤n∧n≤40) (hbb:b<w.heap.size) (hc:w.cell? ⟨b,0,none⟩=some (.int .i64 n)) (h1:Moves 0 w v xs) :
  Calls Tryz.prog 98 #[v,.func (.func 51) #[] #[.pointer (some ⟨b,0,none⟩)]] w fun e w'=>e = .returned (.int .i64 (ZbI (badM n) xs))∧Below w.heap.size w w':=by
 obtain⟨a1,c1,rfl,hc1,hm1,hr1⟩:=h1.form;clear h1
 go_enter Tryz.func98, Tryz.ntmps98
 go_wp2
 go_loopw [4,8] (fun r i wr=>∃ k:Nat,k≤xs.length∧i = .int .i64 k∧(xs.take k).any (badM n)=false∧Below w.heap.size w wr) (fun _ i _=>xs.length-(intOf i).toNat)
 case atStart=>exact⟨0,Nat.zero_le _,rfl,rfl,Below.refl _ _⟩
 case round =>
  obtain⟨k,hk,rfl,htk,hb⟩:=hrel;replace htk:=qh htk;have hc':=(bcell hb b 0 hbb).trans hc;have hbb':b<wr.heap.size:=Nat.lt_of_lt_of_le hbb hb.size;have Hc':=qh hc';clear hc';by_cases hlt:k<xs.length
  ·obtain⟨b1,o1,rfl,hB1,hbl1,hcs1⟩:=hr1 (by omega);have hx1:=(bcell hb b1 (o1+k*3) hbl1).trans (hcs1 k hlt).1;have hx2:=(bcell hb b1 (o1+k*3+1) hbl1).trans (hcs1 k hlt).2.1;have hx3:=(bcell hb b1 (o1+k*3+2) hbl1).trans (hcs1 k hlt).2.2;have hsz:=hb.size;obtain⟨x,hxx⟩:=eI (xs.getD k (0,0,0));rw[← hxx] at hx1 hx2 hx3;have Hhxx:=qh hxx;clear hxx;replace hb:=qh hb;clear hcs1 hr1;cases hbd:badM n x
   ·have Hhbd:=qh hbd;clear hbd;go_wp2_with (go_at_call 51;refine(Zd0 x n b _ hn hbb' Hc'.out _ Hhbd.out).mono ?_;rintro e w' ⟨rfl,o,rfl⟩);go_roundw
    case rel=>exact⟨k+1,by omega,by go_num,Zep (d:=(0,0,0)) hlt htk.out (by rw[← Hhxx.out];exact Hhbd.out),hb.out.alloc hsz _⟩
    case measure=>simp[intOf];omega
   have Hhbd:=qh hbd;clear hbd;go_wp2_with (go_at_call 51;refine(Zd0 x n b _ hn hbb' Hc'.out _ Hhbd.out).mono ?_;rintro e w' ⟨rfl,o,rfl⟩);go_ret;exact⟨ZcE (by rw[ZbX (d:=(0,0,0)) hlt htk.out (by rw[← Hhxx.out];exact Hhbd.out)]),hb.out.alloc hsz _⟩
  clear hr1;replace hb:=qh hb;go_wp2;go_ret;exact⟨ZcE (by rw[ZbH (by omega) htk.out]),hb.out⟩
theorem Zei (xs:List (Int × Int × Int)) (v:Value) (n:Int) (b:Nat) (w:World) (hn:0≤n∧n≤40) (hbb:b<w.heap.size) (hc:w.cell? ⟨b,0,none⟩=some (.int .i64 n)) (h1:Moves 0 w v xs) (r:Bool) (hr:xs.any (badM n)=r) :
  Calls Tryz.prog 50 #[v,.func (.func 51) #[] #[.pointer (some ⟨b,0,none⟩)]] w fun e w'=>e = .returned (.bool r)∧Below w.heap.size w w':=by
 obtain⟨a1,c1,hv,-⟩:=h1.form;have H1:=qh h1;subst hv;clear h1;replace hr:=qh hr
 go_enter Tryz.func50, Tryz.ntmps50
 go_wp2_with (go_at_call 98;refine(Zge xs _ n b _ hn hbb hc H1.out).mono ?_;rintro e w' ⟨rfl,hb'⟩;replace hb':=qh hb');go_ret;exact⟨ZbA (by rw[← hr.out,ZbY]),hb'.out⟩
end Go.Proofs.YtfikabecgaappaaGreat
namespace Go.Proofs.YtfikabecgaappaaGreat
open Go.RowKit
theorem Zl6 {n:Int} {ms:List (Int × Int × Int)}:ms.any (badM n) = !ms.all (mvOk n):=by
 induction ms with
 | nil=>rfl
 | cons m ms ih=>rw[List.any_cons,List.all_cons,ih];simp[badM]
theorem Zab (d:NfaD) (v:Value) (w:World) (h:NfaR 0 w v d) (r:Bool) (hr:Zal d=r) :
  Calls Tryz.prog 14 #[v] w fun e w'=>e = .returned (.bool r)∧Below w.heap.size w w':=by
 obtain⟨states,moves,firsts,ends⟩:=d;obtain⟨v1,v2,v3,rfl,h1,h2,h3,hb1,hb2⟩:=h;simp only at h1 h2 h3 hb1 hb2;unfold Zal at hr;simp only at hr;have H1:=qh h1;have H2:=qh h2;have H3:=qh h3;obtain⟨a1,c1,rfl,hc1,hm1,-⟩:=h1.form;clear h1 h2 h3;obtain⟨W,hW⟩:=eI (w.alloc (.cells #[.int .i64 states,.slice a1 moves.length c1,v2,v3] 28));have hB:Below w.heap.size w W:=by rw[hW];exact(Below.refl _ _).alloc (Nat.le_refl _) _
 have x0:Bx W w.heap.size #[.int .i64 states,.slice a1 moves.length c1,v2,v3] 28:=by rw[hW];exact Bx.new w _ _
 have hlt:=x0.lt;have d0:=x0.cell 0;have d1:=x0.cell 1;have d2:=x0.cell 2;have d3:=x0.cell 3;simp only[List.getElem?_toArray,List.getElem?_cons_zero,List.getElem?_cons_succ] at d0 d1 d2 d3;replace hW:=qh hW;replace hB:=qh hB;have Hx0:=qh x0;clear x0
 go_enter Tryz.func14, Tryz.ntmps14
 cases hA:inB states 0 40
 ·rw[hA] at hr;replace hA:=qh hA;have Hhr:=qh hr;clear hr;go_wp2_with fail;rw[← hW.out];go_wp2_with (go_at_call 48;refine(Zav _ _ _ _ _ hA.out).mono ?_;rintro e w' ⟨rfl,rfl⟩);go_ret;exact⟨by rw[← Hhr.out];rfl,hB.out⟩
 have hin:0≤states∧states≤40:=by simpa [inB] using hA
 obtain⟨hs0,hs1⟩:=hin;rw[hA] at hr;replace hA:=qh hA;by_cases hL:moves.length≤400
 ·have hL1:decide ((moves.length:Int)>400)=false:=by simp;omega
  rw[decide_eq_true hL] at hr;cases hC:stOk firsts states
  ·rw[hC] at hr;have HhC:=qh hC;clear hC;have Hhr:=qh hr;clear hr;go_wp2_with fail;rw[← hW.out];go_wp2_with (first|(go_at_call 48;refine(Zav _ _ _ _ _ hA.out).mono ?_;rintro e w' ⟨rfl,rfl⟩)|(go_at_call 49;(with_reducible refine(ZbJ firsts _ _ _ ⟨hs0,hs1⟩ (H2.out.below hB.out) _ HhC.out).mono ?_);rintro e w' ⟨rfl,rfl⟩));go_ret;exact⟨by rw[← Hhr.out];rfl,hB.out⟩
  rw[hC] at hr;have HhC:=qh hC;clear hC;cases hD:stOk ends states
  ·rw[hD] at hr;have HhD:=qh hD;clear hD;have Hhr:=qh hr;clear hr;go_wp2_with fail;rw[← hW.out];go_wp2_with (first|(go_at_call 48;refine(Zav _ _ _ _ _ hA.out).mono ?_;rintro e w' ⟨rfl,rfl⟩)|(go_at_call 49;(with_reducible refine(ZbJ firsts v2 _ _ ⟨hs0,hs1⟩ (H2.out.below hB.out) _ HhC.out).mono ?_);rintro e w' ⟨rfl,rfl⟩)|(go_at_call 49;(with_reducible refine(ZbJ ends v3 _ _ ⟨hs0,hs1⟩ (H3.out.below hB.out) _ HhD.out).mono ?_);rintro e w' ⟨rfl,rfl⟩));go_ret;exact⟨by rw[← Hhr.out];rfl,hB.out⟩
  rw[hD] at hr;have HhD:=qh hD;clear hD;cases hE:moves.any (badM states)
  all_goals
   have hE':=hE;rw[Zl6] at hE';have HhE:=qh hE;clear hE;have HhE':=qh hE';clear hE';have Hhr:=qh hr;clear hr;go_wp2_with fail;rw[← hW.out];go_wp2_with (first|(go_at_call 48;refine(Zav _ _ _ _ _ hA.out).mono ?_;rintro e w' ⟨rfl,rfl⟩)|(go_at_call 49;(with_reducible refine(ZbJ firsts v2 _ _ ⟨hs0,hs1⟩ (H2.out.below hB.out) _ HhC.out).mono ?_);rintro e w' ⟨rfl,rfl⟩)|(go_at_call 49;(with_reducible refine(ZbJ ends v3 _ _ ⟨hs0,hs1⟩ (H3.out.below hB.out) _ HhD.out).mono ?_);rintro e w' ⟨rfl,rfl⟩)|(go_at_call 50;refine(Zei moves _ states w.heap.size _ ⟨hs0,hs1⟩ hlt d0 (H1.out.below hB.out) _ HhE.out).mono ?_;rintro e w' ⟨rfl,hb'⟩;replace hb':=qh hb'));go_ret;exact⟨by rw[← Hhr.out];simpa using HhE'.out,hB.out.trans (hb'.out.mono hB.out.size)⟩
 have hL1:decide ((moves.length:Int)>400)=true:=by simp;omega
 rw[decide_eq_false hL] at hr;have Hhr:=qh hr;clear hr;go_wp2_with fail;rw[← hW.out];go_wp2_with (go_at_call 48;refine(Zav _ _ _ _ _ hA.out).mono ?_;rintro e w' ⟨rfl,rfl⟩);go_ret;exact⟨by rw[← Hhr.out];rfl,hB.out⟩
end Go.Proofs.YtfikabecgaappaaGreat
namespace Go.Proofs.YtfikabecgaappaaGreat
open Go.RowKit
def Ze4 (S1:Int) (x:Int × Int × Int):Bool:=inB x.1 0 S1&&inB x.2.2 0 S1&&inB x.2.1 (-1) 2
theorem Zl1 {n:NfaD} {S1:Int} (hS:0≤n.states∧n.states≤40→S1=n.states-1) {k:Nat} (hk:k<n.moves.length) (h:Ze4 S1 (n.moves.getD k (0,0,0))=false):Zal n=false:=by
 unfold Zal;by_cases hin:0≤n.states∧n.states≤40
 ·have hb:n.moves.all (mvOk n.states)=false:=by rw[List.all_eq_false];refine⟨_,memD (d:=(0,0,0)) hk,?_⟩;rw[hS hin] at h;simpa [mvOk,Ze4] using h
  rw[hb];simp
 have:inB n.states 0 40=false:=by unfold inB;simp;omega
 rw[this];simp
theorem Zjn {n:NfaD} {S1:Int} (hS:S1=n.states-1) (h:(List.range n.moves.length).all (fun k=>Ze4 S1 (n.moves.getD k (0,0,0)))=true):n.moves.all (mvOk n.states)=true:=by rw[List.all_eq_true] at h ⊢;intro x hx;obtain⟨k,hk,e⟩:=List.getElem_of_mem hx;have:=h k (List.mem_range.2 hk);rw[hS] at this;simpa [mvOk,Ze4,hk,e] using this
theorem Zar (n:NfaD) (v:Value) (w:World) (h:NfaR 0 w v n) (r:Bool) (hr:Zal n=r) :
  Calls Tryz.prog 85 #[v] w fun e w'=>e = .returned (.bool r)∧Below w.heap.size w w':=by
 obtain⟨v1,v2,v3,rfl,g1,g2,g3,g4,g5⟩:=h;obtain⟨a1,c1,rfl,hc1,hm1,hr1⟩:=g1.form;obtain⟨S1,hS1⟩:=eJ (IntKind.i64.wrap (n.states-1));have hS1':0≤n.states∧n.states≤40→S1=n.states-1:=fun h=>by rw[← hS1];exact IntWalk.i64_in _ (by omega)
 have hbad:=fun k=>Zl1 (n:=n) (k:=k) hS1'
 obtain⟨ms,hms⟩:=eI (n.moves);rw[← hms] at hc1 hr1 hbad;rw[← hms];have hS0:=(St.start w).alloc _ rfl #[.int .i64 n.states,.slice a1 ms.length c1,v2,v3] 28;have G2:=qh g2;have G3:=qh g3;have hml:ms.length≤9223372036854775807:=by omega
 replace hr1:=qh hr1;replace hr:=qh hr;replace hbad:=qh hbad;have Hhms:=qh hms;clear hms;replace hS1':=qh hS1';replace hS0:=qh hS0;clear g1 g2 g3
 go_enter Tryz.func85, Tryz.ntmps85
 go_wp2
 go_loopw [2,3] (fun r i wr=>∃ k:Nat,k≤ms.length∧i = .int .i64 k∧(List.range k).all (fun k=>Ze4 S1 (ms.getD k (0,0,0)))=true∧St w wr [Ent.box w.heap.size #[.int .i64 n.states,.slice a1 ms.length c1,v2,v3] 28])
  (fun _ i _=>ms.length-(intOf i).toNat)
 case atStart=>exact⟨0,Nat.zero_le _,rfl,rfl,hS0.out⟩
 case round =>
  obtain⟨k,hk,rfl,hall,hS⟩:=hrel;have e0:=hS.cell (v:=.int .i64 n.states) 0 0 rfl rfl;have e1:=hS.cell (v:=.slice a1 ms.length c1) 0 1 rfl rfl;have Hhall:=qh hall;clear hall;by_cases hlt:k<ms.length
  ·obtain⟨b1,o1,rfl,-,hbl,hcs⟩:=hr1.out (by omega);obtain⟨p1,p2,p3⟩:=hcs k hlt;replace p1:=(bcell hS.bel b1 _ hbl).trans p1;replace p2:=(bcell hS.bel b1 _ hbl).trans p2;replace p3:=(bcell hS.bel b1 _ hbl).trans p3;have hbk:=hbad.out k hlt;obtain⟨mm,hmd⟩:=eI (ms.getD k (0,0,0));rw[← hmd] at p1 p2 p3 hbk;obtain⟨f,l,t⟩:=mm;simp only at p1 p2 p3;have hSa:=hS.alloc _ rfl #[.int .i64 f,.int .i64 l,.int .i64 t] 72;have d0:=hSa.cell (v:=.int .i64 n.states) 0 0 rfl rfl;have hkk:(k:Int)<ms.length:=by omega
   have Hno:=qh (fun (h:Ze4 S1 (f,l,t)=false)=>(show Ending.returned (.bool false) = .returned (.bool r) from ZbA (by rw[← hr.out,hbk h])));have Hyes:=qh (fun (h:Ze4 S1 (f,l,t)=true)=>(show(List.range (k+1)).all (fun k=>Ze4 S1 (ms.getD k (0,0,0)))=true from Zcb Hhall.out (by rw[← hmd];exact h)));have Hhmd:=qh hmd;clear hmd;have HhS:=qh hS;clear hS;have HhSa:=qh hSa;clear hSa;clear hcs hbk;cases h1:inB f 0 S1
   ·replace h1:=qh h1;go_wp2_with (go_at_call 71;(with_reducible refine(ZaI _ _ _ _ _ h1.out).mono ?_);rintro e w' ⟨rfl,rfl⟩);go_ret;exact⟨Hno.out (by unfold Ze4;rw[h1.out];rfl),HhSa.out.bel⟩
   replace h1:=qh h1;cases h2:inB t 0 S1
   ·have Hh2:=qh h2;clear h2;go_wp2_with (first|(go_at_call 71;(with_reducible refine(ZaI _ _ _ _ _ h1.out).mono ?_);rintro e w' ⟨rfl,rfl⟩)|(go_at_call 71;(with_reducible refine(ZaI _ _ _ _ _ Hh2.out).mono ?_);rintro e w' ⟨rfl,rfl⟩));go_ret;exact⟨Hno.out (by unfold Ze4;rw[h1.out,Hh2.out];rfl),HhSa.out.bel⟩
   cases h3:inB l (-1) 2
   all_goals
    have Hh2:=qh h2;clear h2;have Hh3:=qh h3;clear h3;go_wp2_with (first|(go_at_call 71;(with_reducible refine(ZaI _ _ _ _ _ h1.out).mono ?_);rintro e w' ⟨rfl,rfl⟩)|(go_at_call 71;(with_reducible refine(ZaI _ _ _ _ _ Hh2.out).mono ?_);rintro e w' ⟨rfl,rfl⟩)|(go_at_call 71;(with_reducible refine(ZaI _ _ _ _ _ Hh3.out).mono ?_);rintro e w' ⟨rfl,rfl⟩))
   ·go_ret;exact⟨Hno.out (by unfold Ze4;rw[h1.out,Hh2.out,Hh3.out];rfl),HhSa.out.bel⟩
   go_roundw
   case rel=>exact⟨k+1,by omega,by go_num,Hyes.out (by unfold Ze4;rw[h1.out,Hh2.out,Hh3.out];rfl),HhSa.out.pick [0] (by decide)⟩
   case measure=>simp[intOf];omega
  obtain rfl:k=ms.length:=by omega
  have e2:=hS.cell (v:=v2) 0 2 rfl rfl;have e3:=hS.cell (v:=v3) 0 3 rfl rfl;have hall2:=Hhall.out;rw[Hhms.out] at hall2;have hmo:0≤n.states∧n.states≤40→n.moves.all (mvOk n.states)=true:=fun h=>Zjn (hS1'.out h) hall2
  have hr2:=hr.out;unfold Zal at hr2;rw[← Hhms.out] at hr2 hmo;have hnk:¬ ((ms.length:Int)<ms.length):=by omega
  cases hA:inB n.states 0 40
  ·rw[hA] at hr2;have HhA:=qh hA;clear hA;have Hhr2:=qh hr2;clear hr2;have HhS:=qh hS;clear hS;have Hhmo:=qh hmo;clear hmo;go_wp2_with (go_at_call 71;(with_reducible refine(ZaI _ _ _ _ _ HhA.out).mono ?_);rintro e w' ⟨rfl,rfl⟩);go_ret;exact⟨by rw[← Hhr2.out];rfl,HhS.out.bel⟩
  have hin:0≤n.states∧n.states≤40:=by simpa [inB] using hA
  obtain⟨hs0,hs1⟩:=hin;rw[hA,hmo ⟨hs0,hs1⟩] at hr2;have G2':=qh (G2.out.below hS.bel);have G3':=qh (G3.out.below hS.bel);have HhA:=qh hA;clear hA;have Hhmo:=qh hmo;clear hmo;have HhS:=qh hS;clear hS;by_cases hL:ms.length≤400
  ·have hL2:(ms.length:Int)≤400:=by omega
   rw[decide_eq_true hL] at hr2;cases hC:stOk n.firsts n.states
   ·rw[hC] at hr2;have HhC:=qh hC;clear hC;have Hhr2:=qh hr2;clear hr2;go_wp2_with (first|(go_at_call 71;(with_reducible refine(ZaI _ _ _ _ _ HhA.out).mono ?_);rintro e w' ⟨rfl,rfl⟩)|(go_at_call 130;(with_reducible refine(Zf7 n.firsts _ _ _ ⟨hs0,hs1⟩ G2'.out _ HhC.out).mono ?_);rintro e w2 ⟨rfl,hb2⟩;replace hb2:=qh hb2));go_ret;exact⟨by rw[← Hhr2.out];rfl,(HhS.out.call hb2.out).bel⟩
   rw[hC] at hr2;have HhC:=qh hC;clear hC;cases hD:stOk n.ends n.states
   all_goals
    rw[hD] at hr2;have HhD:=qh hD;clear hD;have Hhr2:=qh hr2;clear hr2
    go_wp2_with (first
     | (go_at_call 71;(with_reducible refine(ZaI _ _ _ _ _ HhA.out).mono ?_);rintro e w' ⟨rfl,rfl⟩)
     | (go_at_call 130;(with_reducible refine(Zf7 n.firsts v2 _ _ ⟨hs0,hs1⟩ G2'.out _ HhC.out).mono ?_);rintro e w2 ⟨rfl,hb2⟩;have HS2:=qh (HhS.out.call hb2);have e0:=HS2.out.cell (v:=.int .i64 n.states) 0 0 rfl rfl;have e3:=HS2.out.cell (v:=v3) 0 3 rfl rfl;have G3'':=qh (G3'.out.below hb2);clear hb2)
     | (go_at_call 130;(with_reducible refine(Zf7 n.ends v3 _ _ ⟨hs0,hs1⟩ G3''.out _ HhD.out).mono ?_);rintro e w3 ⟨rfl,hb3⟩;have Hb3:=qh hb3;clear hb3))
    go_ret;exact⟨by rw[← Hhr2.out];rfl,(HS2.out.call Hb3.out).bel⟩
  have hL2:¬ ((ms.length:Int)≤400):=by omega
  rw[decide_eq_false hL] at hr2;have Hhr2:=qh hr2;clear hr2;go_wp2_with (go_at_call 71;(with_reducible refine(ZaI _ _ _ _ _ HhA.out).mono ?_);rintro e w' ⟨rfl,rfl⟩);go_ret;exact⟨by rw[← Hhr2.out];rfl,HhS.out.bel⟩
end Go.Proofs.YtfikabecgaappaaGreat
