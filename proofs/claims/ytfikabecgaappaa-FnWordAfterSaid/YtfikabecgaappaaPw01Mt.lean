/-
  States met in breadth, letter by letter, with the words that lead to them: the plain meaning of the program's and of the reference's searches.
  No condition: this text speaks of no program.
  A map from things to their places in a list.
  No condition: this text speaks of no program.
  The first of the things met that ends, and its word: plain laws; the same for the numbered automaton.
  No condition: this text speaks of no program.
-/
import Derived.Test.YtfikabecgaappaaPw00Grow
set_option maxHeartbeats 1600000
namespace Go.Proofs.Ytfikabecgaappaa
structure Bs (α:Type) where
 met:List α
 words:List (List Nat)
section
variable {α:Type} [DecidableEq α]
def bvisit (nx:α→Nat→α) (x:α) (wd:List Nat) (s:Bs α) (c:Nat):Bs α :=
 if nx x c∈s.met then s else⟨s.met++[nx x c],s.words++[wd++[c]]⟩
def brow (nx:α→Nat→α) (x:α) (wd:List Nat) (s:Bs α):Nat→Bs α
 | 0=>s
 | n+1=>bvisit nx x wd (brow nx x wd s n) n
def bat (nx:α→Nat→α) (a:α):Nat→Bs α
 | 0=>⟨[a],[[]]⟩
 | k+1=>if k<(bat nx a k).met.length then brow nx ((bat nx a k).met.getD k a) ((bat nx a k).words.getD k []) (bat nx a k) 3 else bat nx a k
def bpart (nx:α→Nat→α) (a:α) (k n:Nat):Bs α:=brow nx ((bat nx a k).met.getD k a) ((bat nx a k).words.getD k []) (bat nx a k) n
variable {nx:α→Nat→α} {a:α}
theorem Zas (k:Nat):bpart nx a k 0=bat nx a k:=rfl
theorem ZaF {k:Nat} (h:k<(bat nx a k).met.length):bat nx a (k+1)=bpart nx a k 3:=by simp only[bat,if_pos h];rfl
theorem ZaY {k:Nat} (h:(bat nx a k).met.length≤k):bat nx a (k+1)=bat nx a k:=by simp only[bat,if_neg (show ¬ k<(bat nx a k).met.length by omega)]
theorem Zfn (k n:Nat):bpart nx a k (n+1)=bvisit nx ((bat nx a k).met.getD k a) ((bat nx a k).words.getD k []) (bpart nx a k n) n:=rfl
theorem ZbG {k n:Nat} (h:nx ((bat nx a k).met.getD k a) n∈(bpart nx a k n).met):bpart nx a k (n+1)=bpart nx a k n:=by rw[Zfn,bvisit,if_pos h]
theorem Zbo {k n:Nat} (h:nx ((bat nx a k).met.getD k a) n ∉ (bpart nx a k n).met):bpart nx a k (n+1)=⟨(bpart nx a k n).met++[nx ((bat nx a k).met.getD k a) n],(bpart nx a k n).words++[(bat nx a k).words.getD k []++[n]]⟩:=by rw[Zfn,bvisit,if_neg h]
theorem Zd5 (Q:Bs α→Prop) {x:α} {wd:List Nat} {s:Bs α} (hs:Q s) (hv:∀ t c,c<3→Q t→Q (bvisit nx x wd t c)):∀ n,n≤3→Q (brow nx x wd s n)
 | 0,_=>hs
 | n+1,h=>hv _ n (by omega) (Zd5 Q hs hv n (by omega))
theorem Zdw (Q:Bs α→Prop) (h0:Q ⟨[a],[[]]⟩) (hv:∀ s k,k<s.met.length→∀ t c,c<3→Q s→Q t→Q (bvisit nx (s.met.getD k a) (s.words.getD k []) t c)):∀ k,Q (bat nx a k)
 | 0=>h0
 | k+1=>by
  have ih:=Zdw Q h0 hv k;by_cases h:k<(bat nx a k).met.length
  ·rw[ZaF h];exact Zd5 Q ih (fun t c hc ht=>hv _ k h t c hc ih ht) 3 (by omega)
  rw[ZaY (by omega)];exact ih
theorem Zkd (Q:Bs α→Prop) (h0:Q ⟨[a],[[]]⟩) (hv:∀ s k,k<s.met.length→∀ t c,c<3→Q s→Q t→Q (bvisit nx (s.met.getD k a) (s.words.getD k []) t c)) {k n:Nat} (hk:k<(bat nx a k).met.length) (hn:n≤3):Q (bpart nx a k n) :=
 Zd5 Q (Zdw Q h0 hv k) (fun t c hc ht=>hv _ k hk t c hc (Zdw Q h0 hv k) ht) n hn
omit [DecidableEq α] in
theorem Zbx {l:List α} {x:α} (h:l.Nodup) (hx:x ∉ l):(l++[x]).Nodup:=by rw[List.nodup_append];refine⟨h,by simp,?_⟩;intro b hb c hc;simp only[List.mem_singleton] at hc;subst hc;intro e;subst e;exact hx hb
theorem ZeN (x:α) (wd:List Nat) {t:Bs α} (c:Nat) (h:t.met.Nodup∧t.words.length=t.met.length∧t.met.head? = some a) :
  (bvisit nx x wd t c).met.Nodup∧(bvisit nx x wd t c).words.length=(bvisit nx x wd t c).met.length∧(bvisit nx x wd t c).met.head? = some a:=by
 unfold bvisit
 split
 ·exact h
 rename_i hx;obtain⟨h1,h2,h3⟩:=h;exact⟨Zbx h1 hx,by simp[h2],by simp[h3]⟩
theorem ZaN (k:Nat):(bat nx a k).met.Nodup∧(bat nx a k).words.length=(bat nx a k).met.length∧(bat nx a k).met.head? = some a :=
 Zdw (fun s=>s.met.Nodup∧s.words.length=s.met.length∧s.met.head? = some a) (by simp) (fun s k _ t c _ _ ht=>ZeN _ _ _ ht) k
theorem ZcA {k n:Nat} (hk:k<(bat nx a k).met.length) (hn:n≤3):(bpart nx a k n).met.Nodup∧(bpart nx a k n).words.length=(bpart nx a k n).met.length∧(bpart nx a k n).met.head? = some a :=
 Zkd (fun s=>s.met.Nodup∧s.words.length=s.met.length∧s.met.head? = some a) (by simp) (fun s k _ t c _ _ ht=>ZeN _ _ _ ht) hk hn
theorem Zdv (k:Nat):0<(bat nx a k).met.length:=by
 have:=(ZaN (nx:=nx) (a:=a) k).2.2;cases h:(bat nx a k).met with
 | nil=>rw[h] at this;simp at this
 | cons=>simp
theorem ZeO (k:Nat):(bat nx a k).met.getD 0 a=a:=by
 have:=(ZaN (nx:=nx) (a:=a) k).2.2;cases h:(bat nx a k).met with
 | nil=>rw[h] at this;simp at this
 | cons=>rw[h] at this;simpa using this
theorem Zbf {Q:α→Prop} (h0:Q a) (hv:∀ x c,c<3→Q x→Q (nx x c)) (k:Nat):∀ x∈(bat nx a k).met,Q x:=by
 refine Zdw (fun s=>∀ x∈s.met,Q x) (by simpa using h0) (fun s k hk t c hc hs ht => ?_) k;unfold bvisit
 split
 ·exact ht
 intro x hx;simp only[List.mem_append,List.mem_singleton] at hx;rcases hx with hx|rfl
 ·exact ht x hx
 refine hv _ c hc (hs _ ?_);rw[List.getD_eq_getElem?_getD,List.getElem?_eq_getElem hk];simp
def Bs.le (s t:Bs α):Prop:=s.met <+: t.met∧s.words <+: t.words
omit [DecidableEq α] in
theorem Bs.le_refl (s:Bs α):s.le s:=⟨List.prefix_rfl,List.prefix_rfl⟩
omit [DecidableEq α] in
theorem Bs.le_trans {s t u:Bs α} (h:s.le t) (k:t.le u):s.le u:=⟨h.1.trans k.1,h.2.trans k.2⟩
theorem Zka (x:α) (wd:List Nat) (s:Bs α) (c:Nat):s.le (bvisit nx x wd s c):=by
 unfold bvisit
 split
 ·exact Bs.le_refl _
 exact⟨List.prefix_append _ _,List.prefix_append _ _⟩
theorem Zkb (x:α) (wd:List Nat) (s:Bs α) (n m:Nat) (h:n≤m):(brow nx x wd s n).le (brow nx x wd s m):=by
 induction m with
 | zero=>obtain rfl:n=0:=by omega
         exact Bs.le_refl _
 | succ m ih =>
  by_cases hn:n=m+1
  ·subst hn;exact Bs.le_refl _
  exact Bs.le_trans (ih (by omega)) (Zka _ _ _ _)
theorem Zcz {k n m:Nat} (h:n≤m):(bpart nx a k n).le (bpart nx a k m):=Zkb _ _ _ n m h
theorem ZhA (k:Nat):(bat nx a k).le (bat nx a (k+1)):=by
 by_cases h:k<(bat nx a k).met.length
 ·rw[ZaF h];exact Zkb _ _ _ 0 3 (by omega)
 rw[ZaY (by omega)];exact Bs.le_refl _
theorem Zfo {k m:Nat} (h:k≤m):(bat nx a k).le (bat nx a m):=by
 induction m with
 | zero=>obtain rfl:k=0:=by omega
         exact Bs.le_refl _
 | succ m ih =>
  by_cases hn:k=m+1
  ·subst hn;exact Bs.le_refl _
  exact Bs.le_trans (ih (by omega)) (ZhA _)
theorem ZaP {k n m:Nat} (hk:k<(bat nx a k).met.length) (hn:n≤3) (hm:k<m):(bpart nx a k n).le (bat nx a m):=by
 have h1:(bpart nx a k n).le (bat nx a (k+1)):=by rw[ZaF hk];exact Zcz hn
 exact Bs.le_trans h1 (Zfo hm)
theorem Zbu {k m:Nat} (h:(bat nx a k).met.length≤k) (hm:k≤m):bat nx a m=bat nx a k:=by
 induction m with
 | zero=>obtain rfl:k=0:=by omega
         rfl
 | succ m ih =>
  by_cases hn:k=m+1
  ·subst hn;rfl
  have e:=ih (by omega);rw[ZaY (by rw[e];omega),e]
def Zaf (l:List α) (x:α):Nat:=l.idxOf x
theorem Za3 {l:List α} {x:α} (h:x∈l):Zaf l x<l.length:=List.idxOf_lt_length_iff.2 h
omit [DecidableEq α] in
theorem Zav {l m:List α} (h:l <+: m) {k:Nat} (hk:k<l.length) (d:α):m.getD k d=l.getD k d:=by obtain⟨t,rfl⟩:=h;simp[List.getElem?_append_left hk]
theorem ZaM {l m:List α} (h:l <+: m) {x:α} (hx:x∈l):Zaf m x=Zaf l x:=by obtain⟨t,rfl⟩:=h;unfold Zaf;rw[List.idxOf_append,if_pos hx]
theorem ZkP {l m:List α} {x:α} (h:l++[x] <+: m) (hx:x ∉ l):Zaf m x=l.length:=by rw[ZaM h (by simp)];unfold Zaf;rw[List.idxOf_append,if_neg hx];simp
theorem Zd1 {l:List α} {k:Nat} (hk:k<l.length) (hn:l.Nodup) (d:α):Zaf l (l.getD k d)=k:=by unfold Zaf;rw[List.getD_eq_getElem?_getD,List.getElem?_eq_getElem hk];simp[hn]
theorem Zh2 {l:List α} {x:α} (hx:x∈l) (d:α):l.getD (Zaf l x) d=x:=by unfold Zaf;rw[List.getD_eq_getElem?_getD,List.getElem?_eq_getElem (List.idxOf_lt_length_iff.2 hx)];simp
theorem Zkc {k n c:Nat} (hc:c<n):nx ((bat nx a k).met.getD k a) c∈(bpart nx a k n).met:=by
 have h1:nx ((bat nx a k).met.getD k a) c∈(bpart nx a k (c+1)).met:=by
  by_cases h:nx ((bat nx a k).met.getD k a) c∈(bpart nx a k c).met
  ·rw[ZbG h];exact h
  rw[Zbo h];simp
 exact(Zcz (nx:=nx) (a:=a) (k:=k) (show c+1≤n by omega)).1.subset h1
theorem Zb7 {l m:List α} (hn:l.Nodup) (hs:∀ x∈l,x∈m):l.length≤m.length:=by
 induction l generalizing m with
 | nil=>simp
 | cons x l ih =>
  rw[List.nodup_cons] at hn;have h1:=ih (m:=m.erase x) hn.2 fun y hy=>(List.mem_erase_of_ne (fun e=>hn.1 (by rw[← e];exact hy))).2 (hs y (by simp[hy]))
  have h2:=List.length_erase_of_mem (hs x (by simp));have h3:=List.length_pos_of_mem (hs x (by simp));simp only[List.length_cons];omega
end
def Za6 {α:Type} [DecidableEq α] (nx:α→Nat→α) (a:α) (F:List α) (s:Int) (c:Nat):Int:=Zaf F (nx (F.getD s.toNat a) c)
def ZaG (n:Nat):List Int:=(List.range n).map Int.ofNat
theorem Zg2 (n:Nat):ZaG (n+1)=ZaG n++[(n:Int)]:=by simp[ZaG,List.range_succ]
theorem Zbc {n:Nat} {x:Nat}:(x:Int)∈ZaG n↔x<n:=by
 simp only[ZaG,List.mem_map,List.mem_range];constructor
 ·rintro⟨y,hy,e⟩;have e2:(y:Int)=(x:Int):=e;omega
 intro h;exact⟨x,h,rfl⟩
theorem Zd7 {n k:Nat} (h:k<n):(ZaG n).getD k 0=(k:Int):=by simp[ZaG,h]
theorem Zba (n:Nat):(ZaG n).length=n:=by simp[ZaG]
theorem Zjn {α:Type} [DecidableEq α] (nx:α→Nat→α) (a:α) (K:Nat):∀ k,k≤K →
  bat (Za6 nx a (bat nx a K).met) 0 k=⟨ZaG (bat nx a k).met.length,(bat nx a k).words⟩
 | 0,_=>rfl
 | k+1,hK=>by
  have ih:=Zjn nx a K k (by omega);have hlen:(bat (Za6 nx a (bat nx a K).met) 0 k).met.length=(bat nx a k).met.length:=by rw[ih];exact Zba _
  by_cases h:k<(bat nx a k).met.length
  ·rw[ZaF h,ZaF (by rw[hlen];exact h)]
   have hrow:∀ n,n≤3→bpart (Za6 nx a (bat nx a K).met) 0 k n=⟨ZaG (bpart nx a k n).met.length,(bpart nx a k n).words⟩:=by
    intro n
    induction n with
    | zero=>intro _;rw[Zas,Zas];exact ih
    | succ n ihn =>
     intro hn;have e:=ihn (by omega);have hx:(bat (Za6 nx a (bat nx a K).met) 0 k).met.getD k 0=(k:Int):=by rw[ih];exact Zd7 h
     have hF:(bat nx a K).met.getD k a=(bat nx a k).met.getD k a:=Zav (Zfo (show k≤K by omega)).1 h a;have hnx:Za6 nx a (bat nx a K).met (k:Int) n=(Zaf (bat nx a K).met (nx ((bat nx a k).met.getD k a) n):Int):=by unfold Za6;rw[show((k:Int).toNat)=k from rfl,hF]
     by_cases hm:nx ((bat nx a k).met.getD k a) n∈(bpart nx a k n).met
     ·rw[ZbG hm];have hi:=ZaM (ZaP (m:=K) h (show n≤3 by omega) (by omega)).1 hm;have hlt:Zaf (bat nx a K).met (nx ((bat nx a k).met.getD k a) n)<(bpart nx a k n).met.length:=by rw[hi];exact Za3 hm
      rw[ZbG (by rw[hx,hnx,e];exact Zbc.2 hlt),e]
     have hb:=ZaP (nx:=nx) (a:=a) (m:=K) h hn (by omega);rw[Zbo hm] at hb;have hi:=ZkP hb.1 hm;rw[Zbo (by rw[hx,hnx,e,hi];simp[Zbc]),Zbo hm,hx,hnx,hi,e,ih];simp[Zg2]
   exact hrow 3 (by omega)
  rw[ZaY (k:=k) (a:=a) (by omega),ZaY (by rw[hlen];omega)];exact ih
end Go.Proofs.Ytfikabecgaappaa
namespace Go.Proofs.Ytfikabecgaappaa
open Go.RowKit
section
variable {α:Type} [DecidableEq α]
def numbered (l:List α):List (α × Value):=l.zipIdx.map fun p=>(p.1,Value.int .i64 (p.2:Int))
omit [DecidableEq α] in
theorem ZfJ (l:List α) (x:α):numbered (l++[x])=numbered l++[(x,Value.int .i64 (l.length:Int))]:=by simp[numbered,List.zipIdx_append]
omit [DecidableEq α] in
theorem Zb5 (l:List α):(numbered l).map (·.1)=l:=by simp only[numbered,List.map_map];have:((fun x:α × Value=>x.1) ∘ fun p:α × Nat=>(p.1,Value.int .i64 (p.2:Int)))=Prod.fst:=rfl;rw[this,List.zipIdx_map_fst]
theorem ZaC {l:List α} (hn:l.Nodup) {x:α} (hx:x∈l):look x (numbered l)=some (.int .i64 (Zaf l x:Int)):=by refine ZhX (by rw[Zb5];exact hn) (j:=Zaf l x) ?_;have hlt:=List.idxOf_lt_length_iff.2 hx;unfold Zaf;simp only[numbered,List.getElem?_map,List.getElem?_zipIdx,List.getElem?_eq_getElem hlt,Option.map_some,Nat.zero_add,List.getElem_idxOf]
theorem Za7 {l:List α} {x:α} (hx:x ∉ l):look x (numbered l)=none :=
 Zgy fun p hp e=>hx (by rw[← Zb5 l,← e];exact List.mem_map.2 ⟨p,hp,rfl⟩)
theorem Zbg {l:List α} {x:α} (hx:x ∉ l):upd x (.int .i64 (l.length:Int)) (numbered l)=numbered (l++[x]):=by rw[ZfJ];exact ZhG fun p hp e=>hx (by rw[← Zb5 l,← e];exact List.mem_map.2 ⟨p,hp,rfl⟩)
end
end Go.Proofs.Ytfikabecgaappaa
namespace Go.Proofs.Ytfikabecgaappaa
open Go.RowKit
theorem memD {α:Type} {xs:List α} {k:Nat} {d:α} (h:k<xs.length):xs.getD k d∈xs:=by rw[List.getD_eq_getElem?_getD,List.getElem?_eq_getElem h];simp
theorem Za8 {α:Type} {xs:List α} {k:Nat} {d:α} (h:k<xs.length):xs.getD k d=xs[k]:=by simp[h]
def dnx (d:DfaD) (s:Int) (c:Nat):Int:=(d.next.getD s.toNat []).getD c 0
def den (d:DfaD) (s:Int):Bool:=d.ends.getD s.toNat false
def ZfZ {α:Type} (en:α→Bool) (s:Bs α):Option (List Nat):=((s.met.zip s.words).find? fun p=>en p.1).map (·.2)
def fine (d:DfaD):Prop:=1≤d.next.length∧d.next.length≤100000∧d.ends.length=d.next.length∧∀ i,i<d.next.length→(d.next.getD i []).length=3∧∀ c,c<3→0≤(d.next.getD i []).getD c 0∧(d.next.getD i []).getD c 0<d.next.length
section
variable {α:Type} [DecidableEq α] {nx nx':α→Nat→α} {a:α}
theorem Zfm {x:α} {wd:List Nat} {s:Bs α} (h:∀ c,c<3→nx x c=nx' x c):∀ n,n≤3→brow nx x wd s n=brow nx' x wd s n
 | 0,_=>rfl
 | n+1,hn=>by show bvisit nx x wd (brow nx x wd s n) n=bvisit nx' x wd (brow nx' x wd s n) n;rw[Zfm h n (by omega)];unfold bvisit;rw[h n (by omega)]
theorem ZeP {Q:α→Prop} (h0:Q a) (hv:∀ x c,c<3→Q x→Q (nx x c)) (he:∀ x c,c<3→Q x→nx x c=nx' x c):∀ k,bat nx a k=bat nx' a k
 | 0=>rfl
 | k+1=>by
  have ih:=ZeP h0 hv he k;by_cases h:k<(bat nx a k).met.length
  ·rw[ZaF h,ZaF (by rw[← ih];exact h)];unfold bpart;rw[← ih];exact Zfm (fun c hc=>he _ c hc (Zbf h0 hv k _ (memD h))) 3 (by omega)
  rw[ZaY (by omega),ZaY (by rw[← ih];omega),ih]
theorem ZcB {K:Nat} (hK:(bat nx a K).met.length≤K) {x:α} (hx:x∈(bat nx a K).met) {c:Nat} (hc:c<3):nx x c∈(bat nx a K).met:=by
 obtain⟨k,hk,rfl⟩:=List.mem_iff_getElem.1 hx
 have hkk:k<(bat nx a k).met.length:=by
  by_cases h:k<(bat nx a k).met.length
  ·exact h
  have:=Zbu (nx:=nx) (a:=a) (k:=k) (m:=K) (by omega) (by omega);rw[this] at hk;omega
 have e:(bat nx a K).met[k]=(bat nx a k).met.getD k a:=by rw[← Zav (Zfo (nx:=nx) (a:=a) (show k≤K by omega)).1 hkk a,Za8 hk]
 rw[e];exact(ZaP (nx:=nx) (a:=a) hkk (Nat.le_refl 3) (show k<K by omega)).1.subset (Zkc hc)
theorem Zie:∀ k:Nat,∀ wd∈(bat nx a k).words,wd.length≤k
 | 0,wd,h=>by simp[bat] at h;simp[h]
 | k+1,wd,h=>by
  have ih:=Zie k;by_cases hk:k<(bat nx a k).met.length
  ·rw[ZaF hk] at h;have hg:=(ZaN (nx:=nx) (a:=a) k).2.1;refine Zd5 (fun t=>∀ wd∈t.words,wd.length≤k+1) (fun wd h=>Nat.le_succ_of_le (ih wd h)) (fun t c _ ht => ?_) 3 (Nat.le_refl 3) wd h;unfold bvisit
   split
   ·exact ht
   intro v hv;simp only[List.mem_append,List.mem_singleton] at hv;rcases hv with hv|rfl
   ·exact ht v hv
   have:=ih _ (memD (d:=[]) (show k<(bat nx a k).words.length by omega));simpa using this
  rw[ZaY (by omega)] at h;exact Nat.le_succ_of_le (ih wd h)
theorem Zgb (K:Nat):a∈(bat nx a K).met:=by
 have h:=memD (d:=a) (Zdv (nx:=nx) (a:=a) K)
 rwa [ZeO] at h
def Zad (nx:α→Nat→α) (F:List α) (x:α):List Int:=(List.range 3).map fun c=>(Zaf F (nx x c):Int)
def Zak (nx:α→Nat→α) (en:α→Bool) (F:List α):DfaD:=⟨F.map (Zad nx F),F.map en⟩
theorem Zay (nx:α→Nat→α) (en:α→Bool) (F:List α):(Zak nx en F).next.length=F.length:=by simp[Zak]
theorem Zdk {en:α→Bool} {F:List α} {i:Nat} (hi:i<F.length):(Zak nx en F).next.getD i []=Zad nx F (F.getD i a):=by simp[Zak,List.getElem?_eq_getElem hi]
theorem Zem {F:List α} {x:α} {c:Nat} (hc:c<3):(Zad nx F x).getD c 0=(Zaf F (nx x c):Int):=by simp[Zad,hc]
theorem Zhu {en:α→Bool} {F:List α} {s:Int} {c:Nat} (h0:0≤s) (h1:s<F.length) (hc:c<3):dnx (Zak nx en F) s c=Za6 nx a F s c:=by unfold dnx Za6;rw[Zdk (a:=a) (by omega),Zem hc]
theorem Zhv {en:α→Bool} {F:List α} {i:Nat} (hi:i<F.length):den (Zak nx en F) (i:Int)=en F[i]:=by simp[den,Zak,hi]
theorem Zc6 {en:α→Bool} {K:Nat} (hK:(bat nx a K).met.length≤K) (hK2:K≤100000):fine (Zak nx en (bat nx a K).met):=by
 refine⟨?_,?_,?_,fun i hi => ?_⟩
 ·rw[Zay];exact Zdv K
 ·rw[Zay];omega
 ·simp[Zak]
 rw[Zay] at hi;rw[Zdk (a:=a) hi];refine⟨by simp[Zad],fun c hc => ?_⟩;rw[Zem hc,Zay];exact⟨by omega,by exact_mod_cast Za3 (ZcB hK (memD hi) hc)⟩
end
def inB (x lo hi:Int):Bool:=decide (lo≤x)&&decide (x≤hi)
theorem Zh0 (x lo hi:Int) (w:World) (r:Bool) (hr:inB x lo hi=r) :
  Calls Try.prog 45 #[.int .i64 x,.int .i64 lo,.int .i64 hi] w fun e w'=>e = .returned (.bool r)∧w=w':=by
 subst hr;unfold inB
 go_enter Try.func45,Try.ntmps45
 go_wp2
 all_goals (go_ret;exact⟨by simp[*]<;>omega,rfl⟩)
theorem Za2 (x lo hi:Int) (w:World) (r:Bool) (hr:inB x lo hi=r) :
  Calls Try.prog 39 #[.int .i64 x,.int .i64 lo,.int .i64 hi] w fun e w'=>e = .returned (.bool r)∧w=w':=by
 subst hr;unfold inB
 go_enter Try.func39,Try.ntmps39
 go_wp2
 all_goals (go_ret;exact⟨by simp[*]<;>omega,rfl⟩)
def Zdg (n:Int) (row:List Int):Bool:=decide (row.length=3)&&row.all fun t=>inB t 0 (n-1)
def Zae (next:List (List Int)) (ends:List Bool):Bool :=
 next.all (Zdg next.length)&&inB next.length 1 40&&decide (ends.length=next.length)
theorem ZgP {next:List (List Int)} {ends:List Bool} {k:Nat} (hk:k<next.length) (h:Zdg next.length (next.getD k [])=false):Zae next ends=false:=by
 unfold Zae;have:next.all (Zdg next.length)=false:=by rw[List.all_eq_false];refine⟨next[k],List.getElem_mem hk,?_⟩;simpa [hk] using h
 simp[this]
theorem Zjc {n:Int} {row:List Int} (h:row.length≠3):Zdg n row=false:=by simp[Zdg,h]
theorem Zk5 {α:Type} {p:α→Bool} {l:List α} {k:Nat} {d:α} (hk:k<l.length) (h:(l.take k).all p=true) (hp:p (l.getD k d)=true):(l.take (k+1)).all p=true:=by rw[List.take_succ_eq_append_getElem hk,List.all_append,h];simpa [hk] using hp
end Go.Proofs.Ytfikabecgaappaa
namespace Go.Proofs.Ytfikabecgaappaa
open Go.RowKit
theorem ZfC {P:Program} {f:FuncId} {args:Array Value} {w:World} {n:Nat} {v:Value}
  (h:Calls P f args (w.drewN n) fun e w'=>e = .returned v∧w.drewN n=w'):Calls P f args (w.drewN n) fun e w''=>e = .returned v∧∃ m,w''=w.drewN m :=
 h.mono fun _ _ ⟨he,hm⟩=>⟨he,n,hm.symm⟩
end Go.Proofs.Ytfikabecgaappaa
namespace Go.Proofs.Ytfikabecgaappaa
open Go.RowKit
theorem Zcx {α:Type} {l:List α} {k:Nat} {d:α} (hk:k<l.length):l.getD k d∈l:=by simp[hk]
theorem ZjU {P:Program} {ti:TypeId} {fs:List Field} (d:Nat) (x1 x2 y1 y2:Int) (w:World) (hi:P.underlying ti=some (.int .i64))
  (hf : fs.map (fun f => (f.name == "_", f.type, f.offset)) = [(false, ti, 0), (false, ti, 1)]) :
  (Op.eqFields (d+1) #[.int .i64 x1,.int .i64 x2] #[.int .i64 y1,.int .i64 y2] fs).run P w = .ok (x1==y1&&x2==y2) w:=by
 obtain⟨f,g,rfl⟩:∃ f g,fs=[f,g]:=by
  have hl:fs.length=2:=by simpa using congrArg List.length hf
  match fs with
  | []=>simp at hl
  | [_]=>simp at hl
  | [f,g]=>exact⟨f,g,rfl⟩
  | _::_::_::_=>simp at hl
 simp only[List.map_cons,List.map_nil,List.cons.injEq,Prod.mk.injEq,and_true] at hf
 obtain⟨⟨f1,f2,f3⟩,g1,g2,g3⟩:=hf
 have f1' : f.name ≠ "_" := by simpa using f1
 have g1' : g.name ≠ "_" := by simpa using g1
 simp only[Op.eqFields,f1',g1',f2,f3,g2,g3,ne_eq,not_false_eq_true,if_true]
 cases h1:x1==y1<;>cases h2:x2==y2<;>simp[go_sem,hi,h1,h2,part,isAgg,run_underlying hi]
end Go.Proofs.Ytfikabecgaappaa
namespace Go.Proofs.Ytfikabecgaappaa
open Go.RowKit
def badT (n t:Int):Bool:=!inB t 0 (n-1)
def ZbN {α:Type} (p:α→Bool) (xs:List α):Int:=if xs.any p then(xs.findIdx p:Int) else -1
theorem ZdD {α:Type} {p:α→Bool} {xs:List α} {k:Nat} {d:α} (hk:k<xs.length) (h:(xs.take k).any p=false) (hp:p (xs.getD k d)=true):ZbN p xs=k:=by
 have hp':p xs[k]=true:=by simpa [hk] using hp
 have h1:xs.any p=true:=List.any_eq_true.2 ⟨xs[k],List.getElem_mem hk,hp'⟩;unfold ZbN;rw[if_pos h1];have:xs.findIdx p=k:=by rw[List.findIdx_eq hk];refine⟨hp',fun j hj => ?_⟩;rw[List.any_eq_false] at h;have:=h xs[j] (by rw[List.mem_take_iff_getElem];exact⟨j,by omega,rfl⟩);simpa using this
 rw[this]
theorem Zc4 {α:Type} {p:α→Bool} {xs:List α} {k:Nat} (hk:xs.length≤k) (h:(xs.take k).any p=false):ZbN p xs = -1:=by rw[List.take_of_length_le hk] at h;unfold ZbN;rw[h];rfl
theorem ZdE {α:Type} (p:α→Bool) (xs:List α):decide (0≤ZbN p xs)=xs.any p:=by unfold ZbN;cases h:xs.any p<;>simp
theorem Zig {α:Type} {p:α→Bool} {l:List α} {k:Nat} {d:α} (hk:k<l.length) (h:(l.take k).any p=false) (hp:p (l.getD k d)=false):(l.take (k+1)).any p=false:=by rw[List.take_succ_eq_append_getElem hk,List.any_append,h];simpa [hk] using hp
theorem Zc8 (x n:Int) (b:Nat) (w:World) (hn:0≤n∧n≤9223372036854775807) (hc:w.cell? ⟨b,0,none⟩=some (.int .i64 n)) (r:Bool) (hr:badT n x=r) :
  Calls Try.prog 54 #[.int .i64 x,.pointer (some ⟨b,0,none⟩)] w fun e w'=>e = .returned (.bool r)∧w=w':=by
 subst hr;obtain⟨h1,h2⟩:=hn
 go_enter Try.func54, Try.ntmps54
 go_wp2_with (go_at_call 39;refine(Za2 _ _ _ _ _ rfl).mono ?_;rintro e w' ⟨rfl,rfl⟩);go_ret;exact⟨rfl,rfl⟩
theorem Zex (xs:List Int) (v:Value) (n:Int) (b:Nat) (w:World) (hn:0≤n∧n≤9223372036854775807) (hc:w.cell? ⟨b,0,none⟩=some (.int .i64 n)) (h1:Ints 0 w v xs) :
  Calls Try.prog 73 #[v,.func (.func 54) #[] #[.pointer (some ⟨b,0,none⟩)]] w fun e w'=>e = .returned (.int .i64 (ZbN (badT n) xs))∧w=w':=by
 obtain⟨a1,c1,rfl,hc1,hm1,hr1⟩:=h1.form;clear h1
 go_enter Try.func73, Try.ntmps73
 go_wp2
 go_loop [4,8] (fun r i=>∃ k:Nat,k≤xs.length∧i = .int .i64 k∧(xs.take k).any (badT n)=false) (fun _ i=>xs.length-(intOf i).toNat)
 case atStart=>exact⟨0,Nat.zero_le _,rfl,rfl⟩
 case round =>
  obtain⟨k,hk,rfl,htk⟩:=hrel;replace htk:=qh htk;by_cases hlt:k<xs.length
  ·obtain⟨b1,o1,rfl,hB1,hbl1,hcs1⟩:=hr1 (by omega);have hx1:=hcs1 k hlt;obtain⟨x,hxx⟩:=eI (xs.getD k 0);rw[← hxx] at hx1;have Hhxx:=qh hxx;clear hxx;clear hcs1 hr1;cases hb:badT n x
   ·replace hb:=qh hb;go_wp2_with (go_at_call 54;refine(Zc8 x n b _ hn hc _ hb.out).mono ?_;rintro e w' ⟨rfl,rfl⟩)
    go_round
    case rel=>exact⟨k+1,by omega,by go_num,Zig (d:=0) hlt htk.out (by rw[← Hhxx.out];exact hb.out)⟩
    case measure=>simp[intOf];omega
   replace hb:=qh hb;go_wp2_with (go_at_call 54;refine(Zc8 x n b _ hn hc _ hb.out).mono ?_;rintro e w' ⟨rfl,rfl⟩);go_ret;exact⟨ZcK (by rw[ZdD (d:=0) hlt htk.out (by rw[← Hhxx.out];exact hb.out)]),rfl⟩
  clear hr1;go_wp2;go_ret;exact⟨ZcK (by rw[Zc4 (by omega) htk.out]),rfl⟩
theorem ZbO (xs:List Int) (v:Value) (n:Int) (b:Nat) (w:World) (hn:0≤n∧n≤9223372036854775807) (hc:w.cell? ⟨b,0,none⟩=some (.int .i64 n)) (h1:Ints 0 w v xs) (r:Bool) (hr:xs.any (badT n)=r) :
  Calls Try.prog 53 #[v,.func (.func 54) #[] #[.pointer (some ⟨b,0,none⟩)]] w fun e w'=>e = .returned (.bool r)∧w=w':=by
 obtain⟨a1,c1,hv,-⟩:=h1.form;have H1:=qh h1;subst hv;clear h1;replace hr:=qh hr
 go_enter Try.func53, Try.ntmps53
 go_wp2_with (go_at_call 73;refine(Zex xs _ n b _ hn hc H1.out).mono ?_;rintro e w' ⟨rfl,rfl⟩);go_ret;exact⟨ZcU (by rw[← hr.out,ZdE]),rfl⟩
theorem Zjd {n:Int} {row:List Int} (h:row.any (badT n)=true):Zdg n row=false:=by
 unfold Zdg;have:(row.all fun t=>inB t 0 (n-1))=false:=by rw[List.any_eq_true] at h;obtain⟨x,hx,hp⟩:=h;rw[List.all_eq_false];exact⟨x,hx,by simpa [badT] using hp⟩
 simp[this]
theorem Zjb {n:Int} {row:List Int} (hl:row.length=3) (h:row.any (badT n)=false):Zdg n row=true:=by unfold Zdg;rw[List.any_eq_false] at h;simp only[hl,decide_true,Bool.true_and,List.all_eq_true];intro x hx;have:=h x hx;simpa [badT] using this
theorem Zcb (d:DfaD) (v:Value) (w:World) (h:DfaR 0 w v d) (r:Bool) (hr:Zae d.next d.ends=r) :
  Calls Try.prog 28 #[v] w fun e w'=>e = .returned (.bool r)∧Below w.heap.size w w':=by
 obtain⟨next,ends⟩:=d;obtain⟨v1,v2,rfl,h1,h2⟩:=h;simp only at h1 h2 hr;obtain⟨a1,c1,rfl,hc1,hm1,hr1⟩:=h1.formI;obtain⟨a2,c2,rfl,hc2,hm2,hr2⟩:=h2.form;have Hr:=qh hr;clear h1 h2 hr hr2
 go_enter Try.func28, Try.ntmps28
 go_wp2
 go_loopw [2,12] (fun r i wr=>∃ k:Nat,k≤next.length∧i = .int .i64 k∧(next.take k).all (Zdg next.length)=true∧Below (w.heap.size+2) ((w.alloc (.cells #[.slice a1 next.length c1,.slice a2 ends.length c2] 30)).alloc (.cells #[.int .i64 next.length] 3)) wr)
  (fun _ i _=>next.length-(intOf i).toNat)
 case atStart=>exact⟨0,Nat.zero_le _,rfl,rfl,Below.refl _ _⟩
 case round =>
  obtain⟨k,hk,rfl,hall,hb⟩:=hrel;have hend:Below w.heap.size w wr:=(((Below.refl _ _).alloc (Nat.le_refl _) _).alloc (by simp) _).trans (hb.mono (by omega));have x0:=((Bx.new w _ _).alloc _).below hb (by omega);have x1:=(Bx.new (w.alloc _) _ _).below hb (by simp);have hx0:=x0.cell 0;have hx2:=x0.cell 1;have hx1:=x1.cell 0;simp only[List.getElem?_toArray,List.getElem?_cons_zero,List.getElem?_cons_succ,World.size_alloc] at hx0 hx1 hx2;have Hend:=qh hend;clear hend x0 x1;by_cases hlt:k<next.length
  ·obtain⟨b,off,rfl,hB,hbl,hcs⟩:=hr1 (by omega);obtain⟨row,hrw⟩:=eI (next.getD k []);have hcsk:=hcs k hlt;rw[← hrw] at hcsk;replace hrw:=qh hrw;obtain⟨a',cap',hcell,hcc,hcm,hrow⟩:=hcsk;have hx3:=(bcell Hend.out b (off+k) hbl).trans hcell;have Hrow:=qh (hrow.below Hend.out);replace hall:=qh hall;have Hhb:=qh hb;clear hb;clear hcs hr1 hcell hrow;by_cases hlen:row.length=3
   ·have hl3:((row.length:Int) != 3)=false:=by rw[hlen];rfl
    have Hhlen:=qh hlen;clear hlen;cases hany:row.any (badT next.length)
    ·have Hhany:=qh hany;clear hany;go_wp2_with (go_at_call 53;refine(ZbO row _ next.length _ _ (by omega) hx1 Hrow.out _ Hhany.out).mono ?_;rintro e w' ⟨rfl,rfl⟩);go_roundw
     case rel=>exact⟨k+1,by omega,by go_num,Zk5 (d:=[]) hlt hall.out (by rw[← hrw.out];exact Zjb Hhlen.out Hhany.out),Hhb.out⟩
     case measure=>simp[intOf];omega
    have Hhany:=qh hany;clear hany;go_wp2_with (go_at_call 53;refine(ZbO row _ next.length _ _ (by omega) hx1 Hrow.out _ Hhany.out).mono ?_;rintro e w' ⟨rfl,rfl⟩);go_ret;exact⟨by rw[← Hr.out,ZgP hlt (by rw[← hrw.out];exact Zjd Hhany.out)];rfl,Hend.out⟩
   have hl3:((row.length:Int) != 3)=true:=by rw[bne_iff_ne];omega
   have Hhlen:=qh hlen;clear hlen;go_wp2;go_ret;exact⟨by rw[← Hr.out,ZgP hlt (by rw[← hrw.out];exact Zjc Hhlen.out)];rfl,Hend.out⟩
  have hfin:Zae next ends=(inB next.length 1 40&&decide (ends.length=next.length)):=by have h3:=hall;rw[List.take_of_length_le (by omega)] at h3;simp[Zae,h3]
  have Hhfin:=qh hfin;clear hfin;have Hhb:=qh hb;clear hb;clear hall hr1;cases hin:inB next.length 1 40
  ·have Hhin:=qh hin;clear hin;go_wp2_with (go_at_call 39;refine(Za2 _ _ _ _ _ Hhin.out).mono ?_;rintro e w' ⟨rfl,rfl⟩);go_ret;exact⟨by rw[← Hr.out,Hhfin.out,Hhin.out];rfl,Hend.out⟩
  have Hhin:=qh hin;clear hin;go_wp2_with (go_at_call 39;refine(Za2 _ _ _ _ _ Hhin.out).mono ?_;rintro e w' ⟨rfl,rfl⟩);go_ret;exact⟨ZcU (by rw[← Hr.out,Hhfin.out,Hhin.out,ZlJ];rfl),Hend.out⟩
def ZbQ (a b:DfaD) (p:Int × Int) (c:Nat):Int × Int:=((a.next.getD p.1.toNat []).getD c 0,(b.next.getD p.2.toNat []).getD c 0)
def ZbM (a b:DfaD) (p:Int × Int):Bool:=inB p.1 0 ((a.next.length:Int)-1)&&inB p.2 0 ((b.next.length:Int)-1)
theorem Zd0 {x lo hi:Int} (h:inB x lo hi=true):lo≤x∧x≤hi:=by simpa [inB] using h
theorem Zaw {next:List (List Int)} {ends:List Bool} (h:Zae next ends=true) {i:Nat} (hi:i<next.length) :
  (next.getD i []).length=3∧∀ c,c<3→0≤(next.getD i []).getD c 0∧(next.getD i []).getD c 0<next.length:=by
 simp only[Zae,Bool.and_eq_true,List.all_eq_true] at h;have hr:=h.1.1 _ (Zcx (d:=[]) hi);simp only[Zdg,Bool.and_eq_true,decide_eq_true_eq,List.all_eq_true] at hr;refine⟨hr.1,fun c hc => ?_⟩;have:=Zd0 (hr.2 _ (Zcx (d:=0) (show c<(next.getD i []).length by omega)));omega
theorem Zac {next:List (List Int)} {ends:List Bool} (h:Zae next ends=true):1≤next.length∧next.length≤40∧ends.length=next.length:=by simp only[Zae,Bool.and_eq_true,decide_eq_true_eq] at h;have:=Zd0 h.1.2;omega
def nxD (d:DfaD) (s c:Nat):Nat:=((d.next.getD s []).getD c 0).toNat
def enD (d:DfaD) (s:Nat):Bool:=d.ends.getD s false
def ZaU (d:DfaD):DfaD:=Zak (dnx d) (den d) (bat (dnx d) 0 d.next.length).met
theorem Za9 {d:DfaD} (hd:fine d) {s c:Nat} (hs:s<d.next.length) (hc:c<3):nxD d s c<d.next.length∧dnx d (s:Int) c=((nxD d s c:Nat):Int):=by obtain⟨-,-,-,h⟩:=hd;obtain⟨-,h2⟩:=h s hs;obtain⟨a,b⟩:=h2 c hc;unfold nxD dnx;rw[Int.toNat_natCast];omega
theorem ZbU {d:DfaD} (hd:fine d) (K:Nat):(∀ x∈(bat (dnx d) 0 K).met,0≤x∧x<(d.next.length:Int))∧(bat (dnx d) 0 K).met.length≤d.next.length:=by
 have h1:∀ x∈(bat (dnx d) 0 K).met,0≤x∧x<(d.next.length:Int):=by refine Zbf (Q:=fun x=>0≤x∧x<(d.next.length:Int)) ⟨by omega,by have:=hd.1;omega⟩ (fun x c hc hx => ?_) K;obtain⟨s,rfl⟩:=Int.eq_ofNat_of_zero_le hx.1;obtain⟨a,b⟩:=Za9 hd (s:=s) (by omega) hc;rw[b];omega
 refine⟨h1,?_⟩;have:=Zb7 (ZaN (nx:=dnx d) (a:=0) K).1 (m:=ZaG d.next.length) fun x hx=>by obtain⟨a,b⟩:=h1 x hx;obtain⟨s,rfl⟩:=Int.eq_ofNat_of_zero_le a;exact Zbc.2 (by omega)
 rwa [Zba] at this
theorem Zan {d:DfaD} (h:Zae d.next d.ends=true):fine d:=by have:=Zac h;exact⟨by omega,by omega,by omega,fun i hi=>Zaw h hi⟩
theorem Zkl {α:Type} [DecidableEq α] {nx:α→Nat→α} {a:α} {en:α→Bool} {K:Nat} (hK:(bat nx a K).met.length≤K):ZaU (Zak nx en (bat nx a K).met)=Zak nx en (bat nx a K).met:=by
 unfold ZaU;rw[Zay];obtain⟨m,hm⟩:=eI ((bat nx a K).met.length);have hle:(bat nx a m).met.length≤m:=by have:=(Zfo (nx:=nx) (a:=a) (show m≤K by omega)).1.length_le;omega
 have hd:bat nx a K=bat nx a m:=Zbu hle (by omega);have hp:=Zdv (nx:=nx) (a:=a) K;have hpl:∀ (s:Int) c,c<3→0≤s∧s<m→Zaf (bat nx a K).met (nx ((bat nx a K).met.getD s.toNat a) c)<m:=fun s c hc hs=>by rw[hm];exact Za3 (ZcB hK (memD (d:=a) (show s.toNat<(bat nx a K).met.length by omega)) hc)
 have hlt:∀ (s:Int) c,c<3→0≤s∧s<m→0≤Za6 nx a (bat nx a K).met s c∧Za6 nx a (bat nx a K).met s c<m:=fun s c hc hs=>by have:=hpl s c hc hs;unfold Za6;omega
 have e1:bat (Za6 nx a (bat nx a K).met) 0 m=bat (dnx (Zak nx en (bat nx a K).met)) 0 m :=
  ZeP (Q:=fun s=>0≤s∧s<(m:Int)) (by omega) (fun s c hc hs=>hlt s c hc hs) (fun s c hc hs=>(Zhu (by omega) (by omega) hc).symm) m
 have hmet:(bat (dnx (Zak nx en (bat nx a K).met)) 0 (bat nx a K).met.length).met=ZaG (bat nx a K).met.length:=by rw[← hm,← e1,Zjn nx a K m (by omega),← hd,hm]
 rw[hmet]
 have hr:(ZaG (bat nx a K).met.length).map (Zad (dnx (Zak nx en (bat nx a K).met)) (ZaG (bat nx a K).met.length))=(bat nx a K).met.map (Zad nx (bat nx a K).met):=by
  refine List.ext_getElem (by simp[ZaG]) fun i h1 h2 => ?_
  have hi:i<(bat nx a K).met.length:=by simpa using h2
  have hu:(ZaG (bat nx a K).met.length)[i]'(by simpa using h1)=(i:Int):=by simp[ZaG]
  simp only[List.getElem_map];rw[hu];unfold Zad;refine List.map_congr_left fun c hc => ?_
  have hc3:c<3:=List.mem_range.1 hc;rw[Zhu (a:=a) (by omega) (by omega) hc3];unfold Za6;have hp2:=hpl (i:Int) c hc3 (by omega);have e2:(bat nx a K).met.getD (i:Int).toNat a=(bat nx a K).met[i]:=by simp[hi]
  rw[e2] at hp2 ⊢;congr 1;obtain⟨q,hq⟩:=eJ (Zaf (bat nx a K).met (nx ((bat nx a K).met[i]) c));rw[hq] at hp2 ⊢;have e3:=Zd7 (n:=(bat nx a K).met.length) (k:=q) (by omega);have e4:=Zd1 (l:=ZaG (bat nx a K).met.length) (k:=q) (by rw[Zba];omega) (List.Pairwise.map _ (fun _ _ h e=>h (Int.ofNat.inj e)) List.nodup_range) (0:Int);rw[e3] at e4;exact e4
 have he:(ZaG (bat nx a K).met.length).map (den (Zak nx en (bat nx a K).met))=(bat nx a K).met.map en:=by
  refine List.ext_getElem (by simp[ZaG]) fun i h1 h2 => ?_
  have hi:i<(bat nx a K).met.length:=by simpa using h2
  have hu:(ZaG (bat nx a K).met.length)[i]'(by simpa using h1)=(i:Int):=by simp[ZaG]
  simp only[List.getElem_map];rw[hu];exact Zhv hi
 exact congr (congrArg DfaD.mk hr) he
end Go.Proofs.Ytfikabecgaappaa
