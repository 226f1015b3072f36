/-
  Learning an automaton by questions, plain: starts, rests, rows, guesses; that it ends after at most as many guesses as there are states.
  No condition: this text speaks of no program.
-/
import Derived.Test.YtehmjmjedopkkaaGreatPd08Det
set_option maxHeartbeats 4000000
set_option maxRecDepth 100000
namespace Go.Proofs.YtehmjmjedopkkaaGreat
open Go.RowKit
theorem Zdh {α β:Type} {f:α→β}:∀ {l:List α},(l.map f).Nodup→l.Nodup
 | [],_=>List.nodup_nil
 | x::l,h=>by rw[List.map_cons,List.nodup_cons] at h;exact List.nodup_cons.2 ⟨fun hx=>h.1 (List.mem_map.2 ⟨x,hx,rfl⟩),Zdh h.2⟩
theorem ZeY {α β:Type} {f:α→β}:∀ {l:List α},(l.map f).Nodup→∀ {x y:α},x∈l→y∈l→f x=f y→x=y
 | [],_,x,_,hx,_,_=>by simp at hx
 | z::l,h,x,y,hx,hy,e=>by
  rw[List.map_cons,List.nodup_cons] at h;rcases List.mem_cons.1 hx with hx1|hx1
  ·rcases List.mem_cons.1 hy with hy1|hy1
   ·rw[hx1,hy1]
   exact absurd (List.mem_map.2 ⟨y,hy1,by rw[← e,hx1]⟩) h.1
  rcases List.mem_cons.1 hy with hy1|hy1
  ·exact absurd (List.mem_map.2 ⟨x,hx1,by rw[e,hy1]⟩) h.1
  exact ZeY h.2 hx1 hy1 e
/-! Closing a list of words: a word becomes a start if no start has its key. -/
section
variable {β:Type} [DecidableEq β] (key:List Nat→β)
def kvisit (s:List (List Nat)) (w:List Nat):List (List Nat):=if key w∈s.map key then s else s++[w]
def krow (s:List (List Nat)) (w:List Nat):Nat→List (List Nat)
 | 0=>s
 | n+1=>kvisit key (krow s w n) (w++[n])
def kat (s0:List (List Nat)):Nat→List (List Nat)
 | 0=>s0
 | k+1=>if k<(kat s0 k).length then krow key (kat s0 k) ((kat s0 k).getD k []) 3 else kat s0 k
def kpart (s0:List (List Nat)) (k n:Nat):List (List Nat):=krow key (kat key s0 k) ((kat key s0 k).getD k []) n
variable {key} {s0:List (List Nat)}
theorem Zea {k:Nat} (h:k<(kat key s0 k).length):kat key s0 (k+1)=kpart key s0 k 3:=by simp only[kat,if_pos h];rfl
theorem Zeb {k:Nat} (h:(kat key s0 k).length≤k):kat key s0 (k+1)=kat key s0 k:=by simp only[kat,if_neg (show ¬ k<(kat key s0 k).length by omega)]
theorem ZgQ (k n:Nat):kpart key s0 k (n+1)=kvisit key (kpart key s0 k n) ((kat key s0 k).getD k []++[n]):=rfl
theorem ZgO (s:List (List Nat)) (w:List Nat):s <+: kvisit key s w:=by
 unfold kvisit
 split
 ·exact List.prefix_rfl
 exact List.prefix_append _ _
theorem Znk (s:List (List Nat)) (w:List Nat) {n m:Nat} (h:n≤m):krow key s w n <+: krow key s w m:=by
 induction m with
 | zero =>
  obtain rfl:n=0:=by omega
  exact List.prefix_rfl
 | succ m ih =>
  by_cases hn:n=m+1
  ·subst hn;exact List.prefix_rfl
  exact(ih (by omega)).trans (ZgO _ _)
theorem Zip {k n m:Nat} (h:n≤m):kpart key s0 k n <+: kpart key s0 k m:=Znk _ _ h
theorem ZhC {k m:Nat} (h:k≤m):kat key s0 k <+: kat key s0 m:=by
 induction m with
 | zero =>
  obtain rfl:k=0:=by omega
  exact List.prefix_rfl
 | succ m ih =>
  by_cases hn:k=m+1
  ·subst hn;exact List.prefix_rfl
  refine(ih (by omega)).trans ?_;by_cases hl:m<(kat key s0 m).length
  ·rw[Zea hl];exact Zip (Nat.zero_le 3)
  rw[Zeb (by omega)];exact List.prefix_rfl
theorem Znl {k m:Nat} (h:(kat key s0 k).length≤k) (hm:k≤m):kat key s0 m=kat key s0 k:=by
 induction m with
 | zero =>
  obtain rfl:k=0:=by omega
  rfl
 | succ m ih =>
  by_cases hn:k=m+1
  ·subst hn;rfl
  have e:=ih (by omega);rw[Zeb (by rw[e];omega),e]
theorem ZgP (Q:List (List Nat)→Prop) (hv:∀ s w,Q s→Q (kvisit key s w)) {s:List (List Nat)} (hs:Q s) (w:List Nat):∀ n,Q (krow key s w n)
 | 0=>hs
 | n+1=>hv _ _ (ZgP Q hv hs w n)
theorem ZlX (Q:List (List Nat)→Prop) (h0:Q s0) (hv:∀ s w,Q s→Q (kvisit key s w)):∀ k,Q (kat key s0 k)
 | 0=>h0
 | k+1=>by
  have ih:=ZlX Q h0 hv k;by_cases h:k<(kat key s0 k).length
  ·rw[Zea h];exact ZgP Q hv ih _ 3
  rw[Zeb (by omega)];exact ih
theorem Zio {s:List (List Nat)} (w:List Nat) (h:(s.map key).Nodup):((kvisit key s w).map key).Nodup:=by
 unfold kvisit
 split
 ·exact h
 rename_i hn;rw[List.map_append];exact Zcc h hn
theorem ZlW (h:(s0.map key).Nodup) (k:Nat):((kat key s0 k).map key).Nodup:=ZlX (fun s=>(s.map key).Nodup) h (fun _ w hs=>Zio w hs) k
theorem ZkM (s:List (List Nat)) (w:List Nat):key w∈(kvisit key s w).map key:=by
 unfold kvisit
 split
 ·assumption
 simp
theorem ZlV {k n c:Nat} (hc:c<n):key ((kat key s0 k).getD k []++[c])∈(kpart key s0 k n).map key:=by
 have h1:key ((kat key s0 k).getD k []++[c])∈(kpart key s0 k (c+1)).map key:=by rw[ZgQ];exact ZkM _ _
 obtain⟨t,ht⟩:=Zip (key:=key) (s0:=s0) (k:=k) (show c+1≤n by omega);rw[← ht,List.map_append,List.mem_append];exact Or.inl h1
theorem ZkN {K:Nat} (hK:(kat key s0 K).length≤K) {i c:Nat} (hi:i<(kat key s0 K).length) (hc:c<3):key ((kat key s0 K).getD i []++[c])∈(kat key s0 K).map key:=by
 have hp:=ZhC (key:=key) (s0:=s0) (show i≤K by omega);by_cases h:i<(kat key s0 i).length
 ·rw[ZaI hp h];have h1:=ZlV (key:=key) (s0:=s0) (k:=i) hc;rw[← Zea h] at h1;obtain⟨t,ht⟩:=ZhC (key:=key) (s0:=s0) (show i+1≤K by omega);rw[← ht,List.map_append,List.mem_append];exact Or.inl h1
 have:=Znl (key:=key) (s0:=s0) (m:=K) (show(kat key s0 i).length≤i by omega) (by omega);rw[this] at hi;omega
end
/-! The table. -/
def runD (d:DfaD) (s:Int) (w:List Nat):Int:=w.foldl (dnx d) s
def accD (d:DfaD) (w:List Nat):Bool:=den d (runD d 0 w)
def rowW (d:DfaD) (rests:List (List Nat)) (w:List Nat):List Bool:=rests.map fun r=>accD d (w++r)
theorem ZdM (d:DfaD) (s:Int) (u v:List Nat):runD d s (u++v)=runD d (runD d s u) v:=by simp[runD]
theorem Zgr (d:DfaD) (u v:List Nat):accD d (u++v)=den d (runD d (runD d 0 u) v):=by rw[accD,ZdM]
theorem Zhl (d:DfaD) (rests:List (List Nat)) (w:List Nat):(rowW d rests w).length=rests.length:=by simp[rowW]
def isW (w:List Nat):Prop:=∀ c∈w,c<3
theorem ZeG {u v:List Nat} (hu:isW u) (hv:isW v):isW (u++v):=fun c hc=>by
 rcases List.mem_append.1 hc with h|h
 ·exact hu c h
 exact hv c h
theorem Zjj {c:Nat} (h:c<3):isW [c]:=fun x hx=>by simp at hx;omega
theorem Zno {w:List Nat} (h:isW w) (k:Nat):isW (w.take k):=fun c hc=>h c (List.mem_of_mem_take hc)
theorem Zj2 {w:List Nat} (h:isW w) (k:Nat):isW (w.drop k):=fun c hc=>h c (List.mem_of_mem_drop hc)
theorem Zln {d:DfaD} (hd:Zai d.next d.ends=true):∀ {w:List Nat},isW w→∀ {s:Int},0≤s→s<d.next.length→0≤runD d s w∧runD d s w<d.next.length
 | [],_,s,h0,h1=>⟨h0,h1⟩
 | c::w,hw,s,h0,h1=>by have hc:c<3:=hw c (by simp);have hr:=(ZaP hd (i:=s.toNat) (by omega)).2 c hc;exact Zln hd (w:=w) (fun x hx=>hw x (by simp[hx])) (s:=dnx d s c) hr.1 hr.2
theorem Zlr {d:DfaD} (hd:Zai d.next d.ends=true) {rests l:List (List Nat)} (hl:∀ w∈l,isW w) (hn:(l.map (rowW d rests)).Nodup):l.length≤d.next.length:=by
 have h0:=(Zag hd).1
 have hm:(l.map (runD d 0)).Nodup:=by
  have e:l.map (rowW d rests)=(l.map (runD d 0)).map fun s=>rests.map fun r=>den d (runD d s r):=by rw[List.map_map];apply List.map_congr_left;intro w _;simp[rowW,Zgr]
  rw[e] at hn;exact Zdh hn
 have h1:=Zdw (m:=ZaW d.next.length) hm fun x hx=>by obtain⟨w,hw,rfl⟩:=List.mem_map.1 hx;obtain⟨a,b⟩:=Zln hd (hl w hw) (s:=0) (by omega) (by omega);obtain⟨n,hn⟩:=Int.eq_ofNat_of_zero_le a;rw[hn] at b ⊢;exact ZbG.2 (by omega)
 simpa [ZbC] using h1
def Zdr (d:DfaD) (starts rests:List (List Nat)):List (List Nat):=kat (rowW d rests) starts (d.next.length+1)
def Zav (d:DfaD) (starts rests:List (List Nat)):DfaD:=⟨starts.map fun w=>(List.range 3).map fun c=>ZoF (starts.map (rowW d rests)) (rowW d rests (w++[c])),starts.map (accD d)⟩
def mixW (starts:List (List Nat)) (g:DfaD) (s:List Nat) (k:Nat):List Nat:=starts.getD (runD g 0 (s.take k)).toNat []++s.drop k
def cutW (d:DfaD) (starts:List (List Nat)) (g:DfaD) (s:List Nat):Nat:=((List.range s.length).find? fun k=>accD d (mixW starts g s k) != accD d (mixW starts g s (k+1))).getD 0
def tabW (d:DfaD) (hit:DfaD→Option (List Nat)):Nat→List (List Nat) × List (List Nat)
 | 0=>(Zdr d [[]] [[]],[[]])
 | j+1 =>
  let s:=(tabW d hit j).1
  let r:=(tabW d hit j).2
  let g:=Zav d s r
  let w:=(hit g).getD []
  let r':=r++[w.drop (cutW d s g w+1)]
  (Zdr d s r',r')
def gssW (d:DfaD) (hit:DfaD→Option (List Nat)) (j:Nat):DfaD:=Zav d (tabW d hit j).1 (tabW d hit j).2
structure LInv (d:DfaD) (s r:List (List Nat)):Prop where
 sw:∀ x∈s,isW x
 rw:∀ x∈r,isW x
 s0:s.head? = some []
 r0:r.head? = some []
 nd:(s.map (rowW d r)).Nodup
 cl:∀ i c,i<s.length→c<3→rowW d r (s.getD i []++[c])∈s.map (rowW d r)
theorem LInv.pos {d:DfaD} {s r:List (List Nat)} (h:LInv d s r):0<s.length:=by
 have:=h.s0;cases s with
 | nil=>simp at this
 | cons=>simp
theorem LInv.first {d:DfaD} {s r:List (List Nat)} (h:LInv d s r):s.getD 0 []=[]:=by
 have:=h.s0;cases s with
 | nil=>rfl
 | cons x l=>simpa using this
theorem LInv.le {d:DfaD} (hd:Zai d.next d.ends=true) {s r:List (List Nat)} (h:LInv d s r):s.length≤d.next.length:=Zlr hd h.sw h.nd
theorem ZgW {d:DfaD} (hd:Zai d.next d.ends=true) {s r:List (List Nat)} (hs:∀ x∈s,isW x) (hr:∀ x∈r,isW x) (h0:s.head? = some []) (hr0:r.head? = some []) (hn:(s.map (rowW d r)).Nodup):LInv d (Zdr d s r) r∧s <+: Zdr d s r:=by
 have hpre:s <+: Zdr d s r:=ZhC (key:=rowW d r) (s0:=s) (Nat.zero_le (d.next.length+1))
 have hw:∀ K,∀ x∈kat (rowW d r) s K,isW x:=fun K=>by
  induction K with
  | zero=>exact hs
  | succ K ih =>
   by_cases h:K<(kat (rowW d r) s K).length
   ·rw[Zea h]
    have key:∀ n,n≤3→∀ x∈kpart (rowW d r) s K n,isW x:=by
     intro n
     induction n with
     | zero=>intro _;exact ih
     | succ n ihn =>
      intro hn3 x hx;rw[ZgQ] at hx;unfold kvisit at hx
      split at hx
      ·exact ihn (by omega) x hx
      rcases List.mem_append.1 hx with hx|hx
      ·exact ihn (by omega) x hx
      simp only[List.mem_singleton] at hx;subst hx;exact ZeG (ih _ (memD h)) (Zjj (by omega))
    exact key 3 (by omega)
   rw[Zeb (by omega)];exact ih
 have hnd:=ZlW (key:=rowW d r) (s0:=s) hn (d.next.length+1);have hle:=Zlr hd (hw (d.next.length+1)) hnd;refine⟨⟨hw _,hr,?_,hr0,hnd,fun i c hi hc=>ZkN (by omega) hi hc⟩,hpre⟩;obtain⟨t,ht⟩:=hpre;rw[← ht];cases s with
 | nil=>simp at h0
 | cons x l=>simpa using h0
theorem ZhJ {d:DfaD} {s r:List (List Nat)} (h:LInv d s r) {i c:Nat} (hi:i<s.length) (hc:c<3) :
  ∃ q:Nat,q<s.length∧((Zav d s r).next.getD i []).getD c 0=(q:Int)∧rowW d r (s.getD q [])=rowW d r (s.getD i []++[c]):=by
 have hm:=h.cl i c hi hc;have hl:=Zbr hm;rw[List.length_map] at hl;refine⟨Zah (s.map (rowW d r)) (rowW d r (s.getD i []++[c])),hl,?_,?_⟩
 ·have e1:(Zav d s r).next.getD i []=(List.range 3).map fun c=>ZoF (s.map (rowW d r)) (rowW d r (s.getD i []++[c])):=by simp[Zav,hi]
  rw[e1];simp only[List.getD_eq_getElem?_getD,List.getElem?_map,List.getElem?_range hc,Option.map_some,Option.getD_some];unfold ZoF;rw[← List.getD_eq_getElem?_getD,if_pos hm]
 have:=Zj5 hm (rowW d r []);simpa [hl] using this
theorem Zl8 (d:DfaD) (s r:List (List Nat)):(Zav d s r).next.length=s.length∧(Zav d s r).ends.length=s.length:=by simp[Zav]
theorem Zgb {d:DfaD} {s r:List (List Nat)} (h:LInv d s r):∀ {w:List Nat},isW w→∀ {i:Nat},i<s.length→∃ q:Nat,q<s.length∧runD (Zav d s r) i w=(q:Int)
 | [],_,i,hi=>⟨i,hi,rfl⟩
 | c::w,hw,i,hi=>by obtain⟨q,hq,e,-⟩:=ZhJ h hi (hw c (by simp));obtain⟨p,hp,e2⟩:=Zgb h (w:=w) (fun x hx=>hw x (by simp[hx])) hq;refine⟨p,hp,?_⟩;show runD (Zav d s r) (dnx (Zav d s r) i c) w=_;unfold dnx;rw[Int.toNat_natCast,e];exact e2
theorem Zl9 {d:DfaD} {s r:List (List Nat)} {q:Nat} (hq:q<s.length):den (Zav d s r) (q:Int)=accD d (s.getD q []):=by unfold den;simp[Zav,hq]
theorem Zk8 {f:Nat→Bool}:∀ {n:Nat},f 0≠f n→∃ k,k<n∧f k≠f (k+1)
 | 0,h=>absurd rfl h
 | n+1,h=>by
  by_cases e:f n=f (n+1)
  ·rw[← e] at h;obtain⟨k,hk,hh⟩:=Zk8 h;exact⟨k,by omega,hh⟩
  exact⟨n,by omega,e⟩
theorem Zpl {d:DfaD} {s r:List (List Nat)} (h:LInv d s r) {w:List Nat} (hw:isW w) (hne:accD d w≠accD (Zav d s r) w) :
  cutW d s (Zav d s r) w<w.length∧(accD d (mixW s (Zav d s r) w (cutW d s (Zav d s r) w)) != accD d (mixW s (Zav d s r) w (cutW d s (Zav d s r) w+1)))=true ∧
   ∀ k,k<cutW d s (Zav d s r) w→(accD d (mixW s (Zav d s r) w k) != accD d (mixW s (Zav d s r) w (k+1)))=false:=by
 have f0:accD d (mixW s (Zav d s r) w 0)=accD d w:=by unfold mixW;rw[List.take_zero,List.drop_zero];show accD d (s.getD 0 []++w)=_;rw[h.first,List.nil_append]
 have fn:accD d (mixW s (Zav d s r) w w.length)=accD (Zav d s r) w:=by obtain⟨q,hq,e⟩:=Zgb h hw h.pos;unfold mixW;rw[List.take_length,List.drop_length,List.append_nil];unfold accD at *;have e':runD (Zav d s r) 0 w=(q:Int):=e;rw[e',Int.toNat_natCast,Zl9 hq];rfl
 obtain⟨k,hk,hkne⟩:=Zk8 (f:=fun k=>accD d (mixW s (Zav d s r) w k)) (n:=w.length) (by rw[f0,fn];exact hne);unfold cutW;cases hf:(List.range w.length).find? fun k=>accD d (mixW s (Zav d s r) w k) != accD d (mixW s (Zav d s r) w (k+1)) with
 | none =>have:=List.find?_eq_none.1 hf k (List.mem_range.2 hk);simp only[bne_iff_ne,ne_eq,Decidable.not_not] at this;exact absurd this hkne
 | some c =>obtain⟨h1,n,hn,hc,h2⟩:=List.find?_eq_some_iff_getElem.1 hf;simp only[List.getElem_range,List.length_range] at hn hc h2;subst hc;simp only[Option.getD_some];refine⟨hn,h1,fun k hk => ?_⟩;have:=h2 k hk;simpa using this
theorem Zjd {d:DfaD} (hd:Zai d.next d.ends=true) {s r:List (List Nat)} (h:LInv d s r) {w:List Nat} (hw:isW w) (hne:accD d w≠accD (Zav d s r) w) {r':List (List Nat)} (hr':r'=r++[w.drop (cutW d s (Zav d s r) w+1)]) :
  LInv d (Zdr d s r') r'∧s <+: Zdr d s r'∧s.length<(Zdr d s r').length:=by
 obtain⟨hk,hcut,-⟩:=Zpl h hw hne;obtain⟨k,hkk⟩:=eI (cutW d s (Zav d s r) w);rw[← hkk] at hk hcut hr'
 have hrw:∀ x∈r',isW x:=fun x hx=>by
  rw[hr'] at hx;rcases List.mem_append.1 hx with hx|hx
  ·exact h.rw x hx
  simp only[List.mem_singleton] at hx;subst hx;exact Zj2 hw _
 have hrow:∀ u,rowW d r' u=rowW d r u++[accD d (u++w.drop (k+1))]:=fun u=>by rw[hr'];simp[rowW]
 have hr0:r'.head? = some []:=by
  rw[hr'];have:=h.r0;cases hr:r with
  | nil=>rw[hr] at this;simp at this
  | cons x l=>rw[hr] at this;simpa using this
 have hnd:(s.map (rowW d r')).Nodup:=by
  have e:s.map (rowW d r)=(s.map (rowW d r')).map (List.take r.length):=by rw[List.map_map];apply List.map_congr_left;intro u _;simp only[Function.comp_apply];rw[hrow,List.take_left' (Zhl _ _ _)]
  have:=h.nd;rw[e] at this;exact Zdh this
 obtain⟨hI,hp⟩:=ZgW hd h.sw hrw h.s0 hr0 hnd;refine⟨hI,hp,?_⟩;obtain⟨q,hq,e⟩:=Zgb h (Zno hw k) h.pos;have hc:w.getD k 0<3:=hw _ (memD hk);obtain⟨q',hq',e2,e3⟩:=ZhJ h hq hc;have e:runD (Zav d s r) 0 (w.take k)=(q:Int):=e;have htk:w.take (k+1)=w.take k++[w.getD k 0]:=by rw[List.take_succ_eq_append_getElem hk];simp[hk]
 have hdk:w.drop k=w.getD k 0::w.drop (k+1):=by rw[List.drop_eq_getElem_cons hk];simp[hk]
 have e':runD (Zav d s r) 0 (w.take (k+1))=(q':Int):=by rw[htk,ZdM,e];show dnx (Zav d s r) (q:Int) (w.getD k 0)=_;unfold dnx;rw[Int.toNat_natCast,e2]
 have m1:mixW s (Zav d s r) w k=(s.getD q []++[w.getD k 0])++w.drop (k+1):=by unfold mixW;rw[e,Int.toNat_natCast,hdk];simp
 have m2:mixW s (Zav d s r) w (k+1)=s.getD q' []++w.drop (k+1):=by unfold mixW;rw[e',Int.toNat_natCast]
 rw[m1,m2] at hcut
 have hnot:rowW d r' (s.getD q []++[w.getD k 0]) ∉ s.map (rowW d r'):=by
  intro hm;obtain⟨u,hu,eu⟩:=List.mem_map.1 hm;rw[hrow,hrow] at eu;obtain⟨h1,h2⟩:=List.append_inj eu (by rw[Zhl,Zhl]);have hq1:s.getD q' []∈s:=memD hq';have:u=s.getD q' []:=by exact ZeY h.nd hu hq1 (by rw[h1,e3])
  rw[this] at h2;simp only[List.cons.injEq,and_true] at h2;rw[h2] at hcut;simp at hcut
 rcases Nat.lt_or_ge s.length (Zdr d s r').length with h1|h1
 ·exact h1
 exfalso;have heq:Zdr d s r'=s:=by obtain⟨t,ht⟩:=hp;have:t=[]:=List.eq_nil_of_length_eq_zero (by have:=congrArg List.length ht;simp at this;omega);rw[← ht,this,List.append_nil]
 have hcl:=hI.cl q (w.getD k 0) (by rw[heq];exact hq) hc;rw[heq] at hcl;exact hnot hcl
theorem Zfp {next:List (List Int)} {ends:List Bool} (h1:1≤next.length) (h2:next.length≤40) (h3:ends.length=next.length) (hr:∀ i,i<next.length→(next.getD i []).length=3∧∀ c,c<3→0≤(next.getD i []).getD c 0∧(next.getD i []).getD c 0<next.length):Zai next ends=true:=by
 simp only[Zai,Bool.and_eq_true,List.all_eq_true,decide_eq_true_eq];refine⟨⟨fun x hx => ?_,?_⟩,h3⟩
 ·obtain⟨i,hi,e⟩:=List.getElem_of_mem hx;obtain⟨a,b⟩:=hr i hi;rw[ZbA hi,e] at a b;simp only[Zev,Bool.and_eq_true,decide_eq_true_eq,List.all_eq_true];refine⟨a,fun y hy => ?_⟩;obtain⟨c,hc,e2⟩:=List.getElem_of_mem hy;have:=b c (by omega);rw[ZbA hc,e2] at this;simp[inB];omega
 simp[inB];omega
theorem Znu {d:DfaD} (hd:Zai d.next d.ends=true) {s r:List (List Nat)} (h:LInv d s r):Zai (Zav d s r).next (Zav d s r).ends=true:=by
 have h1:=h.pos;have h2:=h.le hd;have h3:=Zag hd;obtain⟨l1,l2⟩:=Zl8 d s r;refine Zfp (by omega) (by omega) (by omega) fun i hi => ?_
 rw[l1] at hi;refine⟨by simp[Zav,hi],fun c hc => ?_⟩;obtain⟨q,hq,e,-⟩:=ZhJ h hi hc;rw[e,l1];omega
def Zpj (d:DfaD) (hit:DfaD→Option (List Nat)):Prop:=∀ g,Zai g.next g.ends=true→∀ w,hit g=some w→isW w∧accD d w≠accD g w
theorem ZiS {d:DfaD} (hd:Zai d.next d.ends=true) {hit:DfaD→Option (List Nat)} (hh:Zpj d hit):∀ j,(∀ i,i<j→(hit (gssW d hit i)).isSome=true)→LInv d (tabW d hit j).1 (tabW d hit j).2∧j+1≤(tabW d hit j).1.length
 | 0,_=>by have h:=(ZgW hd (s:=[[]]) (r:=[[]]) (fun x hx=>by simp at hx;subst hx;intro c hc;simp at hc) (fun x hx=>by simp at hx;subst hx;intro c hc;simp at hc) rfl rfl (by simp)).1;exact⟨h,h.pos⟩
 | j+1,hy=>by
  obtain⟨h,hl⟩:=ZiS hd hh j fun i hi=>hy i (by omega)
  have h1:=hy j (by omega);obtain⟨w,hw⟩:=Option.isSome_iff_exists.1 h1;obtain⟨hw1,hw2⟩:=hh _ (Znu hd h) w hw;have hm:=Zjd hd h hw1 hw2 (r':=(tabW d hit (j+1)).2) (by show(tabW d hit j).2++_=_;simp only[show hit (Zav d (tabW d hit j).1 (tabW d hit j).2)=some w from hw,Option.getD_some]);exact⟨hm.1,by have:=hm.2.2;show _≤(Zdr d (tabW d hit j).1 (tabW d hit (j+1)).2).length;omega⟩
def rowM (d:DfaD) (s:Nat):List (Int × Int × Int):=(List.range 3).map fun (c:Nat)=>((s:Int),(c:Int),(d.next.getD s []).getD c 0)
def mvs (d:DfaD):Nat→List (Int × Int × Int)
 | 0=>[]
 | s+1=>mvs d s++rowM d s
def ZaY (d:DfaD):NfaD:=⟨d.next.length,mvs d d.next.length,[0],eds d d.next.length⟩
theorem Zhm (d:DfaD) (s:Nat):(rowM d s).length=3:=by simp[rowM]
theorem Zlw (d:DfaD) (s:Nat) {c:Nat} (hc:c<3):(rowM d s).take (c+1)=(rowM d s).take c++[((s:Int),(c:Int),(d.next.getD s []).getD c 0)]:=by rw[List.take_succ_eq_append_getElem (by rw[Zhm];exact hc)];simp[rowM]
theorem ZdO (d:DfaD):∀ s,(mvs d s).length=3*s
 | 0=>rfl
 | s+1=>by show(mvs d s++rowM d s).length=_;rw[List.length_append,ZdO d s,Zhm];omega
theorem Zgg (d:DfaD):∀ s,∀ x∈eds d s,0≤x∧x<(s:Int)
 | 0,x,hx=>by simp[eds] at hx
 | s+1,x,hx=>by
  have ih:=Zgg d s;unfold eds at hx
  split at hx
  ·rcases List.mem_append.1 hx with hx|hx
   ·have:=ih x hx;omega
   simp only[List.mem_singleton] at hx;omega
  have:=ih x hx;omega
theorem ZfT {d:DfaD} (hd:Zai d.next d.ends=true):∀ s,s≤d.next.length→mvIn d.next.length (mvs d s)
 | 0,_,x,hx=>by simp[mvs] at hx
 | s+1,hs,x,hx=>by
  have hx:x∈mvs d s++rowM d s:=hx;rcases List.mem_append.1 hx with hx|hx
  ·exact ZfT hd s (by omega) x hx
  obtain⟨c,hc,rfl⟩:=List.mem_map.1 hx;have:=(ZaP hd (show s<d.next.length by omega)).2 c (List.mem_range.1 hc);simp only;omega
end Go.Proofs.YtehmjmjedopkkaaGreat
namespace Go.Proofs.YtehmjmjedopkkaaGreat
open Go.RowKit
theorem ZdQ (d:DfaD) (v:Value) (w:World) (hd:Zai d.next d.ends=true) (h:DfaR 0 w v d) :
  Calls Tryz.prog 68 #[v] w fun e w'=>RNfaS (ZaY d) w e w':=by
 obtain⟨v1,v2,rfl,q1,q2⟩:=h;obtain⟨L,hL⟩:=eI (d.next.length);obtain⟨hl1,hl2,hl3⟩:=Zag hd;have hrow:=fun (i:Nat) (hi:i<d.next.length)=>(ZaP hd hi)
 obtain⟨av,cv,rfl,hc1,hc2,hr1⟩:=q1.formI;obtain⟨b1,o1,rfl,-,hb1,hcs1⟩:=hr1 (by omega);obtain⟨a2,c2,rfl,hc3,hc4,hr2⟩:=q2.form;obtain⟨b2,o2,rfl,-,hb2,hcs2⟩:=hr2 (by omega);rw[hl3] at hcs2 hc3;rw[← hL] at hl1 hl2 hl3 hrow hc1 hcs1 hcs2 hc3;rw[hl3,← hL];obtain⟨i0,hi,hz0,hz1,hz2⟩:=info_parts Tryz.infoMv;obtain⟨j0,hj,hy0,hy1,hy2⟩:=info_parts Tryz.infoInt;have hS0:=(((St.start w).alloc _ rfl #[.slice (some ⟨b1,o1,none⟩) L cv,.slice (some ⟨b2,o2,none⟩) L c2] 32).alloc (w.heap.size+1) (by simp) #[.int .i64 0,.slice none 0 0,.slice none 0 0,.slice none 0 0] 91).alloc (w.heap.size+1+1) (by simp) #[.int .i64 0] 3;have hS1:=(hS0.boxrow 2 1 1 [.int .i64 0] rfl rfl (by unfold maxLen;omega)).alloc (w.heap.size+1+1+1) (by simp) #[.int .i64 L,.slice none 0 0,.slice (some ⟨w.heap.size+1+1,0,none⟩) 1 1,.slice none 0 0] 91;have hS2:=(hS1.nilRow 122 3).nilRow 3 1;have Hrow:=qh hrow;have Hcs1:=qh hcs1;have Hcs2:=qh hcs2;replace hS2:=qh hS2;replace hL:=qh hL;have Hhi:=qh hi;clear hi;have Hhz0:=qh hz0;clear hz0;have Hhz1:=qh hz1;clear hz1;have Hhz2:=qh hz2;clear hz2;have Hhj:=qh hj;clear hj;have Hhy0:=qh hy0;clear hy0;have Hhy1:=qh hy1;clear hy1;have Hhy2:=qh hy2;clear hy2;clear hS0 hS1 hrow hcs1 hcs2 hr1 hr2 q1 q2 hd hl3
 go_enter Tryz.func68, Tryz.ntmps68
 go_wp2
 go_loopw [16] (fun i wr=>∃ (s c1 c3:Nat) (a1 a3:Option Addr),i = .int .i64 s∧s≤L∧St w wr [Ent.box w.heap.size #[.slice (some ⟨b1,o1,none⟩) L cv,.slice (some ⟨b2,o2,none⟩) L c2] 32,Ent.box (w.heap.size+1) #[.int .i64 0,.slice none 0 0,.slice none 0 0,.slice none 0 0] 91,
   Ent.row 3 1 (.slice (some ⟨w.heap.size+1+1,0,none⟩) 1 1) 1 [.int .i64 0],Ent.box (w.heap.size+1+1+1) #[.int .i64 L,.slice a1 (mvs d s).length c1,.slice (some ⟨w.heap.size+1+1,0,none⟩) 1 1,.slice a3 (eds d s).length c3] 91,
   Ent.row 122 3 (.slice a1 (mvs d s).length c1) (mvs d s).length ((mvs d s).flatMap Zao),Ent.row 3 1 (.slice a3 (eds d s).length c3) (eds d s).length (intCells (eds d s))])
  (fun i _=>L-(intOf i).toNat)
 case atStart=>exact⟨0,0,0,none,none,rfl,Nat.zero_le _,hS2.out⟩
 case round =>
  obtain⟨s,c1,c3,a1,a3,rfl,hs,hS⟩:=hrel;obtain⟨wo,hwo⟩:∃ wo:World,wo=wr:=⟨_,rfl⟩;subst hwo;by_cases hlt:s<L
  ·have hlt2:(s:Int)<L:=by omega
   obtain⟨ar,cr,hcr,-,-,hIr⟩:=Hcs1.out s hlt;obtain⟨hr3,-⟩:=Hrow.out s (by have:=hL.out;omega);rw[hr3] at hcr hIr;obtain⟨_,_,hform,hrc1,hrc2,hrr⟩:=hIr.form;rw[hr3] at hform hrr hrc1;simp only[Value.slice.injEq,true_and] at hform;obtain⟨rfl,rfl⟩:=hform;obtain⟨b3,o3,rfl,-,hb3,hcs3⟩:=hrr (by omega);have k1:=(bcell hS.bel b1 _ hb1).trans hcr;have hml:=ZdO d s;obtain⟨M,hM⟩:=eI (mvs d s);obtain⟨E,hE⟩:=eI (eds d s);have hel:=Zgf d s;rw[← hM] at hS hml;rw[← hE] at hS hel;have hmle:M.length≤120:=by omega
   have hele:E.length≤40:=by omega
   have Hcs3:=qh hcs3;have Hhml:=qh hml;clear hml;clear hel;have HhS:=qh hS;clear hS;have HhM:=qh hM;clear hM;replace hE:=qh hE;clear hcs3 hrr hIr hcr hr3;go_wp2
   go_loopw [23] (fun i wi=>∃ (c c1:Nat) (a1:Option Addr),i = .int .i64 c∧c≤3∧St w wi [Ent.box w.heap.size #[.slice (some ⟨b1,o1,none⟩) L cv,.slice (some ⟨b2,o2,none⟩) L c2] 32,Ent.box (w.heap.size+1) #[.int .i64 0,.slice none 0 0,.slice none 0 0,.slice none 0 0] 91,
     Ent.row 3 1 (.slice (some ⟨w.heap.size+1+1,0,none⟩) 1 1) 1 [.int .i64 0],Ent.box (w.heap.size+1+1+1) #[.int .i64 L,.slice a1 (M.length+c) c1,.slice (some ⟨w.heap.size+1+1,0,none⟩) 1 1,.slice a3 E.length c3] 91,
     Ent.row 122 3 (.slice a1 (M.length+c) c1) (M.length+c) ((M++(rowM d s).take c).flatMap Zao),Ent.row 3 1 (.slice a3 E.length c3) E.length (intCells E)])
    (fun i _=>3-(intOf i).toNat)
   case atStart=>exact⟨0,c1,a1,rfl,by omega,by rw[List.take_zero,List.append_nil];exact HhS.out⟩
   case round =>
    obtain⟨c,c1,a1,rfl,hc3',hSi⟩:=hrel;by_cases hc:c<3
    ·have hc4:(c:Int)<3:=by omega
     have k2:=(bcell hSi.bel b3 _ hb3).trans (Hcs3.out c hc);have htk:=Zlw d s hc;obtain⟨x,hx⟩:=eI ((d.next.getD s []).getD c 0);rw[← hx] at k2 htk;have e1:=hSi.cell (v:=.slice a1 (M.length+c) c1) 3 1 rfl rfl;have f1:=hSi.fr 3 1 rfl;have hSa:=hSi.alloc_ (.cells #[.int .i64 s,.int .i64 c,.int .i64 x] 122);have hRw:=hSa.row 4 rfl;have HhSi:=qh hSi;clear hSi;have HhSa:=qh hSa;clear hSa;have HhRw:=qh hRw;clear hRw;have Hhx:=qh hx;clear hx;have Hhtk:=qh htk;clear htk;go_wp2_with (at_builtin;refine wpList_append_lies _ rfl _ _ _ rfl _ 122 i0 (.agg #[.int .i64 0,.int .i64 0,.int .i64 0]) 3 24 Tryz.underlying89 Hhi.out Hhz0.out Hhz1.out Hhz2.out rfl (by omega) _ (M.length+c) _ rfl HhRw.out ⟨wr.heap.size,0,none⟩ 1 1 [.int .i64 s,.int .i64 c,.int .i64 x] rfl rfl (World.news_of_block (heap_alloc_new wr _)) Zic (by omega) (by unfold maxLen;omega) (by omega) HhSa.out.size _ rfl ?_;intro g6 c6 w6 hown6 hgrow6 hat6 hlt6;have HS6:=qh (HhSa.out.app 4 rfl hown6 hgrow6 hat6);have y1:=HS6.out.cell (v:=.slice a1 (M.length+c) c1) 3 1 rfl rfl;have y2:=HS6.out.fr 3 1 rfl;clear hown6 hgrow6 hat6 hlt6);go_roundw
     case rel =>refine⟨c+1,c6,some ⟨g6,0,none⟩,by go_num,by omega,?_⟩;rw[Hhtk.out,← List.append_assoc,ZkR];exact HS6.out.set 3 rfl 1 (.slice (some ⟨g6,0,none⟩) (M.length+c+1) c6)
     case measure=>simp[intOf];omega
    obtain rfl:c=3:=by omega
    have hta:(rowM d s).take 3=rowM d s:=List.take_of_length_le (by rw[Zhm];exact Nat.le_refl _);have hM1:M++rowM d s=mvs d (s+1):=by rw[HhM.out];rfl
    have hMl:M.length+3=(mvs d (s+1)).length:=by rw[ZdO,Hhml.out];omega
    rw[hta,hM1,hMl] at hSi;have k2:=(bcell hSi.bel b2 _ hb2).trans (Hcs2.out s hlt);have e0:=hSi.cell (v:=.slice (some ⟨b2,o2,none⟩) L c2) 0 1 rfl rfl;have HhSi:=qh hSi;clear hSi;have HhM1:=qh hM1;clear hM1;have HhMl:=qh hMl;clear hMl;clear hta;cases hz:d.ends.getD s false with
    | false =>
     rw[hz] at k2;have hE1:eds d (s+1)=E:=by rw[hE.out];show(if d.ends.getD s false=true then _ else _)=_;rw[hz];rfl
     have HhE1:=qh hE1;clear hE1;have Hhz:=qh hz;clear hz;go_wp2;go_roundw
     case rel =>refine⟨s+1,c1,c3,a1,a3,by go_num,by omega,?_⟩;rw[HhE1.out];exact HhSi.out
     case measure=>simp[intOf];omega
    | true =>
     rw[hz] at k2;have hE1:eds d (s+1)=E++[(s:Int)]:=by rw[hE.out];show(if d.ends.getD s false=true then _ else _)=_;rw[hz];rfl
     have e1:=HhSi.out.cell (v:=.slice a3 E.length c3) 3 3 rfl rfl;have f1:=HhSi.out.fr 3 3 rfl;have hSa:=HhSi.out.alloc_ (.cells #[.int .i64 s] 3);have hRw:=hSa.row 5 rfl;have HhSa:=qh hSa;clear hSa;have HhRw:=qh hRw;clear hRw;have HhE1:=qh hE1;clear hE1;have Hhz:=qh hz;clear hz;go_wp2_with (at_builtin;refine wpList_append_lies _ rfl _ _ _ rfl _ 3 j0 (.int .i64 0) 1 8 Tryz.underlying59 Hhj.out Hhy0.out Hhy1.out Hhy2.out rfl (by omega) _ E.length _ rfl HhRw.out ⟨wr.heap.size,0,none⟩ 1 1 [.int .i64 s] rfl rfl (World.news_of_block (heap_alloc_new wr _)) on_i (by omega) (by unfold maxLen;omega) (by omega) HhSa.out.size _ rfl ?_;intro g6 c6 w6 hown6 hgrow6 hat6 hlt6;have HS6:=qh (HhSa.out.app 5 rfl hown6 hgrow6 hat6);have y1:=HS6.out.cell (v:=.slice a3 E.length c3) 3 3 rfl rfl;have y2:=HS6.out.fr 3 3 rfl;clear hown6 hgrow6 hat6 hlt6);go_roundw
     case rel =>refine⟨s+1,c1,c6,a1,some ⟨g6,0,none⟩,by go_num,by omega,?_⟩;rw[HhE1.out,List.length_append,List.length_singleton,Zoz];exact HS6.out.set 3 rfl 3 (.slice (some ⟨g6,0,none⟩) (E.length+1) c6)
     case measure=>simp[intOf];omega
  obtain rfl:s=L:=by omega
  have hge:(s:Int)≤s:=Int.le_refl _;obtain⟨M,hM⟩:=eI (mvs d s);obtain⟨E,hE⟩:=eI (eds d s);rw[← hM,← hE] at hS;have f0:=hS.fr 1 0 rfl;have f1:=hS.fr 1 1 rfl;have f2:=hS.fr 1 2 rfl;have f3:=hS.fr 1 3 rfl;have k0:=hS.cell (v:=.int .i64 0) 1 0 rfl rfl;have k1:=hS.cell (v:=.slice none 0 0) 1 1 rfl rfl;have k2:=hS.cell (v:=.slice none 0 0) 1 2 rfl rfl;have k3:=hS.cell (v:=.slice none 0 0) 1 3 rfl rfl;have d0:=hS.cell (v:=.int .i64 s) 3 0 rfl rfl;have d1:=hS.cell (v:=.slice a1 M.length c1) 3 1 rfl rfl;have d2:=hS.cell (v:=.slice (some ⟨w.heap.size+1+1,0,none⟩) 1 1) 3 2 rfl rfl;have d3:=hS.cell (v:=.slice a3 E.length c3) 3 3 rfl rfl;have HhS:=qh hS;clear hS;have HhM:=qh hM;clear hM;replace hE:=qh hE;go_wp2;have hq:=(((HhS.out.set 1 rfl 0 (.int .i64 s)).set 1 rfl 1 (.slice a1 M.length c1)).set 1 rfl 2 (.slice (some ⟨w.heap.size+1+1,0,none⟩) 1 1)).set 1 rfl 3 (.slice a3 E.length c3);have q0:=hq.cell (v:=.int .i64 s) 1 0 rfl rfl;have q1:=hq.cell (v:=.slice a1 M.length c1) 1 1 rfl rfl;have q2:=hq.cell (v:=.slice (some ⟨w.heap.size+1+1,0,none⟩) 1 1) 1 2 rfl rfl;have q3:=hq.cell (v:=.slice a3 E.length c3) 1 3 rfl rfl;refine bodyPost_ret (v:=.agg #[.int .i64 s,.slice a1 M.length c1,.slice (some ⟨w.heap.size+1+1,0,none⟩) 1 1,.slice a3 E.length c3]) (by simp[results,Tryz.results68,go_sem,q0,q1,q2,q3]) rfl ?_
  have hr:RNfaS ⟨(s:Int),M,[0],E⟩ w (.returned (.agg #[.int .i64 s,.slice a1 M.length c1,.slice (some ⟨w.heap.size+1+1,0,none⟩) 1 1,.slice a3 E.length c3])) _:=⟨a1,c1,_,1,a3,c3,rfl,hq.pick [4,2,5] (by decide)⟩;have hn:ZaY d=⟨(s:Int),M,[0],E⟩:=by unfold ZaY;rw[← hL.out,HhM.out,hE.out]
  rw[hn];exact hr
end Go.Proofs.YtehmjmjedopkkaaGreat
namespace Go.Proofs.YtehmjmjedopkkaaGreat
inductive Ex where
 | zero|one|ltr (c:Fin 3)|join (a b:Ex)|alt (a b:Ex)|both (a b:Ex)|neg (a:Ex)|star (a:Ex)
 deriving DecidableEq
def Ex.post:Ex→List (Int × Int)
 | .zero=>[(1,0)]
 | .one=>[(2,0)]
 | .ltr c=>[(3,(c.val:Int))]
 | .join a b=>a.post++b.post++[(4,0)]
 | .alt a b=>a.post++b.post++[(5,0)]
 | .both a b=>a.post++b.post++[(6,0)]
 | .neg a=>a.post++[(7,0)]
 | .star a=>a.post++[(8,0)]
theorem Zb5:Zab (1,0)=0:=by decide
theorem Zb4:Zab (2,0)=0:=by decide
theorem ZbN (c:Fin 3):Zab (3,(c.val:Int))=0:=by
 have:c=0∨c=1∨c=2:=by omega
 rcases this with rfl|rfl|rfl<;>decide
theorem ZcW:Zab (4,0)=2:=by decide
theorem Zd0:Zab (5,0)=2:=by decide
theorem ZcX:Zab (6,0)=2:=by decide
theorem ZdZ:Zab (7,0)=1:=by decide
theorem ZcV:Zab (8,0)=1:=by decide
theorem Zap:∀ t:Ex,1≤t.post.length:=by intro t;cases t<;>simp[Ex.post]<;>omega
theorem ZaQ (xs ys:List (Int × Int)):∀ k,k≤xs.length→dep (xs++ys) k=dep xs k
 | 0,_=>rfl
 | k+1,h=>by
  have ih:=ZaQ xs ys k (by omega);have e:(xs++ys).getD k (0,0)=xs.getD k (0,0):=by simp[List.getD_eq_getElem?_getD,List.getElem?_append_left (show k<xs.length by omega)]
  unfold dep;rw[ih,e]
theorem ZcE (xs ys:List (Int × Int)):∀ k,dep (xs++ys) (xs.length+k)=dep xs xs.length+dep ys k
 | 0=>by rw[Nat.add_zero,ZaQ xs ys _ (Nat.le_refl _)];simp[dep]
 | k+1=>by
  have ih:=ZcE xs ys k;have e:(xs++ys).getD (xs.length+k) (0,0)=ys.getD k (0,0):=by simp[List.getD_eq_getElem?_getD,List.getElem?_append_right (show xs.length≤xs.length+k by omega)]
  show dep (xs++ys) (xs.length+k)-Zab ((xs++ys).getD (xs.length+k) (0,0))+1=dep xs xs.length+(dep ys k-Zab (ys.getD k (0,0))+1);rw[ih,e];omega
theorem Zeg {xs ys:List (Int × Int)} {k:Nat} (h:k<xs.length):(xs++ys).getD k (0,0)=xs.getD k (0,0):=by simp[List.getD_eq_getElem?_getD,List.getElem?_append_left h]
theorem ZdF (xs ys:List (Int × Int)) (k:Nat):(xs++ys).getD (xs.length+k) (0,0)=ys.getD k (0,0):=by simp[List.getD_eq_getElem?_getD,List.getElem?_append_right (show xs.length≤xs.length+k by omega)]
def Zcm (m:Int) (es:List (Int × Int)):Prop:=∀ k,k<es.length→0≤Zab (es.getD k (0,0))∧Zab (es.getD k (0,0))≤m+dep es k
theorem Zjb {m m':Int} {es:List (Int × Int)} (h:Zcm m es) (hm:m≤m'):Zcm m' es:=fun k hk=>by have:=h k hk;omega
theorem ZeB {m:Int} {xs ys:List (Int × Int)} (h:Zcm m xs) (h':Zcm (m+dep xs xs.length) ys):Zcm m (xs++ys):=fun k hk=>by
 by_cases hx:k<xs.length
 ·rw[Zeg hx,ZaQ _ _ _ (by omega)];exact h k hx
 obtain⟨j,rfl⟩:=Nat.exists_eq_add_of_le (Nat.le_of_not_lt hx);rw[ZdF,ZcE];have:=h' j (by simp at hk;omega);omega
theorem ZeA {m:Int} {p:Int × Int} (h0:0≤Zab p) (h1:Zab p≤m):Zcm m [p]:=fun k hk=>by
 obtain rfl:k=0:=by simpa using hk
 simp[dep];omega
theorem Zmm (p:Int × Int):dep [p] 1=1-Zab p:=by simp[dep];omega
theorem Zkg (xs:List (Int × Int)) (p:Int × Int):dep (xs++[p]) (xs++[p]).length=dep xs xs.length+(1-Zab p):=by rw[List.length_append,ZcE];show dep xs xs.length+dep [p] 1=_;rw[Zmm]
theorem ZoX (xs ys:List (Int × Int)):dep (xs++ys) (xs++ys).length=dep xs xs.length+dep ys ys.length:=by rw[List.length_append,ZcE]
theorem ZfM:∀ t:Ex,Zcm 0 t.post∧dep t.post t.post.length=1:=by
 intro t;have leaf:∀ p,Zab p=0→Zcm 0 [p]∧dep [p] [p].length=1:=fun p hp=>⟨ZeA (by omega) (by omega),by show dep [p] 1=1;rw[Zmm];omega⟩
 have two:∀ (xs ys:List (Int × Int)) p,Zab p=2→Zcm 0 xs→dep xs xs.length=1→Zcm 0 ys→dep ys ys.length=1→Zcm 0 (xs++ys++[p])∧dep (xs++ys++[p]) (xs++ys++[p]).length=1:=fun xs ys p hp h1 h2 h3 h4=>by have hc:=ZoX xs ys;refine⟨ZeB (ZeB h1 (Zjb h3 (by omega))) (ZeA (by omega) (by omega)),?_⟩;rw[Zkg];omega
 have one:∀ (xs:List (Int × Int)) p,Zab p=1→Zcm 0 xs→dep xs xs.length=1→Zcm 0 (xs++[p])∧dep (xs++[p]) (xs++[p]).length=1:=fun xs p hp h1 h2=>by refine⟨ZeB h1 (ZeA (by omega) (by omega)),?_⟩;rw[Zkg];omega
 induction t with
 | zero=>exact leaf _ Zb5
 | one=>exact leaf _ Zb4
 | ltr c=>exact leaf _ (ZbN c)
 | join a b ha hb=>exact two _ _ _ ZcW ha.1 ha.2 hb.1 hb.2
 | alt a b ha hb=>exact two _ _ _ Zd0 ha.1 ha.2 hb.1 hb.2
 | both a b ha hb=>exact two _ _ _ ZcX ha.1 ha.2 hb.1 hb.2
 | neg a ha=>exact one _ _ ZdZ ha.1 ha.2
 | star a ha=>exact one _ _ ZcV ha.1 ha.2
theorem Zaq (t:Ex) (h:t.post.length≤60):exOk t.post=true:=by obtain⟨h1,h2⟩:=ZfM t;simp only[exOk,exAt,Bool.and_eq_true,List.all_eq_true,List.mem_range,decide_eq_true_eq];refine⟨⟨fun k hk => ?_,h2⟩,h⟩;have:=h1 k hk;omega
theorem ZfA {α:Type}:∀ (l:List α),1≤l.length→∃ L b,l=L++[b]
 | [],h=>by simp at h
 | [a],_=>⟨[],a,rfl⟩
 | a::b::l,_=>by obtain⟨L,c,h⟩:=ZfA (b::l) (by simp);exact⟨a::L,c,by rw[h];rfl⟩
def cat (st:List Ex):List (Int × Int):=st.flatMap Ex.post
theorem ZhT (a b:List Ex):cat (a++b)=cat a++cat b:=by simp[cat]
theorem Zgm (a:Ex):cat [a]=a.post:=by simp[cat]
theorem ZjQ {es:List (Int × Int)} (h:Zcm 0 es):∀ k,k≤es.length→∃ st:List Ex,cat st=es.take k∧(st.length:Int)=dep es k
 | 0,_=>⟨[],rfl,rfl⟩
 | k+1,hk=>by
  obtain⟨st,h1,h2⟩:=ZjQ h k (by omega);obtain⟨h3,h4⟩:=h k (by omega);have ht:es.take (k+1)=es.take k++[es.getD k (0,0)]:=by rw[List.take_succ_eq_append_getElem (by omega)];simp[show k<es.length by omega]
  have hd:dep es (k+1)=dep es k-Zab (es.getD k (0,0))+1:=rfl;obtain⟨p,hp⟩:=eI (es.getD k (0,0));rw[← hp] at h3 h4 ht hd;have hok:=ZcI h3;obtain⟨p1,p2⟩:=p;rw[ht,hd,← h1];have leaf:∀ t:Ex,t.post=[(p1,p2)]→Zab (p1,p2)=0→∃ st':List Ex,cat st'=cat st++[(p1,p2)]∧(st'.length:Int)=dep es k-Zab (p1,p2)+1:=fun t e0 e1=>⟨st++[t],by rw[ZhT,Zgm,e0],by simp;omega⟩
  have one:∀ f:Ex→Ex,(∀ a,(f a).post=a.post++[(p1,p2)])→Zab (p1,p2)=1→∃ st':List Ex,cat st'=cat st++[(p1,p2)]∧(st'.length:Int)=dep es k-Zab (p1,p2)+1:=fun f e0 e1=>by obtain⟨L,a,rfl⟩:=ZfA st (by omega);refine⟨L++[f a],by rw[ZhT,ZhT,Zgm,Zgm,e0];simp,?_⟩;simp at h2 ⊢;omega
  have two:∀ f:Ex→Ex→Ex,(∀ a b,(f a b).post=a.post++b.post++[(p1,p2)])→Zab (p1,p2)=2→∃ st':List Ex,cat st'=cat st++[(p1,p2)]∧(st'.length:Int)=dep es k-Zab (p1,p2)+1:=fun f e0 e1=>by obtain⟨L,b,rfl⟩:=ZfA st (by omega);obtain⟨L,a,rfl⟩:=ZfA L (by simp at h2;omega);refine⟨L++[f a b],by simp only[ZhT,Zgm,e0,List.append_assoc],?_⟩;simp at h2 ⊢;omega
  simp only[pOk,inB,Bool.and_eq_true,Bool.or_eq_true,decide_eq_true_eq,Bool.not_eq_true',decide_eq_false_iff_not] at hok;obtain⟨⟨q1,q2⟩,q3⟩:=hok;have hc:(p1=1∧p2=0)∨(p1=2∧p2=0)∨(p1=3∧0≤p2∧p2≤2)∨(p1=4∧p2=0)∨(p1=5∧p2=0)∨(p1=6∧p2=0)∨(p1=7∧p2=0)∨(p1=8∧p2=0):=by omega
  rcases hc with⟨rfl,rfl⟩|⟨rfl,rfl⟩|⟨rfl,g1,g2⟩|⟨rfl,rfl⟩|⟨rfl,rfl⟩|⟨rfl,rfl⟩|⟨rfl,rfl⟩|⟨rfl,rfl⟩
  ·exact leaf .zero rfl Zb5
  ·exact leaf .one rfl Zb4
  ·obtain⟨c,rfl⟩:=Int.eq_ofNat_of_zero_le g1;exact leaf (.ltr ⟨c,by omega⟩) rfl (ZbN ⟨c,by omega⟩)
  ·exact two .join (fun _ _=>rfl) ZcW
  ·exact two .alt (fun _ _=>rfl) Zd0
  ·exact two .both (fun _ _=>rfl) ZcX
  ·exact one .neg (fun _=>rfl) ZdZ
  exact one .star (fun _=>rfl) ZcV
theorem parse {es:List (Int × Int)} (h:exOk es=true):∃ t:Ex,t.post=es:=by
 obtain⟨h1,h2,h3,h4⟩:=ZaH h;obtain⟨st,e1,e2⟩:=ZjQ (es:=es) (fun k hk=>by have:=h1 k hk;omega) es.length (Nat.le_refl _);rw[h2] at e2;rw[List.take_length] at e1;obtain⟨L,t,rfl⟩:=ZfA st (by omega)
 have hL:L=[]:=by
  cases L with
  | nil=>rfl
  | cons=>simp at e2;omega
 subst hL;exact⟨t,by simpa [Zgm] using e1⟩
theorem Zd8 (xs:List (Int × Int)) (p:Int × Int):(xs++[p]).getD ((xs++[p]).length-1) (0,0)=p:=by simp[List.getD_eq_getElem?_getD]
theorem ZhV {es:List (Int × Int)} {n a b:Nat} (h:beginsAt es n a) (h':beginsAt es n b):a=b:=by
 obtain⟨h1,h2,h3⟩:=h;obtain⟨g1,g2,g3⟩:=h';rcases Nat.lt_trichotomy a b with hl|hl|hl
 ·exact absurd g2 (h3 b hl g1)
 ·exact hl
 exact absurd h2 (g3 a hl h1)
theorem ZgL {es:List (Int × Int)} (h:Zcm 0 es) {k:Nat} (h0:0<k) (hk:k≤es.length):1≤dep es k:=ZoW (fun j hj=>by have:=h j hj;omega) k h0 hk
theorem Zcg {a b:Ex} {p:Int × Int} (hp:Zab p=2) {xs ys:List (Int × Int)} (h:splits (a.post++b.post++[p]) xs ys):xs=a.post∧ys=b.post:=by
 obtain⟨-,-,h3⟩:=h;rw[Zd8] at h3;obtain⟨at',hb,rfl,rfl⟩:=h3 hp;obtain⟨a1,a2⟩:=ZfM a;obtain⟨b1,b2⟩:=ZfM b;have hl:(a.post++b.post++[p]).length-1=a.post.length+b.post.length:=by simp
 rw[hl] at hb ⊢
 have hbeg:beginsAt (a.post++b.post++[p]) (a.post.length+b.post.length) a.post.length:=by
  have hd:∀ j,j≤b.post.length→dep (a.post++b.post++[p]) (a.post.length+j)=1+dep b.post j:=fun j hj=>by rw[ZaQ _ _ _ (by simp;omega),ZcE,a2]
  have h0:=hd 0 (Nat.zero_le _);have hn:=hd b.post.length (Nat.le_refl _);rw[b2] at hn;rw[Nat.add_zero] at h0;refine⟨by have:=Zap b;omega,by rw[h0,hn];rfl,fun j h1 h2 => ?_⟩;obtain⟨i,rfl⟩:=Nat.exists_eq_add_of_le (Nat.le_of_lt h1);rw[hd i (by omega),hn];have:=ZgL b1 (show 0<i by omega) (by omega);omega
 obtain rfl:=ZhV hb hbeg;constructor
 ·rw[List.append_assoc,List.take_left'];rfl
 rw[List.append_assoc,List.drop_left' rfl,Nat.add_sub_cancel_left,List.take_left' rfl]
theorem Zdc {a:Ex} {p:Int × Int} (hp:Zab p=1) {xs ys:List (Int × Int)} (h:splits (a.post++[p]) xs ys):xs=a.post∧ys=[]:=by obtain⟨-,h2,-⟩:=h;rw[Zd8] at h2;obtain⟨rfl,rfl⟩:=h2 hp;simp
theorem ZbE {p:Int × Int} (hp:Zab p=0) {xs ys:List (Int × Int)} (h:splits [p] xs ys):xs=[]∧ys=[]:=h.1 (by simpa using hp)
end Go.Proofs.YtehmjmjedopkkaaGreat
