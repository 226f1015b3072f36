/-
  The walk over the reference's list of sets of states that are met: l9Subsets.
  Conditions: there are m states, at most 40; moves, first and last states lie below; the automaton reads as such.
-/
import Derived.Test.YtfanhfcamblghaaPq04S9
import Derived.Test.YtfanhfcamblghaaPq05Det
namespace Go.Proofs.Ytfanhfcamblghaa
open Go.RowKit Go.Maps
theorem Zfi {a:Option Addr} {l c:Nat}:∀ u∈[Value.slice a l c],u.oneCell'=true:=by intro u hu;simp only[List.mem_singleton] at hu;subst hu;rfl
end Go.Proofs.Ytfanhfcamblghaa
namespace Go.Proofs.Ytfanhfcamblghaa
open Go.RowKit
structure DfaC (w:World) (d:DfaD) (b1 o1 cv b2 o2 cw:Nat):Prop where
 l1:1≤d.next.length
 l2:d.next.length≤40
 le:d.ends.length=d.next.length
 c1:d.next.length≤cv∧cv≤9223372036854775807
 c2:d.next.length≤cw∧cw≤9223372036854775807
 hb1:b1<w.heap.size
 hb2:b2<w.heap.size
 row:∀ i,i<d.next.length→∃ b3 o3 c3,b3<w.heap.size∧3≤c3∧c3≤9223372036854775807∧w.cell? ⟨b1,o1+i,none⟩=some (.slice (some ⟨b3,o3,none⟩) 3 c3)∧∀ c,c<3→w.cell? ⟨b3,o3+c,none⟩=some (.int .i64 (nxD d i c:Nat))
 en:∀ i,i<d.next.length→w.cell? ⟨b2,o2+i,none⟩=some (.bool (enD d i))
 lt:∀ i c,i<d.next.length→c<3→nxD d i c<d.next.length
 dx:∀ i c,i<d.next.length→c<3→dnx d (i:Int) c=(nxD d i c:Nat)
theorem DfaC.below {w w':World} {d:DfaD} {b1 o1 cv b2 o2 cw:Nat} (h:DfaC w d b1 o1 cv b2 o2 cw) (hb:Below w.heap.size w w'):DfaC w' d b1 o1 cv b2 o2 cw where
 l1:=h.l1
 l2:=h.l2
 le:=h.le
 c1:=h.c1
 c2:=h.c2
 hb1:=Nat.lt_of_lt_of_le h.hb1 hb.size
 hb2:=Nat.lt_of_lt_of_le h.hb2 hb.size
 row:=fun i hi=>by obtain⟨b3,o3,c3,p1,p2,p3,p4,p5⟩:=h.row i hi;exact⟨b3,o3,c3,Nat.lt_of_lt_of_le p1 hb.size,p2,p3,(bcell hb b1 _ h.hb1).trans p4,fun c hc=>(bcell hb b3 _ p1).trans (p5 c hc)⟩
 en:=fun i hi=>(bcell hb b2 _ h.hb2).trans (h.en i hi)
 lt:=h.lt
 dx:=h.dx
theorem ZcU {α β:Type} {f:α→β}:∀ {l:List α},(l.map f).Nodup→l.Nodup
 | [],_=>List.nodup_nil
 | x::l,h=>by rw[List.map_cons,List.nodup_cons] at h;exact List.nodup_cons.2 ⟨fun hx=>h.1 (List.mem_map.2 ⟨x,hx,rfl⟩),ZcU h.2⟩
theorem Zet {α β:Type} {f:α→β}:∀ {l:List α},(l.map f).Nodup→∀ {x y:α},x∈l→y∈l→f x=f y→x=y
 | [],_,x,_,hx,_,_=>by simp at hx
 | z::l,h,x,y,hx,hy,e=>by
  rw[List.map_cons,List.nodup_cons] at h;rcases List.mem_cons.1 hx with hx1|hx1
  ·rcases List.mem_cons.1 hy with hy1|hy1
   ·rw[hx1,hy1]
   exact absurd (List.mem_map.2 ⟨y,hy1,by rw[← e,hx1]⟩) h.1
  rcases List.mem_cons.1 hy with hy1|hy1
  ·exact absurd (List.mem_map.2 ⟨x,hx1,by rw[e,hy1]⟩) h.1
  exact Zet h.2 hx1 hy1 e
/-! Closing a list of words: a word becomes a start if no start has its key. -/
section
variable {β:Type} [DecidableEq β] (key:List Nat→β)
def kvisit (s:List (List Nat)) (w:List Nat):List (List Nat):=if key w∈s.map key then s else s++[w]
def krow (s:List (List Nat)) (w:List Nat):Nat→List (List Nat)
 | 0=>s
 | n+1=>kvisit key (krow s w n) (w++[n])
def kat (s0:List (List Nat)):Nat→List (List Nat)
 | 0=>s0
 | k+1=>if k<(kat s0 k).length then krow key (kat s0 k) ((kat s0 k).getD k []) 3 else kat s0 k
def kpart (s0:List (List Nat)) (k n:Nat):List (List Nat):=krow key (kat key s0 k) ((kat key s0 k).getD k []) n
variable {key} {s0:List (List Nat)}
theorem ZdI {k:Nat} (h:k<(kat key s0 k).length):kat key s0 (k+1)=kpart key s0 k 3:=by simp only[kat,if_pos h];rfl
theorem ZdJ {k:Nat} (h:(kat key s0 k).length≤k):kat key s0 (k+1)=kat key s0 k:=by simp only[kat,if_neg (show ¬ k<(kat key s0 k).length by omega)]
theorem Zga (k n:Nat):kpart key s0 k (n+1)=kvisit key (kpart key s0 k n) ((kat key s0 k).getD k []++[n]):=rfl
theorem Zf8 (s:List (List Nat)) (w:List Nat):s <+: kvisit key s w:=by
 unfold kvisit
 split
 ·exact List.prefix_rfl
 exact List.prefix_append _ _
theorem ZlS (s:List (List Nat)) (w:List Nat) {n m:Nat} (h:n≤m):krow key s w n <+: krow key s w m:=by
 induction m with
 | zero =>
  obtain rfl:n=0:=by omega
  exact List.prefix_rfl
 | succ m ih =>
  by_cases hn:n=m+1
  ·subst hn;exact List.prefix_rfl
  exact(ih (by omega)).trans (Zf8 _ _)
theorem Zhi {k n m:Nat} (h:n≤m):kpart key s0 k n <+: kpart key s0 k m:=ZlS _ _ h
theorem ZgJ {k m:Nat} (h:k≤m):kat key s0 k <+: kat key s0 m:=by
 induction m with
 | zero =>
  obtain rfl:k=0:=by omega
  exact List.prefix_rfl
 | succ m ih =>
  by_cases hn:k=m+1
  ·subst hn;exact List.prefix_rfl
  refine(ih (by omega)).trans ?_;by_cases hl:m<(kat key s0 m).length
  ·rw[ZdI hl];exact Zhi (Nat.zero_le 3)
  rw[ZdJ (by omega)];exact List.prefix_rfl
theorem ZlT {k m:Nat} (h:(kat key s0 k).length≤k) (hm:k≤m):kat key s0 m=kat key s0 k:=by
 induction m with
 | zero =>
  obtain rfl:k=0:=by omega
  rfl
 | succ m ih =>
  by_cases hn:k=m+1
  ·subst hn;rfl
  have e:=ih (by omega);rw[ZdJ (by rw[e];omega),e]
theorem Zf9 (Q:List (List Nat)→Prop) (hv:∀ s w,Q s→Q (kvisit key s w)) {s:List (List Nat)} (hs:Q s) (w:List Nat):∀ n,Q (krow key s w n)
 | 0=>hs
 | n+1=>hv _ _ (Zf9 Q hv hs w n)
theorem ZkJ (Q:List (List Nat)→Prop) (h0:Q s0) (hv:∀ s w,Q s→Q (kvisit key s w)):∀ k,Q (kat key s0 k)
 | 0=>h0
 | k+1=>by
  have ih:=ZkJ Q h0 hv k;by_cases h:k<(kat key s0 k).length
  ·rw[ZdI h];exact Zf9 Q hv ih _ 3
  rw[ZdJ (by omega)];exact ih
theorem Zhh {s:List (List Nat)} (w:List Nat) (h:(s.map key).Nodup):((kvisit key s w).map key).Nodup:=by
 unfold kvisit
 split
 ·exact h
 rename_i hn;rw[List.map_append];exact Zc7 h hn
theorem ZkI (h:(s0.map key).Nodup) (k:Nat):((kat key s0 k).map key).Nodup:=ZkJ (fun s=>(s.map key).Nodup) h (fun _ w hs=>Zhh w hs) k
theorem Zjh (s:List (List Nat)) (w:List Nat):key w∈(kvisit key s w).map key:=by
 unfold kvisit
 split
 ·assumption
 simp
theorem ZkG {k n c:Nat} (hc:c<n):key ((kat key s0 k).getD k []++[c])∈(kpart key s0 k n).map key:=by
 have h1:key ((kat key s0 k).getD k []++[c])∈(kpart key s0 k (c+1)).map key:=by rw[Zga];exact Zjh _ _
 obtain⟨t,ht⟩:=Zhi (key:=key) (s0:=s0) (k:=k) (show c+1≤n by omega);rw[← ht,List.map_append,List.mem_append];exact Or.inl h1
theorem Zji {K:Nat} (hK:(kat key s0 K).length≤K) {i c:Nat} (hi:i<(kat key s0 K).length) (hc:c<3):key ((kat key s0 K).getD i []++[c])∈(kat key s0 K).map key:=by
 have hp:=ZgJ (key:=key) (s0:=s0) (show i≤K by omega);by_cases h:i<(kat key s0 i).length
 ·rw[Zbh hp h];have h1:=ZkG (key:=key) (s0:=s0) (k:=i) hc;rw[← ZdI h] at h1;obtain⟨t,ht⟩:=ZgJ (key:=key) (s0:=s0) (show i+1≤K by omega);rw[← ht,List.map_append,List.mem_append];exact Or.inl h1
 have:=ZlT (key:=key) (s0:=s0) (m:=K) (show(kat key s0 i).length≤i by omega) (by omega);rw[this] at hi;omega
end
/-! The table. -/
def runD (d:DfaD) (s:Int) (w:List Nat):Int:=w.foldl (dnx d) s
def accD (d:DfaD) (w:List Nat):Bool:=den d (runD d 0 w)
def rowW (d:DfaD) (rests:List (List Nat)) (w:List Nat):List Bool:=rests.map fun r=>accD d (w++r)
theorem Zfa (d:DfaD) (s:Int) (u v:List Nat):runD d s (u++v)=runD d (runD d s u) v:=by simp[runD]
theorem Zii (d:DfaD) (u v:List Nat):accD d (u++v)=den d (runD d (runD d 0 u) v):=by rw[accD,Zfa]
theorem Zgy (d:DfaD) (rests:List (List Nat)) (w:List Nat):(rowW d rests w).length=rests.length:=by simp[rowW]
def isW (w:List Nat):Prop:=∀ c∈w,c<3
theorem Zeb {u v:List Nat} (hu:isW u) (hv:isW v):isW (u++v):=fun c hc=>by
 rcases List.mem_append.1 hc with h|h
 ·exact hu c h
 exact hv c h
theorem Zh7 {c:Nat} (h:c<3):isW [c]:=fun x hx=>by simp at hx;omega
theorem ZlV {w:List Nat} (h:isW w) (k:Nat):isW (w.take k):=fun c hc=>h c (List.mem_of_mem_take hc)
theorem ZiH {w:List Nat} (h:isW w) (k:Nat):isW (w.drop k):=fun c hc=>h c (List.mem_of_mem_drop hc)
theorem Zj5 {d:DfaD} (hd:Za2 d.next d.ends=true):∀ {w:List Nat},isW w→∀ {s:Int},0≤s→s<d.next.length→0≤runD d s w∧runD d s w<d.next.length
 | [],_,s,h0,h1=>⟨h0,h1⟩
 | c::w,hw,s,h0,h1=>by have hc:c<3:=hw c (by simp);have hr:=(ZdR hd (i:=s.toNat) (by omega)).2 c hc;exact Zj5 hd (w:=w) (fun x hx=>hw x (by simp[hx])) (s:=dnx d s c) hr.1 hr.2
theorem Zj8 {d:DfaD} (hd:Za2 d.next d.ends=true) {rests l:List (List Nat)} (hl:∀ w∈l,isW w) (hn:(l.map (rowW d rests)).Nodup):l.length≤d.next.length:=by
 have h0:=(Zcn hd).1
 have hm:(l.map (runD d 0)).Nodup:=by
  have e:l.map (rowW d rests)=(l.map (runD d 0)).map fun s=>rests.map fun r=>den d (runD d s r):=by rw[List.map_map];apply List.map_congr_left;intro w _;simp[rowW,Zii]
  rw[e] at hn;exact ZcU hn
 have h1:=ZgF (m:=ZeW d.next.length) hm fun x hx=>by obtain⟨w,hw,rfl⟩:=List.mem_map.1 hx;obtain⟨a,b⟩:=Zj5 hd (hl w hw) (s:=0) (by omega) (by omega);obtain⟨n,hn⟩:=Int.eq_ofNat_of_zero_le a;rw[hn] at b ⊢;exact Zd9.2 (by omega)
 simpa [ZdZ] using h1
def Zc0 (d:DfaD) (starts rests:List (List Nat)):List (List Nat):=kat (rowW d rests) starts (d.next.length+1)
def Zaz (d:DfaD) (starts rests:List (List Nat)):DfaD:=⟨starts.map fun w=>(List.range 3).map fun c=>Zng (starts.map (rowW d rests)) (rowW d rests (w++[c])),starts.map (accD d)⟩
def mixW (starts:List (List Nat)) (g:DfaD) (s:List Nat) (k:Nat):List Nat:=starts.getD (runD g 0 (s.take k)).toNat []++s.drop k
def cutW (d:DfaD) (starts:List (List Nat)) (g:DfaD) (s:List Nat):Nat:=((List.range s.length).find? fun k=>accD d (mixW starts g s k) != accD d (mixW starts g s (k+1))).getD 0
def tabW (d:DfaD) (hit:DfaD→Option (List Nat)):Nat→List (List Nat) × List (List Nat)
 | 0=>(Zc0 d [[]] [[]],[[]])
 | j+1 =>
  let s:=(tabW d hit j).1
  let r:=(tabW d hit j).2
  let g:=Zaz d s r
  let w:=(hit g).getD []
  let r':=r++[w.drop (cutW d s g w+1)]
  (Zc0 d s r',r')
def gssW (d:DfaD) (hit:DfaD→Option (List Nat)) (j:Nat):DfaD:=Zaz d (tabW d hit j).1 (tabW d hit j).2
structure LInv (d:DfaD) (s r:List (List Nat)):Prop where
 sw:∀ x∈s,isW x
 rw:∀ x∈r,isW x
 s0:s.head? = some []
 r0:r.head? = some []
 nd:(s.map (rowW d r)).Nodup
 cl:∀ i c,i<s.length→c<3→rowW d r (s.getD i []++[c])∈s.map (rowW d r)
theorem LInv.pos {d:DfaD} {s r:List (List Nat)} (h:LInv d s r):0<s.length:=by
 have:=h.s0;cases s with
 | nil=>simp at this
 | cons=>simp
theorem LInv.first {d:DfaD} {s r:List (List Nat)} (h:LInv d s r):s.getD 0 []=[]:=by
 have:=h.s0;cases s with
 | nil=>rfl
 | cons x l=>simpa using this
theorem LInv.le {d:DfaD} (hd:Za2 d.next d.ends=true) {s r:List (List Nat)} (h:LInv d s r):s.length≤d.next.length:=Zj8 hd h.sw h.nd
theorem Zgd {d:DfaD} (hd:Za2 d.next d.ends=true) {s r:List (List Nat)} (hs:∀ x∈s,isW x) (hr:∀ x∈r,isW x) (h0:s.head? = some []) (hr0:r.head? = some []) (hn:(s.map (rowW d r)).Nodup):LInv d (Zc0 d s r) r∧s <+: Zc0 d s r:=by
 have hpre:s <+: Zc0 d s r:=ZgJ (key:=rowW d r) (s0:=s) (Nat.zero_le (d.next.length+1))
 have hw:∀ K,∀ x∈kat (rowW d r) s K,isW x:=fun K=>by
  induction K with
  | zero=>exact hs
  | succ K ih =>
   by_cases h:K<(kat (rowW d r) s K).length
   ·rw[ZdI h]
    have key:∀ n,n≤3→∀ x∈kpart (rowW d r) s K n,isW x:=by
     intro n
     induction n with
     | zero=>intro _;exact ih
     | succ n ihn =>
      intro hn3 x hx;rw[Zga] at hx;unfold kvisit at hx
      split at hx
      ·exact ihn (by omega) x hx
      rcases List.mem_append.1 hx with hx|hx
      ·exact ihn (by omega) x hx
      simp only[List.mem_singleton] at hx;subst hx;exact Zeb (ih _ (memD h)) (Zh7 (by omega))
    exact key 3 (by omega)
   rw[ZdJ (by omega)];exact ih
 have hnd:=ZkI (key:=rowW d r) (s0:=s) hn (d.next.length+1);have hle:=Zj8 hd (hw (d.next.length+1)) hnd;refine⟨⟨hw _,hr,?_,hr0,hnd,fun i c hi hc=>Zji (by omega) hi hc⟩,hpre⟩;obtain⟨t,ht⟩:=hpre;rw[← ht];cases s with
 | nil=>simp at h0
 | cons x l=>simpa using h0
theorem ZgN {d:DfaD} {s r:List (List Nat)} (h:LInv d s r) {i c:Nat} (hi:i<s.length) (hc:c<3) :
  ∃ q:Nat,q<s.length∧((Zaz d s r).next.getD i []).getD c 0=(q:Int)∧rowW d r (s.getD q [])=rowW d r (s.getD i []++[c]):=by
 have hm:=h.cl i c hi hc;have hl:=Zcc hm;rw[List.length_map] at hl;refine⟨Zat (s.map (rowW d r)) (rowW d r (s.getD i []++[c])),hl,?_,?_⟩
 ·have e1:(Zaz d s r).next.getD i []=(List.range 3).map fun c=>Zng (s.map (rowW d r)) (rowW d r (s.getD i []++[c])):=by simp[Zaz,hi]
  rw[e1];simp only[List.getD_eq_getElem?_getD,List.getElem?_map,List.getElem?_range hc,Option.map_some,Option.getD_some];unfold Zng;rw[← List.getD_eq_getElem?_getD,if_pos hm]
 have:=Zl4 hm (rowW d r []);simpa [hl] using this
theorem ZkQ (d:DfaD) (s r:List (List Nat)):(Zaz d s r).next.length=s.length∧(Zaz d s r).ends.length=s.length:=by simp[Zaz]
theorem Zfy {d:DfaD} {s r:List (List Nat)} (h:LInv d s r):∀ {w:List Nat},isW w→∀ {i:Nat},i<s.length→∃ q:Nat,q<s.length∧runD (Zaz d s r) i w=(q:Int)
 | [],_,i,hi=>⟨i,hi,rfl⟩
 | c::w,hw,i,hi=>by obtain⟨q,hq,e,-⟩:=ZgN h hi (hw c (by simp));obtain⟨p,hp,e2⟩:=Zfy h (w:=w) (fun x hx=>hw x (by simp[hx])) hq;refine⟨p,hp,?_⟩;show runD (Zaz d s r) (dnx (Zaz d s r) i c) w=_;unfold dnx;rw[Int.toNat_natCast,e];exact e2
theorem ZkR {d:DfaD} {s r:List (List Nat)} {q:Nat} (hq:q<s.length):den (Zaz d s r) (q:Int)=accD d (s.getD q []):=by unfold den;simp[Zaz,hq]
theorem ZjO {f:Nat→Bool}:∀ {n:Nat},f 0≠f n→∃ k,k<n∧f k≠f (k+1)
 | 0,h=>absurd rfl h
 | n+1,h=>by
  by_cases e:f n=f (n+1)
  ·rw[← e] at h;obtain⟨k,hk,hh⟩:=ZjO h;exact⟨k,by omega,hh⟩
  exact⟨n,by omega,e⟩
theorem ZnX {d:DfaD} {s r:List (List Nat)} (h:LInv d s r) {w:List Nat} (hw:isW w) (hne:accD d w≠accD (Zaz d s r) w) :
  cutW d s (Zaz d s r) w<w.length∧(accD d (mixW s (Zaz d s r) w (cutW d s (Zaz d s r) w)) != accD d (mixW s (Zaz d s r) w (cutW d s (Zaz d s r) w+1)))=true ∧
   ∀ k,k<cutW d s (Zaz d s r) w→(accD d (mixW s (Zaz d s r) w k) != accD d (mixW s (Zaz d s r) w (k+1)))=false:=by
 have f0:accD d (mixW s (Zaz d s r) w 0)=accD d w:=by unfold mixW;rw[List.take_zero,List.drop_zero];show accD d (s.getD 0 []++w)=_;rw[h.first,List.nil_append]
 have fn:accD d (mixW s (Zaz d s r) w w.length)=accD (Zaz d s r) w:=by obtain⟨q,hq,e⟩:=Zfy h hw h.pos;unfold mixW;rw[List.take_length,List.drop_length,List.append_nil];unfold accD at *;have e':runD (Zaz d s r) 0 w=(q:Int):=e;rw[e',Int.toNat_natCast,ZkR hq];rfl
 obtain⟨k,hk,hkne⟩:=ZjO (f:=fun k=>accD d (mixW s (Zaz d s r) w k)) (n:=w.length) (by rw[f0,fn];exact hne);unfold cutW;cases hf:(List.range w.length).find? fun k=>accD d (mixW s (Zaz d s r) w k) != accD d (mixW s (Zaz d s r) w (k+1)) with
 | none =>have:=List.find?_eq_none.1 hf k (List.mem_range.2 hk);simp only[bne_iff_ne,ne_eq,Decidable.not_not] at this;exact absurd this hkne
 | some c =>obtain⟨h1,n,hn,hc,h2⟩:=List.find?_eq_some_iff_getElem.1 hf;simp only[List.getElem_range,List.length_range] at hn hc h2;subst hc;simp only[Option.getD_some];refine⟨hn,h1,fun k hk => ?_⟩;have:=h2 k hk;simpa using this
theorem Zh1 {d:DfaD} (hd:Za2 d.next d.ends=true) {s r:List (List Nat)} (h:LInv d s r) {w:List Nat} (hw:isW w) (hne:accD d w≠accD (Zaz d s r) w) {r':List (List Nat)} (hr':r'=r++[w.drop (cutW d s (Zaz d s r) w+1)]) :
  LInv d (Zc0 d s r') r'∧s <+: Zc0 d s r'∧s.length<(Zc0 d s r').length:=by
 obtain⟨hk,hcut,-⟩:=ZnX h hw hne;obtain⟨k,hkk⟩:=eI (cutW d s (Zaz d s r) w);rw[← hkk] at hk hcut hr'
 have hrw:∀ x∈r',isW x:=fun x hx=>by
  rw[hr'] at hx;rcases List.mem_append.1 hx with hx|hx
  ·exact h.rw x hx
  simp only[List.mem_singleton] at hx;subst hx;exact ZiH hw _
 have hrow:∀ u,rowW d r' u=rowW d r u++[accD d (u++w.drop (k+1))]:=fun u=>by rw[hr'];simp[rowW]
 have hr0:r'.head? = some []:=by
  rw[hr'];have:=h.r0;cases hr:r with
  | nil=>rw[hr] at this;simp at this
  | cons x l=>rw[hr] at this;simpa using this
 have hnd:(s.map (rowW d r')).Nodup:=by
  have e:s.map (rowW d r)=(s.map (rowW d r')).map (List.take r.length):=by rw[List.map_map];apply List.map_congr_left;intro u _;simp only[Function.comp_apply];rw[hrow,List.take_left' (Zgy _ _ _)]
  have:=h.nd;rw[e] at this;exact ZcU this
 obtain⟨hI,hp⟩:=Zgd hd h.sw hrw h.s0 hr0 hnd;refine⟨hI,hp,?_⟩;obtain⟨q,hq,e⟩:=Zfy h (ZlV hw k) h.pos;have hc:w.getD k 0<3:=hw _ (memD hk);obtain⟨q',hq',e2,e3⟩:=ZgN h hq hc;have e:runD (Zaz d s r) 0 (w.take k)=(q:Int):=e;have htk:w.take (k+1)=w.take k++[w.getD k 0]:=by rw[List.take_succ_eq_append_getElem hk];simp[hk]
 have hdk:w.drop k=w.getD k 0::w.drop (k+1):=by rw[List.drop_eq_getElem_cons hk];simp[hk]
 have e':runD (Zaz d s r) 0 (w.take (k+1))=(q':Int):=by rw[htk,Zfa,e];show dnx (Zaz d s r) (q:Int) (w.getD k 0)=_;unfold dnx;rw[Int.toNat_natCast,e2]
 have m1:mixW s (Zaz d s r) w k=(s.getD q []++[w.getD k 0])++w.drop (k+1):=by unfold mixW;rw[e,Int.toNat_natCast,hdk];simp
 have m2:mixW s (Zaz d s r) w (k+1)=s.getD q' []++w.drop (k+1):=by unfold mixW;rw[e',Int.toNat_natCast]
 rw[m1,m2] at hcut
 have hnot:rowW d r' (s.getD q []++[w.getD k 0]) ∉ s.map (rowW d r'):=by
  intro hm;obtain⟨u,hu,eu⟩:=List.mem_map.1 hm;rw[hrow,hrow] at eu;obtain⟨h1,h2⟩:=List.append_inj eu (by rw[Zgy,Zgy]);have hq1:s.getD q' []∈s:=memD hq';have:u=s.getD q' []:=by exact Zet h.nd hu hq1 (by rw[h1,e3])
  rw[this] at h2;simp only[List.cons.injEq,and_true] at h2;rw[h2] at hcut;simp at hcut
 rcases Nat.lt_or_ge s.length (Zc0 d s r').length with h1|h1
 ·exact h1
 exfalso;have heq:Zc0 d s r'=s:=by obtain⟨t,ht⟩:=hp;have:t=[]:=List.eq_nil_of_length_eq_zero (by have:=congrArg List.length ht;simp at this;omega);rw[← ht,this,List.append_nil]
 have hcl:=hI.cl q (w.getD k 0) (by rw[heq];exact hq) hc;rw[heq] at hcl;exact hnot hcl
theorem ZiN {next:List (List Int)} {ends:List Bool} (h1:1≤next.length) (h2:next.length≤40) (h3:ends.length=next.length) (hr:∀ i,i<next.length→(next.getD i []).length=3∧∀ c,c<3→0≤(next.getD i []).getD c 0∧(next.getD i []).getD c 0<next.length):Za2 next ends=true:=by
 simp only[Za2,Bool.and_eq_true,List.all_eq_true,decide_eq_true_eq];refine⟨⟨fun x hx => ?_,?_⟩,h3⟩
 ·obtain⟨i,hi,e⟩:=List.getElem_of_mem hx;obtain⟨a,b⟩:=hr i hi;rw[ZcB hi,e] at a b;simp only[Zex,Bool.and_eq_true,decide_eq_true_eq,List.all_eq_true];refine⟨a,fun y hy => ?_⟩;obtain⟨c,hc,e2⟩:=List.getElem_of_mem hy;have:=b c (by omega);rw[ZcB hc,e2] at this;simp[inB];omega
 simp[inB];omega
theorem Zl1 {d:DfaD} (hd:Za2 d.next d.ends=true) {s r:List (List Nat)} (h:LInv d s r):Za2 (Zaz d s r).next (Zaz d s r).ends=true:=by
 have h1:=h.pos;have h2:=h.le hd;have h3:=Zcn hd;obtain⟨l1,l2⟩:=ZkQ d s r;refine ZiN (by omega) (by omega) (by omega) fun i hi => ?_
 rw[l1] at hi;refine⟨by simp[Zaz,hi],fun c hc => ?_⟩;obtain⟨q,hq,e,-⟩:=ZgN h hi hc;rw[e,l1];omega
def ZnT (d:DfaD) (hit:DfaD→Option (List Nat)):Prop:=∀ g,Za2 g.next g.ends=true→∀ w,hit g=some w→isW w∧accD d w≠accD g w
theorem ZhH {d:DfaD} (hd:Za2 d.next d.ends=true) {hit:DfaD→Option (List Nat)} (hh:ZnT d hit):∀ j,(∀ i,i<j→(hit (gssW d hit i)).isSome=true)→LInv d (tabW d hit j).1 (tabW d hit j).2∧j+1≤(tabW d hit j).1.length
 | 0,_=>by have h:=(Zgd hd (s:=[[]]) (r:=[[]]) (fun x hx=>by simp at hx;subst hx;intro c hc;simp at hc) (fun x hx=>by simp at hx;subst hx;intro c hc;simp at hc) rfl rfl (by simp)).1;exact⟨h,h.pos⟩
 | j+1,hy=>by
  obtain⟨h,hl⟩:=ZhH hd hh j fun i hi=>hy i (by omega)
  have h1:=hy j (by omega);obtain⟨w,hw⟩:=Option.isSome_iff_exists.1 h1;obtain⟨hw1,hw2⟩:=hh _ (Zl1 hd h) w hw;have hm:=Zh1 hd h hw1 hw2 (r':=(tabW d hit (j+1)).2) (by show(tabW d hit j).2++_=_;simp only[show hit (Zaz d (tabW d hit j).1 (tabW d hit j).2)=some w from hw,Option.getD_some]);exact⟨hm.1,by have:=hm.2.2;show _≤(Zc0 d (tabW d hit j).1 (tabW d hit (j+1)).2).length;omega⟩
def padL (n s:Nat) (cl:Nat→Nat):List Int:=clsL s cl++List.replicate (n-s) 0
def padT (n s:Nat) (cl:Nat→Nat) (t:Nat):List Int:=clsL s cl++((t:Nat):Int)::List.replicate (n-s-1) 0
theorem Zkh (n:Nat) (cl:Nat→Nat):padL n 0 cl=List.replicate n 0:=by simp[padL,clsL]
theorem ZgB (n:Nat) (cl:Nat→Nat):padL n n cl=clsL n cl:=by simp[padL]
theorem Zix {n s:Nat} (cl:Nat→Nat) (h:s<n):padL n s cl=padT n s cl 0:=by unfold padL padT;rw[show n-s=(n-s-1)+1 by omega,List.replicate_succ];rfl
theorem ZeI {n s:Nat} (cl:Nat→Nat):padT n s cl (cl s)=padL n (s+1) cl:=by unfold padL padT;rw[Zk3,List.append_assoc,show n-(s+1)=n-s-1 by omega];rfl
theorem ZeH {n s:Nat} (cl:Nat→Nat) (t t':Nat):(intCells (padT n s cl t)).set s (.int .i64 ((t':Nat):Int))=intCells (padT n s cl t'):=by unfold intCells;rw[← List.map_set (f:=fun x=>Value.int .i64 x)];congr 1;unfold padT;rw[List.set_append_right _ _ (by rw[Zb0];exact Nat.le_refl _),Zb0,Nat.sub_self];rfl
theorem Zcw {n s:Nat} (cl:Nat→Nat) (t:Nat):(intCells (padT n s cl t))[s]? = some (.int .i64 ((t:Nat):Int)):=by simp[intCells,padT,Zb0]
theorem ZbN {n s:Nat} (cl:Nat→Nat) (h:s<n):(intCells (clsL n cl))[s]? = some (.int .i64 ((cl s:Nat):Int)):=by simp[intCells,clsL,h]
theorem Zfm {w:World} {B n:Nat} {v:Value} (cl:Nat→Nat) (h:w.ownsRow B 3 1 v n (madeCells (Value.int .i64 0).cells (n*1)).toList):w.ownsRow B 3 1 v n (intCells (padL n 0 cl)):=by
 have e:(madeCells (Value.int .i64 0).cells (n*1)).toList=intCells (padL n 0 cl):=by rw[Zkh];simp[madeCells,Value.cells,intCells,Nat.mod_one,List.map_const']
 rwa [e] at h
end Go.Proofs.Ytfanhfcamblghaa
