/-
  The walks over the reference's comparison of rows of truth values and its search for a row in a list of rows: l9Same, l9Find.
  Conditions: the arguments read as such data; all rows are equally long, at most 1000000.
-/
import Derived.Test.YtehmjmjedopkkaaGreatPo01Fwp
set_option maxHeartbeats 1600000
set_option maxRecDepth 100000
namespace Go.Proofs.YtehmjmjedopkkaaGreat
open Go.RowKit
def BoolSS (B:Nat) (w:World) (v:Value) (xss:List (List Bool)):Prop :=
 ∃ vs:List Value,Sl B w v xss.length 1 vs∧∀ i,i<xss.length→Bools B w (vs.getD i undef) (xss.getD i [])
theorem BoolSS.below {B:Nat} {w w':World} {v:Value} {xss:List (List Bool)} (h:BoolSS B w v xss) (he:Below w.heap.size w w'):BoolSS B w' v xss:=by obtain⟨vs,h1,h2⟩:=h;exact⟨vs,h1.below he,fun i hi=>(h2 i hi).below he⟩
theorem BoolSS.form {B:Nat} {w:World} {v:Value} {xss:List (List Bool)} (h:BoolSS B w v xss):∃ a cap,v = .slice a xss.length cap∧xss.length≤cap∧cap≤9223372036854775807 ∧
  (0<xss.length→∃ b off,a=some ⟨b,off,none⟩∧b<w.heap.size∧∀ i,i<xss.length→∃ a' cap',w.cell? ⟨b,off+i,none⟩=some (.slice a' (xss.getD i []).length cap')∧Bools B w (.slice a' (xss.getD i []).length cap') (xss.getD i [])):=by
 obtain⟨vs,⟨hl,a,cap,hv,h1,h2,h3⟩,hr⟩:=h;refine⟨a,cap,hv,h1,h2,fun hn => ?_⟩;obtain⟨b,off,ha,hb,hlt,hc⟩:=h3 hn;refine⟨b,off,ha,hlt,fun i hi => ?_⟩;obtain⟨a',cap',hv',-⟩:=(hr i hi).form;refine⟨a',cap',?_,?_⟩
 ·rw[hc i (by omega),← hv'];simp at hl;simp[show i<vs.length by omega]
 rw[← hv'];exact hr i hi
theorem St.boolSS {w0 w:World} {L:List Ent} (h:St w0 w L) (i:Nat) {es e:Nat} {v:Value} {vs:List Value} {xss:List (List Bool)} (hx:L[i]? = some (Ent.rows es e v vs (xss.map boolCells))):BoolSS 0 w v xss:=by
 obtain⟨p1,p2,-⟩:=h.rows i hx;rw[List.length_map] at p1 p2;refine⟨vs,((Zaa p1).sl (by omega)).mono (Nat.zero_le _),fun i hi => ?_⟩;have:=p2 i hi;have e1:(xss.map boolCells).getD i []=boolCells (xss.getD i []):=by simp[hi]
 rw[e1] at this;have:=((Zaa this).sl (by omega)).mono (Nat.zero_le _);simpa [Bools] using this
theorem St.bools {w0 w:World} {L:List Ent} (h:St w0 w L) (i:Nat) {e:Nat} {v:Value} {xs:List Bool} {n:Nat} (hx:L[i]? = some (Ent.row e 1 v n (boolCells xs))):Bools 0 w v xs:=by
 have hr:=h.row i hx;have e1:n=xs.length:=by have:=hr.1;simp at this;omega
 subst e1;exact((Zaa hr).sl (by omega)).mono (Nat.zero_le _)
theorem St.intsR {w0 w:World} {L:List Ent} (h:St w0 w L) (i:Nat) {e:Nat} {v:Value} {xs:List Int} {n:Nat} (hx:L[i]? = some (Ent.row e 1 v n (intCells xs))):Ints 0 w v xs:=by
 have hr:=h.row i hx;have e1:n=xs.length:=by have:=hr.1;simp at this;omega
 subst e1;exact((Zaa hr).sl (by omega)).mono (Nat.zero_le _)
theorem ZjQ {w:World} {B e n:Nat} {v:Value} {xs:List Bool} (hr:w.ownsRow B e 1 v n (boolCells xs)):Bools 0 w v xs:=by
 have e1:n=xs.length:=by have:=hr.1;simp at this;omega
 subst e1;exact((Zaa hr).sl (by omega)).mono (Nat.zero_le _)
theorem ZaV {w:World} {B e n:Nat} {v:Value} {xs:List Bool} (hr:w.ownsRow B e 1 v n (boolCells xs)):Bools B w v xs:=by
 have e1:n=xs.length:=by have:=hr.1;simp at this;omega
 subst e1;exact(Zaa hr).sl (by omega)
theorem St.rowAt {w0 w:World} {L:List Ent} (h:St w0 w L) (i:Nat) {es e g n cap:Nat} {vs:List Value} {css:List (List Value)} (hx:L[i]? = some (Ent.rows es e (.slice (some ⟨g,0,none⟩) n cap) vs css)) (hn:css.length=n) {k:Nat} (hk:k<n) :
  ∃ a c,w.cell? ⟨g,k,none⟩=some (.slice a (css.getD k []).length c)∧w.ownsRow w0.heap.size e 1 (.slice a (css.getD k []).length c) (css.getD k []).length (css.getD k [])∧(css.getD k []).length≤c∧c≤9223372036854775807∧n≤cap∧cap≤9223372036854775807∧g<w.heap.size:=by
 obtain⟨p1,p2,-⟩:=h.rows i hx;subst hn;have hv:vs.length=css.length:=by have:=p1.1;omega
 have h2:=p2 k hk;have hc:=p1.cellAt k (by omega);have hgl:=(p1.lt g rfl).2
 obtain⟨a,c,hva,h3,h4⟩:∃ a c,vs.getD k undef = .slice a (css.getD k []).length c∧(css.getD k []).length≤c∧c≤9223372036854775807:=by
  rcases h2.2 with⟨h5,h6⟩|⟨g',cap',cur,h5,-,-,h6,h7,-⟩
  ·exact⟨none,0,by rw[h5,h6],by omega,by omega⟩
  exact⟨_,_,h5,h6,h7⟩
 rw[hva] at h2;refine⟨a,c,?_,h2,h3,h4,?_⟩
 ·rw[hc,← hva];simp[show k<vs.length by omega]
 rcases p1.2 with⟨h5,-⟩|⟨g',cap',cur,h5,-,-,h6,h7,-⟩
 ·cases h5
 simp only[Value.slice.injEq,true_and] at h5;obtain⟨-,rfl⟩:=h5;exact⟨h6,h7,hgl⟩
theorem Zl7 (xs ys:List Bool) (n:Nat) (v1 v2:Value) (w:World) (hx:xs.length=n) (hy:ys.length=n) (h1:Bools 0 w v1 xs) (h2:Bools 0 w v2 ys) (r:Bool) (hr:decide (xs=ys)=r) :
  Calls Tryz.prog 166 #[v1,v2] w fun e w'=>e = .returned (.bool r)∧Below w.heap.size w w':=by
 obtain⟨a1,c1,rfl,hc1,hm1,hr1⟩:=h1.form;obtain⟨a2,c2,rfl,hc2,hm2,hr2⟩:=h2.form;rw[hx] at hc1 hr1;rw[hy] at hc2 hr2;rw[hx,hy];replace hx:=qh hx;have Hhy:=qh hy;clear hy;replace hr:=qh hr;clear h1 h2
 go_enter Tryz.func166, Tryz.ntmps166
 go_wp2
 go_loopw [4,5] (fun r i wr=>∃ k:Nat,k≤n∧i = .int .i64 k∧xs.take k=ys.take k∧Below w.heap.size w wr) (fun _ i _=>n-(intOf i).toNat)
 case atStart=>exact⟨0,Nat.zero_le _,rfl,rfl,Below.refl _ _⟩
 case round =>
  obtain⟨k,hk,rfl,htk,hb⟩:=hrel;have Hhtk:=qh htk;clear htk;by_cases hlt:k<n
  ·obtain⟨b1,o1,rfl,-,hbl1,hcs1⟩:=hr1 (by omega);obtain⟨b2,o2,rfl,-,hbl2,hcs2⟩:=hr2 (by omega);have k1:=(bcell hb b1 (o1+k) hbl1).trans (hcs1 k hlt);have k2:=(bcell hb b2 (o2+k) hbl2).trans (hcs2 k hlt);obtain⟨p,hp⟩:=eI (xs.getD k false);obtain⟨q,hq⟩:=eI (ys.getD k false);rw[← hp] at k1;rw[← hq] at k2;replace hp:=qh hp;have Hhq:=qh hq;clear hq;replace hb:=qh hb;clear hcs1 hcs2 hr1 hr2;by_cases hpq:p=q
   ·have g1:(p != q)=false:=by simpa using hpq
    have g2:(!(p==q))=false:=by simpa using hpq
    have Hhpq:=qh hpq;clear hpq;go_wp2
    go_quiet (fail)
    go_wp2;go_roundw
    case rel=>exact⟨k+1,by omega,by go_num,Zfe (d:=false) (by rw[hx.out];exact hlt) (by rw[Hhy.out];exact hlt) Hhtk.out (by rw[← hp.out,← Hhq.out];exact Hhpq.out),below_drewN hb.out _⟩
    case measure=>simp[intOf];omega
   have g1:(p != q)=true:=by simpa using hpq
   have g2:(!(p==q))=true:=by simpa using hpq
   have Hhpq:=qh hpq;clear hpq;go_wp2
   go_quiet (fail)
   go_wp2;go_ret;exact⟨by rw[← hr.out,decide_eq_false (Zhu (k:=k) (d:=false) (by rw[← hp.out,← Hhq.out];exact Hhpq.out))];rfl,below_drewN hb.out _⟩
  obtain rfl:k=n:=by omega
  replace hb:=qh hb;clear hr1 hr2;go_wp2;go_ret;refine⟨?_,hb.out⟩;have h:=Hhtk.out;rw[List.take_of_length_le (by rw[hx.out];exact Nat.le_refl _),List.take_of_length_le (by rw[Hhy.out];exact Nat.le_refl _)] at h;rw[← hr.out,decide_eq_true h];rfl
def ZiA (S:List (List Bool)) (x:List Bool):Int:=if x∈S then(Zaj S x:Int) else -1
theorem Zlp {S:List (List Bool)} {x:List Bool} {k:Nat} (hk:k<S.length) (hn:x ∉ S.take k) (h:S.getD k []=x):ZiA S x=(k:Int):=by
 have hm:x∈S:=by rw[← h];exact memD hk
 have hp:S.take k++[x] <+: S:=by rw[← h,show S.getD k []=S[k] from by simp[hk],← List.take_succ_eq_append_getElem hk];exact List.take_prefix _ _
 have hi:=ZfO hp hn;unfold ZiA;rw[if_pos hm,hi];simp;omega
theorem ZhD {S:List (List Bool)} {x:List Bool} (h:x ∉ S):ZiA S x = -1:=by unfold ZiA;rw[if_neg h]
theorem ZhQ {α:Type} {S:List α} {k:Nat} (hk:k<S.length) (x:α) {d:α} (h:x∈S.take (k+1)):x∈S.take k∨x=S.getD k d:=by
 rw[List.take_succ_eq_append_getElem hk,List.mem_append,List.mem_singleton] at h;rcases h with h|h
 ·exact Or.inl h
 right;rw[h];simp[hk]
theorem Zl8 (S:List (List Bool)) (x:List Bool) (n:Nat) (v1 v2:Value) (w:World) (hS:∀ y∈S,y.length=n) (hx:x.length=n) (hl:S.length≤1000000) (h1:BoolSS 0 w v1 S) (h2:Bools 0 w v2 x) :
  Calls Tryz.prog 165 #[v1,v2] w fun e w'=>e = .returned (.int .i64 (ZiA S x))∧Below w.heap.size w w':=by
 obtain⟨a1,c1,rfl,hc1,hm1,hr1⟩:=h1.form;have H2:=qh h2;obtain⟨a2,c2,rfl,hc2,hm2,-⟩:=h2.form;replace hS:=qh hS;have Hhx:=qh hx;clear hx;clear h1 h2
 go_enter Tryz.func165, Tryz.ntmps165
 go_wp2
 go_loopw [4,5] (fun r i wr=>∃ k:Nat,k≤S.length∧i = .int .i64 k∧x ∉ S.take k∧Below w.heap.size w wr) (fun _ i _=>S.length-(intOf i).toNat)
 case atStart=>exact⟨0,Nat.zero_le _,rfl,by simp,Below.refl _ _⟩
 case round =>
  obtain⟨k,hk,rfl,htk,hb⟩:=hrel;have Hhtk:=qh htk;clear htk;by_cases hlt:k<S.length
  ·obtain⟨b1,o1,rfl,hbl1,hcs1⟩:=hr1 (by omega);obtain⟨a3,c3,k1,hrow⟩:=hcs1 k hlt;replace k1:=(bcell hb b1 (o1+k) hbl1).trans k1;have hrow':=hrow.below hb;have hyl:=hS.out _ (memD (d:=[]) hlt);have hin:=fun h=>ZhQ (d:=[]) hlt x h
   obtain⟨y,hy⟩:=eI (S.getD k []);rw[← hy] at k1 hrow' hyl hin;have Hhrow':=qh hrow';clear hrow';have Hhyl:=qh hyl;clear hyl;have Hhin:=qh hin;clear hin;have Hhy:=qh hy;clear hy;have Hhb:=qh hb;clear hb;clear hcs1 hr1 hrow;cases hd:decide (y=x)
   all_goals
    have Hhd:=qh hd;clear hd;go_wp2_with fail;refine(Zl7 y x n _ _ _ Hhyl.out Hhx.out Hhrow'.out (H2.out.below Hhb.out) _ Hhd.out).mono ?_;rintro e w2 ⟨rfl,hb2⟩;have hb3:=Hhb.out.trans (hb2.mono Hhb.out.size);have Hhb3:=qh hb3;clear hb3;clear hb2;go_wp2
   ·go_roundw
    case rel=>exact⟨k+1,by omega,by go_num,fun h=>by rcases Hhin.out h with h|h;exact Hhtk.out h;exact of_decide_eq_false Hhd.out h.symm,Hhb3.out⟩
    case measure=>simp[intOf];omega
   go_ret;exact⟨Zd4 (by rw[Zlp hlt Hhtk.out (by rw[← Hhy.out];exact of_decide_eq_true Hhd.out)]),Hhb3.out⟩
  obtain rfl:k=S.length:=by omega
  have Hhb:=qh hb;clear hb;clear hr1;go_wp2;go_ret;refine⟨Zd4 (by rw[ZhD];have h:=Hhtk.out;rwa [List.take_length] at h),Hhb.out⟩
def okAt (l:List Int) (n:Int) (j:Nat):Bool:=inB (l.getD j 0) 0 (n-1)&&(decide (j=0)||decide (l.getD (j-1) 0<l.getD j 0))
def stOk (l:List Int) (n:Int):Bool:=(List.range l.length).all (okAt l n)
def mvOk (n:Int) (m:Int × Int × Int):Bool:=inB m.1 0 (n-1)&&inB m.2.2 0 (n-1)&&inB m.2.1 (-1) 2
def Zig (n:NfaD):Bool:=inB n.states 0 40&&decide (n.moves.length≤400)&&stOk n.firsts n.states&&stOk n.ends n.states&&n.moves.all (mvOk n.states)
theorem ZlW {p:Nat→Bool} {k:Nat} (h:(List.range k).all p=true) (hp:p k=true):(List.range (k+1)).all p=true:=by rw[List.range_succ,List.all_append,h];simp[hp]
end Go.Proofs.YtehmjmjedopkkaaGreat
namespace Go.Proofs.YtehmjmjedopkkaaGreat
open Go.RowKit
end Go.Proofs.YtehmjmjedopkkaaGreat
namespace Go.Proofs.YtehmjmjedopkkaaGreat
open Go.RowKit
def adj (v s:Nat):Nat:=v ||| 2 ^ s
theorem Zcg (v s t:Nat):(adj v s).testBit t=(v.testBit t||decide (s=t)):=by unfold adj;rw[Nat.testBit_or,Nat.testBit_two_pow]
theorem ZoK {v s n:Nat} (hv:v<2 ^ n) (hs:s<n):adj v s<2 ^ n:=Nat.or_lt_two_pow hv (Nat.pow_lt_pow_right (by omega) hs)
def flags (n v:Nat):List Bool:=(List.range n).map v.testBit
theorem ZgK (n v:Nat):(flags n v).length=n:=by simp[flags]
theorem Ze5 {n v s:Nat} (h:s<n):(flags n v).getD s false=v.testBit s:=by simp[flags,h]
theorem Zn9 {n v s:Nat}:flags n (adj v s)=(flags n v).set s true:=by
 apply List.ext_getElem
 ·simp[flags]
 intro i h1 h2;simp only[flags,List.getElem_map,List.getElem_range];rw[List.getElem_set,Zcg];by_cases h:s=i<;>simp[h]
theorem Zml (n:Nat):flags n 0=List.replicate n false:=by
 apply List.ext_getElem
 ·simp[flags]
 intro i h1 h2;simp[flags]
theorem Zn8 {n u v:Nat} (hu:u<2 ^ n) (hv:v<2 ^ n) (h:flags n u=flags n v):u=v:=by
 apply Nat.eq_of_testBit_eq;intro i;by_cases hi:i<n
 ·rw[← Ze5 (v:=u) hi,h,Ze5 hi]
 rw[Nat.testBit_lt_two_pow (Nat.lt_of_lt_of_le hu (Nat.pow_le_pow_right (by omega) (by omega))),Nat.testBit_lt_two_pow (Nat.lt_of_lt_of_le hv (Nat.pow_le_pow_right (by omega) (by omega)))]
def setV (l:List Int):Nat:=l.foldl (fun v s=>adj v s.toNat) 0
theorem ZbX {α β:Type} (f:β→α→β) (b:β) {l:List α} {k:Nat} (hk:k<l.length) (d:α):(l.take (k+1)).foldl f b=f ((l.take k).foldl f b) (l.getD k d):=by rw[List.take_succ_eq_append_getElem hk,List.foldl_append];simp[hk]
theorem ZbO {α β:Type} (f:β→α→β) (Q:β→Prop) {l:List α} (hf:∀ b,∀ x∈l,Q b→Q (f b x)):∀ {b:β},Q b→Q (l.foldl f b):=by
 induction l with
 | nil=>intro b h;exact h
 | cons x l ih=>intro b h;exact ih (fun b y hy=>hf b y (by simp[hy])) (hf b x (by simp) h)
theorem ZcP {α β:Type} (f:β→α→β) (Q:β→Prop) {l:List α} (hf:∀ b,∀ x∈l,Q b→Q (f b x)) {b:β} (h:Q b) (k:Nat):Q ((l.take k).foldl f b) :=
 ZbO f Q (fun b x hx=>hf b x (List.mem_of_mem_take hx)) h
def inN (n:Nat) (l:List Int):Prop:=∀ s∈l,0≤s∧s<(n:Int)
theorem Zc8 {n:Nat} {l:List Int} (h:inN n l):setV l<2 ^ n :=
 ZbO _ (fun v=>v<2 ^ n) (fun v s hs hv=>ZoK hv (by have:=h s hs;omega)) (Nat.two_pow_pos n)
def mvIn (n:Nat) (ms:List (Int × Int × Int)):Prop:=∀ m∈ms,(0≤m.1∧m.1<(n:Int))∧(0≤m.2.2∧m.2.2<(n:Int))
def Zas (v:Nat) (m:Int × Int × Int):Nat:=if (decide (m.2.1 = -1)&&v.testBit m.1.toNat && !v.testBit m.2.2.toNat)=true then adj v m.2.2.toNat else v
def ZjJ (ms:List (Int × Int × Int)) (v:Nat):Nat:=ms.foldl Zas v
def clIt (ms:List (Int × Int × Int)) (v:Nat):Nat→Nat
 | 0=>v
 | k+1=>ZjJ ms (clIt ms v k)
def clV (n:Nat) (ms:List (Int × Int × Int)) (v:Nat):Nat:=clIt ms v n
def ZaN (v:Nat) (c:Int) (u:Nat) (m:Int × Int × Int):Nat:=if (decide (m.2.1=c)&&v.testBit m.1.toNat)=true then adj u m.2.2.toNat else u
def stV (n:Nat) (ms:List (Int × Int × Int)) (v:Nat) (c:Int):Nat:=clV n ms (ms.foldl (ZaN v c) 0)
theorem ZgR {n:Nat} {ms:List (Int × Int × Int)} (h:mvIn n ms) {m:Int × Int × Int} (hm:m∈ms) {v:Nat} (hv:v<2 ^ n):Zas v m<2 ^ n:=by
 unfold Zas
 split
 ·exact ZoK hv (by have:=(h m hm).2;omega)
 exact hv
theorem Zov {n:Nat} {ms:List (Int × Int × Int)} (h:mvIn n ms) {v:Nat} (hv:v<2 ^ n):ZjJ ms v<2 ^ n:=ZbO _ (fun v=>v<2 ^ n) (fun _ _ hm hv=>ZgR h hm hv) hv
theorem Zdk {n:Nat} {ms:List (Int × Int × Int)} (h:mvIn n ms) {v:Nat} (hv:v<2 ^ n):∀ k,clIt ms v k<2 ^ n
 | 0=>hv
 | k+1=>Zov h (Zdk h hv k)
theorem Zcz {n:Nat} {ms:List (Int × Int × Int)} (h:mvIn n ms) {m:Int × Int × Int} (hm:m∈ms) {v u:Nat} {c:Int} (hu:u<2 ^ n):ZaN v c u m<2 ^ n:=by
 unfold ZaN
 split
 ·exact ZoK hu (by have:=(h m hm).2;omega)
 exact hu
theorem ZmZ {n:Nat} {ms:List (Int × Int × Int)} (h:mvIn n ms) (v:Nat) (c:Int):stV n ms v c<2 ^ n :=
 Zdk h (ZbO _ (fun v=>v<2 ^ n) (fun _ _ hm hv=>Zcz h hm hv) (Nat.two_pow_pos n)) n
def clr (n v:Nat):Nat:=((List.range n).filter fun i => !v.testBit i).length
theorem ZjD {α:Type} {p q:α→Bool}:∀ {l:List α},(∀ x∈l,p x=true→q x=true)→(l.filter p).length≤(l.filter q).length
 | [],_=>by simp
 | x::l,h=>by
  have ih:=ZjD (l:=l) fun y hy=>h y (by simp[hy])
  have hx:=h x (by simp);simp only[List.filter_cons];by_cases hp:p x=true
  ·rw[if_pos hp,if_pos (hx hp)];simp;omega
  rw[if_neg hp]
  split<;>simp<;>omega
theorem ZdD {α:Type} {p q:α→Bool} {a:α} (hp:p a=false) (hq:q a=true):∀ {l:List α},a∈l→(∀ x∈l,p x=true→q x=true)→(l.filter p).length<(l.filter q).length
 | [],h,_=>by simp at h
 | x::l,ha,h=>by
  have hle:=ZjD (l:=l) fun y hy=>h y (by simp[hy])
  simp only[List.filter_cons];by_cases hx:a=x
  ·subst hx;rw[if_neg (by simp[hp]),if_pos hq];simp;omega
  have ih:=ZdD hp hq (l:=l) (by simpa [hx] using ha) fun y hy=>h y (by simp[hy])
  have hxx:=h x (by simp);by_cases hpx:p x=true
  ·rw[if_pos hpx,if_pos (hxx hpx)];simp;omega
  rw[if_neg hpx]
  split<;>simp<;>omega
theorem Zor (n v:Nat):clr n v≤n:=by have:=List.length_filter_le (fun i => !v.testBit i) (List.range n);simpa [clr] using this
theorem ZqH {n v s:Nat} (hs:s<n) (h:v.testBit s=false):clr n (adj v s)<clr n v:=by
 unfold clr;refine ZdD (a:=s) (by simp[Zcg]) (by simp[h]) (by simpa using hs) fun x _ hx => ?_
 rw[Zcg] at hx;simp at hx ⊢;exact hx.1
theorem Ze8 {n:Nat} {m:Int × Int × Int} (hm:0≤m.2.2∧m.2.2<(n:Int)) (v:Nat):Zas v m=v∨clr n (Zas v m)<clr n v:=by
 unfold Zas
 split
 ·rename_i h;simp only[Bool.and_eq_true,Bool.not_eq_true'] at h;exact .inr (ZqH (by omega) h.2)
 exact .inl rfl
theorem Zc1 {n:Nat}:∀ {ms:List (Int × Int × Int)},(∀ m∈ms,0≤m.2.2∧m.2.2<(n:Int))→∀ v,ms.foldl Zas v=v∨clr n (ms.foldl Zas v)<clr n v
 | [],_,v => .inl rfl
 | m::ms,h,v=>by
  have h1:=Ze8 (h m (by simp)) v;have h2:=Zc1 (ms:=ms) (fun m hm=>h m (by simp[hm])) (Zas v m);simp only[List.foldl_cons];rcases h1 with h1|h1
  ·rw[h1] at h2 ⊢;exact h2
  rcases h2 with h2|h2
  ·rw[h2];exact .inr h1
  exact .inr (Nat.lt_trans h2 h1)
theorem ZeI {ms:List (Int × Int × Int)} {v j:Nat} (h:clIt ms v (j+1)=clIt ms v j):∀ k,j≤k→clIt ms v k=clIt ms v j
 | 0,hk=>by obtain rfl:j=0:=by omega
            rfl
 | k+1,hk=>by
  by_cases e:j=k+1
  ·subst e;rfl
  have ih:=ZeI h k (by omega);show ZjJ ms (clIt ms v k)=_;rw[ih];exact h
theorem ZeJ {n:Nat} {ms:List (Int × Int × Int)} (h:mvIn n ms) (v:Nat):∀ k,clIt ms v (k+1)=clIt ms v k∨clr n (clIt ms v (k+1))+(k+1)≤clr n v
 | 0=>by
  rcases Zc1 (n:=n) (ms:=ms) (fun m hm=>(h m hm).2) v with e|e
  ·exact .inl e
  exact .inr (by show clr n (ZjJ ms v)+1≤_;exact e)
 | k+1=>by
  rcases ZeJ h v k with e|e
  ·left;have:=ZeI e (k+1+1) (by omega);rw[this,e]
  rcases Zc1 (n:=n) (ms:=ms) (fun m hm=>(h m hm).2) (clIt ms v (k+1)) with e2|e2
  ·exact .inl e2
  right;have:clr n (clIt ms v (k+1+1))<clr n (clIt ms v (k+1)):=e2;omega
theorem Zp6 {n:Nat} {ms:List (Int × Int × Int)} (h:mvIn n ms) {v j:Nat} (hj:clIt ms v (j+1)=clIt ms v j):clV n ms v=clIt ms v j:=by
 unfold clV;by_cases hjn:j≤n
 ·exact ZeI hj n hjn
 rcases ZeJ h v n with e|e
 ·exact(ZeI e j (by omega)).symm
 have:=Zor n v;omega
theorem Ze9 {n:Nat} {ms:List (Int × Int × Int)} (h:mvIn n ms) {v k:Nat} (hk:clIt ms v (k+1)≠clIt ms v k):k<n:=by
 rcases ZeJ h v k with e|e
 ·exact absurd e hk
 have:=Zor n v;omega
theorem ZjK {n:Nat} {ms:List (Int × Int × Int)} (h:mvIn n ms) {v:Nat} {k:Nat} (hk:k<ms.length) (hne:Zas ((ms.take k).foldl Zas v) (ms.getD k (0,0,0))≠(ms.take k).foldl Zas v):(ms.take (k+1)).foldl Zas v≠v:=by
 have h1:=Zc1 (n:=n) (ms:=ms.take k) (fun m hm=>(h m (List.mem_of_mem_take hm)).2) v;have hmem:ms.getD k (0,0,0)∈ms:=by rw[List.getD_eq_getElem?_getD,List.getElem?_eq_getElem hk];simp
 have h2:=Ze8 (n:=n) (h _ hmem).2 ((ms.take k).foldl Zas v);rw[ZbX Zas v hk (0,0,0)];intro e;rcases h2 with h2|h2
 ·exact hne h2
 rw[e] at h2;rcases h1 with h1|h1
 ·rw[h1] at h2;omega
 omega
theorem Zd0 {n:Nat} {ms:List (Int × Int × Int)} (h:mvIn n ms) {v:Nat} {k:Nat} (hk:k<ms.length) (hne:(ms.take k).foldl Zas v≠v):(ms.take (k+1)).foldl Zas v≠v:=by
 have h1:=Zc1 (n:=n) (ms:=ms.take k) (fun m hm=>(h m (List.mem_of_mem_take hm)).2) v;have hmem:ms.getD k (0,0,0)∈ms:=by rw[List.getD_eq_getElem?_getD,List.getElem?_eq_getElem hk];simp
 have h2:=Ze8 (n:=n) (h _ hmem).2 ((ms.take k).foldl Zas v);rw[ZbX Zas v hk (0,0,0)];rcases h1 with h1|h1
 ·exact absurd h1 hne
 rcases h2 with h2|h2
 ·rw[h2];exact hne
 intro e;rw[e] at h2;omega
end Go.Proofs.YtehmjmjedopkkaaGreat
namespace Go.Proofs.YtehmjmjedopkkaaGreat
open Go.RowKit
theorem offL {x p q:Bool} (h:x=true→p=true∧q=true) (hp:p=false):x=false:=by
 cases x with
 | false=>rfl
 | true=>rw[hp] at h;exact absurd (h rfl).1 (by decide)
theorem offR {x p q:Bool} (h:x=true→p=true∧q=true) (hq:q=false):x=false:=by
 cases x with
 | false=>rfl
 | true=>rw[hq] at h;exact absurd (h rfl).2 (by decide)
section
variable {P:Program} {ops:Array Oper} {Q:Exit→Act→World→Prop} {md:Region.Mode}
def unl (n:Nat) (listed:Array Bool):Nat:=((List.range n).filter fun i => !listed.getD i true).length
theorem ZpU (n:Nat) (listed:Array Bool):unl n listed≤n:=by unfold unl;have:=List.length_filter_le (fun i => !listed.getD i true) (List.range n);simpa using this
theorem ZmH {n i:Nat} {listed:Array Bool} (hi:i<n) (h:listed.getD i true=false):unl n (listed.setIfInBounds i true)<unl n listed:=by
 refine ZdD (a:=i) ?_ (by simp only[h];rfl) (List.mem_range.2 hi) fun x _ hx => ?_
 ·simp only[Bool.not_eq_false'];rcases Nat.lt_or_ge i listed.size with h1|h1
  ·simp[h1]
  simp[Array.getElem?_eq_none h1] at h
 by_cases hxi:i=x
 ·subst hxi;simp only[h];rfl
 simpa [hxi] using hx
theorem ZfX (Inv:Array Bool→Act→World→Prop) (hstep:∀ listed a w,Inv listed a w→∀ i∈Region.ready md ops listed,wpOp P ops Q i (Inv (listed.setIfInBounds i true)) a w)
  (hdone:∀ listed a w,Inv listed a w→Region.ready md ops listed=[]→Q .normal a w):∀ (fuel:Nat) (listed:Array Bool) (a:Act) (w:World),unl ops.size listed≤fuel→Inv listed a w→wpAny P md ops Q fuel listed a w
 | 0,listed,a,w,hf,h=>by
  have hr:Region.ready md ops listed=[]:=by
   refine List.eq_nil_iff_forall_not_mem.2 fun i hi => ?_
   obtain⟨hun,o,ho,-⟩:=mem_ready.1 hi;have:=ZmH (n:=ops.size) (Array.getElem?_eq_some_iff.1 ho).1 hun;omega
  exact⟨hr,hdone _ _ _ h hr⟩
 | fuel+1,listed,a,w,hf,h=>⟨fun h0=>hdone _ _ _ h h0,fun i hi=>wpOp_mono (fun a' w' h'=>ZfX Inv hstep hdone fuel _ a' w' (by obtain⟨hun,o,ho,-⟩:=mem_ready.1 hi;have:=ZmH (n:=ops.size) (Array.getElem?_eq_some_iff.1 ho).1 hun;omega) h') (hstep _ _ _ h i hi)⟩
theorem Zao (Inv:Act→Array Bool→Act→World→Prop) {a:Act} {w:World} (hstep:∀ listed b w,Inv a listed b w→∀ i∈Region.ready md ops listed,wpOp P ops Q i (Inv a (listed.setIfInBounds i true)) b w)
  (hdone:∀ listed b w,Inv a listed b w→Region.ready md ops listed=[]→Q .normal b w) (h0:Inv a (Array.replicate ops.size false) a w):wpAny P md ops Q ops.size (Array.replicate ops.size false) a w :=
 ZfX (Inv a) hstep hdone _ _ _ _ (ZpU _ _) h0
def Zlv (ops:Array Oper):Bool:=(List.range ops.size).all fun i=>match ops[i]? with
 | some o=>o.after.all fun e=>decide (e.on<i)
 | none=>true
theorem ZaX {listed:Array Bool} (hd:Zlv ops=true) (hs:listed.size=ops.size) (hr:Region.ready md ops listed=[]):∀ i,i<ops.size→listed.getD i true=true:=by
 intro i
 induction i using Nat.strongRecOn with
 | ind i ih =>
  intro hi;cases h:listed.getD i true with
  | true=>rfl
  | false =>
   exfalso
   have hmem:i∈Region.ready md ops listed:=by
    refine mem_ready.2 ⟨h,ops[i],by simp[hi],fun e he _ => ?_⟩;simp only[Zlv,List.all_eq_true,List.mem_range] at hd;have h1:=hd i hi;simp only[Array.getElem?_eq_getElem hi] at h1;have h2:e.on<i:=by have:=(Array.all_eq_true_iff_forall_mem.1 h1) e he;simpa using this
    have h3:=ih e.on h2 (by omega);have h4:e.on<listed.size:=by omega
    simpa [h4] using h3
   rw[hr] at hmem;cases hmem
end
end Go.Proofs.YtehmjmjedopkkaaGreat
namespace Go.Proofs.YtehmjmjedopkkaaGreat
open Go.RowKit
section
variable {ops:Array Oper} {md:Region.Mode}
def ZjH (md:Region.Mode) (ops:Array Oper):Bool:=(List.range ops.size).all fun i=>match ops[i]? with
 | some o=>o.after.all fun e => !Region.binds md e||decide (e.on<i)
 | none=>true
theorem ZaG {listed:Array Bool} (hd:ZjH md ops=true) (hs:listed.size=ops.size) (hr:Region.ready md ops listed=[]):∀ i,i<ops.size→listed.getD i true=true:=by
 intro i
 induction i using Nat.strongRecOn with
 | ind i ih =>
  intro hi;cases h:listed.getD i true with
  | true=>rfl
  | false =>
   exfalso
   have hmem:i∈Region.ready md ops listed:=by
    refine mem_ready.2 ⟨h,ops[i],by simp[hi],fun e he hbd => ?_⟩;simp only[ZjH,List.all_eq_true,List.mem_range] at hd;have h1:=hd i hi;simp only[Array.getElem?_eq_getElem hi] at h1;have h2:e.on<i:=by have:=(Array.all_eq_true_iff_forall_mem.1 h1) e he;rw[hbd] at this;simpa using this
    have h3:=ih e.on h2 (by omega);have h4:e.on<listed.size:=by omega
    simpa [h4] using h3
   rw[hr] at hmem;cases hmem
end
end Go.Proofs.YtehmjmjedopkkaaGreat
namespace Go.Proofs.YtehmjmjedopkkaaGreat
open Go.RowKit Go.Maps
theorem ZhW {l:List Int} {m:Int} (h:stOk l m=true) {j:Nat} (hj:j<l.length):(0≤l.getD j 0∧l.getD j 0≤m-1)∧(0<j→l.getD (j-1) 0<l.getD j 0):=by
 unfold stOk at h;rw[List.all_eq_true] at h;have h1:=h j (List.mem_range.2 hj);unfold okAt at h1;rw[Bool.and_eq_true,Bool.or_eq_true] at h1;obtain⟨h1,h2⟩:=h1;refine⟨by simpa [inB] using h1,fun h0 => ?_⟩;rcases h2 with h2|h2
 ·have:=of_decide_eq_true h2;omega
 exact of_decide_eq_true h2
theorem Zm0 {l:List Int} {m:Int} (h:stOk l m=true):∀ j,j<l.length→(j:Int)≤l.getD j 0
 | 0,hj=>(ZhW h hj).1.1
 | j+1,hj=>by have h1:=Zm0 h j (by omega);have h2:=(ZhW h hj).2 (by omega);rw[Nat.add_sub_cancel] at h2;omega
theorem Zhn {l:List Int} {m:Nat} (h:stOk l (m:Int)=true):inN m l∧l.length≤m:=by
 refine⟨fun s hs => ?_,?_⟩
 ·obtain⟨j,hj,e⟩:=List.getElem_of_mem hs;have:=(ZhW h hj).1;rw[Za5 hj,e] at this;omega
 rcases Nat.eq_zero_or_pos l.length with h0|h0
 ·omega
 have h1:=Zm0 h (l.length-1) (by omega);have h2:=(ZhW h (j:=l.length-1) (by omega)).1.2;omega
theorem Zde {n:NfaD} (h:Zig n=true):∃ m:Nat,n.states=(m:Int)∧m≤40∧mvIn m n.moves∧n.moves.length≤400∧inN m n.firsts∧n.firsts.length≤40∧inN m n.ends∧n.ends.length≤40:=by
 unfold Zig at h;simp only[Bool.and_eq_true] at h;obtain⟨⟨⟨⟨h1,h2⟩,h3⟩,h4⟩,h5⟩:=h;have h1:0≤n.states∧n.states≤40:=by simpa [inB] using h1
 obtain⟨m,hm⟩:=Int.eq_ofNat_of_zero_le h1.1;rw[hm] at h3 h4 h5;have f3:=Zhn h3;have f4:=Zhn h4;refine⟨m,hm,by omega,fun x hx => ?_,of_decide_eq_true h2,f3.1,by omega,f4.1,by omega⟩;rw[List.all_eq_true] at h5;have:=h5 x hx;unfold mvOk at this;simp only[Bool.and_eq_true,inB,decide_eq_true_eq] at this;omega
def eds (d:DfaD):Nat→List Int
 | 0=>[]
 | s+1=>if d.ends.getD s false=true then eds d s++[(s:Int)] else eds d s
theorem ZcR (d:DfaD):∀ s,(eds d s).length≤s
 | 0=>Nat.le_refl _
 | s+1=>by
  have ih:=ZcR d s;unfold eds
  split
  ·rw[List.length_append,List.length_singleton];omega
  omega
theorem Zax (l:List Int) (x:Int):intCells (l++[x])=intCells l++[.int .i64 x]:=by simp[intCells]
theorem Zbn {k:IntKind} {x:Int}:∀ u∈[Value.int k x],u.oneCell'=true:=by intro u hu;simp only[List.mem_singleton] at hu;subst hu;rfl
def RNfaS (n:NfaD) (w:World) (e:Ending) (w':World):Prop:=∃ a1 c1 a2 c2 a3 c3,e = .returned (.agg #[.int .i64 n.states,.slice a1 n.moves.length c1,.slice a2 n.firsts.length c2,.slice a3 n.ends.length c3]) ∧
 St w w' [Ent.row 122 3 (.slice a1 n.moves.length c1) n.moves.length (n.moves.flatMap Zac),Ent.row 3 1 (.slice a2 n.firsts.length c2) n.firsts.length (intCells n.firsts),Ent.row 3 1 (.slice a3 n.ends.length c3) n.ends.length (intCells n.ends)]
theorem ZcJ {w:World} {B e:Nat} {v:Value} {xs:List (Int × Int × Int)} (hr:w.ownsRow B e 3 v xs.length (xs.flatMap Zac)):Moves 0 w v xs :=
 ((Zaa hr).sl (by omega)).mono (Nat.zero_le _)
theorem ZdA {w:World} {B e:Nat} {v:Value} {xs:List Int} (hr:w.ownsRow B e 1 v xs.length (intCells xs)):Ints 0 w v xs :=
 ((Zaa hr).sl (by omega)).mono (Nat.zero_le _)
theorem St.moves {w0 w:World} {L:List Ent} (h:St w0 w L) (i:Nat) {e:Nat} {v:Value} {xs:List (Int × Int × Int)} (hx:L[i]? = some (Ent.row e 3 v xs.length (xs.flatMap Zac))):Moves 0 w v xs:=ZcJ (h.row i hx)
theorem Tryz.infoMv:(Tryz.prog.info? 122).map (fun i=>(i.zero,i.size,i.bytes))=some (some (.agg #[.int .i64 0,.int .i64 0,.int .i64 0]),3,24):=by kernel_rfl
theorem ZdX {s c x:Int}:∀ u∈[Value.int .i64 s,Value.int .i64 c,Value.int .i64 x],u.oneCell'=true:=by intro u hu;simp at hu;rcases hu with rfl|rfl|rfl<;>rfl
theorem Zcv (xs:List (Int × Int × Int)) (s c x:Int):(xs++[(s,c,x)]).flatMap Zac=xs.flatMap Zac++[.int .i64 s,.int .i64 c,.int .i64 x]:=by simp[Zac]
end Go.Proofs.YtehmjmjedopkkaaGreat
namespace Go.Proofs.YtehmjmjedopkkaaGreat
open Go.RowKit
section
variable {P:Program} (w:World)
theorem Zgf {w:World} {base e size n:Nat} {v:Value} {xs:List Value} (h:w.ownsRow base e size v n xs):∃ a cap,v = .slice a n cap∧n≤cap:=by
 rcases h.2 with⟨h1,h2⟩|⟨g',cap',cur,h1,-,-,h4,-⟩
 ·exact⟨none,0,by rw[h1,h2],by omega⟩
 exact⟨_,cap',h1,h4⟩
theorem Zh3 (t ty:TypeId) (base:Nat) (e:TypeId) (i:TypeInfo) (z:Value) (size bytes:Nat) (ht:P.underlying t=some (.slice e)) (hi:P.info? e=some i) (hz:i.zero=some z)
  (hsize:i.size=size) (hby:i.bytes=bytes) (hzs:z.cells.size=size) (hsz:0<size)
  (v:Value) (n:Nat) (xs:List Value) (hown:w.ownsRow base e size v n xs) (x:Value) (m:Nat) (news:List Value) (hx:Sl 0 w x m size news) (h1:∀ u∈news,u.oneCell'=true)
  (h63:n+m≤maxLen) (hbytes:(n+m)*bytes≤140737488355328) (hbase:base≤w.heap.size) :
  ∃ a' cap w',(Builtin.append_ #[t,t] ty #[v,x]).run P w = .ok (.slice a' (n+m) cap) w'∧w'.ownsRow base e size (.slice a' (n+m) cap) (n+m) (xs++news)∧w.grownBy w' v.ownBlock ∧
   (∀ k,(Value.slice a' (n+m) cap).ownBlock=some k→v.ownBlock=some k∨w.heap.size≤k):=by
 obtain⟨hl,a,cap,rfl,hle,hm,hc⟩:=hx;cases a with
 | some ad =>
  have hnews:∀ j u,news[j]? = some u→w.cell? (ad.add j)=some u:=fun j u hj=>by
   have hjl:=(List.getElem?_eq_some_iff.1 hj).1
   have hm0:0<m:=by
    rcases Nat.eq_zero_or_pos m with h0|h0
    ·rw[h0] at hl;omega
    exact h0
   obtain⟨b,off,ha,-,-,hcs⟩:=hc hm0;simp only[w_9] at ha;subst ha;rw[← hj,← hcs j (by omega),← Go.WideShapes.add_plain]
  obtain⟨v',w',hr,h2,h3,-,h5⟩:=run_append_own_at (P:=P) w base t ty e i z size bytes ht hi hz hsize hby hzs hsz v n xs hown ad m cap news hl hnews h1 h63 hbytes hbase;obtain⟨a',cap',rfl,-⟩:=Zgf h2;refine⟨a',cap',w',hr,h2,h3,fun k hk => ?_⟩;rcases h5 with h5|h5
  ·exact Or.inl (by rw[← h5];exact hk)
  rw[h5] at hk;exact Or.inr (by simp only[w_9] at hk;omega)
 | none =>
  have hm0:m=0:=by
   rcases Nat.eq_zero_or_pos m with h0|h0
   ·exact h0
   obtain⟨b,off,ha,-⟩:=hc h0;cases ha
  subst hm0;have hnil:news=[]:=List.eq_nil_of_length_eq_zero (by omega);subst hnil;obtain⟨a',cap',rfl,hlc⟩:=Zgf hown;subst hsize;refine⟨a',cap',w,run_append_nothing w t t ty e i ht hi a' n cap' hlc _ (Src.ofNil w ht cap),by simpa using hown,⟨rfl,rfl,rfl,Nat.le_refl _,fun _ _ _=>rfl⟩,fun k hk=>Or.inl hk⟩
theorem Zfd {o:Oper} {a:Act} {K:Act→World→Prop} {Q:Exit→Act→World→Prop} (s x:Operand) (t:TypeId)
  (ho:o.op = .call { callee:=.builtin .append,args:=#[s,x],argTypes:=#[t,t] })
  (base:Nat) (e:TypeId) (i:TypeInfo) (z:Value) (size bytes:Nat) (ht:P.underlying t=some (.slice e)) (hi:P.info? e=some i) (hz:i.zero=some z)
  (hsize:i.size=size) (hby:i.bytes=bytes) (hzs:z.cells.size=size) (hsz:0<size)
  (v:Value) (n:Nat) (xs:List Value) (hs:a.eval s=v) (hown:w.ownsRow base e size v n xs)
  (y:Value) (m:Nat) (news:List Value) (hy:a.eval x=y) (hx:Sl 0 w y m size news) (h1:∀ u∈news,u.oneCell'=true)
  (h63:n+m≤maxLen) (hbytes:(n+m)*bytes≤140737488355328) (hbase:base≤w.heap.size)
  (h:∀ a' cap w',w'.ownsRow base e size (.slice a' (n+m) cap) (n+m) (xs++news)→w.grownBy w' v.ownBlock→(∀ k,(Value.slice a' (n+m) cap).ownBlock=some k→v.ownBlock=some k∨w.heap.size≤k)→K (a.put o.dst (.slice a' (n+m) cap)) w'):o.wp P a w K Q:=by
 obtain⟨a',cap,w',hr,h2,h3,h4⟩:=Zh3 (P:=P) w t o.type base e i z size bytes ht hi hz hsize hby hzs hsz v n xs hown y m news hx h1 h63 hbytes hbase;unfold Oper.wp execOp;simp only[ho,resolve,invoke,builtin,Sem.run_bind,Sem.run_pure,Result.andThen_ok,List.map_toArray,List.map_cons,List.map_nil,hs,hy,hr];exact h a' cap w' h2 h3 h4
theorem Zal {ops:Array Oper} {rest:List Oper} {o:Oper} {a:Act} {Q:Exit→Act→World→Prop} (hgd:o.guard=none) (s x:Operand) (t:TypeId)
  (ho:o.op = .call { callee:=.builtin .append,args:=#[s,x],argTypes:=#[t,t] })
  (base:Nat) (e:TypeId) (i:TypeInfo) (z:Value) (size bytes:Nat) (ht:P.underlying t=some (.slice e)) (hi:P.info? e=some i) (hz:i.zero=some z)
  (hsize:i.size=size) (hby:i.bytes=bytes) (hzs:z.cells.size=size) (hsz:0<size)
  (v:Value) (n:Nat) (xs:List Value) (hs:a.eval s=v) (hown:w.ownsRow base e size v n xs)
  (y:Value) (m:Nat) (news:List Value) (hy:a.eval x=y) (hx:Sl 0 w y m size news) (h1:∀ u∈news,u.oneCell'=true)
  (h63:n+m≤maxLen) (hbytes:(n+m)*bytes≤140737488355328) (hbase:base≤w.heap.size)
  (h:∀ a' cap w',w'.ownsRow base e size (.slice a' (n+m) cap) (n+m) (xs++news)→w.grownBy w' v.ownBlock→(∀ k,(Value.slice a' (n+m) cap).ownBlock=some k→v.ownBlock=some k∨w.heap.size≤k)→wpList P ops Q rest (a.put o.dst (.slice a' (n+m) cap)) w'):wpList P ops Q (o::rest) a w :=
 wpList_plain hgd fun _ hK=>Zfd w s x t ho base e i z size bytes ht hi hz hsize hby hzs hsz v n xs hs hown y m news hy hx h1 h63 hbytes hbase fun a' cap w' h2 h3 h4=>hK _ _ (h a' cap w' h2 h3 h4)
theorem Zbo {ops:Array Oper} {o:Oper} {a:Act} {K:Act→World→Prop} {Q:Exit→Act→World→Prop} {E:Prop} (hgd:o.guard=none) (s x:Operand) (t:TypeId)
  (ho:o.op = .call { callee:=.builtin .append,args:=#[s,x],argTypes:=#[t,t] })
  (base:Nat) (e:TypeId) (i:TypeInfo) (z:Value) (size bytes:Nat) (ht:P.underlying t=some (.slice e)) (hi:P.info? e=some i) (hz:i.zero=some z)
  (hsize:i.size=size) (hby:i.bytes=bytes) (hzs:z.cells.size=size) (hsz:0<size)
  (v:Value) (n:Nat) (xs:List Value) (hs:a.eval s=v) (hown:w.ownsRow base e size v n xs)
  (y:Value) (m:Nat) (news:List Value) (hy:a.eval x=y) (hx:Sl 0 w y m size news) (h1:∀ u∈news,u.oneCell'=true)
  (h63:n+m≤maxLen) (hbytes:(n+m)*bytes≤140737488355328) (hbase:base≤w.heap.size)
  (h:∀ a' cap w',w'.ownsRow base e size (.slice a' (n+m) cap) (n+m) (xs++news)→w.grownBy w' v.ownBlock→(∀ k,(Value.slice a' (n+m) cap).ownBlock=some k→v.ownBlock=some k∨w.heap.size≤k)→K (a.put o.dst (.slice a' (n+m) cap)) w') :
  if Region.wanted o (yielded ops a.tmps)=true then Oper.wp P o a w K Q else E:=by
 have hw:Region.wanted o (yielded ops a.tmps)=true:=by simp[Region.wanted,hgd]
 rw[if_pos hw];exact Zfd w s x t ho base e i z size bytes ht hi hz hsize hby hzs hsz v n xs hs hown y m news hy hx h1 h63 hbytes hbase h
end
theorem ZpZ {x:ByteArray}:∀ u∈[Value.string x],u.oneCell'=true:=by simp[Value.oneCell']
theorem on_i {k:IntKind} {x:Int}:∀ u∈[Value.int k x],u.oneCell'=true:=by simp[Value.oneCell']
theorem ZpO (l:List Bool) (x:Bool):boolCells (l++[x])=boolCells l++[.bool x]:=by simp[boolCells]
theorem ZnV (l:List Int) (x:Int):intCells (l++[x])=intCells l++[.int .i64 x]:=by simp[intCells]
theorem Zre {xs:List Int}:∀ u∈intCells xs,u.oneCell'=true:=fun u hu=>by obtain⟨x,-,rfl⟩:=List.mem_map.1 hu;simp[Value.oneCell']
theorem ZqT {xs:List (Int × Int × Int)}:∀ u∈xs.flatMap Zac,u.oneCell'=true:=fun u hu=>by obtain⟨x,-,hx⟩:=List.mem_flatMap.1 hu;simp only[Zac,List.mem_cons,List.not_mem_nil,or_false] at hx;rcases hx with rfl|rfl|rfl<;>simp[Value.oneCell']
theorem Zdu {xs:List (Int × Int)}:∀ u∈xs.flatMap Zab,u.oneCell'=true:=fun u hu=>by obtain⟨x,-,hx⟩:=List.mem_flatMap.1 hu;simp only[Zab,List.mem_cons,List.not_mem_nil,or_false] at hx;rcases hx with rfl|rfl<;>simp[Value.oneCell']
theorem St.appS {w0 w w':World} {L:List Ent} (h:St w0 w L) (i:Nat) {B e size n m cap:Nat} {a':Option Addr} {v:Value} {cs cs':List Value} (hx:L[i]? = some (Ent.row e size v n cs)) (hown:w'.ownsRow B e size (.slice a' m cap) m cs') (hg:w.grownBy w' v.ownBlock)
  (hat:∀ k,(Value.slice a' m cap).ownBlock=some k→v.ownBlock=some k∨w.heap.size≤k):St w0 w' (L.set i (Ent.row e size (.slice a' m cap) m cs')):=h.grow i hx hg hown hat
end Go.Proofs.YtehmjmjedopkkaaGreat
namespace Go.Proofs.YtehmjmjedopkkaaGreat
open Go.RowKit Go.Maps
def fitI (x:Int):Prop:=-9223372036854775808≤x∧x≤9223372036854775807
theorem Zln {x:Int} (h:fitI x):(Lit.int .i64 x).wf=true:=WalkArith.wf_i64 h
theorem Tryz.laidOut:laidOutB Tryz.prog=true:=by kernel_rfl
theorem Ze6:5+1≤10000:=by omega
def ZaO (p:Int × Int):Value:=.agg #[.int .i64 p.1,.int .i64 p.2]
theorem ZbB:∀ x y:Int × Int,ZaO x=ZaO y→x=y:=by rintro⟨a,b⟩ ⟨c,d⟩ h;simp only[ZaO,Value.agg.injEq] at h;have h1:=congrArg (fun (l:Array Value)=>l[0]?) h;have h2:=congrArg (fun (l:Array Value)=>l[1]?) h;simp at h1 h2;rw[h1,h2]
theorem Zgw {P:Program} {t:TypeId} {D:Nat} {x:Int} (ht:P.underlying t=some (.int .i64)) (hx:fitI x):P.keyLits (D+1) t [.int .i64 x]=some [.int .i64 x]:=by unfold Program.keyLits;rw[ht];simp[Zln hx]
end Go.Proofs.YtehmjmjedopkkaaGreat
namespace Go.Proofs.YtehmjmjedopkkaaGreat
open Go.RowKit Go.Maps
theorem Zgv {P:Program} {t:TypeId} {D:Nat} {q:IntKind} {x:Int} (ht:P.underlying t=some (.int q)) (hx:(Lit.int q x).wf=true):P.keyLits (D+1) t [.int q x]=some [.int q x]:=by unfold Program.keyLits;rw[ht];simp[hx]
theorem Zjq {P:Program} {t e:TypeId} {q:IntKind} (hu:P.underlying t=some (.array 2 e)) (he:P.underlying e=some (.int q)) (hk:P.keyType t=true) (hc:P.cellsOf t=2) (hce:P.cellsOf e=1) (hrow:t<P.types.size)
  (x y:Int) (hx:(Lit.int q x).wf=true) (hy:(Lit.int q y).wf=true):∃ l,keyOf P t (.agg #[.int q x,.int q y])=some l:=by
 have hfm:(Value.agg #[.int q x,.int q y]).formed P t=true:=by simp[Value.formed,hu,hc]
 obtain⟨n,hn⟩:∃ n,P.types.size=n+1:=⟨P.types.size-1,(Nat.succ_pred_eq_of_pos (Nat.lt_of_le_of_lt (Nat.zero_le _) hrow)).symm⟩;have e1:=Zgv (D:=n) he hx;have e2:=Zgv (D:=n) he hy;have hlits:P.keyLits (P.types.size+1) t (Value.agg #[.int q x,.int q y]).cells.toList=some [.int q x,.int q y]:=by rw[hn];show P.keyLits (n+1+1) t [.int q x,.int q y]=_;unfold Program.keyLits;rw[hu];simp[hc,hce,List.range_succ,e1,e2]
 exact⟨_,by unfold keyOf;rw[hu];simp only[hk,hfm,Bool.and_self,if_true,hlits];rfl⟩
theorem ZqK {q:IntKind}:∀ x y:Int × Int,(Value.agg #[.int q x.1,.int q x.2]) = .agg #[.int q y.1,.int q y.2]→x=y:=by rintro⟨a,b⟩ ⟨c,d⟩ h;simp only[Value.agg.injEq] at h;have h1:=congrArg (fun (l:Array Value)=>l[0]?) h;have h2:=congrArg (fun (l:Array Value)=>l[1]?) h;simp at h1 h2;rw[h1,h2]
theorem Tryz.rowPr:(170:TypeId)<Tryz.prog.types.size:=of_decide_eq_true (by kernel_rfl)
theorem Tryz.widePr:(match Tryz.prog.underlying 170 with|some (.array _ _)|some (.struct _)=>true|_=>false)=true:=by kernel_rfl
theorem Tryz.keyPr:Tryz.prog.keyType 170 = true:=by kernel_rfl
theorem Tryz.keyAtPr:Tryz.prog.keyTypeAt 5 170 = true:=by kernel_rfl
theorem Tryz.cellsPr:Tryz.prog.cellsOf 170 = 2:=by kernel_rfl
theorem Tryz.cellsInt:Tryz.prog.cellsOf 3 = 1:=by kernel_rfl
theorem Tryz.kindPr:Tryz.prog.underlying 170 = some (.array 2 3):=by kernel_rfl
theorem Tryz.lawPr:Keyed Tryz.prog 170:=Keyed.of_law (deep_law_laid Tryz.laidOut Ze6 Tryz.rowPr Tryz.keyAtPr Tryz.widePr)
theorem Tryz.keyOfPr (p:Int × Int) (h1:fitI p.1) (h2:fitI p.2):∃ l,keyOf Tryz.prog 170 (ZaO p)=some l :=
 Zjq Tryz.kindPr Tryz.underlying3 Tryz.keyPr Tryz.cellsPr Tryz.cellsInt Tryz.rowPr _ _ (Zln h1) (Zln h2)
end Go.Proofs.YtehmjmjedopkkaaGreat
namespace Go.Proofs.YtehmjmjedopkkaaGreat
open Go.RowKit Go.Maps
def fitU (x:Int):Prop:=0≤x∧x≤18446744073709551615
theorem Zoa {x:Int} (h:fitU x):(Lit.int .u64 x).wf=true:=WalkArith.wf_u64 h
def ZcB (p:Int × Int):Value:=.agg #[.int .u64 p.1,.int .u64 p.2]
theorem Zcq:∀ x y:Int × Int,ZcB x=ZcB y→x=y:=ZqK
def Zbh (p:Int × Int):List Value:=[.int .u64 p.1,.int .u64 p.2]
def Zrh (e lo hi:Nat) (w:World) (v:Value) (xs:List (Int × Int)):Prop:=Own lo hi w e 2 v xs.length (xs.flatMap Zbh)
theorem Tryz.rowSet:(151:TypeId)<Tryz.prog.types.size:=of_decide_eq_true (by kernel_rfl)
theorem Tryz.wideSet:(match Tryz.prog.underlying 151 with|some (.array _ _)|some (.struct _)=>true|_=>false)=true:=by kernel_rfl
theorem Tryz.keySet:Tryz.prog.keyType 151 = true:=by kernel_rfl
theorem Tryz.keyAtSet:Tryz.prog.keyTypeAt 5 151 = true:=by kernel_rfl
theorem Tryz.cellsSet:Tryz.prog.cellsOf 151 = 2:=by kernel_rfl
theorem Tryz.cellsU64:Tryz.prog.cellsOf 149 = 1:=by kernel_rfl
theorem Tryz.kindSet:Tryz.prog.underlying 151 = some (.array 2 149):=by kernel_rfl
theorem Tryz.lawSet:Keyed Tryz.prog 151:=Keyed.of_law (deep_law_laid Tryz.laidOut Ze6 Tryz.rowSet Tryz.keyAtSet Tryz.wideSet)
theorem Tryz.keyOfSet (p:Int × Int) (h1:fitU p.1) (h2:fitU p.2):∃ l,keyOf Tryz.prog 151 (ZcB p)=some l :=
 Zjq Tryz.kindSet Tryz.underlying149 Tryz.keySet Tryz.cellsSet Tryz.cellsU64 Tryz.rowSet _ _ (Zoa h1) (Zoa h2)
end Go.Proofs.YtehmjmjedopkkaaGreat
namespace Go.Proofs.YtehmjmjedopkkaaGreat
open Go.RowKit
theorem Tryz.infoInt:(Tryz.prog.info? 3).map (fun i=>(i.zero,i.size,i.bytes))=some (some (.int .i64 0),1,8):=by kernel_rfl
theorem Tryz.infoBool:(Tryz.prog.info? 4).map (fun i=>(i.zero,i.size,i.bytes))=some (some (.bool false),1,1):=by kernel_rfl
theorem Tryz.infoInts:(Tryz.prog.info? 59).map (fun i=>(i.zero,i.size,i.bytes))=some (some (.slice none 0 0),1,24):=by kernel_rfl
theorem Zc3 {xs:List Value} {n k:Nat} {cs:List Value} {u:Value} (hl:cs.length=n) (hx:xs.length=n) (hk:k<n) (h:cs.take k=xs.take k) (hu:xs[k]? = some u) :
  (cs.set k u).take (k+1)=xs.take (k+1):=by
 apply List.ext_getElem?;intro j;rw[List.getElem?_take,List.getElem?_take];by_cases hj:j<k+1
 ·rw[if_pos hj,if_pos hj,List.getElem?_set];by_cases he:k=j
  ·subst he;rw[if_pos rfl,if_pos (by omega),hu]
  rw[if_neg he];have:=congrArg (fun l=>l[j]?) h;simpa [List.getElem?_take,show j<k by omega] using this
 rw[if_neg hj,if_neg hj]
def small (d:DfaD):Prop:=d.next.length≤1048576∧(∀ i,i<d.next.length→(d.next.getD i []).length≤1048576)∧d.ends.length≤1048576
end Go.Proofs.YtehmjmjedopkkaaGreat
namespace Go.Proofs.YtehmjmjedopkkaaGreat
open Go.RowKit Go.Maps
section
variable {α:Type}
structure ExW (kt sz:Nat) (enc:α→Value) (cel:α→List Value) (B B1 B2 B4 hi:Nat) (w:World) (met:List α) (rows:List (List Int)) (ends:List Bool) (vm vn ve:Value):Prop where
 m:w.ownsRow B kt sz vm met.length (met.flatMap cel)
 n:MapL Tryz.prog kt enc w B2 (numbered met)
 r:Bx w B1 #[.slice none 0 0,.slice none 0 0] 32
 d:Bx w B4 #[vn,ve] 32
 nx:OIntSS 59 3 B hi w vn rows
 en:w.ownsRow B 4 1 ve ends.length (boolCells ends)
 ne:B1≠B4
variable {kt sz B B1 B2 B4 hi:Nat} {enc:α→Value} {cel:α→List Value} {w w':World} {met:List α} {rows:List (List Int)} {ends:List Bool} {vm vn ve:Value}
theorem ExW.below (h:ExW kt sz enc cel B B1 B2 B4 hi w met rows ends vm vn ve) (hb:Below w.heap.size w w'):ExW kt sz enc cel B B1 B2 B4 hi w' met rows ends vm vn ve :=
 ⟨(Own.below (Zaa h.m) hb).1,h.n.below hb,h.r.below hb h.r.lt,h.d.below hb h.d.lt,h.nx.below hb,(Own.below (Zaa h.en) hb).1,h.ne⟩
theorem ExW.up {hi':Nat} (h:ExW kt sz enc cel B B1 B2 B4 hi w met rows ends vm vn ve) (hh:hi≤hi'):ExW kt sz enc cel B B1 B2 B4 hi' w met rows ends vm vn ve :=
 ⟨h.m,h.n,h.r,h.d,h.nx.mono (Nat.le_refl _) hh,h.en,h.ne⟩
def Own4 (kt:Nat):Prop:=kt ≠ 3 ∧ kt ≠ 59 ∧ kt ≠ 4 ∧ kt ≠ 32
theorem ExW.newState (hk:Own4 kt) (h:ExW kt sz enc cel B B1 B2 B4 hi w met rows ends vm vn ve) {x:α} {w1 w2 w3:World} {vm':Value} (hn:MapL Tryz.prog kt enc w1 B2 (numbered (met++[x]))) (hg1:w.grownBy w1 (some B2))
  (hb:Below w1.heap.size w1 w2) (hown:w3.ownsRow B kt sz vm' (met.length+1) (met.flatMap cel++cel x)) (hg2:w2.grownBy w3 vm.ownBlock) :
  ExW kt sz enc cel B B1 B2 B4 hi w3 (met++[x]) rows ends vm' vn ve:=by
 obtain⟨k1,k2,k3,k4⟩:=hk;have a:∀ e,Zcd w (some B2) e:=fun e=>h.n.apart
 have m2:w2.ownsRow B kt sz vm met.length (met.flatMap cel):=(Own.below (Zaa (Zah h.m hg1 (a _))) hb).1;have b:∀ e,kt≠e→Zcd w2 vm.ownBlock e:=fun e he=>Zam m2 he
 refine⟨?_,(hn.below hb).grown hg2 (Zcl m2),?_,?_,?_,?_,h.ne⟩
 ·simpa using hown
 ·have r1:=h.r.grown hg1 (a _);exact(r1.below hb r1.lt).grown hg2 (b _ k4)
 ·have r1:=h.d.grown hg1 (a _);exact(r1.below hb r1.lt).grown hg2 (b _ k4)
 ·exact((h.nx.grown hg1 (a _) (a _)).below hb).grown hg2 (b _ k2) (b _ k1)
 exact Zah (Own.below (Zaa (Zah h.en hg1 (a _))) hb).1 hg2 (b _ k3)
theorem ExW.setRow (hk:Own4 kt) (h:ExW kt sz enc cel B B1 B2 B4 hi w met rows ends vm vn ve) {R n:Nat} {cs:List Value} (hR:hi≤R) {base:Nat} (hrow:w.ownsRow base 3 1 (.slice (some ⟨R,0,none⟩) n n) n cs) (j:Nat) (v:Value) :
  ExW kt sz enc cel B B1 B2 B4 hi (w.setCell ⟨R,j,none⟩ v) met rows ends vm vn ve:=by
 obtain⟨k1,k2,k3,k4⟩:=hk;have hg:=ZaJ w R j v;have a:∀ e,3 ≠ e→Zcd w (some R) e:=fun e he=>Zam (v:=.slice (some ⟨R,0,none⟩) n n) hrow he
 have c:ZfV w (some R):=Zcl (v:=.slice (some ⟨R,0,none⟩) n n) hrow;exact⟨Zah h.m hg (a _ (Ne.symm k1)),h.n.grown hg c,h.r.grown hg (a _ (by decide)),h.d.grown hg (a _ (by decide)),h.nx.far hR j v,Zah h.en hg (a _ (by decide)),h.ne⟩
theorem Zk3 {w1 w2 w3:World} {R n base e:Nat} {cs:List Value} {vm:Value} {b2 mb:Nat} {ms:List Value} (hrow:w.ownsRow base e 1 (.slice (some ⟨R,0,none⟩) n n) n cs) (hne:kt≠e)
  (hm2:w2.ownsRow mb kt sz vm b2 ms) (ha:Zcd w (some B2) e) (hg1:w.grownBy w1 (some B2)) (hb:Below w1.heap.size w1 w2) (hg2:w2.grownBy w3 vm.ownBlock):w3.ownsRow base e 1 (.slice (some ⟨R,0,none⟩) n n) n cs :=
 Zah (Own.below (Zaa (Zah hrow hg1 ha)) hb).1 hg2 (Zam hm2 hne)
theorem ExW.addRow (hk:Own4 kt) (h:ExW kt sz enc cel B B1 B2 B4 hi w met rows ends vm vn ve) {vs:List Value} {rv vn':Value} {x:List Int} {w3:World} {lr:Nat}
  (h1:Own B hi w 59 1 vn rows.length vs) (h2:∀ i,i<rows.length→OInts 3 B hi w (vs.getD i undef) (rows.getD i []))
  (h3:∀ i j k,i<j→j<rows.length→(vs.getD i undef).ownBlock=some k→(vs.getD j undef).ownBlock≠some k)
  (hrow:OInts 3 lr w.heap.size w rv x) (hlr:hi≤lr) (hlo:B≤lr) (hg:w.grownBy w3 vn.ownBlock) (hown:w3.ownsRow B 59 1 vn' (rows.length+1) (vs++[rv])) :
  ExW kt sz enc cel B B1 B2 B4 w3.heap.size (w3.setCell ⟨B4,0,none⟩ vn') met (rows++[x]) ends vm vn' ve:=by
 obtain⟨k1,k2,k3,k4⟩:=hk;have a:∀ e,59 ≠ e→Zcd w vn.ownBlock e:=fun e he=>Zam h1.1 he
 have d3:Bx w3 B4 #[vn,ve] 32:=h.d.grown hg (a _ (by decide));have hg4:=ZaJ w3 B4 0 vn';have b:∀ e,32 ≠ e→Zcd w3 (some B4) e:=fun e he=>d3.apart he
 have r3:Bx w3 B1 #[.slice none 0 0,.slice none 0 0] 32:=h.r.grown hg (a _ (by decide));have n4:MapL Tryz.prog kt enc (w3.setCell ⟨B4,0,none⟩ vn') B2 (numbered met):=(h.n.grown hg (Zcl h1.1)).grown hg4 d3.cells;refine⟨Zah (Zah h.m hg (a _ (Ne.symm k2))) hg4 (b _ (Ne.symm k4)),n4,?_,d3.set 0 vn',?_,Zah (Zah h.en hg (a _ (by decide))) hg4 (b _ (by decide)),h.ne⟩
 ·exact r3.set_ne _ _ h.ne
 exact(OIntSS.snoc h1 h2 h3 hrow hlr hlo (by decide) hg hown).grown hg4 (b _ (by decide)) (b _ (by decide))
theorem ExW.addEnd (hk:Own4 kt) (h:ExW kt sz enc cel B B1 B2 B4 hi w met rows ends vm vn ve) {w3:World} {ve':Value} {e:Bool} (hg:w.grownBy w3 ve.ownBlock) (hown:w3.ownsRow B 4 1 ve' (ends.length+1) (boolCells ends++[.bool e])) :
  ExW kt sz enc cel B B1 B2 B4 hi (w3.setCell ⟨B4,1,none⟩ ve') met rows (ends++[e]) vm vn ve':=by
 obtain⟨k1,k2,k3,k4⟩:=hk;have a:∀ t,4 ≠ t→Zcd w ve.ownBlock t:=fun t ht=>Zam h.en ht
 have d3:Bx w3 B4 #[vn,ve] 32:=h.d.grown hg (a _ (by decide));have hg4:=ZaJ w3 B4 1 ve';have b:∀ t,32 ≠ t→Zcd w3 (some B4) t:=fun t ht=>d3.apart ht
 have r3:Bx w3 B1 #[.slice none 0 0,.slice none 0 0] 32:=h.r.grown hg (a _ (by decide));have n4:MapL Tryz.prog kt enc (w3.setCell ⟨B4,1,none⟩ ve') B2 (numbered met):=(h.n.grown hg (Zcl h.en)).grown hg4 d3.cells;refine⟨Zah (Zah h.m hg (a _ (Ne.symm k3))) hg4 (b _ (Ne.symm k4)),n4,r3.set_ne _ _ h.ne,d3.set 1 ve',(h.nx.grown hg (a _ (by decide)) (a _ (by decide))).grown hg4 (b _ (by decide)) (b _ (by decide)),?_,h.ne⟩;refine Zah ?_ hg4 (b _ (by decide));simpa using hown
end
end Go.Proofs.YtehmjmjedopkkaaGreat
namespace Go.Proofs.YtehmjmjedopkkaaGreat
open Go.RowKit
structure Touch (e lo hi:Nat) (w w':World):Prop where
 os:w'.os=w.os
 tape:w'.tape=w.tape
 output:w'.output=w.output
 size:w.heap.size≤w'.heap.size
 block:∀ k,k<w.heap.size→((k<lo∨hi≤k)∨∀ cur fr,w.heap[k]? ≠ some (.cells cur e fr))→w'.heap[k]? = w.heap[k]?
theorem Touch.refl (e lo hi:Nat) (w:World):Touch e lo hi w w:=⟨rfl,rfl,rfl,Nat.le_refl _,fun _ _ _=>rfl⟩
theorem Touch.trans {e lo hi:Nat} {a b c:World} (h:Touch e lo hi a b) (k:Touch e lo hi b c):Touch e lo hi a c:=by
 refine⟨k.os.trans h.os,k.tape.trans h.tape,k.output.trans h.output,Nat.le_trans h.size k.size,fun i hi hh => ?_⟩;have e1:=h.block i hi hh;refine(k.block i (Nat.lt_of_lt_of_le hi h.size) ?_).trans e1;rcases hh with hh|hh
 ·exact .inl hh
 exact .inr (by rw[e1];exact hh)
theorem Touch.only {e lo hi:Nat} {a b:World} (h:Touch e lo hi a b):Only lo hi a b:=⟨h.os,h.tape,h.output,h.size,fun k hk hh=>h.block k hk (.inl hh)⟩
theorem Own.lt' {lo hi e size n:Nat} {w:World} {v:Value} {cs:List Value} (h:Own lo hi w e size v n cs):w.ownsRow lo e size v n cs:=h.1
theorem OIntSS.row {es e lo hi:Nat} {w w':World} {v:Value} {xss:List (List Int)} {vs:List Value} {x:List Int} {j:Nat} (hne:es≠e)
  (h1:Own lo hi w es 1 v xss.length vs) (h2:∀ i,i<xss.length→OInts e lo hi w (vs.getD i undef) (xss.getD i []))
  (h3:∀ i j k,i<j→j<xss.length→(vs.getD i undef).ownBlock=some k→(vs.getD j undef).ownBlock≠some k)
  (hj:j<xss.length) (hx:OInts e lo hi w' (vs.getD j undef) x) (hg:w.grownBy w' (vs.getD j undef).ownBlock) :
  Own lo hi w' es 1 v (xss.set j x).length vs∧(∀ i,i<(xss.set j x).length→OInts e lo hi w' (vs.getD i undef) ((xss.set j x).getD i [])) ∧
   (∀ i j' k,i<j'→j'<(xss.set j x).length→(vs.getD i undef).ownBlock=some k→(vs.getD j' undef).ownBlock≠some k):=by
 have ha:Zcd w (vs.getD j undef).ownBlock es:=Zam (Own.lt' (h2 j hj)) (Ne.symm hne);rw[List.length_set];refine⟨h1.grown hg ha,fun i hi => ?_,h3⟩;by_cases hij:j=i
 ·subst hij;have:(xss.set j x).getD j []=x:=by simp[hj]
  rw[this];exact hx
 have:(xss.set j x).getD i []=xss.getD i []:=by simp[List.getElem?_set_ne hij]
 rw[this];refine Own.kept (h2 i hi) fun k hk=>hg.block k (Own.lt (h2 i hi) k hk).2.2 fun hr => ?_
 rcases Nat.lt_or_gt_of_ne hij with hlt|hgt
 ·exact h3 j i k hlt hi hr.symm hk
 exact h3 i j k hgt hj hk hr.symm
theorem ZiY {l:List Int} {k:Nat} (hk:k<l.length):setV (l.take (k+1))=adj (setV (l.take k)) (l.getD k 0).toNat:=by unfold setV;exact ZbX _ _ hk 0
end Go.Proofs.YtehmjmjedopkkaaGreat
namespace Go.Proofs.YtehmjmjedopkkaaGreat
open Go.RowKit
abbrev nfaC (n:NfaD) (v1 v2 v3:Value):Array Value:=#[.int .i64 n.states,v1,v2,v3]
theorem ZdM {v:Nat} {c:Int} {u:Nat} {m:Int × Int × Int} (h:(decide (m.2.1=c)&&v.testBit m.1.toNat)=false):ZaN v c u m=u:=by unfold ZaN;simp[h]
end Go.Proofs.YtehmjmjedopkkaaGreat
namespace Go.Proofs.YtehmjmjedopkkaaGreat
open Go.RowKit
def fstV (n:NfaD):Nat:=clV 40 n.moves (setV n.firsts)
def endV (n:NfaD) (x:Nat):Bool:=n.ends.any fun s=>x.testBit s.toNat
end Go.Proofs.YtehmjmjedopkkaaGreat
