/-
  Expressions as lists of parts, plain: what a part needs, how deep the stack is, where operands begin.
  No condition: this text speaks of no program.
  The walks over the reference's PartValid, PartNeeds, ExprValid, l12Plain, l2Start, l2Split.
  Conditions: the list of parts reads as such, and is not long.
-/
import Derived.Test.YtehmjmjedopkkaaGreatPo05Me
set_option maxHeartbeats 4000000
set_option maxRecDepth 100000
namespace Go.Proofs.YtehmjmjedopkkaaGreat
open Go.RowKit
def pOk (p:Int × Int):Bool:=inB p.1 1 8&&(decide (p.1=3)&&inB p.2 0 2||(!decide (p.1=3)&&decide (p.2=0)))
def Zag (p:Int × Int):Int:=if pOk p=true then(if p.1=1∨p.1=2∨p.1=3 then 0 else if p.1=7∨p.1=8 then 1 else 2) else -1
theorem Zb7 (p:Int × Int):-1≤Zag p∧Zag p≤2:=by
 unfold Zag
 split<;>(try split)<;>(try split)<;>omega
theorem Zei {p:Int × Int} (h:0≤Zag p):pOk p=true:=by
 unfold Zag at h
 split at h
 ·assumption
 omega
def dep (es:List (Int × Int)):Nat→Int
 | 0=>0
 | k+1=>dep es k-Zag (es.getD k (0,0))+1
theorem Zfp (es:List (Int × Int)):∀ k:Nat,-(2*k:Int)≤dep es k∧dep es k≤2*k
 | 0=>by simp[dep]
 | k+1=>by have ih:=Zfp es k;have:=Zb7 (es.getD k (0,0));unfold dep;omega
def exAt (es:List (Int × Int)) (k:Nat):Bool:=decide (0≤Zag (es.getD k (0,0)))&&decide (Zag (es.getD k (0,0))≤dep es k)
def exOk (es:List (Int × Int)):Bool:=(List.range es.length).all (exAt es)&&decide (dep es es.length=1)&&decide (es.length≤60)
theorem Zcx {es:List (Int × Int)} (h:exOk es=true):(∀ k,k<es.length→0≤Zag (es.getD k (0,0))∧Zag (es.getD k (0,0))≤dep es k)∧dep es es.length=1∧1≤es.length∧es.length≤60:=by
 simp only[exOk,exAt,Bool.and_eq_true,List.all_eq_true,List.mem_range,decide_eq_true_eq] at h;refine⟨h.1.1,h.1.2,?_,h.2⟩;cases es with
 | nil=>have:=h.1.2;simp[dep] at this
 | cons=>simp
theorem Zlq {es:List (Int × Int)} {k:Nat} (hk:k<es.length) (h:exAt es k=false):exOk es=false:=by
 cases he:exOk es with
 | false=>rfl
 | true =>obtain⟨h1,-⟩:=Zcx he;obtain⟨a,b⟩:=h1 k hk;simp only[exAt,decide_eq_true a,decide_eq_true b,Bool.and_self] at h;cases h
theorem ZqF {es:List (Int × Int)} (h:∀ k,k<es.length→0≤Zag (es.getD k (0,0))∧Zag (es.getD k (0,0))≤dep es k):∀ k,0<k→k≤es.length→1≤dep es k
 | 0,h0,_=>by omega
 | k+1,_,hk=>by have:=h k (by omega);unfold dep;omega
def Zcn (es:List (Int × Int)) (n a:Nat):Prop:=a<n∧dep es a=dep es n-1∧∀ j,a<j→j<n→dep es j≠dep es n-1
theorem ZoG {es:List (Int × Int)} {n:Nat} (h:∀ k,k<n→0≤Zag (es.getD k (0,0))) (hn:1≤dep es n):∃ a,Zcn es n a:=by
 have key:∀ m,m≤n→(∀ j,m≤j→j<n→dep es j≠dep es n-1)→(m=n∨dep es n≤dep es m)→∃ a,Zcn es n a:=by
  intro m
  induction m with
  | zero =>
   intro _ hj hm;exfalso;have h0:dep es 0=0:=rfl;rcases hm with hm|hm
   ·subst hm;omega
   omega
  | succ m ih =>
   intro hmn hj hm;have hs:dep es (m+1)=dep es m-Zag (es.getD m (0,0))+1:=rfl;have hp:=h m (by omega)
   have hge:dep es n≤dep es (m+1):=by
    rcases hm with hm|hm
    ·rw[hm];exact Int.le_refl _
    exact hm
   by_cases he:dep es m=dep es n-1
   ·exact⟨m,by omega,he,fun j h1 h2=>hj j (by omega) h2⟩
   exact ih (by omega) (fun j h1 h2=>by
    by_cases hjm:j=m
    ·rw[hjm];exact he
    exact hj j (by omega) h2) (Or.inr (by omega))
 exact key n (Nat.le_refl _) (fun j h1 h2=>by omega) (Or.inl rfl)
end Go.Proofs.YtehmjmjedopkkaaGreat
namespace Go.Proofs.YtehmjmjedopkkaaGreat
open Go.RowKit
theorem Zap {a b:Int} (h:a≠b):(a==b)=false∧(a=b)=False∧(a != b)=true∧(!(a==b))=true:=by simp[h]
theorem Zeh (k l:Int) (w:World) (r:Bool) (hr:pOk (k,l)=r) :
  Calls Tryz.prog 100 #[.agg #[.int .i64 k,.int .i64 l]] w fun e w'=>e = .returned (.bool r)∧Below w.heap.size w w':=by
 unfold pOk at hr;simp only at hr;cases h1:inB k 1 8
 ·rw[h1,Bool.false_and] at hr;subst hr;have H1:=qh h1;clear h1
  go_enter Tryz.func100, Tryz.ntmps100
  go_wp2_with (go_at_call 63;refine(Zbu _ _ _ _ _ H1.out).mono ?_;rintro e w' ⟨rfl,rfl⟩);go_ret;exact⟨rfl,(Below.refl _ _).alloc (Nat.le_refl _) _⟩
 rw[h1,Bool.true_and] at hr;have H1:=qh h1;clear h1;by_cases h3:k=3
 ·subst h3;cases h2:inB l 0 2
  ·rw[h2] at hr;have hr:false=r:=hr;subst hr;have H2:=qh h2;clear h2
   go_enter Tryz.func100, Tryz.ntmps100
   go_wp2_with (go_at_call 63;(first|(with_reducible refine(Zbu _ _ _ _ _ H1.out).mono ?_)|(with_reducible refine(Zbu _ _ _ _ _ H2.out).mono ?_));rintro e w' ⟨rfl,rfl⟩);go_ret;exact⟨rfl,(Below.refl _ _).alloc (Nat.le_refl _) _⟩
  rw[h2] at hr;have hr:true=r:=hr;subst hr;have H2:=qh h2;clear h2
  go_enter Tryz.func100, Tryz.ntmps100
  go_wp2_with (go_at_call 63;(first|(with_reducible refine(Zbu _ _ _ _ _ H1.out).mono ?_)|(with_reducible refine(Zbu _ _ _ _ _ H2.out).mono ?_));rintro e w' ⟨rfl,rfl⟩);go_ret;exact⟨rfl,(Below.refl _ _).alloc (Nat.le_refl _) _⟩
 obtain⟨q1,q2,q3,q4⟩:=Zap h3;rw[decide_eq_false h3] at hr;replace h3:=qh h3;by_cases h0:l=0
 ·subst h0;have hr:true=r:=hr;subst hr
  go_enter Tryz.func100, Tryz.ntmps100
  go_wp2_with (go_at_call 63;refine(Zbu _ _ _ _ _ H1.out).mono ?_;rintro e w' ⟨rfl,rfl⟩);go_ret;exact⟨rfl,(Below.refl _ _).alloc (Nat.le_refl _) _⟩
 obtain⟨p1,p2,p3,p4⟩:=Zap h0;rw[decide_eq_false h0] at hr;have hr:false=r:=hr;subst hr;replace h0:=qh h0
 go_enter Tryz.func100, Tryz.ntmps100
 go_wp2_with (go_at_call 63;refine(Zbu _ _ _ _ _ H1.out).mono ?_;rintro e w' ⟨rfl,rfl⟩);go_ret;exact⟨rfl,(Below.refl _ _).alloc (Nat.le_refl _) _⟩
theorem ZbL (k l:Int) (w:World) (n:Int) (hn:Zag (k,l)=n) :
  Calls Tryz.prog 62 #[.agg #[.int .i64 k,.int .i64 l]] w fun e w'=>e = .returned (.int .i64 n)∧Below w.heap.size w w':=by
 have hS0:=(St.start w).alloc _ rfl #[.int .i64 k,.int .i64 l] 55;have e0:=hS0.cell (v:=.int .i64 k) 0 0 rfl rfl;have e1:=hS0.cell (v:=.int .i64 l) 0 1 rfl rfl;cases h:pOk (k,l)
 ·have hn1:n = -1:=by rw[← hn];unfold Zag;rw[if_neg (by simp[h])]
  subst hn1;have H:=qh h;replace hS0:=qh hS0;clear hn h
  go_enter Tryz.func62, Tryz.ntmps62
  go_wp2_with fail;refine(Zeh k l _ _ H.out).mono ?_;rintro e w1 ⟨rfl,hb1⟩;have HS1:=qh (hS0.out.call hb1);clear hb1;go_wp2;go_ret;exact⟨rfl,HS1.out.bel⟩
 have hk:k=1∨k=2∨k=3∨k=4∨k=5∨k=6∨k=7∨k=8:=by have h':=h;unfold pOk at h';simp only[Bool.and_eq_true] at h';have:=Zew h'.1;omega
 have hn1:n=if k=1∨k=2∨k=3 then 0 else if k=7∨k=8 then 1 else 2:=by rw[← hn];unfold Zag;rw[if_pos h]
 have H:=qh h;replace hS0:=qh hS0;clear hn h;rcases hk with rfl|rfl|rfl|rfl|rfl|rfl|rfl|rfl
 all_goals
  simp at hn1;subst hn1
  go_enter Tryz.func62, Tryz.ntmps62
  go_wp2_with fail;refine(Zeh _ l _ _ H.out).mono ?_;rintro e w1 ⟨rfl,hb1⟩;have c0:=(hS0.out.call hb1).cell (v:=.int .i64 _) 0 0 rfl rfl;have HS1:=qh (hS0.out.call hb1);clear hb1;go_wp2;go_ret;exact⟨rfl,HS1.out.bel⟩
theorem ZjB (xs:List (Int × Int)):∀ n:Nat,(xs.take n).flatMap Zab=(xs.flatMap Zab).take (n*2):=by
 induction xs with
 | nil=>intro n;simp
 | cons x l ih =>
  intro n;cases n with
  | zero=>simp
  | succ n =>rw[List.take_succ_cons,List.flatMap_cons,List.flatMap_cons,ih n,show(n+1)*2=n*2+2 by omega];rfl
theorem ZjC (xs:List (Int × Int)):∀ n:Nat,(xs.drop n).flatMap Zab=(xs.flatMap Zab).drop (n*2):=by
 induction xs with
 | nil=>intro n;simp
 | cons x l ih =>
  intro n;cases n with
  | zero=>simp
  | succ n =>rw[List.drop_succ_cons,List.flatMap_cons,ih n,show(n+1)*2=n*2+2 by omega];rfl
theorem Pairs.take {w:World} {a:Option Addr} {len cap:Nat} {xs:List (Int × Int)} (h:Pairs 0 w (.slice a len cap) xs) {n:Nat} (hn:n≤xs.length):Pairs 0 w (.slice a n cap) (xs.take n):=by
 obtain⟨hl,a',cap',hv,h1,h2,h3⟩:=h;simp only[Value.slice.injEq] at hv;obtain⟨rfl,rfl,rfl⟩:=hv;have e:(xs.take n).length=n:=by rw[List.length_take];omega
 unfold Pairs;rw[e];refine⟨by rw[ZjB,List.length_take];omega,a,cap,rfl,by omega,h2,fun hn0 => ?_⟩;obtain⟨b,off,ha,hb,hlt,hc⟩:=h3 (by omega);refine⟨b,off,ha,hb,hlt,fun j hj => ?_⟩;rw[hc j (by omega),ZjB,List.getElem?_take_of_lt hj]
theorem Pairs.drop {w:World} {b off len cap:Nat} {xs:List (Int × Int)} (h:Pairs 0 w (.slice (some ⟨b,off,none⟩) len cap) xs) {n:Nat} (hn:n<xs.length):Pairs 0 w (.slice (some ⟨b,off+n*2,none⟩) (xs.length-n) (cap-n)) (xs.drop n):=by obtain⟨hl,a',cap',hv,h1,h2,h3⟩:=h;simp only[Value.slice.injEq] at hv;obtain⟨rfl,rfl,rfl⟩:=hv;unfold Pairs;rw[List.length_drop];refine⟨by rw[ZjC,List.length_drop];omega,_,_,rfl,by omega,by omega,fun hn0 => ?_⟩;obtain⟨b',off',ha,hb,hlt,hc⟩:=h3 (by omega);simp only[w_9,Addr.mk.injEq,and_true] at ha;obtain⟨rfl,rfl⟩:=ha;refine⟨b,off+n*2,rfl,hb,hlt,fun j hj => ?_⟩;rw[show off+n*2+j=off+(n*2+j) by omega,hc _ (by omega),ZjC,List.getElem?_drop]
theorem ZeC (es:List (Int × Int)) (v:Value) (w:World) (hlen:es.length≤2000000) (h:Pairs 0 w v es) (r:Bool) (hr:exOk es=r) :
  Calls Tryz.prog 31 #[v] w fun e w'=>e = .returned (.bool r)∧Below w.heap.size w w':=by
 obtain⟨a,c,rfl,hc1,hc2,hrd⟩:=h.form;have Hrd:=qh hrd;have Hr:=qh hr;clear h hr hrd
 go_enter Tryz.func31, Tryz.ntmps31
 go_wp2
 go_loopw [3,4] (fun vd i wr=>∃ k:Nat,i = .int .i64 k∧k≤es.length∧vd = .int .i64 (dep es k)∧(∀ j,j<k→exAt es j=true)∧Below w.heap.size w wr) (fun _ i _=>es.length-(intOf i).toNat)
 case atStart=>exact⟨0,rfl,Nat.zero_le _,rfl,fun j hj=>absurd hj (by omega),Below.refl _ _⟩
 case round =>
  obtain⟨k,rfl,hk,rfl,hall,hb⟩:=hrel;have hdi:=Zfp es k;have hds:dep es (k+1)=dep es k-Zag (es.getD k (0,0))+1:=rfl;have hpi:=Zb7 (es.getD k (0,0));have hex:exAt es k=(decide (0≤Zag (es.getD k (0,0)))&&decide (Zag (es.getD k (0,0))≤dep es k)):=rfl;have Hall:=qh hall;have Hb:=qh hb;clear hall hb;by_cases hlt:k<es.length
  ·have hlt2:(k:Int)<es.length:=by omega
   obtain⟨b,o,rfl,-,hbl,hcs⟩:=Hrd.out (by omega);obtain⟨g1,g2⟩:=hcs k hlt;have k1:=(bcell Hb.out b _ hbl).trans g1;have k2:=(bcell Hb.out b _ hbl).trans g2;obtain⟨p,hp⟩:=eI (es.getD k (0,0));rw[← hp] at k1 k2 hds hpi hex;obtain⟨p1,p2⟩:=p;simp only at k1 k2;obtain⟨n,hn⟩:=eI (Zag (p1,p2));rw[← hn] at hds hpi hex;obtain⟨D,hD⟩:=eI (dep es k);rw[← hD] at hds hdi hex;rw[← hD];obtain⟨hd1,hd2⟩:=hdi;obtain⟨hp1,hp2⟩:=hpi;have Hds:=qh hds;have Hex:=qh hex;replace hp:=qh hp;replace hn:=qh hn;replace hD:=qh hD;clear hds hex hcs g1 g2;go_wp2_with fail;refine(ZbL p1 p2 _ _ hn.out.symm).mono ?_;rintro e w1 ⟨rfl,hb1⟩;have Hb1:=qh (Hb.out.trans (hb1.mono Hb.out.size));clear hb1 k1 k2;by_cases hn0:n<0
   ·have q1:(n<0)=True:=by simp[hn0]
    have hrf:false=r:=by rw[← Hr.out];exact(Zlq hlt (by rw[Hex.out,decide_eq_false (by omega)];rfl)).symm
    subst hrf;go_wp2;go_ret;exact⟨rfl,Hb1.out⟩
   have q1:(n<0)=False:=by simp;omega
   have hn1:0≤n:=by omega
   clear hn0;by_cases hDn:D<n
   ·have q2:(D<n)=True:=by simp[hDn]
    have hrf:false=r:=by rw[← Hr.out];exact(Zlq hlt (by rw[Hex.out,decide_eq_false (show ¬ n≤D by omega),Bool.and_false])).symm
    subst hrf;go_wp2;go_ret;exact⟨rfl,Hb1.out⟩
   have q2:(D<n)=False:=by simp;omega
   have hDn1:n≤D:=by omega
   clear hDn;go_wp2;go_roundw
   case rel =>
    refine⟨k+1,by go_num,by omega,by rw[Hds.out],fun j hj => ?_,Hb1.out⟩;by_cases e:j=k
    ·rw[e,Hex.out,decide_eq_true hn1,decide_eq_true hDn1];rfl
    exact Hall.out j (by omega)
   case measure=>simp[intOf];omega
  obtain rfl:k=es.length:=by omega
  have hro:exOk es=(decide (dep es es.length=1)&&decide (es.length≤60)):=by unfold exOk;rw[List.all_eq_true.2 (fun j hj=>Hall.out j (List.mem_range.1 hj)),Bool.true_and]
  obtain⟨D,hD⟩:=eI (dep es es.length);rw[← hD] at hro;rw[← hD];rw[Hr.out] at hro;have Hro:=qh hro;replace hD:=qh hD;clear hro hdi hds hpi hex;by_cases hD1:D=1
  ·subst hD1;by_cases h60:es.length≤60
   ·have q1:((es.length:Int)≤60)=True:=by simp;omega
    have hrt:true=r:=by rw[Hro.out,decide_eq_true h60];rfl
    subst hrt;go_wp2;go_ret;exact⟨rfl,Hb.out⟩
   have q1:((es.length:Int)≤60)=False:=by simp;omega
   have hrt:false=r:=by rw[Hro.out,decide_eq_false h60];rfl
   subst hrt;clear h60;go_wp2;go_ret;exact⟨rfl,Hb.out⟩
  obtain⟨q1,q2,q3,q4⟩:=Zap hD1;have hrt:false=r:=by rw[Hro.out,decide_eq_false hD1];rfl
  subst hrt;clear hD1;go_wp2;go_ret;exact⟨rfl,Hb.out⟩
theorem Zku (es:List (Int × Int)) (en at':Nat) (v:Value) (w:World) (hlen:es.length≤1000000) (hen:en<es.length) (h:Pairs 0 w v es) (ha:Zcn es (en+1) at') :
  Calls Tryz.prog 136 #[v,.int .i64 ((en:Nat):Int)] w fun e w'=>e = .returned (.int .i64 ((at':Nat):Int))∧Below w.heap.size w w':=by
 obtain⟨a,c,rfl,hc1,hc2,hrd⟩:=h.form;obtain⟨b,o,rfl,-,hbl,hcs⟩:=hrd (by omega);obtain⟨ha1,ha2,ha3⟩:=ha;have Hcs:=qh hcs;have Ha2:=qh ha2;have Ha3:=qh ha3;have hde:=Zfp es (en+1);obtain⟨hde1,hde2⟩:=hde;obtain⟨E,hE⟩:=eI (dep es (en+1));rw[← hE] at hde1 hde2;replace hE:=qh hE;clear h hcs hrd ha2 ha3
 go_enter Tryz.func136, Tryz.ntmps136
 go_wp2
 go_loopw [5,6] (fun vn i wr=>∃ k:Nat,i = .int .i64 k∧at'≤k∧k≤en∧vn = .int .i64 (1+dep es (k+1)-E)∧Below w.heap.size w wr) (fun _ i _=>(intOf i).toNat)
 case atStart=>exact⟨en,rfl,by omega,Nat.le_refl _,by rw[hE.out];congr 1;omega,Below.refl _ _⟩
 case round =>
  obtain⟨k,rfl,hak,hk,rfl,hb⟩:=hrel;have hlt2:(k:Int)<es.length:=by omega
  have hdi:=Zfp es (k+1);have hdk:=Zfp es k;have hds:dep es (k+1)=dep es k-Zag (es.getD k (0,0))+1:=rfl;have hpi:=Zb7 (es.getD k (0,0));obtain⟨g1,g2⟩:=Hcs.out k (by omega);have k1:=(bcell hb b _ hbl).trans g1;have k2:=(bcell hb b _ hbl).trans g2;obtain⟨p,hp⟩:=eI (es.getD k (0,0));rw[← hp] at k1 k2 hds hpi;obtain⟨p1,p2⟩:=p;simp only at k1 k2;obtain⟨n,hn⟩:=eI (Zag (p1,p2));rw[← hn] at hds hpi;obtain⟨D1,hD1⟩:=eI (dep es (k+1));rw[← hD1] at hds hdi;rw[← hD1];obtain⟨D,hD⟩:=eI (dep es k);rw[← hD] at hds hdk;obtain⟨hd1,hd2⟩:=hdi;obtain⟨hd3,hd4⟩:=hdk;obtain⟨hp1,hp2⟩:=hpi;have hsum:1+D1-E-1+n=1+D-E:=by omega
  have Hb:=qh hb;have Hds:=qh hds;have Hsum:=qh hsum;have Hhp:=qh hp;clear hp;have Hhn:=qh hn;clear hn;replace hD:=qh hD;have HhD1:=qh hD1;clear hD1;clear hds hsum g1 g2 hb;go_wp2_with fail;refine(ZbL p1 p2 _ _ Hhn.out.symm).mono ?_;rintro e w1 ⟨rfl,hb1⟩;have Hb1:=qh (Hb.out.trans (hb1.mono Hb.out.size));clear hb1 k1 k2;by_cases hka:k=at'
  ·subst hka;have hz:1+D1-E-1+n=0:=by rw[Hsum.out,hD.out,Ha2.out,← hE.out];omega
   go_wp2;go_ret;exact⟨rfl,Hb1.out⟩
  have hz:1+D1-E-1+n≠0:=by rw[Hsum.out];intro he;have h:=Ha3.out k (by omega) (by omega);rw[← hE.out,← hD.out] at h;omega
  obtain⟨z1,z2,z3,z4⟩:=Zap hz;have hsm:1+D1-E-1+n=1+dep es ((k-1)+1)-E:=by rw[Hsum.out,show(k-1)+1=k by omega,hD.out]
  have Hsm:=qh hsm;have hk0:1≤k:=by omega
  clear hz hsm;go_wp2;go_roundw
  case rel=>exact⟨k-1,by congr 1;omega,by omega,by omega,by rw[Hsm.out],Hb1.out⟩
  case measure=>simp[intOf];omega
def splits (es:List (Int × Int)) (xs ys:List (Int × Int)):Prop:=(Zag (es.getD (es.length-1) (0,0))=0→xs=[]∧ys=[])∧(Zag (es.getD (es.length-1) (0,0))=1→xs=es.take (es.length-1)∧ys=[]) ∧
 (Zag (es.getD (es.length-1) (0,0))=2→∃ a,Zcn es (es.length-1) a∧xs=es.take a∧ys=(es.drop a).take (es.length-1-a))
theorem Zgd (w:World) (a:Option Addr) {c:Nat} (hc:c≤maxLen):Pairs 0 w (.slice a 0 c) []:=⟨rfl,_,_,rfl,Nat.zero_le _,hc,fun h=>by simp at h⟩
theorem ZbW (es:List (Int × Int)) (v:Value) (w:World) (hok:exOk es=true) (h:Pairs 0 w v es) :
  Calls Tryz.prog 101 #[v] w fun e w'=>∃ vx vy xs ys,splits es xs ys∧e = .returned (.tuple #[vx,vy])∧Pairs 0 w' vx xs∧Pairs 0 w' vy ys∧Below w.heap.size w w':=by
 obtain⟨hall,hd1,hl1,hl60⟩:=Zcx hok;have Hp:=qh h;obtain⟨a,c,rfl,hc1,hc2,hrd⟩:=h.form;obtain⟨b,o,rfl,-,hbl,hcs⟩:=hrd (by omega);obtain⟨m,hm⟩:∃ m,es.length=m+1:=⟨es.length-1,by omega⟩;obtain⟨g1,g2⟩:=hcs m (by omega);have hpn:=hall m (by omega);have hpi:=Zb7 (es.getD m (0,0));have hdm:dep es (m+1)=dep es m-Zag (es.getD m (0,0))+1:=rfl;rw[← hm,hd1] at hdm;have hbeg:Zag (es.getD m (0,0))=2→∃ a,Zcn es m a:=fun h2=>ZoG (fun k hk=>(hall k (by omega)).1) (by omega)
 have hsp:∀ xs ys,splits es xs ys↔(Zag (es.getD m (0,0))=0→xs=[]∧ys=[])∧(Zag (es.getD m (0,0))=1→xs=es.take m∧ys=[])∧(Zag (es.getD m (0,0))=2→∃ a,Zcn es m a∧xs=es.take a∧ys=(es.drop a).take (m-a)):=fun xs ys=>by unfold splits;rw[show es.length-1=m by omega]
 obtain⟨p,hp⟩:=eI (es.getD m (0,0));rw[← hp] at g1 g2 hpi hpn hbeg hsp;obtain⟨p1,p2⟩:=p;simp only at g1 g2;obtain⟨n,hn⟩:=eI (Zag (p1,p2));rw[← hn] at hpi hpn hbeg hsp;have hn3:n=0∨n=1∨n=2:=by omega
 have Hbeg:=qh hbeg;have Hsp:=qh hsp;have hml:(m:Int)<es.length:=by omega
 replace hn:=qh hn;have Hhp:=qh hp;clear hp;clear hall hd1 h hok hcs hrd hdm hbeg hsp hpn hpi;have hlen:(es.length:Int)-1=(m:Int):=by omega
 replace hm:=qh hm
 go_enter Tryz.func101, Tryz.ntmps101
 rcases hn3 with rfl|rfl|rfl
 ·go_wp2_with fail;refine(ZbL p1 p2 _ _ hn.out.symm).mono ?_;rintro e w1 ⟨rfl,hb1⟩;have HS:=qh (((((St.start w).call hb1).alloc_ (.cells #[] 55)).alloc_ (.cells #[] 55)).bel);clear hb1;go_wp2;refine bodyPost_ret (v:=.tuple #[.slice (some ⟨w1.heap.size,0,none⟩) 0 0,.slice (some ⟨w1.heap.size+1,0,none⟩) 0 0]) (by simp[results,Tryz.results101,go_sem]) rfl ?_;exact⟨_,_,[],[],(Hsp.out _ _).2 ⟨fun _=>⟨rfl,rfl⟩,fun h=>absurd h (by omega),fun h=>absurd h (by omega)⟩,rfl,Zgd _ _ (by unfold maxLen;omega),Zgd _ _ (by unfold maxLen;omega),HS.out⟩
 ·have hcI:(m:Int)≤c:=by omega
  go_wp2_with fail;refine(ZbL p1 p2 _ _ hn.out.symm).mono ?_;rintro e w1 ⟨rfl,hb1⟩;have HS:=qh ((((St.start w).call hb1).alloc_ (.cells #[] 55)).bel);clear hb1;go_wp2;refine bodyPost_ret (v:=.tuple #[.slice (some ⟨b,o,none⟩) m c,.slice (some ⟨w1.heap.size,0,none⟩) 0 0]) (by simp[results,Tryz.results101,go_sem]) rfl ?_;exact⟨_,_,es.take m,[],(Hsp.out _ _).2 ⟨fun h=>absurd h (by omega),fun _=>⟨rfl,rfl⟩,fun h=>absurd h (by omega)⟩,rfl,(Hp.out.below HS.out).take (by have:=hm.out;omega),Zgd _ _ (by unfold maxLen;omega),HS.out⟩
 obtain⟨at',hat⟩:=Hbeg.out rfl;have ha1:=hat.1;obtain⟨q,hqm⟩:∃ q,m=q+1:=⟨m-1,by omega⟩;have hq:(m:Int)-1=(q:Int):=by omega
 have haI:(at':Int)≤(m:Int):=by omega
 have haC:(at':Int)≤c:=by omega
 have hqC:(m:Int)≤c:=by omega
 rw[hqm] at hat;have Hhqm:=qh hqm;clear hqm;have Hat:=qh hat;clear hat;go_wp2_with fail;refine(ZbL p1 p2 _ _ hn.out.symm).mono ?_;rintro e w1 ⟨rfl,hb1⟩;have HS:=qh ((St.start w).call hb1);clear hb1;go_wp2_with fail;refine(Zku es q at' _ _ (by have:=hm.out;omega) (by have:=hm.out;have:=Hhqm.out;omega) (Hp.out.below HS.out.bel) Hat.out).mono ?_;rintro e w2 ⟨rfl,hb2⟩;have HS2:=qh (HS.out.call hb2);clear hb2;go_wp2
 go_quiet (fail)
 go_wp2;have HS3:=qh (HS2.out.drewN nq);refine bodyPost_ret (v:=.tuple #[.slice (some ⟨b,o,none⟩) at' c,.slice (some ⟨b,o+at'*2,none⟩) (m-at') (c-at')]) (by simp[results,Tryz.results101,go_sem]) rfl ?_;have hml2:=hm.out
 exact⟨_,_,es.take at',(es.drop at').take (m-at'),(Hsp.out _ _).2 ⟨fun h=>absurd h (by omega),fun h=>absurd h (by omega),fun _=>⟨at',by rw[Hhqm.out];exact Hat.out,rfl,rfl⟩⟩,rfl,
  (Hp.out.below HS3.out.bel).take (by omega),((Hp.out.below HS3.out.bel).drop (by omega)).take (by rw[List.length_drop];omega),HS3.out.bel⟩
end Go.Proofs.YtehmjmjedopkkaaGreat
namespace Go.Proofs.YtehmjmjedopkkaaGreat
inductive Ex where
 | zero|one|ltr (c:Fin 3)|join (a b:Ex)|alt (a b:Ex)|both (a b:Ex)|neg (a:Ex)|star (a:Ex)
 deriving DecidableEq
def Ex.post:Ex→List (Int × Int)
 | .zero=>[(1,0)]
 | .one=>[(2,0)]
 | .ltr c=>[(3,(c.val:Int))]
 | .join a b=>a.post++b.post++[(4,0)]
 | .alt a b=>a.post++b.post++[(5,0)]
 | .both a b=>a.post++b.post++[(6,0)]
 | .neg a=>a.post++[(7,0)]
 | .star a=>a.post++[(8,0)]
theorem Zic:Zag (1,0)=0:=by decide
theorem Zib:Zag (2,0)=0:=by decide
theorem ZfI (c:Fin 3):Zag (3,(c.val:Int))=0:=by
 have:c=0∨c=1∨c=2:=by omega
 rcases this with rfl|rfl|rfl<;>decide
theorem Zkj:Zag (4,0)=2:=by decide
theorem Zni:Zag (5,0)=2:=by decide
theorem Zkk:Zag (6,0)=2:=by decide
theorem Znh:Zag (7,0)=1:=by decide
theorem Zki:Zag (8,0)=1:=by decide
theorem ZaE:∀ t:Ex,1≤t.post.length:=by intro t;cases t<;>simp[Ex.post]<;>omega
theorem ZcM (xs ys:List (Int × Int)):∀ k,k≤xs.length→dep (xs++ys) k=dep xs k
 | 0,_=>rfl
 | k+1,h=>by
  have ih:=ZcM xs ys k (by omega);have e:(xs++ys).getD k (0,0)=xs.getD k (0,0):=by simp[List.getD_eq_getElem?_getD,List.getElem?_append_left (show k<xs.length by omega)]
  unfold dep;rw[ih,e]
theorem ZgN (xs ys:List (Int × Int)):∀ k,dep (xs++ys) (xs.length+k)=dep xs xs.length+dep ys k
 | 0=>by rw[Nat.add_zero,ZcM xs ys _ (Nat.le_refl _)];simp[dep]
 | k+1=>by
  have ih:=ZgN xs ys k;have e:(xs++ys).getD (xs.length+k) (0,0)=ys.getD k (0,0):=by simp[List.getD_eq_getElem?_getD,List.getElem?_append_right (show xs.length≤xs.length+k by omega)]
  show dep (xs++ys) (xs.length+k)-Zag ((xs++ys).getD (xs.length+k) (0,0))+1=dep xs xs.length+(dep ys k-Zag (ys.getD k (0,0))+1);rw[ih,e];omega
theorem Zix {xs ys:List (Int × Int)} {k:Nat} (h:k<xs.length):(xs++ys).getD k (0,0)=xs.getD k (0,0):=by simp[List.getD_eq_getElem?_getD,List.getElem?_append_left h]
theorem Zhc (xs ys:List (Int × Int)) (k:Nat):(xs++ys).getD (xs.length+k) (0,0)=ys.getD k (0,0):=by simp[List.getD_eq_getElem?_getD,List.getElem?_append_right (show xs.length≤xs.length+k by omega)]
def ZcD (m:Int) (es:List (Int × Int)):Prop:=∀ k,k<es.length→0≤Zag (es.getD k (0,0))∧Zag (es.getD k (0,0))≤m+dep es k
theorem Zkm {m m':Int} {es:List (Int × Int)} (h:ZcD m es) (hm:m≤m'):ZcD m' es:=fun k hk=>by have:=h k hk;omega
theorem Ze1 {m:Int} {xs ys:List (Int × Int)} (h:ZcD m xs) (h':ZcD (m+dep xs xs.length) ys):ZcD m (xs++ys):=fun k hk=>by
 by_cases hx:k<xs.length
 ·rw[Zix hx,ZcM _ _ _ (by omega)];exact h k hx
 obtain⟨j,rfl⟩:=Nat.exists_eq_add_of_le (Nat.le_of_not_lt hx);rw[Zhc,ZgN];have:=h' j (by simp at hk;omega);omega
theorem Ze0 {m:Int} {p:Int × Int} (h0:0≤Zag p) (h1:Zag p≤m):ZcD m [p]:=fun k hk=>by
 obtain rfl:k=0:=by simpa using hk
 simp[dep];omega
theorem Zom (p:Int × Int):dep [p] 1=1-Zag p:=by simp[dep];omega
theorem Zlw (xs:List (Int × Int)) (p:Int × Int):dep (xs++[p]) (xs++[p]).length=dep xs xs.length+(1-Zag p):=by rw[List.length_append,ZgN];show dep xs xs.length+dep [p] 1=_;rw[Zom]
theorem ZqG (xs ys:List (Int × Int)):dep (xs++ys) (xs++ys).length=dep xs xs.length+dep ys ys.length:=by rw[List.length_append,ZgN]
theorem Zkh:∀ t:Ex,ZcD 0 t.post∧dep t.post t.post.length=1:=by
 intro t;have leaf:∀ p,Zag p=0→ZcD 0 [p]∧dep [p] [p].length=1:=fun p hp=>⟨Ze0 (by omega) (by omega),by show dep [p] 1=1;rw[Zom];omega⟩
 have two:∀ (xs ys:List (Int × Int)) p,Zag p=2→ZcD 0 xs→dep xs xs.length=1→ZcD 0 ys→dep ys ys.length=1→ZcD 0 (xs++ys++[p])∧dep (xs++ys++[p]) (xs++ys++[p]).length=1:=fun xs ys p hp h1 h2 h3 h4=>by have hc:=ZqG xs ys;refine⟨Ze1 (Ze1 h1 (Zkm h3 (by omega))) (Ze0 (by omega) (by omega)),?_⟩;rw[Zlw];omega
 have one:∀ (xs:List (Int × Int)) p,Zag p=1→ZcD 0 xs→dep xs xs.length=1→ZcD 0 (xs++[p])∧dep (xs++[p]) (xs++[p]).length=1:=fun xs p hp h1 h2=>by refine⟨Ze1 h1 (Ze0 (by omega) (by omega)),?_⟩;rw[Zlw];omega
 induction t with
 | zero=>exact leaf _ Zic
 | one=>exact leaf _ Zib
 | ltr c=>exact leaf _ (ZfI c)
 | join a b ha hb=>exact two _ _ _ Zkj ha.1 ha.2 hb.1 hb.2
 | alt a b ha hb=>exact two _ _ _ Zni ha.1 ha.2 hb.1 hb.2
 | both a b ha hb=>exact two _ _ _ Zkk ha.1 ha.2 hb.1 hb.2
 | neg a ha=>exact one _ _ Znh ha.1 ha.2
 | star a ha=>exact one _ _ Zki ha.1 ha.2
theorem Zb6 (t:Ex) (h:t.post.length≤60):exOk t.post=true:=by obtain⟨h1,h2⟩:=Zkh t;simp only[exOk,exAt,Bool.and_eq_true,List.all_eq_true,List.mem_range,decide_eq_true_eq];refine⟨⟨fun k hk => ?_,h2⟩,h⟩;have:=h1 k hk;omega
theorem Zf4 {α:Type}:∀ (l:List α),1≤l.length→∃ L b,l=L++[b]
 | [],h=>by simp at h
 | [a],_=>⟨[],a,rfl⟩
 | a::b::l,_=>by obtain⟨L,c,h⟩:=Zf4 (b::l) (by simp);exact⟨a::L,c,by rw[h];rfl⟩
def cat (st:List Ex):List (Int × Int):=st.flatMap Ex.post
theorem ZiK (a b:List Ex):cat (a++b)=cat a++cat b:=by simp[cat]
theorem ZgT (a:Ex):cat [a]=a.post:=by simp[cat]
theorem Zk5 {es:List (Int × Int)} (h:ZcD 0 es):∀ k,k≤es.length→∃ st:List Ex,cat st=es.take k∧(st.length:Int)=dep es k
 | 0,_=>⟨[],rfl,rfl⟩
 | k+1,hk=>by
  obtain⟨st,h1,h2⟩:=Zk5 h k (by omega);obtain⟨h3,h4⟩:=h k (by omega);have ht:es.take (k+1)=es.take k++[es.getD k (0,0)]:=by rw[List.take_succ_eq_append_getElem (by omega)];simp[show k<es.length by omega]
  have hd:dep es (k+1)=dep es k-Zag (es.getD k (0,0))+1:=rfl;obtain⟨p,hp⟩:=eI (es.getD k (0,0));rw[← hp] at h3 h4 ht hd;have hok:=Zei h3;obtain⟨p1,p2⟩:=p;rw[ht,hd,← h1];have leaf:∀ t:Ex,t.post=[(p1,p2)]→Zag (p1,p2)=0→∃ st':List Ex,cat st'=cat st++[(p1,p2)]∧(st'.length:Int)=dep es k-Zag (p1,p2)+1:=fun t e0 e1=>⟨st++[t],by rw[ZiK,ZgT,e0],by simp;omega⟩
  have one:∀ f:Ex→Ex,(∀ a,(f a).post=a.post++[(p1,p2)])→Zag (p1,p2)=1→∃ st':List Ex,cat st'=cat st++[(p1,p2)]∧(st'.length:Int)=dep es k-Zag (p1,p2)+1:=fun f e0 e1=>by obtain⟨L,a,rfl⟩:=Zf4 st (by omega);refine⟨L++[f a],by rw[ZiK,ZiK,ZgT,ZgT,e0];simp,?_⟩;simp at h2 ⊢;omega
  have two:∀ f:Ex→Ex→Ex,(∀ a b,(f a b).post=a.post++b.post++[(p1,p2)])→Zag (p1,p2)=2→∃ st':List Ex,cat st'=cat st++[(p1,p2)]∧(st'.length:Int)=dep es k-Zag (p1,p2)+1:=fun f e0 e1=>by obtain⟨L,b,rfl⟩:=Zf4 st (by omega);obtain⟨L,a,rfl⟩:=Zf4 L (by simp at h2;omega);refine⟨L++[f a b],by simp only[ZiK,ZgT,e0,List.append_assoc],?_⟩;simp at h2 ⊢;omega
  simp only[pOk,inB,Bool.and_eq_true,Bool.or_eq_true,decide_eq_true_eq,Bool.not_eq_true',decide_eq_false_iff_not] at hok;obtain⟨⟨q1,q2⟩,q3⟩:=hok;have hc:(p1=1∧p2=0)∨(p1=2∧p2=0)∨(p1=3∧0≤p2∧p2≤2)∨(p1=4∧p2=0)∨(p1=5∧p2=0)∨(p1=6∧p2=0)∨(p1=7∧p2=0)∨(p1=8∧p2=0):=by omega
  rcases hc with⟨rfl,rfl⟩|⟨rfl,rfl⟩|⟨rfl,g1,g2⟩|⟨rfl,rfl⟩|⟨rfl,rfl⟩|⟨rfl,rfl⟩|⟨rfl,rfl⟩|⟨rfl,rfl⟩
  ·exact leaf .zero rfl Zic
  ·exact leaf .one rfl Zib
  ·obtain⟨c,rfl⟩:=Int.eq_ofNat_of_zero_le g1;exact leaf (.ltr ⟨c,by omega⟩) rfl (ZfI ⟨c,by omega⟩)
  ·exact two .join (fun _ _=>rfl) Zkj
  ·exact two .alt (fun _ _=>rfl) Zni
  ·exact two .both (fun _ _=>rfl) Zkk
  ·exact one .neg (fun _=>rfl) Znh
  exact one .star (fun _=>rfl) Zki
theorem parse {es:List (Int × Int)} (h:exOk es=true):∃ t:Ex,t.post=es:=by
 obtain⟨h1,h2,h3,h4⟩:=Zcx h;obtain⟨st,e1,e2⟩:=Zk5 (es:=es) (fun k hk=>by have:=h1 k hk;omega) es.length (Nat.le_refl _);rw[h2] at e2;rw[List.take_length] at e1;obtain⟨L,t,rfl⟩:=Zf4 st (by omega)
 have hL:L=[]:=by
  cases L with
  | nil=>rfl
  | cons=>simp at e2;omega
 subst hL;exact⟨t,by simpa [ZgT] using e1⟩
theorem Zcb (xs:List (Int × Int)) (p:Int × Int):(xs++[p]).getD ((xs++[p]).length-1) (0,0)=p:=by simp[List.getD_eq_getElem?_getD]
theorem ZiN {es:List (Int × Int)} {n a b:Nat} (h:Zcn es n a) (h':Zcn es n b):a=b:=by
 obtain⟨h1,h2,h3⟩:=h;obtain⟨g1,g2,g3⟩:=h';rcases Nat.lt_trichotomy a b with hl|hl|hl
 ·exact absurd g2 (h3 b hl g1)
 ·exact hl
 exact absurd h2 (g3 a hl h1)
theorem ZlZ {es:List (Int × Int)} (h:ZcD 0 es) {k:Nat} (h0:0<k) (hk:k≤es.length):1≤dep es k:=ZqF (fun j hj=>by have:=h j hj;omega) k h0 hk
theorem Zm2 {a b:Ex} {p:Int × Int} (hp:Zag p=2) {xs ys:List (Int × Int)} (h:splits (a.post++b.post++[p]) xs ys):xs=a.post∧ys=b.post:=by
 obtain⟨-,-,h3⟩:=h;rw[Zcb] at h3;obtain⟨at',hb,rfl,rfl⟩:=h3 hp;obtain⟨a1,a2⟩:=Zkh a;obtain⟨b1,b2⟩:=Zkh b;have hl:(a.post++b.post++[p]).length-1=a.post.length+b.post.length:=by simp
 rw[hl] at hb ⊢
 have hbeg:Zcn (a.post++b.post++[p]) (a.post.length+b.post.length) a.post.length:=by
  have hd:∀ j,j≤b.post.length→dep (a.post++b.post++[p]) (a.post.length+j)=1+dep b.post j:=fun j hj=>by rw[ZcM _ _ _ (by simp;omega),ZgN,a2]
  have h0:=hd 0 (Nat.zero_le _);have hn:=hd b.post.length (Nat.le_refl _);rw[b2] at hn;rw[Nat.add_zero] at h0;refine⟨by have:=ZaE b;omega,by rw[h0,hn];rfl,fun j h1 h2 => ?_⟩;obtain⟨i,rfl⟩:=Nat.exists_eq_add_of_le (Nat.le_of_lt h1);rw[hd i (by omega),hn];have:=ZlZ b1 (show 0<i by omega) (by omega);omega
 obtain rfl:=ZiN hb hbeg;constructor
 ·rw[List.append_assoc,List.take_left'];rfl
 rw[List.append_assoc,List.drop_left' rfl,Nat.add_sub_cancel_left,List.take_left' rfl]
theorem ZiW {a:Ex} {p:Int × Int} (hp:Zag p=1) {xs ys:List (Int × Int)} (h:splits (a.post++[p]) xs ys):xs=a.post∧ys=[]:=by obtain⟨-,h2,-⟩:=h;rw[Zcb] at h2;obtain⟨rfl,rfl⟩:=h2 hp;simp
theorem ZeR {p:Int × Int} (hp:Zag p=0) {xs ys:List (Int × Int)} (h:splits [p] xs ys):xs=[]∧ys=[]:=h.1 (by simpa using hp)
def StarL (L:List Nat→Prop) (w:List Nat):Prop:=∃ ws:List (List Nat),w=ws.flatten∧∀ u∈ws,L u
theorem StarL.nil {L:List Nat→Prop}:StarL L []:=⟨[],rfl,by simp⟩
theorem StarL.cons {L:List Nat→Prop} {u w:List Nat} (h:L u) (h':StarL L w):StarL L (u++w):=by
 obtain⟨ws,rfl,hw⟩:=h'
 exact⟨u::ws,rfl,fun x hx=>by
  rcases List.mem_cons.1 hx with rfl|hx
  ·exact h
  exact hw x hx⟩
def memE:Ex→List Nat→Prop
 | .zero,_=>False
 | .one,w=>w=[]
 | .ltr c,w=>w=[c.val]
 | .join a b,w=>∃ u v,w=u++v∧memE a u∧memE b v
 | .alt a b,w=>memE a w∨memE b w
 | .both a b,w=>memE a w∧memE b w
 | .neg a,w=>¬ memE a w
 | .star a,w=>StarL (memE a) w
def seg (w:List Nat) (i j:Nat):List Nat:=(w.drop i).take (j-i)
theorem Zd1 {w:List Nat} {i j:Nat} (hij:i≤j) (hj:j≤w.length):(seg w i j).length=j-i:=by unfold seg;rw[List.length_take,List.length_drop];omega
theorem ZkZ (w:List Nat) (i:Nat):seg w i i=[]:=by unfold seg;simp
theorem Zqg (w:List Nat):seg w 0 w.length=w:=by unfold seg;simp
theorem Zeg {w:List Nat} {i k j:Nat} (h1:i≤k) (h2:k≤j):seg w i j=seg w i k++seg w k j:=by
 unfold seg;have e:j-i=(k-i)+(j-k):=by omega
 rw[e,List.take_add,List.drop_drop];congr 3;omega
theorem Zf7 {w u v:List Nat} {i j:Nat} (hij:i≤j) (hj:j≤w.length) (h:seg w i j=u++v):i+u.length≤j∧u=seg w i (i+u.length)∧v=seg w (i+u.length) j:=by
 have hl:=Zd1 hij hj;rw[h,List.length_append] at hl;have hk:i+u.length≤j:=by omega
 have hs:=Zeg (w:=w) (i:=i) (k:=i+u.length) (j:=j) (by omega) hk;rw[h] at hs;have hul:u.length=(seg w i (i+u.length)).length:=by rw[Zd1 (by omega) (by omega)];omega
 obtain⟨e1,e2⟩:=List.append_inj hs hul;exact⟨hk,e1,e2⟩
theorem Zm4 {w:List Nat} {i c:Nat} (hi:i<w.length):seg w i (i+1)=[c]↔w.getD i 0=c:=by
 have e:seg w i (i+1)=[w.getD i 0]:=by unfold seg;rw[Nat.add_sub_cancel_left,List.drop_eq_getElem_cons hi,List.take_succ_cons,List.take_zero];simp[hi]
 rw[e];simp
def memS (t:Ex) (w:List Nat) (i j:Nat):Prop:=memE t (seg w i j)
theorem ZnC (w:List Nat) (i j:Nat):¬ memS .zero w i j:=fun h=>h
theorem Zph {w:List Nat} {i j:Nat} (hij:i≤j) (hj:j≤w.length):memS .one w i j↔i=j:=by
 show seg w i j=[]↔_;have hl:=Zd1 hij hj;constructor
 ·intro h;rw[h] at hl;simp at hl;omega
 rintro rfl;exact ZkZ w i
theorem Zpi {w:List Nat} {i j:Nat} {c:Fin 3} (hij:i≤j) (hj:j≤w.length):memS (.ltr c) w i j↔j=i+1∧w.getD i 0=c.val:=by
 show seg w i j=[c.val]↔_;have hl:=Zd1 hij hj;constructor
 ·intro h;have e:j=i+1:=by rw[h] at hl;simp at hl;omega
  subst e;exact⟨rfl,(Zm4 (by omega)).1 h⟩
 rintro⟨rfl,h⟩;exact(Zm4 (by omega)).2 h
theorem ZnE {a b:Ex} {w:List Nat} {i j:Nat} (hij:i≤j) (hj:j≤w.length):memS (.join a b) w i j↔∃ k,i≤k∧k≤j∧memS a w i k∧memS b w k j:=by
 constructor
 ·rintro⟨u,v,h,h1,h2⟩;obtain⟨hk,e1,e2⟩:=Zf7 hij hj h;exact⟨i+u.length,by omega,hk,by unfold memS;rw[← e1];exact h1,by unfold memS;rw[← e2];exact h2⟩
 rintro⟨k,h1,h2,h3,h4⟩;exact⟨_,_,Zeg h1 h2,h3,h4⟩
theorem StarL.first {L:List Nat→Prop} {w:List Nat} (h:StarL L w):w=[]∨∃ u v,u≠[]∧w=u++v∧L u∧StarL L v:=by
 obtain⟨ws,rfl,hs⟩:=h
 induction ws with
 | nil=>exact .inl rfl
 | cons u ws ih =>
  by_cases hu:u=[]
  ·subst hu;exact ih fun x hx=>hs x (by simp[hx])
  exact .inr ⟨u,ws.flatten,hu,rfl,hs u (by simp),ws,rfl,fun x hx=>hs x (by simp[hx])⟩
theorem StarL.snoc {L:List Nat→Prop} {u w:List Nat} (h:StarL L w) (h':L u):StarL L (w++u):=by
 obtain⟨ws,rfl,hw⟩:=h;refine⟨ws++[u],by simp,fun x hx => ?_⟩;rcases List.mem_append.1 hx with hx|hx
 ·exact hw x hx
 simp at hx;subst hx;exact h'
theorem StarL.last {L:List Nat→Prop} {w:List Nat} (h:StarL L w):w=[]∨∃ u v,v≠[]∧w=u++v∧StarL L u∧L v:=by
 obtain⟨ws,rfl,hs⟩:=h;obtain⟨rs,rfl⟩:∃ rs:List (List Nat),ws=rs.reverse:=⟨ws.reverse,by simp⟩
 induction rs with
 | nil=>exact .inl rfl
 | cons u rs ih =>
  have hu:L u:=hs u (by simp);have hr:∀ x∈rs.reverse,L x:=fun x hx=>hs x (by simp at hx ⊢;exact .inl hx)
  rw[List.reverse_cons,List.flatten_append];by_cases hn:u=[]
  ·subst hn;simpa using ih hr
  exact .inr ⟨rs.reverse.flatten,u,hn,by simp,⟨rs.reverse,rfl,hr⟩,hu⟩
theorem ZnD {a:Ex} {w:List Nat} {i j:Nat} (hij:i≤j) (hj:j≤w.length):memS (.star a) w i j↔i=j∨∃ k,i+1≤k∧k≤j∧memS a w i k∧memS (.star a) w k j:=by
 constructor
 ·intro h;rcases StarL.first h with h|⟨u,v,hu,h,h1,h2⟩
  ·have hl:=Zd1 hij hj;rw[h] at hl;simp at hl;exact .inl (by omega)
  obtain⟨hk,e1,e2⟩:=Zf7 hij hj h;have hpos:=List.length_pos_iff.2 hu;exact .inr ⟨i+u.length,by omega,hk,by unfold memS;rw[← e1];exact h1,by unfold memS;rw[← e2];exact h2⟩
 rintro(rfl|⟨k,h1,h2,h3,h4⟩)
 ·unfold memS;rw[ZkZ];exact StarL.nil
 unfold memS;rw[Zeg (show i≤k by omega) h2];exact StarL.cons h3 h4
def stR (A:Nat→Nat→Prop):Nat→Nat→Nat→Prop
 | 0,i,j=>i=j
 | m+1,i,j=>stR A m i j∨∃ k,i≤k∧k≤j∧stR A m i k∧A k j
theorem Zo0 {A:Nat→Nat→Prop} {i j:Nat}:∀ {m n:Nat},m≤n→stR A m i j→stR A n i j
 | m,n,h,hm=>by
  induction n with
  | zero=>obtain rfl:m=0:=by omega
          exact hm
  | succ n ih =>
   by_cases he:m=n+1
   ·subst he;exact hm
   exact .inl (ih (by omega))
theorem ZhV {a:Ex} {w:List Nat}:∀ (m:Nat) {i j:Nat},i≤j→j≤w.length→stR (memS a w) m i j→memS (.star a) w i j
 | 0,i,j,hij,hj,h=>(ZnD hij hj).2 (.inl h)
 | m+1,i,j,hij,hj,h=>by
  rcases h with h|⟨k,h1,h2,h3,h4⟩
  ·exact ZhV m hij hj h
  have hs:=ZhV m h1 (by omega) h3;unfold memS at hs h4 ⊢;rw[Zeg h1 h2];exact StarL.snoc hs h4
theorem ZoY {a:Ex} {w:List Nat}:∀ (d:Nat) {i j:Nat},i≤j→j≤w.length→j-i≤d→memS (.star a) w i j→stR (memS a w) d i j:=by
 intro d
 induction d with
 | zero =>intro i j hij hj hd h;exact(show i=j by omega)
 | succ d ih =>
  intro i j hij hj hd h;rcases StarL.last h with h|⟨u,v,hv,h,h1,h2⟩
  ·have hl:=Zd1 hij hj;rw[h] at hl;simp at hl;exact Zo0 (Nat.zero_le _) (show i=j by omega)
  obtain⟨hk,e1,e2⟩:=Zf7 hij hj h;have hl:=Zd1 hij hj;rw[h,List.length_append] at hl;have hpos:=List.length_pos_iff.2 hv;exact .inr ⟨i+u.length,by omega,hk,ih (by omega) (by omega) (by omega) (by unfold memS;rw[← e1];exact h1),by unfold memS;rw[← e2];exact h2⟩
theorem Zqe {a:Ex} {w:List Nat} {i j:Nat} (hij:i≤j) (hj:j≤w.length):stR (memS a w) w.length i j↔memS (.star a) w i j :=
 ⟨ZhV _ hij hj,ZoY _ hij hj (by omega)⟩
end Go.Proofs.YtehmjmjedopkkaaGreat
namespace Go.Proofs.YtehmjmjedopkkaaGreat
open Go.RowKit
variable {P:Program}
theorem Zbb {w:World} {b:Nat} {cs cs':Array Value} {T:TypeId} (h:Bx w b cs T) (hn:cs'.size=cs.size) (h1:∀ v∈cs'.toList,v.oneCell'=true):(storeCells ⟨b,0,none⟩ cs'.toList 0).run P w = .ok () (w.setRow b cs'):=by have:=run_storeCells_from (P:=P) b T cs'.toList 0 cs w h (by simpa using hn) h1;simpa using this
theorem St.setAll {w0 w:World} {L:List Ent} (h:St w0 w L) (i:Nat) {b:Nat} {cs:Array Value} {T:TypeId} (hx:L[i]? = some (Ent.box b cs T)) (cs':Array Value):St w0 (w.setRow b cs') (L.set i (Ent.box b cs' T)):=by have hb:Bx w b cs T:=(h.has i _ hx).1;have hb':Bx (w.setRow b cs') b cs' T:=setRow_heap w b cs cs' T (0,0) hb;exact h.turn i hx _ rfl rfl rfl (by simp[World.setRow]) (fun k _ hk=>setRow_other w b k cs' hk) hb' fun k hk=>by have hk:k=b:=hk;subst hk;exact⟨hb'.lt,Or.inl rfl⟩
theorem ZgY {ops:Array Oper} {rest:List Oper} {op:Oper} {a:Act} {w:World} {Q:Exit→Act→World→Prop} (hgd:op.guard=none) (ty:TypeId) (x:Operand) (ho:op.op = .load ty x) (b:Nat) (hx:a.eval x = .pointer (some ⟨b,0,none⟩)) (T:TypeId) (cs:Array Value) (d:TypeDesc) (hb:Bx w b cs T)
  (hu:P.underlying ty=some d) (hd:d.isRow=true) (hi:(P.info? ty).map (·.size)=some cs.size) (h:wpList P ops Q rest (a.put op.dst (.agg cs)) w):wpList P ops Q (op::rest) a w:=by
 have hc:w.rangeAt b 0 cs.toList:=fun j v hv=>by rw[Nat.zero_add,hb.cell j];simpa using hv
 exact wpList_load_mid hgd ty x ho b 0 hx cs.toList d hc hu hd (by simpa using hi) (by simpa using h)
theorem ZfW {ops:Array Oper} {rest:List Oper} {op:Oper} {a:Act} {w:World} {Q:Exit→Act→World→Prop} (hgd:op.guard=none) (ty:TypeId) (x y:Operand) (ho:op.op = .store ty x y) (b:Nat) (T:TypeId) (cs cs':Array Value) (hx:a.eval x = .pointer (some ⟨b,0,none⟩)) (hy:a.eval y = .agg cs')
  (hb:Bx w b cs T) (hi:(P.info? ty).map (·.size)=some cs'.size) (hl:cs.size=cs'.size) (h1:∀ v∈cs'.toList,v.oneCell'=true) (h:wpList P ops Q rest (a.put op.dst undef) (w.setRow b cs')):wpList P ops Q (op::rest) a w :=
 wpList_plain hgd fun K hK=>by have hr:=run_storeVar_row (P:=P) w b T ty cs cs' hb hi hl (Array.all_eq_true_iff_forall_mem.2 fun v hv=>h1 v (by simpa using hv));unfold Oper.wp execOp;simp only[ho,hx,hy,Instr.storeAt,Instr.sureAddr,Sem.run_bind,Sem.run_pure,Result.andThen_ok,hr];exact hK _ _ h
theorem Zh7 {fn:Func} {p:Tmp} {ty:TypeId} (h:fn.results=#[.cell p ty]) (tmps:Array Value) (P:Program) (w:World) :
  (results fn tmps).run P w=((asAddr (tmps.getD p undef)).run P w).andThen fun a w₁=>(loadVar ty a).run P w₁:=by
 simp only[results,h];simp[Sem.run_bind,Result.andThen]
theorem ZbJ {fn:Func} {p:Tmp} {ty:TypeId} (h:fn.results=#[.cell p ty]) (tmps:Array Value) (P:Program) (w:World) (b:Nat) (T:TypeId) (cs:Array Value) (d:TypeDesc) (hp:tmps.getD p undef = .pointer (some ⟨b,0,none⟩)) (hb:Bx w b cs T) (hu:P.underlying ty=some d) (hd:d.isRow=true) (hi:(P.info? ty).map (·.size)=some cs.size) :
  (results fn tmps).run P w = .ok (.agg cs) w:=by
 rw[Zh7 h,hp];have hl:(loadVar ty ⟨b,0,none⟩).run P w = .ok (.agg cs) w:=run_loadVar_row w b T ty cs (0,0) d hb hu (by cases d<;>simp_all [TypeDesc.isRow]) hi;simp[asAddr,Result.andThen,hl]
theorem Zkl {w:World} {B e size n cap m:Nat} {a:Option Addr} {cs:List Value} (h:w.ownsRow B e size (.slice a n cap) n cs) (hm:m≤n):w.ownsRow B e size (.slice a m cap) m (cs.take (m*size)):=by
 obtain⟨h1,h2⟩:=h;have hle:m*size≤n*size:=Nat.mul_le_mul_right size hm;refine⟨by rw[List.length_take,h1];omega,?_⟩;rcases h2 with⟨h3,h4⟩|⟨g,c,cur,h3,h4,h5,h6,h7,h8,h9⟩
 ·simp only[Value.slice.injEq] at h3;obtain⟨rfl,rfl,rfl⟩:=h3;obtain rfl:m=0:=by omega
  exact .inl ⟨rfl,rfl⟩
 simp only[Value.slice.injEq] at h3;obtain⟨rfl,-,rfl⟩:=h3;refine .inr ⟨g,cap,cur,rfl,h4,h5,by omega,h7,h8,?_⟩;rw[← h9,List.take_take,Nat.min_eq_left hle]
theorem St.cut {w0 w:World} {L:List Ent} (h:St w0 w L) (i:Nat) {e size n cap:Nat} {a:Option Addr} {cs:List Value} (hx:L[i]? = some (Ent.row e size (.slice a n cap) n cs)) (m:Nat) (hm:m≤n):St w0 w (L.set i (Ent.row e size (.slice a m cap) m (cs.take (m*size)))) :=
 h.same i hx _ (fun hb=>Zkl hb hm) fun k hk=>by
  cases a with
  | none=>cases hk
  | some a=>exact hk
theorem St.rangeR {w0 w:World} {L:List Ent} (h:St w0 w L) (i:Nat) {e size g n cap:Nat} {cs:List Value} (hx:L[i]? = some (Ent.row e size (.slice (some ⟨g,0,none⟩) n cap) n cs)) (o:Nat) (xs:List Value) (hxs:∀ k v,xs[k]? = some v→o+k<n*size∧cs[o+k]? = some v):w.rangeAt g o xs:=fun k v hv=>h.rcell i (o+k) hx (hxs k v hv).1 (hxs k v hv).2
theorem St.rangeB {w0 w:World} {L:List Ent} (h:St w0 w L) (i:Nat) {b:Nat} {cs:Array Value} {T:TypeId} (hx:L[i]? = some (Ent.box b cs T)):w.rangeAt b 0 cs.toList:=fun k v hv=>by rw[Nat.zero_add];exact h.cell i k hx (by simpa using hv)
theorem ZoP {op:Oper} {a:Act} {w:World} {K:Act→World→Prop} {Q:Exit→Act→World→Prop} (ty:TypeId) (x:Operand) (ho:op.op = .load ty x) (b off:Nat) (hx:a.eval x = .pointer (some ⟨b,off,none⟩)) (cs:Array Value) (d:TypeDesc) (hc:w.rangeAt b off cs.toList)
  (hu:P.underlying ty=some d) (hd:d.isRow=true) (hi:(P.info? ty).map (·.size)=some cs.size) (h:K (a.put op.dst (.agg cs)) w):op.wp P a w K Q :=
 wp_load_mid ty x ho b off hx cs.toList d hc hu hd (by simpa using hi) (by simpa using h)
theorem ZeQ {ops:Array Oper} {o:Oper} {a:Act} {w:World} {K:Act→World→Prop} {Q:Exit→Act→World→Prop} {E:Prop} (hgd:o.guard=none) (ty:TypeId) (x:Operand) (ho:o.op = .load ty x) (b off:Nat) (hx:a.eval x = .pointer (some ⟨b,off,none⟩)) (cs:Array Value) (d:TypeDesc) (hc:w.rangeAt b off cs.toList)
  (hu:P.underlying ty=some d) (hd:d.isRow=true) (hi:(P.info? ty).map (·.size)=some cs.size) (h:K (a.put o.dst (.agg cs)) w):if Region.wanted o (yielded ops a.tmps)=true then Oper.wp P o a w K Q else E:=by
 have hw:Region.wanted o (yielded ops a.tmps)=true:=by simp[Region.wanted,hgd]
 rw[if_pos hw];exact wp_load_mid ty x ho b off hx cs.toList d hc hu hd (by simpa using hi) (by simpa using h)
theorem Zj0 {ops:Array Oper} {o:Oper} {a:Act} {w:World} {K:Act→World→Prop} {Q:Exit→Act→World→Prop} {E:Prop} (hgd:o.guard=none) (t e:TypeId) (x:Operand) (ho:o.op = .buildSlice t 1 #[(0,x)]) (cs:Array Value) (hx:a.eval x = .agg cs) (ie:TypeInfo) (z:Value) (s:Nat)
  (hu:P.underlying t=some (.slice e)) (hie:P.info? e=some ie) (hz:ie.zero=some z) (hs:ie.size=s) (hcs:cs.size=s) (h0:0<s) (hsm:s≤16777216) (h:K (a.put o.dst (.slice (some ⟨w.heap.size,0,none⟩) 1 1)) (w.alloc (.cells cs e))):if Region.wanted o (yielded ops a.tmps)=true then Oper.wp P o a w K Q else E:=by
 have hw:Region.wanted o (yielded ops a.tmps)=true:=by simp[Region.wanted,hgd]
 rw[if_pos hw];refine wp_buildSlice t e 1 _ ho cs ie z hu hie hz (by rw[hs];omega) (by rw[hs];omega) ?_ h;rw[hs];have hf:=Great.fill_whole h0 [.agg cs] ((Array.range (1*s)).map (z.cells[· % z.cells.size]!)) (by intro v hv;rw[List.mem_singleton] at hv;subst hv;exact hcs) (by simp);simpa [Value.cells,hx] using hf
theorem Zf1 {ops:Array Oper} {o:Oper} {a:Act} {w:World} {K:Act→World→Prop} {Q:Exit→Act→World→Prop} {E:Prop} (hgd:o.guard=none) (ty:TypeId) (x y:Operand) (ho:o.op = .store ty x y) (b:Nat) (T:TypeId) (cs cs':Array Value) (hx:a.eval x = .pointer (some ⟨b,0,none⟩)) (hy:a.eval y = .agg cs')
  (hb:Bx w b cs T) (hi:(P.info? ty).map (·.size)=some cs'.size) (hl:cs.size=cs'.size) (h1:∀ v∈cs'.toList,v.oneCell'=true) (h:K (a.put o.dst undef) (w.setRow b cs')):if Region.wanted o (yielded ops a.tmps)=true then Oper.wp P o a w K Q else E:=by
 have hw:Region.wanted o (yielded ops a.tmps)=true:=by simp[Region.wanted,hgd]
 rw[if_pos hw];have hr:=run_storeVar_row (P:=P) w b T ty cs cs' hb hi hl (Array.all_eq_true_iff_forall_mem.2 fun v hv=>h1 v (by simpa using hv));unfold Oper.wp execOp;simp only[ho,hx,hy,Instr.storeAt,Instr.sureAddr,Sem.run_bind,Sem.run_pure,Result.andThen_ok,hr];exact h
end Go.Proofs.YtehmjmjedopkkaaGreat
