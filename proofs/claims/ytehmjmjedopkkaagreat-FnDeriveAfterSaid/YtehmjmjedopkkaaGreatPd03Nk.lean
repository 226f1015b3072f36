/-
  Expressions as lists of parts, plain: what a part needs, how deep the stack is, where operands begin.
  No condition: this text speaks of no program.
  The walks over the reference's PartValid, PartNeeds, ExprValid, l12Plain, l2Start, l2Split.
  Conditions: the list of parts reads as such, and is not long.
-/
import Derived.Test.YtehmjmjedopkkaaGreatPd02Dr
set_option maxHeartbeats 4000000
set_option maxRecDepth 100000
namespace Go.Proofs.YtehmjmjedopkkaaGreat
open Go.RowKit
def pOk (p:Int × Int):Bool:=inB p.1 1 8&&(decide (p.1=3)&&inB p.2 0 2||(!decide (p.1=3)&&decide (p.2=0)))
def Zab (p:Int × Int):Int:=if pOk p=true then(if p.1=1∨p.1=2∨p.1=3 then 0 else if p.1=7∨p.1=8 then 1 else 2) else -1
theorem Zck (p:Int × Int):-1≤Zab p∧Zab p≤2:=by
 unfold Zab
 split<;>(try split)<;>(try split)<;>omega
theorem ZcI {p:Int × Int} (h:0≤Zab p):pOk p=true:=by
 unfold Zab at h
 split at h
 ·assumption
 omega
def dep (es:List (Int × Int)):Nat→Int
 | 0=>0
 | k+1=>dep es k-Zab (es.getD k (0,0))+1
theorem Ze1 (es:List (Int × Int)):∀ k:Nat,-(2*k:Int)≤dep es k∧dep es k≤2*k
 | 0=>by simp[dep]
 | k+1=>by have ih:=Ze1 es k;have:=Zck (es.getD k (0,0));unfold dep;omega
def exAt (es:List (Int × Int)) (k:Nat):Bool:=decide (0≤Zab (es.getD k (0,0)))&&decide (Zab (es.getD k (0,0))≤dep es k)
def exOk (es:List (Int × Int)):Bool:=(List.range es.length).all (exAt es)&&decide (dep es es.length=1)&&decide (es.length≤60)
theorem ZaH {es:List (Int × Int)} (h:exOk es=true):(∀ k,k<es.length→0≤Zab (es.getD k (0,0))∧Zab (es.getD k (0,0))≤dep es k)∧dep es es.length=1∧1≤es.length∧es.length≤60:=by
 simp only[exOk,exAt,Bool.and_eq_true,List.all_eq_true,List.mem_range,decide_eq_true_eq] at h;refine⟨h.1.1,h.1.2,?_,h.2⟩;cases es with
 | nil=>have:=h.1.2;simp[dep] at this
 | cons=>simp
theorem Zj8 {es:List (Int × Int)} {k:Nat} (hk:k<es.length) (h:exAt es k=false):exOk es=false:=by
 cases he:exOk es with
 | false=>rfl
 | true =>obtain⟨h1,-⟩:=ZaH he;obtain⟨a,b⟩:=h1 k hk;simp only[exAt,decide_eq_true a,decide_eq_true b,Bool.and_self] at h;cases h
theorem ZoW {es:List (Int × Int)} (h:∀ k,k<es.length→0≤Zab (es.getD k (0,0))∧Zab (es.getD k (0,0))≤dep es k):∀ k,0<k→k≤es.length→1≤dep es k
 | 0,h0,_=>by omega
 | k+1,_,hk=>by have:=h k (by omega);unfold dep;omega
def beginsAt (es:List (Int × Int)) (n a:Nat):Prop:=a<n∧dep es a=dep es n-1∧∀ j,a<j→j<n→dep es j≠dep es n-1
theorem ZmF {es:List (Int × Int)} {n:Nat} (h:∀ k,k<n→0≤Zab (es.getD k (0,0))) (hn:1≤dep es n):∃ a,beginsAt es n a:=by
 have key:∀ m,m≤n→(∀ j,m≤j→j<n→dep es j≠dep es n-1)→(m=n∨dep es n≤dep es m)→∃ a,beginsAt es n a:=by
  intro m
  induction m with
  | zero =>
   intro _ hj hm;exfalso;have h0:dep es 0=0:=rfl;rcases hm with hm|hm
   ·subst hm;omega
   omega
  | succ m ih =>
   intro hmn hj hm;have hs:dep es (m+1)=dep es m-Zab (es.getD m (0,0))+1:=rfl;have hp:=h m (by omega)
   have hge:dep es n≤dep es (m+1):=by
    rcases hm with hm|hm
    ·rw[hm];exact Int.le_refl _
    exact hm
   by_cases he:dep es m=dep es n-1
   ·exact⟨m,by omega,he,fun j h1 h2=>hj j (by omega) h2⟩
   exact ih (by omega) (fun j h1 h2=>by
    by_cases hjm:j=m
    ·rw[hjm];exact he
    exact hj j (by omega) h2) (Or.inr (by omega))
 exact key n (Nat.le_refl _) (fun j h1 h2=>by omega) (Or.inl rfl)
end Go.Proofs.YtehmjmjedopkkaaGreat
namespace Go.Proofs.YtehmjmjedopkkaaGreat
open Go.RowKit
theorem Zaj {a b:Int} (h:a≠b):(a==b)=false∧(a=b)=False∧(a != b)=true∧(!(a==b))=true:=by simp[h]
theorem Zd1 (k l:Int) (w:World) (r:Bool) (hr:pOk (k,l)=r) :
  Calls Tryz.prog 100 #[.agg #[.int .i64 k,.int .i64 l]] w fun e w'=>e = .returned (.bool r)∧Below w.heap.size w w':=by
 unfold pOk at hr;simp only at hr;cases h1:inB k 1 8
 ·rw[h1,Bool.false_and] at hr;subst hr;have H1:=qh h1;clear h1
  go_enter Tryz.func100, Tryz.ntmps100
  go_wp2_with (go_at_call 63;refine(ZbS _ _ _ _ _ H1.out).mono ?_;rintro e w' ⟨rfl,rfl⟩);go_ret;exact⟨rfl,(Below.refl _ _).alloc (Nat.le_refl _) _⟩
 rw[h1,Bool.true_and] at hr;have H1:=qh h1;clear h1;by_cases h3:k=3
 ·subst h3;cases h2:inB l 0 2
  ·rw[h2] at hr;have hr:false=r:=hr;subst hr;have H2:=qh h2;clear h2
   go_enter Tryz.func100, Tryz.ntmps100
   go_wp2_with (go_at_call 63;(first|(with_reducible refine(ZbS _ _ _ _ _ H1.out).mono ?_)|(with_reducible refine(ZbS _ _ _ _ _ H2.out).mono ?_));rintro e w' ⟨rfl,rfl⟩);go_ret;exact⟨rfl,(Below.refl _ _).alloc (Nat.le_refl _) _⟩
  rw[h2] at hr;have hr:true=r:=hr;subst hr;have H2:=qh h2;clear h2
  go_enter Tryz.func100, Tryz.ntmps100
  go_wp2_with (go_at_call 63;(first|(with_reducible refine(ZbS _ _ _ _ _ H1.out).mono ?_)|(with_reducible refine(ZbS _ _ _ _ _ H2.out).mono ?_));rintro e w' ⟨rfl,rfl⟩);go_ret;exact⟨rfl,(Below.refl _ _).alloc (Nat.le_refl _) _⟩
 obtain⟨q1,q2,q3,q4⟩:=Zaj h3;rw[decide_eq_false h3] at hr;replace h3:=qh h3;by_cases h0:l=0
 ·subst h0;have hr:true=r:=hr;subst hr
  go_enter Tryz.func100, Tryz.ntmps100
  go_wp2_with (go_at_call 63;refine(ZbS _ _ _ _ _ H1.out).mono ?_;rintro e w' ⟨rfl,rfl⟩);go_ret;exact⟨rfl,(Below.refl _ _).alloc (Nat.le_refl _) _⟩
 obtain⟨p1,p2,p3,p4⟩:=Zaj h0;rw[decide_eq_false h0] at hr;have hr:false=r:=hr;subst hr;replace h0:=qh h0
 go_enter Tryz.func100, Tryz.ntmps100
 go_wp2_with (go_at_call 63;refine(ZbS _ _ _ _ _ H1.out).mono ?_;rintro e w' ⟨rfl,rfl⟩);go_ret;exact⟨rfl,(Below.refl _ _).alloc (Nat.le_refl _) _⟩
theorem Zbc (k l:Int) (w:World) (n:Int) (hn:Zab (k,l)=n) :
  Calls Tryz.prog 62 #[.agg #[.int .i64 k,.int .i64 l]] w fun e w'=>e = .returned (.int .i64 n)∧Below w.heap.size w w':=by
 have hS0:=(St.start w).alloc _ rfl #[.int .i64 k,.int .i64 l] 55;have e0:=hS0.cell (v:=.int .i64 k) 0 0 rfl rfl;have e1:=hS0.cell (v:=.int .i64 l) 0 1 rfl rfl;cases h:pOk (k,l)
 ·have hn1:n = -1:=by rw[← hn];unfold Zab;rw[if_neg (by simp[h])]
  subst hn1;have H:=qh h;replace hS0:=qh hS0;clear hn h
  go_enter Tryz.func62, Tryz.ntmps62
  go_wp2_with fail;refine(Zd1 k l _ _ H.out).mono ?_;rintro e w1 ⟨rfl,hb1⟩;have HS1:=qh (hS0.out.call hb1);clear hb1;go_wp2;go_ret;exact⟨rfl,HS1.out.bel⟩
 have hk:k=1∨k=2∨k=3∨k=4∨k=5∨k=6∨k=7∨k=8:=by have h':=h;unfold pOk at h';simp only[Bool.and_eq_true] at h';have:=Zed h'.1;omega
 have hn1:n=if k=1∨k=2∨k=3 then 0 else if k=7∨k=8 then 1 else 2:=by rw[← hn];unfold Zab;rw[if_pos h]
 have H:=qh h;replace hS0:=qh hS0;clear hn h;rcases hk with rfl|rfl|rfl|rfl|rfl|rfl|rfl|rfl
 all_goals
  simp at hn1;subst hn1
  go_enter Tryz.func62, Tryz.ntmps62
  go_wp2_with fail;refine(Zd1 _ l _ _ H.out).mono ?_;rintro e w1 ⟨rfl,hb1⟩;have c0:=(hS0.out.call hb1).cell (v:=.int .i64 _) 0 0 rfl rfl;have HS1:=qh (hS0.out.call hb1);clear hb1;go_wp2;go_ret;exact⟨rfl,HS1.out.bel⟩
theorem ZiA (xs:List (Int × Int)):∀ n:Nat,(xs.take n).flatMap Zaa=(xs.flatMap Zaa).take (n*2):=by
 induction xs with
 | nil=>intro n;simp
 | cons x l ih =>
  intro n;cases n with
  | zero=>simp
  | succ n =>rw[List.take_succ_cons,List.flatMap_cons,List.flatMap_cons,ih n,show(n+1)*2=n*2+2 by omega];rfl
theorem ZiB (xs:List (Int × Int)):∀ n:Nat,(xs.drop n).flatMap Zaa=(xs.flatMap Zaa).drop (n*2):=by
 induction xs with
 | nil=>intro n;simp
 | cons x l ih =>
  intro n;cases n with
  | zero=>simp
  | succ n =>rw[List.drop_succ_cons,List.flatMap_cons,ih n,show(n+1)*2=n*2+2 by omega];rfl
theorem Pairs.take {w:World} {a:Option Addr} {len cap:Nat} {xs:List (Int × Int)} (h:Pairs 0 w (.slice a len cap) xs) {n:Nat} (hn:n≤xs.length):Pairs 0 w (.slice a n cap) (xs.take n):=by
 obtain⟨hl,a',cap',hv,h1,h2,h3⟩:=h;simp only[Value.slice.injEq] at hv;obtain⟨rfl,rfl,rfl⟩:=hv;have e:(xs.take n).length=n:=by rw[List.length_take];omega
 unfold Pairs;rw[e];refine⟨by rw[ZiA,List.length_take];omega,a,cap,rfl,by omega,h2,fun hn0 => ?_⟩;obtain⟨b,off,ha,hb,hlt,hc⟩:=h3 (by omega);refine⟨b,off,ha,hb,hlt,fun j hj => ?_⟩;rw[hc j (by omega),ZiA,List.getElem?_take_of_lt hj]
theorem Pairs.drop {w:World} {b off len cap:Nat} {xs:List (Int × Int)} (h:Pairs 0 w (.slice (some ⟨b,off,none⟩) len cap) xs) {n:Nat} (hn:n<xs.length):Pairs 0 w (.slice (some ⟨b,off+n*2,none⟩) (xs.length-n) (cap-n)) (xs.drop n):=by obtain⟨hl,a',cap',hv,h1,h2,h3⟩:=h;simp only[Value.slice.injEq] at hv;obtain⟨rfl,rfl,rfl⟩:=hv;unfold Pairs;rw[List.length_drop];refine⟨by rw[ZiB,List.length_drop];omega,_,_,rfl,by omega,by omega,fun hn0 => ?_⟩;obtain⟨b',off',ha,hb,hlt,hc⟩:=h3 (by omega);simp only[Option.some.injEq,Addr.mk.injEq,and_true] at ha;obtain⟨rfl,rfl⟩:=ha;refine⟨b,off+n*2,rfl,hb,hlt,fun j hj => ?_⟩;rw[show off+n*2+j=off+(n*2+j) by omega,hc _ (by omega),ZiB,List.getElem?_drop]
theorem Zbg (es:List (Int × Int)) (v:Value) (w:World) (hlen:es.length≤2000000) (h:Pairs 0 w v es) (r:Bool) (hr:exOk es=r) :
  Calls Tryz.prog 31 #[v] w fun e w'=>e = .returned (.bool r)∧Below w.heap.size w w':=by
 obtain⟨a,c,rfl,hc1,hc2,hrd⟩:=h.form;have Hrd:=qh hrd;have Hr:=qh hr;clear h hr hrd
 go_enter Tryz.func31, Tryz.ntmps31
 go_wp2
 go_loopw [3,4] (fun vd i wr=>∃ k:Nat,i = .int .i64 k∧k≤es.length∧vd = .int .i64 (dep es k)∧(∀ j,j<k→exAt es j=true)∧Below w.heap.size w wr) (fun _ i _=>es.length-(intOf i).toNat)
 case atStart=>exact⟨0,rfl,Nat.zero_le _,rfl,fun j hj=>absurd hj (by omega),Below.refl _ _⟩
 case round =>
  obtain⟨k,rfl,hk,rfl,hall,hb⟩:=hrel;have hdi:=Ze1 es k;have hds:dep es (k+1)=dep es k-Zab (es.getD k (0,0))+1:=rfl;have hpi:=Zck (es.getD k (0,0));have hex:exAt es k=(decide (0≤Zab (es.getD k (0,0)))&&decide (Zab (es.getD k (0,0))≤dep es k)):=rfl;have Hall:=qh hall;have Hb:=qh hb;clear hall hb;by_cases hlt:k<es.length
  ·have hlt2:(k:Int)<es.length:=by omega
   obtain⟨b,o,rfl,-,hbl,hcs⟩:=Hrd.out (by omega);obtain⟨g1,g2⟩:=hcs k hlt;have k1:=(bcell Hb.out b _ hbl).trans g1;have k2:=(bcell Hb.out b _ hbl).trans g2;obtain⟨p,hp⟩:=eI (es.getD k (0,0));rw[← hp] at k1 k2 hds hpi hex;obtain⟨p1,p2⟩:=p;simp only at k1 k2;obtain⟨n,hn⟩:=eI (Zab (p1,p2));rw[← hn] at hds hpi hex;obtain⟨D,hD⟩:=eI (dep es k);rw[← hD] at hds hdi hex;rw[← hD];obtain⟨hd1,hd2⟩:=hdi;obtain⟨hp1,hp2⟩:=hpi;have Hds:=qh hds;have Hex:=qh hex;replace hp:=qh hp;replace hn:=qh hn;replace hD:=qh hD;clear hds hex hcs g1 g2;go_wp2_with fail;refine(Zbc p1 p2 _ _ hn.out.symm).mono ?_;rintro e w1 ⟨rfl,hb1⟩;have Hb1:=qh (Hb.out.trans (hb1.mono Hb.out.size));clear hb1 k1 k2;by_cases hn0:n<0
   ·have q1:(n<0)=True:=by simp[hn0]
    have hrf:false=r:=by rw[← Hr.out];exact(Zj8 hlt (by rw[Hex.out,decide_eq_false (by omega)];rfl)).symm
    subst hrf;go_wp2;go_ret;exact⟨rfl,Hb1.out⟩
   have q1:(n<0)=False:=by simp;omega
   have hn1:0≤n:=by omega
   clear hn0;by_cases hDn:D<n
   ·have q2:(D<n)=True:=by simp[hDn]
    have hrf:false=r:=by rw[← Hr.out];exact(Zj8 hlt (by rw[Hex.out,decide_eq_false (show ¬ n≤D by omega),Bool.and_false])).symm
    subst hrf;go_wp2;go_ret;exact⟨rfl,Hb1.out⟩
   have q2:(D<n)=False:=by simp;omega
   have hDn1:n≤D:=by omega
   clear hDn;go_wp2;go_roundw
   case rel =>
    refine⟨k+1,by go_num,by omega,by rw[Hds.out],fun j hj => ?_,Hb1.out⟩;by_cases e:j=k
    ·rw[e,Hex.out,decide_eq_true hn1,decide_eq_true hDn1];rfl
    exact Hall.out j (by omega)
   case measure=>simp[intOf];omega
  obtain rfl:k=es.length:=by omega
  have hro:exOk es=(decide (dep es es.length=1)&&decide (es.length≤60)):=by unfold exOk;rw[List.all_eq_true.2 (fun j hj=>Hall.out j (List.mem_range.1 hj)),Bool.true_and]
  obtain⟨D,hD⟩:=eI (dep es es.length);rw[← hD] at hro;rw[← hD];rw[Hr.out] at hro;have Hro:=qh hro;replace hD:=qh hD;clear hro hdi hds hpi hex;by_cases hD1:D=1
  ·subst hD1;by_cases h60:es.length≤60
   ·have q1:((es.length:Int)≤60)=True:=by simp;omega
    have hrt:true=r:=by rw[Hro.out,decide_eq_true h60];rfl
    subst hrt;go_wp2;go_ret;exact⟨rfl,Hb.out⟩
   have q1:((es.length:Int)≤60)=False:=by simp;omega
   have hrt:false=r:=by rw[Hro.out,decide_eq_false h60];rfl
   subst hrt;clear h60;go_wp2;go_ret;exact⟨rfl,Hb.out⟩
  obtain⟨q1,q2,q3,q4⟩:=Zaj hD1;have hrt:false=r:=by rw[Hro.out,decide_eq_false hD1];rfl
  subst hrt;clear hD1;go_wp2;go_ret;exact⟨rfl,Hb.out⟩
theorem Zf0 (es:List (Int × Int)) (en at':Nat) (v:Value) (w:World) (hlen:es.length≤1000000) (hen:en<es.length) (h:Pairs 0 w v es) (ha:beginsAt es (en+1) at') :
  Calls Tryz.prog 136 #[v,.int .i64 ((en:Nat):Int)] w fun e w'=>e = .returned (.int .i64 ((at':Nat):Int))∧Below w.heap.size w w':=by
 obtain⟨a,c,rfl,hc1,hc2,hrd⟩:=h.form;obtain⟨b,o,rfl,-,hbl,hcs⟩:=hrd (by omega);obtain⟨ha1,ha2,ha3⟩:=ha;have Hcs:=qh hcs;have Ha2:=qh ha2;have Ha3:=qh ha3;have hde:=Ze1 es (en+1);obtain⟨hde1,hde2⟩:=hde;obtain⟨E,hE⟩:=eI (dep es (en+1));rw[← hE] at hde1 hde2;replace hE:=qh hE;clear h hcs hrd ha2 ha3
 go_enter Tryz.func136, Tryz.ntmps136
 go_wp2
 go_loopw [5,6] (fun vn i wr=>∃ k:Nat,i = .int .i64 k∧at'≤k∧k≤en∧vn = .int .i64 (1+dep es (k+1)-E)∧Below w.heap.size w wr) (fun _ i _=>(intOf i).toNat)
 case atStart=>exact⟨en,rfl,by omega,Nat.le_refl _,by rw[hE.out];congr 1;omega,Below.refl _ _⟩
 case round =>
  obtain⟨k,rfl,hak,hk,rfl,hb⟩:=hrel;have hlt2:(k:Int)<es.length:=by omega
  have hdi:=Ze1 es (k+1);have hdk:=Ze1 es k;have hds:dep es (k+1)=dep es k-Zab (es.getD k (0,0))+1:=rfl;have hpi:=Zck (es.getD k (0,0));obtain⟨g1,g2⟩:=Hcs.out k (by omega);have k1:=(bcell hb b _ hbl).trans g1;have k2:=(bcell hb b _ hbl).trans g2;obtain⟨p,hp⟩:=eI (es.getD k (0,0));rw[← hp] at k1 k2 hds hpi;obtain⟨p1,p2⟩:=p;simp only at k1 k2;obtain⟨n,hn⟩:=eI (Zab (p1,p2));rw[← hn] at hds hpi;obtain⟨D1,hD1⟩:=eI (dep es (k+1));rw[← hD1] at hds hdi;rw[← hD1];obtain⟨D,hD⟩:=eI (dep es k);rw[← hD] at hds hdk;obtain⟨hd1,hd2⟩:=hdi;obtain⟨hd3,hd4⟩:=hdk;obtain⟨hp1,hp2⟩:=hpi;have hsum:1+D1-E-1+n=1+D-E:=by omega
  have Hb:=qh hb;have Hds:=qh hds;have Hsum:=qh hsum;have Hhp:=qh hp;clear hp;have Hhn:=qh hn;clear hn;replace hD:=qh hD;have HhD1:=qh hD1;clear hD1;clear hds hsum g1 g2 hb;go_wp2_with fail;refine(Zbc p1 p2 _ _ Hhn.out.symm).mono ?_;rintro e w1 ⟨rfl,hb1⟩;have Hb1:=qh (Hb.out.trans (hb1.mono Hb.out.size));clear hb1 k1 k2;by_cases hka:k=at'
  ·subst hka;have hz:1+D1-E-1+n=0:=by rw[Hsum.out,hD.out,Ha2.out,← hE.out];omega
   go_wp2;go_ret;exact⟨rfl,Hb1.out⟩
  have hz:1+D1-E-1+n≠0:=by rw[Hsum.out];intro he;have h:=Ha3.out k (by omega) (by omega);rw[← hE.out,← hD.out] at h;omega
  obtain⟨z1,z2,z3,z4⟩:=Zaj hz;have hsm:1+D1-E-1+n=1+dep es ((k-1)+1)-E:=by rw[Hsum.out,show(k-1)+1=k by omega,hD.out]
  have Hsm:=qh hsm;have hk0:1≤k:=by omega
  clear hz hsm;go_wp2;go_roundw
  case rel=>exact⟨k-1,by congr 1;omega,by omega,by omega,by rw[Hsm.out],Hb1.out⟩
  case measure=>simp[intOf];omega
def splits (es:List (Int × Int)) (xs ys:List (Int × Int)):Prop:=(Zab (es.getD (es.length-1) (0,0))=0→xs=[]∧ys=[])∧(Zab (es.getD (es.length-1) (0,0))=1→xs=es.take (es.length-1)∧ys=[]) ∧
 (Zab (es.getD (es.length-1) (0,0))=2→∃ a,beginsAt es (es.length-1) a∧xs=es.take a∧ys=(es.drop a).take (es.length-1-a))
theorem ZfO (w:World) (a:Option Addr) {c:Nat} (hc:c≤maxLen):Pairs 0 w (.slice a 0 c) []:=⟨rfl,_,_,rfl,Nat.zero_le _,hc,fun h=>by simp at h⟩
theorem Zas (es:List (Int × Int)) (v:Value) (w:World) (hok:exOk es=true) (h:Pairs 0 w v es) :
  Calls Tryz.prog 101 #[v] w fun e w'=>∃ vx vy xs ys,splits es xs ys∧e = .returned (.tuple #[vx,vy])∧Pairs 0 w' vx xs∧Pairs 0 w' vy ys∧Below w.heap.size w w':=by
 obtain⟨hall,hd1,hl1,hl60⟩:=ZaH hok;have Hp:=qh h;obtain⟨a,c,rfl,hc1,hc2,hrd⟩:=h.form;obtain⟨b,o,rfl,-,hbl,hcs⟩:=hrd (by omega);obtain⟨m,hm⟩:∃ m,es.length=m+1:=⟨es.length-1,by omega⟩;obtain⟨g1,g2⟩:=hcs m (by omega);have hpn:=hall m (by omega);have hpi:=Zck (es.getD m (0,0));have hdm:dep es (m+1)=dep es m-Zab (es.getD m (0,0))+1:=rfl;rw[← hm,hd1] at hdm;have hbeg:Zab (es.getD m (0,0))=2→∃ a,beginsAt es m a:=fun h2=>ZmF (fun k hk=>(hall k (by omega)).1) (by omega)
 have hsp:∀ xs ys,splits es xs ys↔(Zab (es.getD m (0,0))=0→xs=[]∧ys=[])∧(Zab (es.getD m (0,0))=1→xs=es.take m∧ys=[])∧(Zab (es.getD m (0,0))=2→∃ a,beginsAt es m a∧xs=es.take a∧ys=(es.drop a).take (m-a)):=fun xs ys=>by unfold splits;rw[show es.length-1=m by omega]
 obtain⟨p,hp⟩:=eI (es.getD m (0,0));rw[← hp] at g1 g2 hpi hpn hbeg hsp;obtain⟨p1,p2⟩:=p;simp only at g1 g2;obtain⟨n,hn⟩:=eI (Zab (p1,p2));rw[← hn] at hpi hpn hbeg hsp;have hn3:n=0∨n=1∨n=2:=by omega
 have Hbeg:=qh hbeg;have Hsp:=qh hsp;have hml:(m:Int)<es.length:=by omega
 replace hn:=qh hn;have Hhp:=qh hp;clear hp;clear hall hd1 h hok hcs hrd hdm hbeg hsp hpn hpi;have hlen:(es.length:Int)-1=(m:Int):=by omega
 replace hm:=qh hm
 go_enter Tryz.func101, Tryz.ntmps101
 rcases hn3 with rfl|rfl|rfl
 ·go_wp2_with fail;refine(Zbc p1 p2 _ _ hn.out.symm).mono ?_;rintro e w1 ⟨rfl,hb1⟩;have HS:=qh (((((St.start w).call hb1).alloc_ (.cells #[] 55)).alloc_ (.cells #[] 55)).bel);clear hb1;go_wp2;refine bodyPost_ret (v:=.tuple #[.slice (some ⟨w1.heap.size,0,none⟩) 0 0,.slice (some ⟨w1.heap.size+1,0,none⟩) 0 0]) (by simp[results,Tryz.results101,go_sem]) rfl ?_;exact⟨_,_,[],[],(Hsp.out _ _).2 ⟨fun _=>⟨rfl,rfl⟩,fun h=>absurd h (by omega),fun h=>absurd h (by omega)⟩,rfl,ZfO _ _ (by unfold maxLen;omega),ZfO _ _ (by unfold maxLen;omega),HS.out⟩
 ·have hcI:(m:Int)≤c:=by omega
  go_wp2_with fail;refine(Zbc p1 p2 _ _ hn.out.symm).mono ?_;rintro e w1 ⟨rfl,hb1⟩;have HS:=qh ((((St.start w).call hb1).alloc_ (.cells #[] 55)).bel);clear hb1;go_wp2;refine bodyPost_ret (v:=.tuple #[.slice (some ⟨b,o,none⟩) m c,.slice (some ⟨w1.heap.size,0,none⟩) 0 0]) (by simp[results,Tryz.results101,go_sem]) rfl ?_;exact⟨_,_,es.take m,[],(Hsp.out _ _).2 ⟨fun h=>absurd h (by omega),fun _=>⟨rfl,rfl⟩,fun h=>absurd h (by omega)⟩,rfl,(Hp.out.below HS.out).take (by have:=hm.out;omega),ZfO _ _ (by unfold maxLen;omega),HS.out⟩
 obtain⟨at',hat⟩:=Hbeg.out rfl;have ha1:=hat.1;obtain⟨q,hqm⟩:∃ q,m=q+1:=⟨m-1,by omega⟩;have hq:(m:Int)-1=(q:Int):=by omega
 have haI:(at':Int)≤(m:Int):=by omega
 have haC:(at':Int)≤c:=by omega
 have hqC:(m:Int)≤c:=by omega
 rw[hqm] at hat;have Hhqm:=qh hqm;clear hqm;have Hat:=qh hat;clear hat;go_wp2_with fail;refine(Zbc p1 p2 _ _ hn.out.symm).mono ?_;rintro e w1 ⟨rfl,hb1⟩;have HS:=qh ((St.start w).call hb1);clear hb1;go_wp2_with fail;refine(Zf0 es q at' _ _ (by have:=hm.out;omega) (by have:=hm.out;have:=Hhqm.out;omega) (Hp.out.below HS.out.bel) Hat.out).mono ?_;rintro e w2 ⟨rfl,hb2⟩;have HS2:=qh (HS.out.call hb2);clear hb2;go_wp2
 go_quiet (fail)
 go_wp2;have HS3:=qh (HS2.out.drewN nq);refine bodyPost_ret (v:=.tuple #[.slice (some ⟨b,o,none⟩) at' c,.slice (some ⟨b,o+at'*2,none⟩) (m-at') (c-at')]) (by simp[results,Tryz.results101,go_sem]) rfl ?_;have hml2:=hm.out
 exact⟨_,_,es.take at',(es.drop at').take (m-at'),(Hsp.out _ _).2 ⟨fun h=>absurd h (by omega),fun h=>absurd h (by omega),fun _=>⟨at',by rw[Hhqm.out];exact Hat.out,rfl,rfl⟩⟩,rfl,
  (Hp.out.below HS3.out.bel).take (by omega),((Hp.out.below HS3.out.bel).drop (by omega)).take (by rw[List.length_drop];omega),HS3.out.bel⟩
def okAt (l:List Int) (n:Int) (j:Nat):Bool:=inB (l.getD j 0) 0 (n-1)&&(decide (j=0)||decide (l.getD (j-1) 0<l.getD j 0))
def stOk (l:List Int) (n:Int):Bool:=(List.range l.length).all (okAt l n)
def mvOk (n:Int) (m:Int × Int × Int):Bool:=inB m.1 0 (n-1)&&inB m.2.2 0 (n-1)&&inB m.2.1 (-1) 2
def Zhw (n:NfaD):Bool:=inB n.states 0 40&&decide (n.moves.length≤400)&&stOk n.firsts n.states&&stOk n.ends n.states&&n.moves.all (mvOk n.states)
theorem ZkC {p:Nat→Bool} {k:Nat} (h:(List.range k).all p=true) (hp:p k=true):(List.range (k+1)).all p=true:=by rw[List.range_succ,List.all_append,h];simp[hp]
end Go.Proofs.YtehmjmjedopkkaaGreat
namespace Go.Proofs.YtehmjmjedopkkaaGreat
open Go.RowKit
end Go.Proofs.YtehmjmjedopkkaaGreat
namespace Go.Proofs.YtehmjmjedopkkaaGreat
open Go.RowKit
def adj (v s:Nat):Nat:=v ||| 2 ^ s
theorem ZcD (v s t:Nat):(adj v s).testBit t=(v.testBit t||decide (s=t)):=by unfold adj;rw[Nat.testBit_or,Nat.testBit_two_pow]
theorem ZmH {v s n:Nat} (hv:v<2 ^ n) (hs:s<n):adj v s<2 ^ n:=Nat.or_lt_two_pow hv (Nat.pow_lt_pow_right (by omega) hs)
def flags (n v:Nat):List Bool:=(List.range n).map v.testBit
def setV (l:List Int):Nat:=l.foldl (fun v s=>adj v s.toNat) 0
theorem ZcQ {α β:Type} (f:β→α→β) (b:β) {l:List α} {k:Nat} (hk:k<l.length) (d:α):(l.take (k+1)).foldl f b=f ((l.take k).foldl f b) (l.getD k d):=by rw[List.take_succ_eq_append_getElem hk,List.foldl_append];simp[hk]
theorem Zcq {α β:Type} (f:β→α→β) (Q:β→Prop) {l:List α} (hf:∀ b,∀ x∈l,Q b→Q (f b x)):∀ {b:β},Q b→Q (l.foldl f b):=by
 induction l with
 | nil=>intro b h;exact h
 | cons x l ih=>intro b h;exact ih (fun b y hy=>hf b y (by simp[hy])) (hf b x (by simp) h)
theorem ZdG {α β:Type} (f:β→α→β) (Q:β→Prop) {l:List α} (hf:∀ b,∀ x∈l,Q b→Q (f b x)) {b:β} (h:Q b) (k:Nat):Q ((l.take k).foldl f b) :=
 Zcq f Q (fun b x hx=>hf b x (List.mem_of_mem_take hx)) h
def inN (n:Nat) (l:List Int):Prop:=∀ s∈l,0≤s∧s<(n:Int)
theorem ZdK {n:Nat} {l:List Int} (h:inN n l):setV l<2 ^ n :=
 Zcq _ (fun v=>v<2 ^ n) (fun v s hs hv=>ZmH hv (by have:=h s hs;omega)) (Nat.two_pow_pos n)
def mvIn (n:Nat) (ms:List (Int × Int × Int)):Prop:=∀ m∈ms,(0≤m.1∧m.1<(n:Int))∧(0≤m.2.2∧m.2.2<(n:Int))
def Zat (v:Nat) (m:Int × Int × Int):Nat:=if (decide (m.2.1 = -1)&&v.testBit m.1.toNat && !v.testBit m.2.2.toNat)=true then adj v m.2.2.toNat else v
def ZiI (ms:List (Int × Int × Int)) (v:Nat):Nat:=ms.foldl Zat v
def clIt (ms:List (Int × Int × Int)) (v:Nat):Nat→Nat
 | 0=>v
 | k+1=>ZiI ms (clIt ms v k)
def clV (n:Nat) (ms:List (Int × Int × Int)) (v:Nat):Nat:=clIt ms v n
def Zbx (v:Nat) (c:Int) (u:Nat) (m:Int × Int × Int):Nat:=if (decide (m.2.1=c)&&v.testBit m.1.toNat)=true then adj u m.2.2.toNat else u
def stV (n:Nat) (ms:List (Int × Int × Int)) (v:Nat) (c:Int):Nat:=clV n ms (ms.foldl (Zbx v c) 0)
theorem ZiJ {n:Nat} {ms:List (Int × Int × Int)} (h:mvIn n ms) {m:Int × Int × Int} (hm:m∈ms) {v:Nat} (hv:v<2 ^ n):Zat v m<2 ^ n:=by
 unfold Zat
 split
 ·exact ZmH hv (by have:=(h m hm).2;omega)
 exact hv
theorem Zmu {n:Nat} {ms:List (Int × Int × Int)} (h:mvIn n ms) {v:Nat} (hv:v<2 ^ n):ZiI ms v<2 ^ n:=Zcq _ (fun v=>v<2 ^ n) (fun _ _ hm hv=>ZiJ h hm hv) hv
theorem ZeM {n:Nat} {ms:List (Int × Int × Int)} (h:mvIn n ms) {v:Nat} (hv:v<2 ^ n):∀ k,clIt ms v k<2 ^ n
 | 0=>hv
 | k+1=>Zmu h (ZeM h hv k)
theorem Zdb {n:Nat} {ms:List (Int × Int × Int)} (h:mvIn n ms) {m:Int × Int × Int} (hm:m∈ms) {v u:Nat} {c:Int} (hu:u<2 ^ n):Zbx v c u m<2 ^ n:=by
 unfold Zbx
 split
 ·exact ZmH hu (by have:=(h m hm).2;omega)
 exact hu
theorem Zlg {n:Nat} {ms:List (Int × Int × Int)} (h:mvIn n ms) (v:Nat) (c:Int):stV n ms v c<2 ^ n :=
 ZeM h (Zcq _ (fun v=>v<2 ^ n) (fun _ _ hm hv=>Zdb h hm hv) (Nat.two_pow_pos n)) n
def clr (n v:Nat):Nat:=((List.range n).filter fun i => !v.testBit i).length
theorem ZiC {α:Type} {p q:α→Bool}:∀ {l:List α},(∀ x∈l,p x=true→q x=true)→(l.filter p).length≤(l.filter q).length
 | [],_=>by simp
 | x::l,h=>by
  have ih:=ZiC (l:=l) fun y hy=>h y (by simp[hy])
  have hx:=h x (by simp);simp only[List.filter_cons];by_cases hp:p x=true
  ·rw[if_pos hp,if_pos (hx hp)];simp;omega
  rw[if_neg hp]
  split<;>simp<;>omega
theorem Zek {α:Type} {p q:α→Bool} {a:α} (hp:p a=false) (hq:q a=true):∀ {l:List α},a∈l→(∀ x∈l,p x=true→q x=true)→(l.filter p).length<(l.filter q).length
 | [],h,_=>by simp at h
 | x::l,ha,h=>by
  have hle:=ZiC (l:=l) fun y hy=>h y (by simp[hy])
  simp only[List.filter_cons];by_cases hx:a=x
  ·subst hx;rw[if_neg (by simp[hp]),if_pos hq];simp;omega
  have ih:=Zek hp hq (l:=l) (by simpa [hx] using ha) fun y hy=>h y (by simp[hy])
  have hxx:=h x (by simp);by_cases hpx:p x=true
  ·rw[if_pos hpx,if_pos (hxx hpx)];simp;omega
  rw[if_neg hpx]
  split<;>simp<;>omega
theorem Zmq (n v:Nat):clr n v≤n:=by have:=List.length_filter_le (fun i => !v.testBit i) (List.range n);simpa [clr] using this
theorem ZoY {n v s:Nat} (hs:s<n) (h:v.testBit s=false):clr n (adj v s)<clr n v:=by
 unfold clr;refine Zek (a:=s) (by simp[ZcD]) (by simp[h]) (by simpa using hs) fun x _ hx => ?_
 rw[ZcD] at hx;simp at hx ⊢;exact hx.1
theorem ZeL {n:Nat} {m:Int × Int × Int} (hm:0≤m.2.2∧m.2.2<(n:Int)) (v:Nat):Zat v m=v∨clr n (Zat v m)<clr n v:=by
 unfold Zat
 split
 ·rename_i h;simp only[Bool.and_eq_true,Bool.not_eq_true'] at h;exact .inr (ZoY (by omega) h.2)
 exact .inl rfl
theorem ZcS {n:Nat}:∀ {ms:List (Int × Int × Int)},(∀ m∈ms,0≤m.2.2∧m.2.2<(n:Int))→∀ v,ms.foldl Zat v=v∨clr n (ms.foldl Zat v)<clr n v
 | [],_,v => .inl rfl
 | m::ms,h,v=>by
  have h1:=ZeL (h m (by simp)) v;have h2:=ZcS (ms:=ms) (fun m hm=>h m (by simp[hm])) (Zat v m);simp only[List.foldl_cons];rcases h1 with h1|h1
  ·rw[h1] at h2 ⊢;exact h2
  rcases h2 with h2|h2
  ·rw[h2];exact .inr h1
  exact .inr (Nat.lt_trans h2 h1)
theorem Zen {ms:List (Int × Int × Int)} {v j:Nat} (h:clIt ms v (j+1)=clIt ms v j):∀ k,j≤k→clIt ms v k=clIt ms v j
 | 0,hk=>by obtain rfl:j=0:=by omega
            rfl
 | k+1,hk=>by
  by_cases e:j=k+1
  ·subst e;rfl
  have ih:=Zen h k (by omega);show ZiI ms (clIt ms v k)=_;rw[ih];exact h
theorem Zeo {n:Nat} {ms:List (Int × Int × Int)} (h:mvIn n ms) (v:Nat):∀ k,clIt ms v (k+1)=clIt ms v k∨clr n (clIt ms v (k+1))+(k+1)≤clr n v
 | 0=>by
  rcases ZcS (n:=n) (ms:=ms) (fun m hm=>(h m hm).2) v with e|e
  ·exact .inl e
  exact .inr (by show clr n (ZiI ms v)+1≤_;exact e)
 | k+1=>by
  rcases Zeo h v k with e|e
  ·left;have:=Zen e (k+1+1) (by omega);rw[this,e]
  rcases ZcS (n:=n) (ms:=ms) (fun m hm=>(h m hm).2) (clIt ms v (k+1)) with e2|e2
  ·exact .inl e2
  right;have:clr n (clIt ms v (k+1+1))<clr n (clIt ms v (k+1)):=e2;omega
theorem Zpm {n:Nat} {ms:List (Int × Int × Int)} (h:mvIn n ms) {v j:Nat} (hj:clIt ms v (j+1)=clIt ms v j):clV n ms v=clIt ms v j:=by
 unfold clV;by_cases hjn:j≤n
 ·exact Zen hj n hjn
 rcases Zeo h v n with e|e
 ·exact(Zen e j (by omega)).symm
 have:=Zmq n v;omega
theorem ZgZ {n:Nat} {ms:List (Int × Int × Int)} (h:mvIn n ms) {v k:Nat} (hk:clIt ms v (k+1)≠clIt ms v k):k<n:=by
 rcases Zeo h v k with e|e
 ·exact absurd e hk
 have:=Zmq n v;omega
theorem Zmy {n:Nat} {ms:List (Int × Int × Int)} (h:mvIn n ms) {v:Nat} {k:Nat} (hk:k<ms.length) (hne:Zat ((ms.take k).foldl Zat v) (ms.getD k (0,0,0))≠(ms.take k).foldl Zat v):(ms.take (k+1)).foldl Zat v≠v:=by
 have h1:=ZcS (n:=n) (ms:=ms.take k) (fun m hm=>(h m (List.mem_of_mem_take hm)).2) v;have hmem:ms.getD k (0,0,0)∈ms:=by rw[List.getD_eq_getElem?_getD,List.getElem?_eq_getElem hk];simp
 have h2:=ZeL (n:=n) (h _ hmem).2 ((ms.take k).foldl Zat v);rw[ZcQ Zat v hk (0,0,0)];intro e;rcases h2 with h2|h2
 ·exact hne h2
 rw[e] at h2;rcases h1 with h1|h1
 ·rw[h1] at h2;omega
 omega
theorem ZgA {n:Nat} {ms:List (Int × Int × Int)} (h:mvIn n ms) {v:Nat} {k:Nat} (hk:k<ms.length) (hne:(ms.take k).foldl Zat v≠v):(ms.take (k+1)).foldl Zat v≠v:=by
 have h1:=ZcS (n:=n) (ms:=ms.take k) (fun m hm=>(h m (List.mem_of_mem_take hm)).2) v;have hmem:ms.getD k (0,0,0)∈ms:=by rw[List.getD_eq_getElem?_getD,List.getElem?_eq_getElem hk];simp
 have h2:=ZeL (n:=n) (h _ hmem).2 ((ms.take k).foldl Zat v);rw[ZcQ Zat v hk (0,0,0)];rcases h1 with h1|h1
 ·exact absurd h1 hne
 rcases h2 with h2|h2
 ·rw[h2];exact hne
 intro e;rw[e] at h2;omega
end Go.Proofs.YtehmjmjedopkkaaGreat
namespace Go.Proofs.YtehmjmjedopkkaaGreat
open Go.RowKit
theorem offL {x p q:Bool} (h:x=true→p=true∧q=true) (hp:p=false):x=false:=by
 cases x with
 | false=>rfl
 | true=>rw[hp] at h;exact absurd (h rfl).1 (by decide)
theorem offR {x p q:Bool} (h:x=true→p=true∧q=true) (hq:q=false):x=false:=by
 cases x with
 | false=>rfl
 | true=>rw[hq] at h;exact absurd (h rfl).2 (by decide)
section
variable {P:Program} {ops:Array Oper} {Q:Exit→Act→World→Prop} {md:Region.Mode}
def unl (n:Nat) (listed:Array Bool):Nat:=((List.range n).filter fun i => !listed.getD i true).length
theorem Zo6 (n:Nat) (listed:Array Bool):unl n listed≤n:=by unfold unl;have:=List.length_filter_le (fun i => !listed.getD i true) (List.range n);simpa using this
theorem Zk0 {n i:Nat} {listed:Array Bool} (hi:i<n) (h:listed.getD i true=false):unl n (listed.setIfInBounds i true)<unl n listed:=by
 refine Zek (a:=i) ?_ (by simp only[h];rfl) (List.mem_range.2 hi) fun x _ hx => ?_
 ·simp only[Bool.not_eq_false'];rcases Nat.lt_or_ge i listed.size with h1|h1
  ·simp[h1]
  simp[Array.getElem?_eq_none h1] at h
 by_cases hxi:i=x
 ·subst hxi;simp only[h];rfl
 simpa [hxi] using hx
theorem ZhZ (Inv:Array Bool→Act→World→Prop) (hstep:∀ listed a w,Inv listed a w→∀ i∈Region.ready md ops listed,wpOp P ops Q i (Inv (listed.setIfInBounds i true)) a w)
  (hdone:∀ listed a w,Inv listed a w→Region.ready md ops listed=[]→Q .normal a w):∀ (fuel:Nat) (listed:Array Bool) (a:Act) (w:World),unl ops.size listed≤fuel→Inv listed a w→wpAny P md ops Q fuel listed a w
 | 0,listed,a,w,hf,h=>by
  have hr:Region.ready md ops listed=[]:=by
   refine List.eq_nil_iff_forall_not_mem.2 fun i hi => ?_
   obtain⟨hun,o,ho,-⟩:=mem_ready.1 hi;have:=Zk0 (n:=ops.size) (Array.getElem?_eq_some_iff.1 ho).1 hun;omega
  exact⟨hr,hdone _ _ _ h hr⟩
 | fuel+1,listed,a,w,hf,h=>⟨fun h0=>hdone _ _ _ h h0,fun i hi=>wpOp_mono (fun a' w' h'=>ZhZ Inv hstep hdone fuel _ a' w' (by obtain⟨hun,o,ho,-⟩:=mem_ready.1 hi;have:=Zk0 (n:=ops.size) (Array.getElem?_eq_some_iff.1 ho).1 hun;omega) h') (hstep _ _ _ h i hi)⟩
theorem Zam (Inv:Act→Array Bool→Act→World→Prop) {a:Act} {w:World} (hstep:∀ listed b w,Inv a listed b w→∀ i∈Region.ready md ops listed,wpOp P ops Q i (Inv a (listed.setIfInBounds i true)) b w)
  (hdone:∀ listed b w,Inv a listed b w→Region.ready md ops listed=[]→Q .normal b w) (h0:Inv a (Array.replicate ops.size false) a w):wpAny P md ops Q ops.size (Array.replicate ops.size false) a w :=
 ZhZ (Inv a) hstep hdone _ _ _ _ (Zo6 _ _) h0
def Zkf (ops:Array Oper):Bool:=(List.range ops.size).all fun i=>match ops[i]? with
 | some o=>o.after.all fun e=>decide (e.on<i)
 | none=>true
theorem ZfL {listed:Array Bool} (hd:Zkf ops=true) (hs:listed.size=ops.size) (hr:Region.ready md ops listed=[]):∀ i,i<ops.size→listed.getD i true=true:=by
 intro i
 induction i using Nat.strongRecOn with
 | ind i ih =>
  intro hi;cases h:listed.getD i true with
  | true=>rfl
  | false =>
   exfalso
   have hmem:i∈Region.ready md ops listed:=by
    refine mem_ready.2 ⟨h,ops[i],by simp[hi],fun e he _ => ?_⟩;simp only[Zkf,List.all_eq_true,List.mem_range] at hd;have h1:=hd i hi;simp only[Array.getElem?_eq_getElem hi] at h1;have h2:e.on<i:=by have:=(Array.all_eq_true_iff_forall_mem.1 h1) e he;simpa using this
    have h3:=ih e.on h2 (by omega);have h4:e.on<listed.size:=by omega
    simpa [h4] using h3
   rw[hr] at hmem;cases hmem
end
end Go.Proofs.YtehmjmjedopkkaaGreat
namespace Go.Proofs.YtehmjmjedopkkaaGreat
open Go.RowKit
section
variable {ops:Array Oper} {md:Region.Mode}
def ZiG (md:Region.Mode) (ops:Array Oper):Bool:=(List.range ops.size).all fun i=>match ops[i]? with
 | some o=>o.after.all fun e => !Region.binds md e||decide (e.on<i)
 | none=>true
theorem Zan {listed:Array Bool} (hd:ZiG md ops=true) (hs:listed.size=ops.size) (hr:Region.ready md ops listed=[]):∀ i,i<ops.size→listed.getD i true=true:=by
 intro i
 induction i using Nat.strongRecOn with
 | ind i ih =>
  intro hi;cases h:listed.getD i true with
  | true=>rfl
  | false =>
   exfalso
   have hmem:i∈Region.ready md ops listed:=by
    refine mem_ready.2 ⟨h,ops[i],by simp[hi],fun e he hbd => ?_⟩;simp only[ZiG,List.all_eq_true,List.mem_range] at hd;have h1:=hd i hi;simp only[Array.getElem?_eq_getElem hi] at h1;have h2:e.on<i:=by have:=(Array.all_eq_true_iff_forall_mem.1 h1) e he;rw[hbd] at this;simpa using this
    have h3:=ih e.on h2 (by omega);have h4:e.on<listed.size:=by omega
    simpa [h4] using h3
   rw[hr] at hmem;cases hmem
end
end Go.Proofs.YtehmjmjedopkkaaGreat
namespace Go.Proofs.YtehmjmjedopkkaaGreat
open Go.RowKit Go.Maps
theorem Zhb {l:List Int} {m:Int} (h:stOk l m=true) {j:Nat} (hj:j<l.length):(0≤l.getD j 0∧l.getD j 0≤m-1)∧(0<j→l.getD (j-1) 0<l.getD j 0):=by
 unfold stOk at h;rw[List.all_eq_true] at h;have h1:=h j (List.mem_range.2 hj);unfold okAt at h1;rw[Bool.and_eq_true,Bool.or_eq_true] at h1;obtain⟨h1,h2⟩:=h1;refine⟨by simpa [inB] using h1,fun h0 => ?_⟩;rcases h2 with h2|h2
 ·have:=of_decide_eq_true h2;omega
 exact of_decide_eq_true h2
theorem Zlh {l:List Int} {m:Int} (h:stOk l m=true):∀ j,j<l.length→(j:Int)≤l.getD j 0
 | 0,hj=>(Zhb h hj).1.1
 | j+1,hj=>by have h1:=Zlh h j (by omega);have h2:=(Zhb h hj).2 (by omega);rw[Nat.add_sub_cancel] at h2;omega
theorem ZgG {l:List Int} {m:Nat} (h:stOk l (m:Int)=true):inN m l∧l.length≤m:=by
 refine⟨fun s hs => ?_,?_⟩
 ·obtain⟨j,hj,e⟩:=List.getElem_of_mem hs;have:=(Zhb h hj).1;rw[ZbA hj,e] at this;omega
 rcases Nat.eq_zero_or_pos l.length with h0|h0
 ·omega
 have h1:=Zlh h (l.length-1) (by omega);have h2:=(Zhb h (j:=l.length-1) (by omega)).1.2;omega
theorem Zc2 {n:NfaD} (h:Zhw n=true):∃ m:Nat,n.states=(m:Int)∧m≤40∧mvIn m n.moves∧n.moves.length≤400∧inN m n.firsts∧n.firsts.length≤40∧inN m n.ends∧n.ends.length≤40:=by
 unfold Zhw at h;simp only[Bool.and_eq_true] at h;obtain⟨⟨⟨⟨h1,h2⟩,h3⟩,h4⟩,h5⟩:=h;have h1:0≤n.states∧n.states≤40:=by simpa [inB] using h1
 obtain⟨m,hm⟩:=Int.eq_ofNat_of_zero_le h1.1;rw[hm] at h3 h4 h5;have f3:=ZgG h3;have f4:=ZgG h4;refine⟨m,hm,by omega,fun x hx => ?_,of_decide_eq_true h2,f3.1,by omega,f4.1,by omega⟩;rw[List.all_eq_true] at h5;have:=h5 x hx;unfold mvOk at this;simp only[Bool.and_eq_true,inB,decide_eq_true_eq] at this;omega
def eds (d:DfaD):Nat→List Int
 | 0=>[]
 | s+1=>if d.ends.getD s false=true then eds d s++[(s:Int)] else eds d s
theorem Zgf (d:DfaD):∀ s,(eds d s).length≤s
 | 0=>Nat.le_refl _
 | s+1=>by
  have ih:=Zgf d s;unfold eds
  split
  ·rw[List.length_append,List.length_singleton];omega
  omega
theorem Zc6 (l:List Int) (x:Int):intCells (l++[x])=intCells l++[.int .i64 x]:=by simp[intCells]
theorem ZfQ {k:IntKind} {x:Int}:∀ u∈[Value.int k x],u.oneCell'=true:=by intro u hu;simp only[List.mem_singleton] at hu;subst hu;rfl
def RNfaS (n:NfaD) (w:World) (e:Ending) (w':World):Prop:=∃ a1 c1 a2 c2 a3 c3,e = .returned (.agg #[.int .i64 n.states,.slice a1 n.moves.length c1,.slice a2 n.firsts.length c2,.slice a3 n.ends.length c3]) ∧
 St w w' [Ent.row 122 3 (.slice a1 n.moves.length c1) n.moves.length (n.moves.flatMap Zao),Ent.row 3 1 (.slice a2 n.firsts.length c2) n.firsts.length (intCells n.firsts),Ent.row 3 1 (.slice a3 n.ends.length c3) n.ends.length (intCells n.ends)]
theorem ZeV {w:World} {B e:Nat} {v:Value} {xs:List (Int × Int × Int)} (hr:w.ownsRow B e 3 v xs.length (xs.flatMap Zao)):Moves 0 w v xs :=
 ((Zac hr).sl (by omega)).mono (Nat.zero_le _)
theorem Zdl {w:World} {B e:Nat} {v:Value} {xs:List Int} (hr:w.ownsRow B e 1 v xs.length (intCells xs)):Ints 0 w v xs :=
 ((Zac hr).sl (by omega)).mono (Nat.zero_le _)
theorem St.moves {w0 w:World} {L:List Ent} (h:St w0 w L) (i:Nat) {e:Nat} {v:Value} {xs:List (Int × Int × Int)} (hx:L[i]? = some (Ent.row e 3 v xs.length (xs.flatMap Zao))):Moves 0 w v xs:=ZeV (h.row i hx)
theorem Tryz.infoMv:(Tryz.prog.info? 122).map (fun i=>(i.zero,i.size,i.bytes))=some (some (.agg #[.int .i64 0,.int .i64 0,.int .i64 0]),3,24):=by kernel_rfl
theorem Zic {s c x:Int}:∀ u∈[Value.int .i64 s,Value.int .i64 c,Value.int .i64 x],u.oneCell'=true:=by intro u hu;simp at hu;rcases hu with rfl|rfl|rfl<;>rfl
theorem ZkR (xs:List (Int × Int × Int)) (s c x:Int):(xs++[(s,c,x)]).flatMap Zao=xs.flatMap Zao++[.int .i64 s,.int .i64 c,.int .i64 x]:=by simp[Zao]
end Go.Proofs.YtehmjmjedopkkaaGreat
namespace Go.Proofs.YtehmjmjedopkkaaGreat
open Go.RowKit
section
variable {P:Program} (w:World)
theorem ZfP {w:World} {base e size n:Nat} {v:Value} {xs:List Value} (h:w.ownsRow base e size v n xs):∃ a cap,v = .slice a n cap∧n≤cap:=by
 rcases h.2 with⟨h1,h2⟩|⟨g',cap',cur,h1,-,-,h4,-⟩
 ·exact⟨none,0,by rw[h1,h2],by omega⟩
 exact⟨_,cap',h1,h4⟩
theorem Zhi (t ty:TypeId) (base:Nat) (e:TypeId) (i:TypeInfo) (z:Value) (size bytes:Nat) (ht:P.underlying t=some (.slice e)) (hi:P.info? e=some i) (hz:i.zero=some z)
  (hsize:i.size=size) (hby:i.bytes=bytes) (hzs:z.cells.size=size) (hsz:0<size)
  (v:Value) (n:Nat) (xs:List Value) (hown:w.ownsRow base e size v n xs) (x:Value) (m:Nat) (news:List Value) (hx:Sl 0 w x m size news) (h1:∀ u∈news,u.oneCell'=true)
  (h63:n+m≤maxLen) (hbytes:(n+m)*bytes≤140737488355328) (hbase:base≤w.heap.size) :
  ∃ a' cap w',(Builtin.append_ #[t,t] ty #[v,x]).run P w = .ok (.slice a' (n+m) cap) w'∧w'.ownsRow base e size (.slice a' (n+m) cap) (n+m) (xs++news)∧w.grownBy w' v.ownBlock ∧
   (∀ k,(Value.slice a' (n+m) cap).ownBlock=some k→v.ownBlock=some k∨w.heap.size≤k):=by
 obtain⟨hl,a,cap,rfl,hle,hm,hc⟩:=hx;cases a with
 | some ad =>
  have hnews:∀ j u,news[j]? = some u→w.cell? (ad.add j)=some u:=fun j u hj=>by
   have hjl:=(List.getElem?_eq_some_iff.1 hj).1
   have hm0:0<m:=by
    rcases Nat.eq_zero_or_pos m with h0|h0
    ·rw[h0] at hl;omega
    exact h0
   obtain⟨b,off,ha,-,-,hcs⟩:=hc hm0;simp only[Option.some.injEq] at ha;subst ha;rw[← hj,← hcs j (by omega),← Go.WideShapes.add_plain]
  obtain⟨v',w',hr,h2,h3,-,h5⟩:=run_append_own_at (P:=P) w base t ty e i z size bytes ht hi hz hsize hby hzs hsz v n xs hown ad m cap news hl hnews h1 h63 hbytes hbase;obtain⟨a',cap',rfl,-⟩:=ZfP h2;refine⟨a',cap',w',hr,h2,h3,fun k hk => ?_⟩;rcases h5 with h5|h5
  ·exact Or.inl (by rw[← h5];exact hk)
  rw[h5] at hk;exact Or.inr (by simp only[Option.some.injEq] at hk;omega)
 | none =>
  have hm0:m=0:=by
   rcases Nat.eq_zero_or_pos m with h0|h0
   ·exact h0
   obtain⟨b,off,ha,-⟩:=hc h0;cases ha
  subst hm0;have hnil:news=[]:=List.eq_nil_of_length_eq_zero (by omega);subst hnil;obtain⟨a',cap',rfl,hlc⟩:=ZfP hown;subst hsize;refine⟨a',cap',w,run_append_nothing w t t ty e i ht hi a' n cap' hlc _ (Src.ofNil w ht cap),by simpa using hown,⟨rfl,rfl,rfl,Nat.le_refl _,fun _ _ _=>rfl⟩,fun k hk=>Or.inl hk⟩
theorem ZeS {o:Oper} {a:Act} {K:Act→World→Prop} {Q:Exit→Act→World→Prop} (s x:Operand) (t:TypeId)
  (ho:o.op = .call { callee:=.builtin .append,args:=#[s,x],argTypes:=#[t,t] })
  (base:Nat) (e:TypeId) (i:TypeInfo) (z:Value) (size bytes:Nat) (ht:P.underlying t=some (.slice e)) (hi:P.info? e=some i) (hz:i.zero=some z)
  (hsize:i.size=size) (hby:i.bytes=bytes) (hzs:z.cells.size=size) (hsz:0<size)
  (v:Value) (n:Nat) (xs:List Value) (hs:a.eval s=v) (hown:w.ownsRow base e size v n xs)
  (y:Value) (m:Nat) (news:List Value) (hy:a.eval x=y) (hx:Sl 0 w y m size news) (h1:∀ u∈news,u.oneCell'=true)
  (h63:n+m≤maxLen) (hbytes:(n+m)*bytes≤140737488355328) (hbase:base≤w.heap.size)
  (h:∀ a' cap w',w'.ownsRow base e size (.slice a' (n+m) cap) (n+m) (xs++news)→w.grownBy w' v.ownBlock→(∀ k,(Value.slice a' (n+m) cap).ownBlock=some k→v.ownBlock=some k∨w.heap.size≤k)→K (a.put o.dst (.slice a' (n+m) cap)) w'):o.wp P a w K Q:=by
 obtain⟨a',cap,w',hr,h2,h3,h4⟩:=Zhi (P:=P) w t o.type base e i z size bytes ht hi hz hsize hby hzs hsz v n xs hown y m news hx h1 h63 hbytes hbase;unfold Oper.wp execOp;simp only[ho,resolve,invoke,builtin,Sem.run_bind,Sem.run_pure,Result.andThen_ok,List.map_toArray,List.map_cons,List.map_nil,hs,hy,hr];exact h a' cap w' h2 h3 h4
theorem Zal {ops:Array Oper} {rest:List Oper} {o:Oper} {a:Act} {Q:Exit→Act→World→Prop} (hgd:o.guard=none) (s x:Operand) (t:TypeId)
  (ho:o.op = .call { callee:=.builtin .append,args:=#[s,x],argTypes:=#[t,t] })
  (base:Nat) (e:TypeId) (i:TypeInfo) (z:Value) (size bytes:Nat) (ht:P.underlying t=some (.slice e)) (hi:P.info? e=some i) (hz:i.zero=some z)
  (hsize:i.size=size) (hby:i.bytes=bytes) (hzs:z.cells.size=size) (hsz:0<size)
  (v:Value) (n:Nat) (xs:List Value) (hs:a.eval s=v) (hown:w.ownsRow base e size v n xs)
  (y:Value) (m:Nat) (news:List Value) (hy:a.eval x=y) (hx:Sl 0 w y m size news) (h1:∀ u∈news,u.oneCell'=true)
  (h63:n+m≤maxLen) (hbytes:(n+m)*bytes≤140737488355328) (hbase:base≤w.heap.size)
  (h:∀ a' cap w',w'.ownsRow base e size (.slice a' (n+m) cap) (n+m) (xs++news)→w.grownBy w' v.ownBlock→(∀ k,(Value.slice a' (n+m) cap).ownBlock=some k→v.ownBlock=some k∨w.heap.size≤k)→wpList P ops Q rest (a.put o.dst (.slice a' (n+m) cap)) w'):wpList P ops Q (o::rest) a w :=
 wpList_plain hgd fun _ hK=>ZeS w s x t ho base e i z size bytes ht hi hz hsize hby hzs hsz v n xs hs hown y m news hy hx h1 h63 hbytes hbase fun a' cap w' h2 h3 h4=>hK _ _ (h a' cap w' h2 h3 h4)
theorem Za0 {ops:Array Oper} {o:Oper} {a:Act} {K:Act→World→Prop} {Q:Exit→Act→World→Prop} {E:Prop} (hgd:o.guard=none) (s x:Operand) (t:TypeId)
  (ho:o.op = .call { callee:=.builtin .append,args:=#[s,x],argTypes:=#[t,t] })
  (base:Nat) (e:TypeId) (i:TypeInfo) (z:Value) (size bytes:Nat) (ht:P.underlying t=some (.slice e)) (hi:P.info? e=some i) (hz:i.zero=some z)
  (hsize:i.size=size) (hby:i.bytes=bytes) (hzs:z.cells.size=size) (hsz:0<size)
  (v:Value) (n:Nat) (xs:List Value) (hs:a.eval s=v) (hown:w.ownsRow base e size v n xs)
  (y:Value) (m:Nat) (news:List Value) (hy:a.eval x=y) (hx:Sl 0 w y m size news) (h1:∀ u∈news,u.oneCell'=true)
  (h63:n+m≤maxLen) (hbytes:(n+m)*bytes≤140737488355328) (hbase:base≤w.heap.size)
  (h:∀ a' cap w',w'.ownsRow base e size (.slice a' (n+m) cap) (n+m) (xs++news)→w.grownBy w' v.ownBlock→(∀ k,(Value.slice a' (n+m) cap).ownBlock=some k→v.ownBlock=some k∨w.heap.size≤k)→K (a.put o.dst (.slice a' (n+m) cap)) w') :
  if Region.wanted o (yielded ops a.tmps)=true then Oper.wp P o a w K Q else E:=by
 have hw:Region.wanted o (yielded ops a.tmps)=true:=by simp[Region.wanted,hgd]
 rw[if_pos hw];exact ZeS w s x t ho base e i z size bytes ht hi hz hsize hby hzs hsz v n xs hs hown y m news hy hx h1 h63 hbytes hbase h
end
theorem on_i {k:IntKind} {x:Int}:∀ u∈[Value.int k x],u.oneCell'=true:=by simp[Value.oneCell']
theorem ZnU (l:List Bool) (x:Bool):boolCells (l++[x])=boolCells l++[.bool x]:=by simp[boolCells]
theorem Zoz (l:List Int) (x:Int):intCells (l++[x])=intCells l++[.int .i64 x]:=by simp[intCells]
theorem Zpu {xs:List Int}:∀ u∈intCells xs,u.oneCell'=true:=fun u hu=>by obtain⟨x,-,rfl⟩:=List.mem_map.1 hu;simp[Value.oneCell']
theorem Zpc {xs:List (Int × Int × Int)}:∀ u∈xs.flatMap Zao,u.oneCell'=true:=fun u hu=>by obtain⟨x,-,hx⟩:=List.mem_flatMap.1 hu;simp only[Zao,List.mem_cons,List.not_mem_nil,or_false] at hx;rcases hx with rfl|rfl|rfl<;>simp[Value.oneCell']
theorem ZbB {xs:List (Int × Int)}:∀ u∈xs.flatMap Zaa,u.oneCell'=true:=fun u hu=>by obtain⟨x,-,hx⟩:=List.mem_flatMap.1 hu;simp only[Zaa,List.mem_cons,List.not_mem_nil,or_false] at hx;rcases hx with rfl|rfl<;>simp[Value.oneCell']
theorem St.appS {w0 w w':World} {L:List Ent} (h:St w0 w L) (i:Nat) {B e size n m cap:Nat} {a':Option Addr} {v:Value} {cs cs':List Value} (hx:L[i]? = some (Ent.row e size v n cs)) (hown:w'.ownsRow B e size (.slice a' m cap) m cs') (hg:w.grownBy w' v.ownBlock)
  (hat:∀ k,(Value.slice a' m cap).ownBlock=some k→v.ownBlock=some k∨w.heap.size≤k):St w0 w' (L.set i (Ent.row e size (.slice a' m cap) m cs')):=h.grow i hx hg hown hat
end Go.Proofs.YtehmjmjedopkkaaGreat
