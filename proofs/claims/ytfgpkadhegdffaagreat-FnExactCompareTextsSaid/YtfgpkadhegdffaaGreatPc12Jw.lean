/-
  Expressions as lists of parts, plain: what a part needs, how deep the stack is, where operands begin.
  No condition: this text speaks of no program.
  The walks over the reference's PartValid, PartNeeds, ExprValid, l12Plain, l2Start, l2Split.
  Conditions: the list of parts reads as such, and is not long.
-/
import Derived.Test.YtfgpkadhegdffaaGreatPc10Rp
set_option maxHeartbeats 4000000
set_option maxRecDepth 100000
namespace Go.Proofs.YtfgpkadhegdffaaGreat
open Go.RowKit
def pOk (p:Int × Int):Bool:=inB p.1 1 8&&(decide (p.1=3)&&inB p.2 0 2||(!decide (p.1=3)&&decide (p.2=0)))
def Zai (p:Int × Int):Int:=if pOk p=true then(if p.1=1∨p.1=2∨p.1=3 then 0 else if p.1=7∨p.1=8 then 1 else 2) else -1
theorem Zcn (p:Int × Int):-1≤Zai p∧Zai p≤2:=by
 unfold Zai
 split<;>(try split)<;>(try split)<;>omega
theorem ZfV {p:Int × Int} (h:0≤Zai p):pOk p=true:=by
 unfold Zai at h
 split at h
 ·assumption
 omega
def dep (es:List (Int × Int)):Nat→Int
 | 0=>0
 | k+1=>dep es k-Zai (es.getD k (0,0))+1
theorem Zgk (es:List (Int × Int)):∀ k:Nat,-(2*k:Int)≤dep es k∧dep es k≤2*k
 | 0=>by simp[dep]
 | k+1=>by have ih:=Zgk es k;have:=Zcn (es.getD k (0,0));unfold dep;omega
def exAt (es:List (Int × Int)) (k:Nat):Bool:=decide (0≤Zai (es.getD k (0,0)))&&decide (Zai (es.getD k (0,0))≤dep es k)
def exOk (es:List (Int × Int)):Bool:=(List.range es.length).all (exAt es)&&decide (dep es es.length=1)&&decide (es.length≤60)
theorem ZbV {es:List (Int × Int)} (h:exOk es=true):(∀ k,k<es.length→0≤Zai (es.getD k (0,0))∧Zai (es.getD k (0,0))≤dep es k)∧dep es es.length=1∧1≤es.length∧es.length≤60:=by
 simp only[exOk,exAt,Bool.and_eq_true,List.all_eq_true,List.mem_range,decide_eq_true_eq] at h;refine⟨h.1.1,h.1.2,?_,h.2⟩;cases es with
 | nil=>have:=h.1.2;simp[dep] at this
 | cons=>simp
theorem Zkf {es:List (Int × Int)} {k:Nat} (hk:k<es.length) (h:exAt es k=false):exOk es=false:=by
 cases he:exOk es with
 | false=>rfl
 | true =>obtain⟨h1,-⟩:=ZbV he;obtain⟨a,b⟩:=h1 k hk;simp only[exAt,decide_eq_true a,decide_eq_true b,Bool.and_self] at h;cases h
theorem Zof {es:List (Int × Int)} (h:∀ k,k<es.length→0≤Zai (es.getD k (0,0))∧Zai (es.getD k (0,0))≤dep es k):∀ k,0<k→k≤es.length→1≤dep es k
 | 0,h0,_=>by omega
 | k+1,_,hk=>by have:=h k (by omega);unfold dep;omega
def Zcg (es:List (Int × Int)) (n a:Nat):Prop:=a<n∧dep es a=dep es n-1∧∀ j,a<j→j<n→dep es j≠dep es n-1
theorem ZmG {es:List (Int × Int)} {n:Nat} (h:∀ k,k<n→0≤Zai (es.getD k (0,0))) (hn:1≤dep es n):∃ a,Zcg es n a:=by
 have key:∀ m,m≤n→(∀ j,m≤j→j<n→dep es j≠dep es n-1)→(m=n∨dep es n≤dep es m)→∃ a,Zcg es n a:=by
  intro m
  induction m with
  | zero =>
   intro _ hj hm;exfalso;have h0:dep es 0=0:=rfl;rcases hm with hm|hm
   ·subst hm;omega
   omega
  | succ m ih =>
   intro hmn hj hm;have hs:dep es (m+1)=dep es m-Zai (es.getD m (0,0))+1:=rfl;have hp:=h m (by omega)
   have hge:dep es n≤dep es (m+1):=by
    rcases hm with hm|hm
    ·rw[hm];exact Int.le_refl _
    exact hm
   by_cases he:dep es m=dep es n-1
   ·exact⟨m,by omega,he,fun j h1 h2=>hj j (by omega) h2⟩
   exact ih (by omega) (fun j h1 h2=>by
    by_cases hjm:j=m
    ·rw[hjm];exact he
    exact hj j (by omega) h2) (Or.inr (by omega))
 exact key n (Nat.le_refl _) (fun j h1 h2=>by omega) (Or.inl rfl)
end Go.Proofs.YtfgpkadhegdffaaGreat
namespace Go.Proofs.YtfgpkadhegdffaaGreat
open Go.RowKit
theorem Zdl {a b:Int} (h:a≠b):(a==b)=false∧(a=b)=False∧(a != b)=true∧(!(a==b))=true:=by simp[h]
theorem Zd4 (k l:Int) (w:World) (r:Bool) (hr:pOk (k,l)=r) :
  Calls Tryz.prog 129 #[.agg #[.int .i64 k,.int .i64 l]] w fun e w'=>e = .returned (.bool r)∧Below w.heap.size w w':=by
 unfold pOk at hr;simp only at hr;cases h1:inB k 1 8
 ·rw[h1,Bool.false_and] at hr;subst hr;have H1:=qh h1;clear h1
  go_enter Tryz.func129, Tryz.ntmps129
  go_wp2_with (go_at_call 44;refine(ZbZ _ _ _ _ _ H1.out).mono ?_;rintro e w' ⟨rfl,rfl⟩);go_ret;exact⟨rfl,(Below.refl _ _).alloc (Nat.le_refl _) _⟩
 rw[h1,Bool.true_and] at hr;have H1:=qh h1;clear h1;by_cases h3:k=3
 ·subst h3;cases h2:inB l 0 2
  ·rw[h2] at hr;have hr:false=r:=hr;subst hr;have H2:=qh h2;clear h2
   go_enter Tryz.func129, Tryz.ntmps129
   go_wp2_with (go_at_call 44;(first|(with_reducible refine(ZbZ _ _ _ _ _ H1.out).mono ?_)|(with_reducible refine(ZbZ _ _ _ _ _ H2.out).mono ?_));rintro e w' ⟨rfl,rfl⟩);go_ret;exact⟨rfl,(Below.refl _ _).alloc (Nat.le_refl _) _⟩
  rw[h2] at hr;have hr:true=r:=hr;subst hr;have H2:=qh h2;clear h2
  go_enter Tryz.func129, Tryz.ntmps129
  go_wp2_with (go_at_call 44;(first|(with_reducible refine(ZbZ _ _ _ _ _ H1.out).mono ?_)|(with_reducible refine(ZbZ _ _ _ _ _ H2.out).mono ?_));rintro e w' ⟨rfl,rfl⟩);go_ret;exact⟨rfl,(Below.refl _ _).alloc (Nat.le_refl _) _⟩
 obtain⟨q1,q2,q3,q4⟩:=Zdl h3;rw[decide_eq_false h3] at hr;replace h3:=qh h3;by_cases h0:l=0
 ·subst h0;have hr:true=r:=hr;subst hr
  go_enter Tryz.func129, Tryz.ntmps129
  go_wp2_with (go_at_call 44;refine(ZbZ _ _ _ _ _ H1.out).mono ?_;rintro e w' ⟨rfl,rfl⟩);go_ret;exact⟨rfl,(Below.refl _ _).alloc (Nat.le_refl _) _⟩
 obtain⟨p1,p2,p3,p4⟩:=Zdl h0;rw[decide_eq_false h0] at hr;have hr:false=r:=hr;subst hr;replace h0:=qh h0
 go_enter Tryz.func129, Tryz.ntmps129
 go_wp2_with (go_at_call 44;refine(ZbZ _ _ _ _ _ H1.out).mono ?_;rintro e w' ⟨rfl,rfl⟩);go_ret;exact⟨rfl,(Below.refl _ _).alloc (Nat.le_refl _) _⟩
theorem ZbH (k l:Int) (w:World) (n:Int) (hn:Zai (k,l)=n) :
  Calls Tryz.prog 96 #[.agg #[.int .i64 k,.int .i64 l]] w fun e w'=>e = .returned (.int .i64 n)∧Below w.heap.size w w':=by
 have hS0:=(St.start w).alloc _ rfl #[.int .i64 k,.int .i64 l] 59;have e0:=hS0.cell (v:=.int .i64 k) 0 0 rfl rfl;have e1:=hS0.cell (v:=.int .i64 l) 0 1 rfl rfl;cases h:pOk (k,l)
 ·have hn1:n = -1:=by rw[← hn];unfold Zai;rw[if_neg (by simp[h])]
  subst hn1;have H:=qh h;replace hS0:=qh hS0;clear hn h
  go_enter Tryz.func96, Tryz.ntmps96
  go_wp2_with fail;refine(Zd4 k l _ _ H.out).mono ?_;rintro e w1 ⟨rfl,hb1⟩;have HS1:=qh (hS0.out.call hb1);clear hb1;go_wp2;go_ret;exact⟨rfl,HS1.out.bel⟩
 have hk:k=1∨k=2∨k=3∨k=4∨k=5∨k=6∨k=7∨k=8:=by have h':=h;unfold pOk at h';simp only[Bool.and_eq_true] at h';have:=Zec h'.1;omega
 have hn1:n=if k=1∨k=2∨k=3 then 0 else if k=7∨k=8 then 1 else 2:=by rw[← hn];unfold Zai;rw[if_pos h]
 have H:=qh h;replace hS0:=qh hS0;clear hn h;rcases hk with rfl|rfl|rfl|rfl|rfl|rfl|rfl|rfl
 all_goals
  simp at hn1;subst hn1
  go_enter Tryz.func96, Tryz.ntmps96
  go_wp2_with fail;refine(Zd4 _ l _ _ H.out).mono ?_;rintro e w1 ⟨rfl,hb1⟩;have c0:=(hS0.out.call hb1).cell (v:=.int .i64 _) 0 0 rfl rfl;have HS1:=qh (hS0.out.call hb1);clear hb1;go_wp2;go_ret;exact⟨rfl,HS1.out.bel⟩
theorem ZiS (xs:List (Int × Int)):∀ n:Nat,(xs.take n).flatMap Zaa=(xs.flatMap Zaa).take (n*2):=by
 induction xs with
 | nil=>intro n;simp
 | cons x l ih =>
  intro n;cases n with
  | zero=>simp
  | succ n =>rw[List.take_succ_cons,List.flatMap_cons,List.flatMap_cons,ih n,show(n+1)*2=n*2+2 by omega];rfl
theorem ZiT (xs:List (Int × Int)):∀ n:Nat,(xs.drop n).flatMap Zaa=(xs.flatMap Zaa).drop (n*2):=by
 induction xs with
 | nil=>intro n;simp
 | cons x l ih =>
  intro n;cases n with
  | zero=>simp
  | succ n =>rw[List.drop_succ_cons,List.flatMap_cons,ih n,show(n+1)*2=n*2+2 by omega];rfl
theorem Pairs.take {w:World} {a:Option Addr} {len cap:Nat} {xs:List (Int × Int)} (h:Pairs 0 w (.slice a len cap) xs) {n:Nat} (hn:n≤xs.length):Pairs 0 w (.slice a n cap) (xs.take n):=by
 obtain⟨hl,a',cap',hv,h1,h2,h3⟩:=h;simp only[Value.slice.injEq] at hv;obtain⟨rfl,rfl,rfl⟩:=hv;have e:(xs.take n).length=n:=by rw[List.length_take];omega
 unfold Pairs;rw[e];refine⟨by rw[ZiS,List.length_take];omega,a,cap,rfl,by omega,h2,fun hn0 => ?_⟩;obtain⟨b,off,ha,hb,hlt,hc⟩:=h3 (by omega);refine⟨b,off,ha,hb,hlt,fun j hj => ?_⟩;rw[hc j (by omega),ZiS,List.getElem?_take_of_lt hj]
theorem Pairs.drop {w:World} {b off len cap:Nat} {xs:List (Int × Int)} (h:Pairs 0 w (.slice (some ⟨b,off,none⟩) len cap) xs) {n:Nat} (hn:n<xs.length):Pairs 0 w (.slice (some ⟨b,off+n*2,none⟩) (xs.length-n) (cap-n)) (xs.drop n):=by obtain⟨hl,a',cap',hv,h1,h2,h3⟩:=h;simp only[Value.slice.injEq] at hv;obtain⟨rfl,rfl,rfl⟩:=hv;unfold Pairs;rw[List.length_drop];refine⟨by rw[ZiT,List.length_drop];omega,_,_,rfl,by omega,by omega,fun hn0 => ?_⟩;obtain⟨b',off',ha,hb,hlt,hc⟩:=h3 (by omega);simp only[Option.some.injEq,Addr.mk.injEq,and_true] at ha;obtain⟨rfl,rfl⟩:=ha;refine⟨b,off+n*2,rfl,hb,hlt,fun j hj => ?_⟩;rw[show off+n*2+j=off+(n*2+j) by omega,hc _ (by omega),ZiT,List.getElem?_drop]
theorem Zcf (es:List (Int × Int)) (v:Value) (w:World) (hlen:es.length≤2000000) (h:Pairs 0 w v es) (r:Bool) (hr:exOk es=r) :
  Calls Tryz.prog 57 #[v] w fun e w'=>e = .returned (.bool r)∧Below w.heap.size w w':=by
 obtain⟨a,c,rfl,hc1,hc2,hrd⟩:=h.form;have Hrd:=qh hrd;have Hr:=qh hr;clear h hr hrd
 go_enter Tryz.func57, Tryz.ntmps57
 go_wp2
 go_loopw [3,4] (fun vd i wr=>∃ k:Nat,i = .int .i64 k∧k≤es.length∧vd = .int .i64 (dep es k)∧(∀ j,j<k→exAt es j=true)∧Below w.heap.size w wr) (fun _ i _=>es.length-(intOf i).toNat)
 case atStart=>exact⟨0,rfl,Nat.zero_le _,rfl,fun j hj=>absurd hj (by omega),Below.refl _ _⟩
 case round =>
  obtain⟨k,rfl,hk,rfl,hall,hb⟩:=hrel;have hdi:=Zgk es k;have hds:dep es (k+1)=dep es k-Zai (es.getD k (0,0))+1:=rfl;have hpi:=Zcn (es.getD k (0,0));have hex:exAt es k=(decide (0≤Zai (es.getD k (0,0)))&&decide (Zai (es.getD k (0,0))≤dep es k)):=rfl;have Hall:=qh hall;have Hb:=qh hb;clear hall hb;by_cases hlt:k<es.length
  ·have hlt2:(k:Int)<es.length:=by omega
   obtain⟨b,o,rfl,-,hbl,hcs⟩:=Hrd.out (by omega);obtain⟨g1,g2⟩:=hcs k hlt;have k1:=(bcell Hb.out b _ hbl).trans g1;have k2:=(bcell Hb.out b _ hbl).trans g2;obtain⟨p,hp⟩:=eI (es.getD k (0,0));rw[← hp] at k1 k2 hds hpi hex;obtain⟨p1,p2⟩:=p;simp only at k1 k2;obtain⟨n,hn⟩:=eI (Zai (p1,p2));rw[← hn] at hds hpi hex;obtain⟨D,hD⟩:=eI (dep es k);rw[← hD] at hds hdi hex;rw[← hD];obtain⟨hd1,hd2⟩:=hdi;obtain⟨hp1,hp2⟩:=hpi;have Hds:=qh hds;have Hex:=qh hex;replace hp:=qh hp;replace hn:=qh hn;replace hD:=qh hD;clear hds hex hcs g1 g2;go_wp2_with fail;refine(ZbH p1 p2 _ _ hn.out.symm).mono ?_;rintro e w1 ⟨rfl,hb1⟩;have Hb1:=qh (Hb.out.trans (hb1.mono Hb.out.size));clear hb1 k1 k2;by_cases hn0:n<0
   ·have q1:(n<0)=True:=by simp[hn0]
    have hrf:false=r:=by rw[← Hr.out];exact(Zkf hlt (by rw[Hex.out,decide_eq_false (by omega)];rfl)).symm
    subst hrf;go_wp2;go_ret;exact⟨rfl,Hb1.out⟩
   have q1:(n<0)=False:=by simp;omega
   have hn1:0≤n:=by omega
   clear hn0;by_cases hDn:D<n
   ·have q2:(D<n)=True:=by simp[hDn]
    have hrf:false=r:=by rw[← Hr.out];exact(Zkf hlt (by rw[Hex.out,decide_eq_false (show ¬ n≤D by omega),Bool.and_false])).symm
    subst hrf;go_wp2;go_ret;exact⟨rfl,Hb1.out⟩
   have q2:(D<n)=False:=by simp;omega
   have hDn1:n≤D:=by omega
   clear hDn;go_wp2;go_roundw
   case rel =>
    refine⟨k+1,by go_num,by omega,by rw[Hds.out],fun j hj => ?_,Hb1.out⟩;by_cases e:j=k
    ·rw[e,Hex.out,decide_eq_true hn1,decide_eq_true hDn1];rfl
    exact Hall.out j (by omega)
   case measure=>simp[intOf];omega
  obtain rfl:k=es.length:=by omega
  have hro:exOk es=(decide (dep es es.length=1)&&decide (es.length≤60)):=by unfold exOk;rw[List.all_eq_true.2 (fun j hj=>Hall.out j (List.mem_range.1 hj)),Bool.true_and]
  obtain⟨D,hD⟩:=eI (dep es es.length);rw[← hD] at hro;rw[← hD];rw[Hr.out] at hro;have Hro:=qh hro;replace hD:=qh hD;clear hro hdi hds hpi hex;by_cases hD1:D=1
  ·subst hD1;by_cases h60:es.length≤60
   ·have q1:((es.length:Int)≤60)=True:=by simp;omega
    have hrt:true=r:=by rw[Hro.out,decide_eq_true h60];rfl
    subst hrt;go_wp2;go_ret;exact⟨rfl,Hb.out⟩
   have q1:((es.length:Int)≤60)=False:=by simp;omega
   have hrt:false=r:=by rw[Hro.out,decide_eq_false h60];rfl
   subst hrt;clear h60;go_wp2;go_ret;exact⟨rfl,Hb.out⟩
  obtain⟨q1,q2,q3,q4⟩:=Zdl hD1;have hrt:false=r:=by rw[Hro.out,decide_eq_false hD1];rfl
  subst hrt;clear hD1;go_wp2;go_ret;exact⟨rfl,Hb.out⟩
theorem ZjB (es:List (Int × Int)) (en at':Nat) (v:Value) (w:World) (hlen:es.length≤1000000) (hen:en<es.length) (h:Pairs 0 w v es) (ha:Zcg es (en+1) at') :
  Calls Tryz.prog 130 #[v,.int .i64 ((en:Nat):Int)] w fun e w'=>e = .returned (.int .i64 ((at':Nat):Int))∧Below w.heap.size w w':=by
 obtain⟨a,c,rfl,hc1,hc2,hrd⟩:=h.form;obtain⟨b,o,rfl,-,hbl,hcs⟩:=hrd (by omega);obtain⟨ha1,ha2,ha3⟩:=ha;have Hcs:=qh hcs;have Ha2:=qh ha2;have Ha3:=qh ha3;have hde:=Zgk es (en+1);obtain⟨hde1,hde2⟩:=hde;obtain⟨E,hE⟩:=eI (dep es (en+1));rw[← hE] at hde1 hde2;replace hE:=qh hE;clear h hcs hrd ha2 ha3
 go_enter Tryz.func130, Tryz.ntmps130
 go_wp2
 go_loopw [5,6] (fun vn i wr=>∃ k:Nat,i = .int .i64 k∧at'≤k∧k≤en∧vn = .int .i64 (1+dep es (k+1)-E)∧Below w.heap.size w wr) (fun _ i _=>(intOf i).toNat)
 case atStart=>exact⟨en,rfl,by omega,Nat.le_refl _,by rw[hE.out];congr 1;omega,Below.refl _ _⟩
 case round =>
  obtain⟨k,rfl,hak,hk,rfl,hb⟩:=hrel;have hlt2:(k:Int)<es.length:=by omega
  have hdi:=Zgk es (k+1);have hdk:=Zgk es k;have hds:dep es (k+1)=dep es k-Zai (es.getD k (0,0))+1:=rfl;have hpi:=Zcn (es.getD k (0,0));obtain⟨g1,g2⟩:=Hcs.out k (by omega);have k1:=(bcell hb b _ hbl).trans g1;have k2:=(bcell hb b _ hbl).trans g2;obtain⟨p,hp⟩:=eI (es.getD k (0,0));rw[← hp] at k1 k2 hds hpi;obtain⟨p1,p2⟩:=p;simp only at k1 k2;obtain⟨n,hn⟩:=eI (Zai (p1,p2));rw[← hn] at hds hpi;obtain⟨D1,hD1⟩:=eI (dep es (k+1));rw[← hD1] at hds hdi;rw[← hD1];obtain⟨D,hD⟩:=eI (dep es k);rw[← hD] at hds hdk;obtain⟨hd1,hd2⟩:=hdi;obtain⟨hd3,hd4⟩:=hdk;obtain⟨hp1,hp2⟩:=hpi;have hsum:1+D1-E-1+n=1+D-E:=by omega
  have Hb:=qh hb;have Hds:=qh hds;have Hsum:=qh hsum;have Hhp:=qh hp;clear hp;have Hhn:=qh hn;clear hn;replace hD:=qh hD;have HhD1:=qh hD1;clear hD1;clear hds hsum g1 g2 hb;go_wp2_with fail;refine(ZbH p1 p2 _ _ Hhn.out.symm).mono ?_;rintro e w1 ⟨rfl,hb1⟩;have Hb1:=qh (Hb.out.trans (hb1.mono Hb.out.size));clear hb1 k1 k2;by_cases hka:k=at'
  ·subst hka;have hz:1+D1-E-1+n=0:=by rw[Hsum.out,hD.out,Ha2.out,← hE.out];omega
   go_wp2;go_ret;exact⟨rfl,Hb1.out⟩
  have hz:1+D1-E-1+n≠0:=by rw[Hsum.out];intro he;have h:=Ha3.out k (by omega) (by omega);rw[← hE.out,← hD.out] at h;omega
  obtain⟨z1,z2,z3,z4⟩:=Zdl hz;have hsm:1+D1-E-1+n=1+dep es ((k-1)+1)-E:=by rw[Hsum.out,show(k-1)+1=k by omega,hD.out]
  have Hsm:=qh hsm;have hk0:1≤k:=by omega
  clear hz hsm;go_wp2;go_roundw
  case rel=>exact⟨k-1,by congr 1;omega,by omega,by omega,by rw[Hsm.out],Hb1.out⟩
  case measure=>simp[intOf];omega
def splits (es:List (Int × Int)) (xs ys:List (Int × Int)):Prop:=(Zai (es.getD (es.length-1) (0,0))=0→xs=[]∧ys=[])∧(Zai (es.getD (es.length-1) (0,0))=1→xs=es.take (es.length-1)∧ys=[]) ∧
 (Zai (es.getD (es.length-1) (0,0))=2→∃ a,Zcg es (es.length-1) a∧xs=es.take a∧ys=(es.drop a).take (es.length-1-a))
theorem ZfU (w:World) (a:Option Addr) {c:Nat} (hc:c≤maxLen):Pairs 0 w (.slice a 0 c) []:=⟨rfl,_,_,rfl,Nat.zero_le _,hc,fun h=>by simp at h⟩
theorem ZaC (es:List (Int × Int)) (v:Value) (w:World) (hok:exOk es=true) (h:Pairs 0 w v es) :
  Calls Tryz.prog 97 #[v] w fun e w'=>∃ vx vy xs ys,splits es xs ys∧e = .returned (.tuple #[vx,vy])∧Pairs 0 w' vx xs∧Pairs 0 w' vy ys∧Below w.heap.size w w':=by
 obtain⟨hall,hd1,hl1,hl60⟩:=ZbV hok;have Hp:=qh h;obtain⟨a,c,rfl,hc1,hc2,hrd⟩:=h.form;obtain⟨b,o,rfl,-,hbl,hcs⟩:=hrd (by omega);obtain⟨m,hm⟩:∃ m,es.length=m+1:=⟨es.length-1,by omega⟩;obtain⟨g1,g2⟩:=hcs m (by omega);have hpn:=hall m (by omega);have hpi:=Zcn (es.getD m (0,0));have hdm:dep es (m+1)=dep es m-Zai (es.getD m (0,0))+1:=rfl;rw[← hm,hd1] at hdm;have hbeg:Zai (es.getD m (0,0))=2→∃ a,Zcg es m a:=fun h2=>ZmG (fun k hk=>(hall k (by omega)).1) (by omega)
 have hsp:∀ xs ys,splits es xs ys↔(Zai (es.getD m (0,0))=0→xs=[]∧ys=[])∧(Zai (es.getD m (0,0))=1→xs=es.take m∧ys=[])∧(Zai (es.getD m (0,0))=2→∃ a,Zcg es m a∧xs=es.take a∧ys=(es.drop a).take (m-a)):=fun xs ys=>by unfold splits;rw[show es.length-1=m by omega]
 obtain⟨p,hp⟩:=eI (es.getD m (0,0));rw[← hp] at g1 g2 hpi hpn hbeg hsp;obtain⟨p1,p2⟩:=p;simp only at g1 g2;obtain⟨n,hn⟩:=eI (Zai (p1,p2));rw[← hn] at hpi hpn hbeg hsp;have hn3:n=0∨n=1∨n=2:=by omega
 have Hbeg:=qh hbeg;have Hsp:=qh hsp;have hml:(m:Int)<es.length:=by omega
 replace hn:=qh hn;have Hhp:=qh hp;clear hp;clear hall hd1 h hok hcs hrd hdm hbeg hsp hpn hpi;have hlen:(es.length:Int)-1=(m:Int):=by omega
 replace hm:=qh hm
 go_enter Tryz.func97, Tryz.ntmps97
 rcases hn3 with rfl|rfl|rfl
 ·go_wp2_with fail;refine(ZbH p1 p2 _ _ hn.out.symm).mono ?_;rintro e w1 ⟨rfl,hb1⟩;have HS:=qh (((((St.start w).call hb1).alloc_ (.cells #[] 59)).alloc_ (.cells #[] 59)).bel);clear hb1;go_wp2;refine bodyPost_ret (v:=.tuple #[.slice (some ⟨w1.heap.size,0,none⟩) 0 0,.slice (some ⟨w1.heap.size+1,0,none⟩) 0 0]) (by simp[results,Tryz.results97,go_sem]) rfl ?_;exact⟨_,_,[],[],(Hsp.out _ _).2 ⟨fun _=>⟨rfl,rfl⟩,fun h=>absurd h (by omega),fun h=>absurd h (by omega)⟩,rfl,ZfU _ _ (by unfold maxLen;omega),ZfU _ _ (by unfold maxLen;omega),HS.out⟩
 ·have hcI:(m:Int)≤c:=by omega
  go_wp2_with fail;refine(ZbH p1 p2 _ _ hn.out.symm).mono ?_;rintro e w1 ⟨rfl,hb1⟩;have HS:=qh ((((St.start w).call hb1).alloc_ (.cells #[] 59)).bel);clear hb1;go_wp2;refine bodyPost_ret (v:=.tuple #[.slice (some ⟨b,o,none⟩) m c,.slice (some ⟨w1.heap.size,0,none⟩) 0 0]) (by simp[results,Tryz.results97,go_sem]) rfl ?_;exact⟨_,_,es.take m,[],(Hsp.out _ _).2 ⟨fun h=>absurd h (by omega),fun _=>⟨rfl,rfl⟩,fun h=>absurd h (by omega)⟩,rfl,(Hp.out.below HS.out).take (by have:=hm.out;omega),ZfU _ _ (by unfold maxLen;omega),HS.out⟩
 obtain⟨at',hat⟩:=Hbeg.out rfl;have ha1:=hat.1;obtain⟨q,hqm⟩:∃ q,m=q+1:=⟨m-1,by omega⟩;have hq:(m:Int)-1=(q:Int):=by omega
 have haI:(at':Int)≤(m:Int):=by omega
 have haC:(at':Int)≤c:=by omega
 have hqC:(m:Int)≤c:=by omega
 rw[hqm] at hat;have Hhqm:=qh hqm;clear hqm;have Hat:=qh hat;clear hat;go_wp2_with fail;refine(ZbH p1 p2 _ _ hn.out.symm).mono ?_;rintro e w1 ⟨rfl,hb1⟩;have HS:=qh ((St.start w).call hb1);clear hb1;go_wp2_with fail;refine(ZjB es q at' _ _ (by have:=hm.out;omega) (by have:=hm.out;have:=Hhqm.out;omega) (Hp.out.below HS.out.bel) Hat.out).mono ?_;rintro e w2 ⟨rfl,hb2⟩;have HS2:=qh (HS.out.call hb2);clear hb2;go_wp2
 go_quiet (fail)
 go_wp2;have HS3:=qh (HS2.out.drewN nq);refine bodyPost_ret (v:=.tuple #[.slice (some ⟨b,o,none⟩) at' c,.slice (some ⟨b,o+at'*2,none⟩) (m-at') (c-at')]) (by simp[results,Tryz.results97,go_sem]) rfl ?_;have hml2:=hm.out
 exact⟨_,_,es.take at',(es.drop at').take (m-at'),(Hsp.out _ _).2 ⟨fun h=>absurd h (by omega),fun h=>absurd h (by omega),fun _=>⟨at',by rw[Hhqm.out];exact Hat.out,rfl,rfl⟩⟩,rfl,
  (Hp.out.below HS3.out.bel).take (by omega),((Hp.out.below HS3.out.bel).drop (by omega)).take (by rw[List.length_drop];omega),HS3.out.bel⟩
end Go.Proofs.YtfgpkadhegdffaaGreat
namespace Go.Proofs.YtfgpkadhegdffaaGreat
inductive Ex where
 | zero|one|ltr (c:Fin 3)|join (a b:Ex)|alt (a b:Ex)|both (a b:Ex)|neg (a:Ex)|star (a:Ex)
 deriving DecidableEq
def Ex.post:Ex→List (Int × Int)
 | .zero=>[(1,0)]
 | .one=>[(2,0)]
 | .ltr c=>[(3,(c.val:Int))]
 | .join a b=>a.post++b.post++[(4,0)]
 | .alt a b=>a.post++b.post++[(5,0)]
 | .both a b=>a.post++b.post++[(6,0)]
 | .neg a=>a.post++[(7,0)]
 | .star a=>a.post++[(8,0)]
theorem ZhA:Zai (1,0)=0:=by decide
theorem Zhz:Zai (2,0)=0:=by decide
theorem Zfs (c:Fin 3):Zai (3,(c.val:Int))=0:=by
 have:c=0∨c=1∨c=2:=by omega
 rcases this with rfl|rfl|rfl<;>decide
theorem ZfR:Zai (4,0)=2:=by decide
theorem Ziw:Zai (5,0)=2:=by decide
theorem ZfS:Zai (6,0)=2:=by decide
theorem Ziv:Zai (7,0)=1:=by decide
theorem ZfQ:Zai (8,0)=1:=by decide
theorem Za8:∀ t:Ex,1≤t.post.length:=by intro t;cases t<;>simp[Ex.post]<;>omega
theorem ZcC (xs ys:List (Int × Int)):∀ k,k≤xs.length→dep (xs++ys) k=dep xs k
 | 0,_=>rfl
 | k+1,h=>by
  have ih:=ZcC xs ys k (by omega);have e:(xs++ys).getD k (0,0)=xs.getD k (0,0):=by simp[List.getD_eq_getElem?_getD,List.getElem?_append_left (show k<xs.length by omega)]
  unfold dep;rw[ih,e]
theorem Zgl (xs ys:List (Int × Int)):∀ k,dep (xs++ys) (xs.length+k)=dep xs xs.length+dep ys k
 | 0=>by rw[Nat.add_zero,ZcC xs ys _ (Nat.le_refl _)];simp[dep]
 | k+1=>by
  have ih:=Zgl xs ys k;have e:(xs++ys).getD (xs.length+k) (0,0)=ys.getD k (0,0):=by simp[List.getD_eq_getElem?_getD,List.getElem?_append_right (show xs.length≤xs.length+k by omega)]
  show dep (xs++ys) (xs.length+k)-Zai ((xs++ys).getD (xs.length+k) (0,0))+1=dep xs xs.length+(dep ys k-Zai (ys.getD k (0,0))+1);rw[ih,e];omega
theorem ZhV {xs ys:List (Int × Int)} {k:Nat} (h:k<xs.length):(xs++ys).getD k (0,0)=xs.getD k (0,0):=by simp[List.getD_eq_getElem?_getD,List.getElem?_append_left h]
theorem ZgH (xs ys:List (Int × Int)) (k:Nat):(xs++ys).getD (xs.length+k) (0,0)=ys.getD k (0,0):=by simp[List.getD_eq_getElem?_getD,List.getElem?_append_right (show xs.length≤xs.length+k by omega)]
def Zcp (m:Int) (es:List (Int × Int)):Prop:=∀ k,k<es.length→0≤Zai (es.getD k (0,0))∧Zai (es.getD k (0,0))≤m+dep es k
theorem Zjr {m m':Int} {es:List (Int × Int)} (h:Zcp m es) (hm:m≤m'):Zcp m' es:=fun k hk=>by have:=h k hk;omega
theorem ZeE {m:Int} {xs ys:List (Int × Int)} (h:Zcp m xs) (h':Zcp (m+dep xs xs.length) ys):Zcp m (xs++ys):=fun k hk=>by
 by_cases hx:k<xs.length
 ·rw[ZhV hx,ZcC _ _ _ (by omega)];exact h k hx
 obtain⟨j,rfl⟩:=Nat.exists_eq_add_of_le (Nat.le_of_not_lt hx);rw[ZgH,Zgl];have:=h' j (by simp at hk;omega);omega
theorem ZeD {m:Int} {p:Int × Int} (h0:0≤Zai p) (h1:Zai p≤m):Zcp m [p]:=fun k hk=>by
 obtain rfl:k=0:=by simpa using hk
 simp[dep];omega
theorem Zmt (p:Int × Int):dep [p] 1=1-Zai p:=by simp[dep];omega
theorem Zkl (xs:List (Int × Int)) (p:Int × Int):dep (xs++[p]) (xs++[p]).length=dep xs xs.length+(1-Zai p):=by rw[List.length_append,Zgl];show dep xs xs.length+dep [p] 1=_;rw[Zmt]
theorem Zog (xs ys:List (Int × Int)):dep (xs++ys) (xs++ys).length=dep xs xs.length+dep ys ys.length:=by rw[List.length_append,Zgl]
theorem Zjo:∀ t:Ex,Zcp 0 t.post∧dep t.post t.post.length=1:=by
 intro t;have leaf:∀ p,Zai p=0→Zcp 0 [p]∧dep [p] [p].length=1:=fun p hp=>⟨ZeD (by omega) (by omega),by show dep [p] 1=1;rw[Zmt];omega⟩
 have two:∀ (xs ys:List (Int × Int)) p,Zai p=2→Zcp 0 xs→dep xs xs.length=1→Zcp 0 ys→dep ys ys.length=1→Zcp 0 (xs++ys++[p])∧dep (xs++ys++[p]) (xs++ys++[p]).length=1:=fun xs ys p hp h1 h2 h3 h4=>by have hc:=Zog xs ys;refine⟨ZeE (ZeE h1 (Zjr h3 (by omega))) (ZeD (by omega) (by omega)),?_⟩;rw[Zkl];omega
 have one:∀ (xs:List (Int × Int)) p,Zai p=1→Zcp 0 xs→dep xs xs.length=1→Zcp 0 (xs++[p])∧dep (xs++[p]) (xs++[p]).length=1:=fun xs p hp h1 h2=>by refine⟨ZeE h1 (ZeD (by omega) (by omega)),?_⟩;rw[Zkl];omega
 induction t with
 | zero=>exact leaf _ ZhA
 | one=>exact leaf _ Zhz
 | ltr c=>exact leaf _ (Zfs c)
 | join a b ha hb=>exact two _ _ _ ZfR ha.1 ha.2 hb.1 hb.2
 | alt a b ha hb=>exact two _ _ _ Ziw ha.1 ha.2 hb.1 hb.2
 | both a b ha hb=>exact two _ _ _ ZfS ha.1 ha.2 hb.1 hb.2
 | neg a ha=>exact one _ _ Ziv ha.1 ha.2
 | star a ha=>exact one _ _ ZfQ ha.1 ha.2
theorem ZaF (t:Ex) (h:t.post.length≤60):exOk t.post=true:=by obtain⟨h1,h2⟩:=Zjo t;simp only[exOk,exAt,Bool.and_eq_true,List.all_eq_true,List.mem_range,decide_eq_true_eq];refine⟨⟨fun k hk => ?_,h2⟩,h⟩;have:=h1 k hk;omega
theorem ZfI {α:Type}:∀ (l:List α),1≤l.length→∃ L b,l=L++[b]
 | [],h=>by simp at h
 | [a],_=>⟨[],a,rfl⟩
 | a::b::l,_=>by obtain⟨L,c,h⟩:=ZfI (b::l) (by simp);exact⟨a::L,c,by rw[h];rfl⟩
def cat (st:List Ex):List (Int × Int):=st.flatMap Ex.post
theorem Zh7 (a b:List Ex):cat (a++b)=cat a++cat b:=by simp[cat]
theorem Zgs (a:Ex):cat [a]=a.post:=by simp[cat]
theorem Zj3 {es:List (Int × Int)} (h:Zcp 0 es):∀ k,k≤es.length→∃ st:List Ex,cat st=es.take k∧(st.length:Int)=dep es k
 | 0,_=>⟨[],rfl,rfl⟩
 | k+1,hk=>by
  obtain⟨st,h1,h2⟩:=Zj3 h k (by omega);obtain⟨h3,h4⟩:=h k (by omega);have ht:es.take (k+1)=es.take k++[es.getD k (0,0)]:=by rw[List.take_succ_eq_append_getElem (by omega)];simp[show k<es.length by omega]
  have hd:dep es (k+1)=dep es k-Zai (es.getD k (0,0))+1:=rfl;obtain⟨p,hp⟩:=eI (es.getD k (0,0));rw[← hp] at h3 h4 ht hd;have hok:=ZfV h3;obtain⟨p1,p2⟩:=p;rw[ht,hd,← h1];have leaf:∀ t:Ex,t.post=[(p1,p2)]→Zai (p1,p2)=0→∃ st':List Ex,cat st'=cat st++[(p1,p2)]∧(st'.length:Int)=dep es k-Zai (p1,p2)+1:=fun t e0 e1=>⟨st++[t],by rw[Zh7,Zgs,e0],by simp;omega⟩
  have one:∀ f:Ex→Ex,(∀ a,(f a).post=a.post++[(p1,p2)])→Zai (p1,p2)=1→∃ st':List Ex,cat st'=cat st++[(p1,p2)]∧(st'.length:Int)=dep es k-Zai (p1,p2)+1:=fun f e0 e1=>by obtain⟨L,a,rfl⟩:=ZfI st (by omega);refine⟨L++[f a],by rw[Zh7,Zh7,Zgs,Zgs,e0];simp,?_⟩;simp at h2 ⊢;omega
  have two:∀ f:Ex→Ex→Ex,(∀ a b,(f a b).post=a.post++b.post++[(p1,p2)])→Zai (p1,p2)=2→∃ st':List Ex,cat st'=cat st++[(p1,p2)]∧(st'.length:Int)=dep es k-Zai (p1,p2)+1:=fun f e0 e1=>by obtain⟨L,b,rfl⟩:=ZfI st (by omega);obtain⟨L,a,rfl⟩:=ZfI L (by simp at h2;omega);refine⟨L++[f a b],by simp only[Zh7,Zgs,e0,List.append_assoc],?_⟩;simp at h2 ⊢;omega
  simp only[pOk,inB,Bool.and_eq_true,Bool.or_eq_true,decide_eq_true_eq,Bool.not_eq_true',decide_eq_false_iff_not] at hok;obtain⟨⟨q1,q2⟩,q3⟩:=hok;have hc:(p1=1∧p2=0)∨(p1=2∧p2=0)∨(p1=3∧0≤p2∧p2≤2)∨(p1=4∧p2=0)∨(p1=5∧p2=0)∨(p1=6∧p2=0)∨(p1=7∧p2=0)∨(p1=8∧p2=0):=by omega
  rcases hc with⟨rfl,rfl⟩|⟨rfl,rfl⟩|⟨rfl,g1,g2⟩|⟨rfl,rfl⟩|⟨rfl,rfl⟩|⟨rfl,rfl⟩|⟨rfl,rfl⟩|⟨rfl,rfl⟩
  ·exact leaf .zero rfl ZhA
  ·exact leaf .one rfl Zhz
  ·obtain⟨c,rfl⟩:=Int.eq_ofNat_of_zero_le g1;exact leaf (.ltr ⟨c,by omega⟩) rfl (Zfs ⟨c,by omega⟩)
  ·exact two .join (fun _ _=>rfl) ZfR
  ·exact two .alt (fun _ _=>rfl) Ziw
  ·exact two .both (fun _ _=>rfl) ZfS
  ·exact one .neg (fun _=>rfl) Ziv
  exact one .star (fun _=>rfl) ZfQ
theorem parse {es:List (Int × Int)} (h:exOk es=true):∃ t:Ex,t.post=es:=by
 obtain⟨h1,h2,h3,h4⟩:=ZbV h;obtain⟨st,e1,e2⟩:=Zj3 (es:=es) (fun k hk=>by have:=h1 k hk;omega) es.length (Nat.le_refl _);rw[h2] at e2;rw[List.take_length] at e1;obtain⟨L,t,rfl⟩:=ZfI st (by omega)
 have hL:L=[]:=by
  cases L with
  | nil=>rfl
  | cons=>simp at e2;omega
 subst hL;exact⟨t,by simpa [Zgs] using e1⟩
theorem Zb6 (xs:List (Int × Int)) (p:Int × Int):(xs++[p]).getD ((xs++[p]).length-1) (0,0)=p:=by simp[List.getD_eq_getElem?_getD]
theorem Zia {es:List (Int × Int)} {n a b:Nat} (h:Zcg es n a) (h':Zcg es n b):a=b:=by
 obtain⟨h1,h2,h3⟩:=h;obtain⟨g1,g2,g3⟩:=h';rcases Nat.lt_trichotomy a b with hl|hl|hl
 ·exact absurd g2 (h3 b hl g1)
 ·exact hl
 exact absurd h2 (g3 a hl h1)
theorem ZkH {es:List (Int × Int)} (h:Zcp 0 es) {k:Nat} (h0:0<k) (hk:k≤es.length):1≤dep es k:=Zof (fun j hj=>by have:=h j hj;omega) k h0 hk
theorem Zd1 {a b:Ex} {p:Int × Int} (hp:Zai p=2) {xs ys:List (Int × Int)} (h:splits (a.post++b.post++[p]) xs ys):xs=a.post∧ys=b.post:=by
 obtain⟨-,-,h3⟩:=h;rw[Zb6] at h3;obtain⟨at',hb,rfl,rfl⟩:=h3 hp;obtain⟨a1,a2⟩:=Zjo a;obtain⟨b1,b2⟩:=Zjo b;have hl:(a.post++b.post++[p]).length-1=a.post.length+b.post.length:=by simp
 rw[hl] at hb ⊢
 have hbeg:Zcg (a.post++b.post++[p]) (a.post.length+b.post.length) a.post.length:=by
  have hd:∀ j,j≤b.post.length→dep (a.post++b.post++[p]) (a.post.length+j)=1+dep b.post j:=fun j hj=>by rw[ZcC _ _ _ (by simp;omega),Zgl,a2]
  have h0:=hd 0 (Nat.zero_le _);have hn:=hd b.post.length (Nat.le_refl _);rw[b2] at hn;rw[Nat.add_zero] at h0;refine⟨by have:=Za8 b;omega,by rw[h0,hn];rfl,fun j h1 h2 => ?_⟩;obtain⟨i,rfl⟩:=Nat.exists_eq_add_of_le (Nat.le_of_lt h1);rw[hd i (by omega),hn];have:=ZkH b1 (show 0<i by omega) (by omega);omega
 obtain rfl:=Zia hb hbeg;constructor
 ·rw[List.append_assoc,List.take_left'];rfl
 rw[List.append_assoc,List.drop_left' rfl,Nat.add_sub_cancel_left,List.take_left' rfl]
theorem Zd2 {a:Ex} {p:Int × Int} (hp:Zai p=1) {xs ys:List (Int × Int)} (h:splits (a.post++[p]) xs ys):xs=a.post∧ys=[]:=by obtain⟨-,h2,-⟩:=h;rw[Zb6] at h2;obtain⟨rfl,rfl⟩:=h2 hp;simp
theorem Zex {p:Int × Int} (hp:Zai p=0) {xs ys:List (Int × Int)} (h:splits [p] xs ys):xs=[]∧ys=[]:=h.1 (by simpa using hp)
end Go.Proofs.YtfgpkadhegdffaaGreat
namespace Go.Proofs.YtfgpkadhegdffaaGreat
open Go.RowKit
def shJ (n:Nat) (m:Int × Int × Int):Int × Int × Int:=(m.1+(n:Int),m.2.1,m.2.2+(n:Int))
def ZdE (a b:DfaD):NfaD :=
 ⟨((a.next.length+b.next.length:Nat):Int),mvs a a.next.length++(mvs b b.next.length).map (shJ a.next.length)++(eds a a.next.length).map (fun e=>(e,-1,(a.next.length:Int))),[0],(eds b b.next.length).map (fun e=>e+(a.next.length:Int))⟩
def ZdY (a:DfaD):NfaD :=
 ⟨((a.next.length+1:Nat):Int),mvs a a.next.length++[((a.next.length:Int),-1,0)]++(eds a a.next.length).map (fun e=>(e,-1,(a.next.length:Int))),[(a.next.length:Int)],[(a.next.length:Int)]⟩
def detM (M K:Nat) (n:NfaD):Option DfaD:=if (metSM M n K).length≤K then some (Zan (nxSM M n) (enS n) (metSM M n K)) else none
def ZbI (K:Nat) (f:Bool→Bool→Bool) (a b:DfaD):Option DfaD:=if (metP a b K).length≤K then some (Zan (Zal a b) (ZaS f a b) (metP a b K)) else none
def Zf0:DfaD:=⟨[[0,0,0]],[false]⟩
def oneD:DfaD:=⟨[[1,1,1],[1,1,1]],[true,false]⟩
def ltrD (c:Fin 3):DfaD:=⟨[[2,2,2].set c.val 1,[2,2,2],[2,2,2]],[false,true,false]⟩
def negD (a:DfaD):DfaD:=⟨a.next,a.ends.map (fun x => !x)⟩
def Zaq (K:Nat):Ex→Option DfaD
 | .zero=>some (Zak Zf0)
 | .one=>some (Zak oneD)
 | .ltr c=>some (Zak (ltrD c))
 | .join a b=>(Zaq K a).bind fun x=>(Zaq K b).bind fun y=>(detM 81 K (ZdE x y)).map Zak
 | .alt a b=>(Zaq K a).bind fun x=>(Zaq K b).bind fun y=>(ZbI K (fun p q=>p||q) x y).map Zak
 | .both a b=>(Zaq K a).bind fun x=>(Zaq K b).bind fun y=>(ZbI K (fun p q=>p&&q) x y).map Zak
 | .neg a=>(Zaq K a).map fun x=>Zak (negD x)
 | .star a=>(Zaq K a).bind fun x=>(detM 81 K (ZdY x)).map Zak
theorem ZnN {α:Type} [DecidableEq α] {nx:α→Nat→α} {a:α} {en:α→Bool} {K:Nat} (hK:K=40) (h:(bat nx a K).met.length≤K):Zae (Zan nx en (bat nx a K).met).next (Zan nx en (bat nx a K).met).ends=true:=by obtain⟨h1,h2,h3,h4⟩:=ZdB (en:=en) (nx:=nx) (a:=a) h (by omega);exact Zh1 h1 (by rw[ZaN];omega) h3 fun i hi=>h4 i hi
theorem Zdr {M K:Nat} (hK:K=40) {n:NfaD} {d:DfaD} (h:detM M K n=some d):Zae d.next d.ends=true:=by
 unfold detM at h
 split at h
 ·rename_i hle;simp only[Option.some.injEq] at h;subst h;exact ZnN hK hle
 cases h
theorem ZbY {K:Nat} (hK:K=40) {f:Bool→Bool→Bool} {a b d:DfaD} (h:ZbI K f a b=some d):Zae d.next d.ends=true:=by
 unfold ZbI at h
 split at h
 ·rename_i hle;simp only[Option.some.injEq] at h;subst h;exact ZnN hK hle
 cases h
theorem ZbX {d:DfaD} (h:Zae d.next d.ends=true):Zae (Zak d).next (Zak d).ends=true :=
 (Zja (Zmj (Zja h).1)).1
theorem Zfv:Zae Zf0.next Zf0.ends=true:=by decide
theorem ZhC:Zae oneD.next oneD.ends=true:=by decide
theorem ZeG (c:Fin 3):Zae (ltrD c).next (ltrD c).ends=true:=by
 have:c=0∨c=1∨c=2:=by omega
 rcases this with rfl|rfl|rfl<;>decide
theorem ZhF {d:DfaD} (h:Zae d.next d.ends=true):Zae (negD d).next (negD d).ends=true:=by simp only[Zae,Bool.and_eq_true,decide_eq_true_eq] at h ⊢;exact⟨h.1,by simpa [negD] using h.2⟩
theorem ZcE {K:Nat} (hK:K=40):∀ (t:Ex) {d:DfaD},Zaq K t=some d→Zae d.next d.ends=true:=by
 intro t;cases t with
 | zero=>intro d h;simp only[Zaq,Option.some.injEq] at h;subst h;exact ZbX Zfv
 | one=>intro d h;simp only[Zaq,Option.some.injEq] at h;subst h;exact ZbX ZhC
 | ltr c=>intro d h;simp only[Zaq,Option.some.injEq] at h;subst h;exact ZbX (ZeG c)
 | join a b =>intro d h;simp only[Zaq,Option.bind_eq_some_iff,Option.map_eq_some_iff] at h;obtain⟨x,-,y,-,z,hz,rfl⟩:=h;exact ZbX (Zdr hK hz)
 | alt a b =>intro d h;simp only[Zaq,Option.bind_eq_some_iff,Option.map_eq_some_iff] at h;obtain⟨x,-,y,-,z,hz,rfl⟩:=h;exact ZbX (ZbY hK hz)
 | both a b =>intro d h;simp only[Zaq,Option.bind_eq_some_iff,Option.map_eq_some_iff] at h;obtain⟨x,-,y,-,z,hz,rfl⟩:=h;exact ZbX (ZbY hK hz)
 | neg a =>intro d h;simp only[Zaq,Option.map_eq_some_iff] at h;obtain⟨x,hx,rfl⟩:=h;exact ZbX (ZhF (ZcE hK a hx))
 | star a =>intro d h;simp only[Zaq,Option.bind_eq_some_iff,Option.map_eq_some_iff] at h;obtain⟨x,-,z,hz,rfl⟩:=h;exact ZbX (Zdr hK hz)
theorem Zfw {m:Nat} {xs ys:List (Int × Int × Int)} (h:mvIn m xs) (h':mvIn m ys):mvIn m (xs++ys):=fun x hx=>by
 rcases List.mem_append.1 hx with hx|hx
 ·exact h x hx
 exact h' x hx
theorem ZjS {a b:DfaD} (ha:Zae a.next a.ends=true) (hb:Zae b.next b.ends=true):mvIn (a.next.length+b.next.length) (ZdE a b).moves:=by
 have h1:=ZiC ha _ (Nat.le_refl _);have h2:=ZiC hb _ (Nat.le_refl _);have hlb:=Zah hb;refine Zfw (Zfw (ZiD h1 (by omega)) fun x hx => ?_) fun x hx => ?_
 ·obtain⟨y,hy,rfl⟩:=List.mem_map.1 hx;have:=h2 y hy;simp only[shJ];omega
 obtain⟨y,hy,rfl⟩:=List.mem_map.1 hx;have:=Zgj a _ y hy;simp only;omega
theorem ZgN {a b:DfaD}:inN (a.next.length+b.next.length) (ZdE a b).ends:=fun x hx=>by obtain⟨y,hy,rfl⟩:=List.mem_map.1 hx;have:=Zgj b _ y hy;omega
theorem ZeT {a b:DfaD} (ha:Zae a.next a.ends=true):inN (a.next.length+b.next.length) [0]:=fun x hx=>by have hla:=Zah ha;simp only[List.mem_singleton] at hx;omega
theorem ZjR {a:DfaD} (ha:Zae a.next a.ends=true):mvIn (a.next.length+1) (ZdY a).moves:=by
 have h1:=ZiC ha _ (Nat.le_refl _);refine Zfw (Zfw (ZiD h1 (by omega)) fun x hx => ?_) fun x hx => ?_
 ·simp only[List.mem_singleton] at hx;subst hx;simp only;omega
 obtain⟨y,hy,rfl⟩:=List.mem_map.1 hx;have:=Zgj a _ y hy;simp only;omega
theorem Zet {a:DfaD}:inN (a.next.length+1) [(a.next.length:Int)]:=fun x hx=>by simp only[List.mem_singleton] at hx;omega
end Go.Proofs.YtfgpkadhegdffaaGreat
