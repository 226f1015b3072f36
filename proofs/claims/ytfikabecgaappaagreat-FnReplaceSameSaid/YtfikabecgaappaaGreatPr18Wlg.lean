/-
  Plain: the program's machine over a stack of automata gives what compiling the tree of an expression gives.
  Condition: the bound of states is 40.
-/
import Derived.Test.YtfikabecgaappaaGreatPr17Po
namespace Go.Proofs.YtfikabecgaappaaGreat
open Go.RowKit
def ZhX (p:Int × Int):DfaD:=if p.1=1 then ZdM else if p.1=2 then oneD else minD ⟨[[2,2,2].set p.2.toNat 1,[2,2,2],[2,2,2]],[false,true,false]⟩
def oneQ (K:Nat) (k:Int) (a:DfaD):Option DfaD:=if k=8 then(ZeW 81 K (Zch (Zaz a))).map minD else some (flB true a)
def twoQ (K:Nat) (k:Int) (a b:DfaD):Option DfaD :=
 if k=4 then(ZeW 81 K (Zc7 (Zaz a) (Zaz b))).map minD else if k=5 then(Zbk K (fun p q=>p||q) a b).map minD else(Zbk K (fun p q=>p&&q) a b).map minD
def ZeL (K:Nat) (p:Int × Int) (st:List DfaD):Option (List DfaD) :=
 if Zah p=0 then some (ZhX p::st)
 else if Zah p=1 then
  match st with
  | a::r=>(oneQ K p.1 a).map (·::r)
  | []=>none
 else
  match st with
  | b::a::r=>(twoQ K p.1 a b).map (·::r)
  | _=>none
def runC (K:Nat):List (Int × Int)→List DfaD→Option (List DfaD)
 | [],st=>some st
 | p::ps,st=>(ZeL K p st).bind (runC K ps)
theorem Zmx {d:DfaD} (hd:fine d):ZaU (flB true d)=flB true (ZaU d):=by
 have hm:=(Zbd hd d.next.length).1;unfold ZaU Zap flB;show DfaD.mk _ _=DfaD.mk _ _;congr 1;rw[List.map_map];refine List.map_congr_left fun x hx => ?_
 obtain⟨h1,h2⟩:=hm x hx;have h3:=hd.2.2.1;have hlt:x.toNat<d.ends.length:=by omega
 simp[den,hlt]
theorem ZnV {d:DfaD} (hd:Zae d.next d.ends=true) (hm:minD d=d):minD (flB true d)=flB true d:=by
 have hf:=ZaB hd;have hF:=ZaB (ZnD (b:=true) hd);have ht:ZaU d=d:=by have:=ZmN hf;rw[hm] at this;exact this
 refine ZmO hF (by rw[Zmx hf,ht]) fun s t hs ht' h => ?_
 have hs:s<d.next.length:=hs;have ht':t<d.next.length:=ht';refine ZiL hf (by rw[hm];exact hs) (by rw[hm];exact ht') fun w hw => ?_
 rw[hm];obtain⟨a,ha,hra⟩:=ZdJ hf w hw hs;obtain⟨b,hb,hrb⟩:=ZdJ hf w hw ht';have h1:=h w hw;rw[ZiX,ZiX,hra,hrb,ZaW,ZaW] at h1;rw[hra,hrb,ZaW,ZaW]
 have e:∀ i,i<d.next.length→enD (flB true d) i = !enD d i:=fun i hi=>by
  have h3:=(Zac hd).2.2;have hi2:i<d.ends.length:=by omega
  simp[enD,flB,hi2,xb]
 rw[e a ha,e b hb] at h1;simpa using h1
theorem ZjE {K:Nat} (hK:K=40) (t:Ex) {d:DfaD} (h:Zam K t=some d):minD d=d:=by
 have key:∀ {y:DfaD},Zae y.next y.ends=true→Zaj y=d→minD d=d:=fun {y} hy e=>by rw[← e,Zcc (ZaB hy)];exact ZnU (ZaB hy)
 cases t with
 | zero=>simp only[Zam,Option.some.injEq] at h;exact key ZdL h
 | one=>simp only[Zam,Option.some.injEq] at h;exact key Zfq h
 | ltr c=>simp only[Zam,Option.some.injEq] at h;exact key (ZdC c) h
 | join a b =>simp only[Zam,Option.bind_eq_some_iff,Option.map_eq_some_iff] at h;obtain⟨x,-,y,-,z,hz,e⟩:=h;exact key (Zcs hK hz) e
 | alt a b =>simp only[Zam,Option.bind_eq_some_iff,Option.map_eq_some_iff] at h;obtain⟨x,-,y,-,z,hz,e⟩:=h;exact key (Zbf hK hz) e
 | both a b =>simp only[Zam,Option.bind_eq_some_iff,Option.map_eq_some_iff] at h;obtain⟨x,-,y,-,z,hz,e⟩:=h;exact key (Zbf hK hz) e
 | neg a =>simp only[Zam,Option.map_eq_some_iff] at h;obtain⟨x,hx,e⟩:=h;exact key (Zft (Za8 hK a hx)) e
 | star a =>simp only[Zam,Option.bind_eq_some_iff,Option.map_eq_some_iff] at h;obtain⟨x,-,z,hz,e⟩:=h;exact key (Zcs hK hz) e
theorem ZdP {o:Option DfaD} (h:∀ d,o=some d→Zae d.next d.ends=true):o.map Zaj=o.map minD:=by
 cases o with
 | none=>rfl
 | some d=>exact congrArg some (Zcc (ZaB (h d rfl)))
theorem Zlg (d:DfaD):negD d=flB true d:=by unfold negD flB;congr 1;exact List.map_congr_left fun x _=>by cases x<;>rfl
theorem Zlr:Zaj ZdM=ZdM:=by decide +kernel
theorem ZmV:Zaj oneD=oneD:=by decide +kernel
theorem ZkQ {K:Nat} (hK:K=40):∀ (t:Ex) (rest:List (Int × Int)) (st:List DfaD),runC K (t.post++rest) st=(Zam K t).bind fun d=>runC K rest (d::st):=by
 intro t
 induction t with
 | zero =>intro rest st;show(some (ZdM::st)).bind (runC K rest)=_;simp only[Zam,Zlr];rfl
 | one =>intro rest st;show(some (oneD::st)).bind (runC K rest)=_;simp only[Zam,ZmV];rfl
 | ltr c =>
  intro rest st;have e:ZeL K (3,(c.val:Int)) st=some (ZhX (3,(c.val:Int))::st):=by unfold ZeL;rw[if_pos (Zg0 c)]
  show(ZeL K (3,(c.val:Int)) st).bind (runC K rest)=_;rw[e];simp only[Zam];rw[Zcc (ZaB (ZdC c))];rfl
 | join a b ha hb =>
  intro rest st;show runC K ((a.post++b.post++[(4,0)])++rest) st=_;rw[List.append_assoc,List.append_assoc,ha];simp only[Zam];cases hx:Zam K a with
  | none=>rfl
  | some x =>
   show runC K (b.post++([(4,0)]++rest)) (x::st)=_;rw[hb];show _=((Zam K b).bind fun y=>(detM 81 K (ZcI x y)).map Zaj).bind _;cases hy:Zam K b with
   | none=>rfl
   | some y =>show((twoQ K 4 x y).map (·::st)).bind (runC K rest)=((detM 81 K (ZcI x y)).map Zaj).bind _;rw[show twoQ K 4 x y=(detM 81 K (ZcI x y)).map Zaj by rw[ZdP fun d hd=>Zcs hK hd,← ZjA,← ZfE];rfl];cases (detM 81 K (ZcI x y)).map Zaj<;>rfl
 | alt a b ha hb =>
  intro rest st;show runC K ((a.post++b.post++[(5,0)])++rest) st=_;rw[List.append_assoc,List.append_assoc,ha];simp only[Zam];cases hx:Zam K a with
  | none=>rfl
  | some x =>
   show runC K (b.post++([(5,0)]++rest)) (x::st)=_;rw[hb];show _=((Zam K b).bind fun y=>(Zbk K (fun p q=>p||q) x y).map Zaj).bind _;cases hy:Zam K b with
   | none=>rfl
   | some y =>show((twoQ K 5 x y).map (·::st)).bind (runC K rest)=((Zbk K (fun p q=>p||q) x y).map Zaj).bind _;rw[show twoQ K 5 x y=(Zbk K (fun p q=>p||q) x y).map Zaj by rw[ZdP fun d hd=>Zbf hK hd];rfl];cases (Zbk K (fun p q=>p||q) x y).map Zaj<;>rfl
 | both a b ha hb =>
  intro rest st;show runC K ((a.post++b.post++[(6,0)])++rest) st=_;rw[List.append_assoc,List.append_assoc,ha];simp only[Zam];cases hx:Zam K a with
  | none=>rfl
  | some x =>
   show runC K (b.post++([(6,0)]++rest)) (x::st)=_;rw[hb];show _=((Zam K b).bind fun y=>(Zbk K (fun p q=>p&&q) x y).map Zaj).bind _;cases hy:Zam K b with
   | none=>rfl
   | some y =>show((twoQ K 6 x y).map (·::st)).bind (runC K rest)=((Zbk K (fun p q=>p&&q) x y).map Zaj).bind _;rw[show twoQ K 6 x y=(Zbk K (fun p q=>p&&q) x y).map Zaj by rw[ZdP fun d hd=>Zbf hK hd];rfl];cases (Zbk K (fun p q=>p&&q) x y).map Zaj<;>rfl
 | neg a ha =>
  intro rest st;show runC K ((a.post++[(7,0)])++rest) st=_;rw[List.append_assoc,ha];simp only[Zam];cases hx:Zam K a with
  | none=>rfl
  | some x =>have hok:=Za8 hK a hx;show runC K rest (flB true x::st)=runC K rest (Zaj (negD x)::st);rw[Zcc (ZaB (Zft hok)),Zlg,ZnV hok (ZjE hK a hx)]
 | star a ha =>
  intro rest st;show runC K ((a.post++[(8,0)])++rest) st=_;rw[List.append_assoc,ha];simp only[Zam];cases hx:Zam K a with
  | none=>rfl
  | some x =>show((oneQ K 8 x).map (·::st)).bind (runC K rest)=((detM 81 K (ZcX x)).map Zaj).bind _;rw[show oneQ K 8 x=(detM 81 K (ZcX x)).map Zaj by rw[ZdP fun d hd=>Zcs hK hd,← ZjA,← Zff];rfl];cases (detM 81 K (ZcX x)).map Zaj<;>rfl
theorem ZjV {K:Nat} (hK:K=40) (t:Ex):runC K t.post []=(Zam K t).map fun d=>[d]:=by have h:=ZkQ hK t [] [];rw[List.append_nil] at h;rw[h];cases Zam K t<;>rfl
theorem ZmW {p:Int × Int} (h:pOk p=true) (hn:Zah p=0):Zae (ZhX p).next (ZhX p).ends=true:=by
 unfold ZhX
 split
 ·exact ZdL
 split
 ·exact Zfq
 rename_i h1 h2
 have h3:p.1=3∧0≤p.2∧p.2≤2:=by
  unfold Zah at hn;rw[if_pos h] at hn;simp only[pOk,inB,Bool.and_eq_true,Bool.or_eq_true,decide_eq_true_eq,Bool.not_eq_true',decide_eq_false_iff_not] at h
  split at hn
  ·omega
  split at hn<;>omega
 obtain⟨c,hc⟩:∃ c:Fin 3,p.2.toNat=c.val:=⟨⟨p.2.toNat,by omega⟩,rfl⟩;rw[hc];have:=ZbG (ZdC c);rw[Zcc (ZaB (ZdC c))] at this;exact this
theorem Zll {d:DfaD} (h:Zae d.next d.ends=true):Zae (minD d).next (minD d).ends=true:=by rw[← Zcc (ZaB h)];exact ZbG h
end Go.Proofs.YtfikabecgaappaaGreat
namespace Go.Proofs.YtfikabecgaappaaGreat
open Go.RowKit
theorem ZeZ (l:List Nat) (k:Nat):(txB l).extract 0 k=txB (l.take k):=by apply ByteArray.ext;simp[txB,ByteArray.data_extract,List.map_take]
theorem Zkz (l:List Nat):(txB l).toList.isEmpty=l.isEmpty:=by rw[ByteArray.toList_eq];cases l<;>rfl
end Go.Proofs.YtfikabecgaappaaGreat
namespace Go.Proofs.YtfikabecgaappaaGreat
open Go.RowKit
theorem Zn7 {K:Nat} {n:NfaD} {D:DfaD} (h:detK K n=some D):Zg5 n=true∧(metS n K).length≤K∧D=Zap (nxS n) (enS n) (metS n K):=by
 unfold detK at h
 split at h
 ·rename_i h1;exact⟨h1.1,h1.2,(Option.some.inj h).symm⟩
 cases h
theorem Zh6 {n:NfaD}:∀ (w:List Nat) (v:Nat),w.foldl (nxS n) (((v:Nat):Int),0)=(((w.foldl (fun v (c:Nat)=>stV 40 n.moves v (c:Int)) v:Nat):Int),0)
 | [],_=>rfl
 | c::w,v=>by rw[List.foldl_cons,List.foldl_cons,← Zh6 w];rfl
theorem Znh {K:Nat} {n:NfaD} {D:DfaD} (h:detK K n=some D) {w:List Nat} (hw:isW w):accD D w=accS n w:=by obtain⟨-,h2,rfl⟩:=Zn7 h;rw[Zea h2 hw,Zh6];rfl
end Go.Proofs.YtfikabecgaappaaGreat
namespace Go.Proofs.YtfikabecgaappaaGreat
open Go.RowKit
theorem Zja {l:List Int} {m:Int} (h:∀ j,j<l.length→(0≤l.getD j 0∧l.getD j 0≤m-1)∧(0<j→l.getD (j-1) 0<l.getD j 0)):stOk l m=true:=by
 unfold stOk;rw[List.all_eq_true];intro j hj;obtain⟨h1,h2⟩:=h j (List.mem_range.1 hj);unfold okAt;rw[Bool.and_eq_true,Bool.or_eq_true];refine⟨by simp only[inB,Bool.and_eq_true,decide_eq_true_eq];exact h1,?_⟩;by_cases h0:j=0
 ·exact .inl (decide_eq_true h0)
 exact .inr (decide_eq_true (h2 (by omega)))
theorem Zdf {s t:Nat}:(2 ^ s).testBit t=decide (s=t):=by rw[Nat.testBit_two_pow]
theorem ZdB {d:DfaD}:∀ {k:Nat} {m:Int × Int × Int},m∈mvs d k↔∃ s c:Nat,s<k∧c<3∧m=((s:Int),(c:Int),(d.next.getD s []).getD c 0)
 | 0,m=>by simp[mvs]
 | k+1,m=>by
  rw[show mvs d (k+1)=mvs d k++rowM d k from rfl,List.mem_append,ZdB];constructor
  ·rintro(⟨s,c,h1,h2,h3⟩|h)
   ·exact⟨s,c,by omega,h2,h3⟩
   obtain⟨c,hc,rfl⟩:=List.mem_map.1 h;exact⟨k,c,by omega,List.mem_range.1 hc,rfl⟩
  rintro⟨s,c,h1,h2,h3⟩;by_cases h:s=k
  ·subst h;exact .inr (List.mem_map.2 ⟨c,List.mem_range.2 h2,h3.symm⟩)
  exact .inl ⟨s,c,by omega,h2,h3⟩
theorem Zci {d:DfaD} (k u:Nat):ZbE (mvs d k) u:=by intro m hm he;obtain⟨s,c,-,-,rfl⟩:=ZdB.1 hm;simp only at he;omega
theorem Zmh {a b:Nat} (h:∀ t,a.testBit t=true↔b.testBit t=true):a=b:=by apply Nat.eq_of_testBit_eq;intro t;rw[Bool.eq_iff_iff];exact h t
theorem ZnM {d:DfaD} (hd:Zae d.next d.ends=true) {s c:Nat} (hs:s<d.next.length) (hc:c<3):∃ q:Nat,q<d.next.length∧stV 40 (mvs d d.next.length) (2 ^ s) (c:Int)=2 ^ q:=by
 have hr:=(ZaD hd hs).2 c hc;obtain⟨q,hq⟩:=Int.eq_ofNat_of_zero_le hr.1;refine⟨q,by omega,?_⟩;unfold stV;rw[Ze8 (Zci _ _)];apply Zmh;intro t;rw[ZbA,Zdf,decide_eq_true_eq];constructor
 ·rintro(h|⟨m,hm,h1,h2,h3⟩)
  ·simp at h
  obtain⟨s',c',h4,h5,rfl⟩:=ZdB.1 hm;rw[Zdf,decide_eq_true_eq] at h2;simp only[Int.toNat_natCast] at h2;subst h2;have:c'=c:=by simp only at h1;omega
  subst this;simp only[hq] at h3;omega
 rintro rfl;right;refine⟨_,ZdB.2 ⟨s,c,hs,hc,rfl⟩,rfl,?_,?_⟩
 ·rw[Zdf];simp
 simp only[hq];omega
theorem ZnW {d:DfaD} (hd:Zae d.next d.ends=true) (K:Nat):(metS (Zaz d) K).length≤d.next.length:=by
 have hl:=Zac hd;have hf:fstV (Zaz d)=2 ^ 0:=by unfold fstV;rw[show(Zaz d).moves=mvs d d.next.length from rfl,Ze8 (Zci _ _)];rfl
 have hall:∀ x∈metS (Zaz d) K,∃ s:Nat,s<d.next.length∧x=(((2 ^ s:Nat):Int),0):=by refine ZbF (Q:=fun x=>∃ s:Nat,s<d.next.length∧x=(((2 ^ s:Nat):Int),0)) ⟨0,by omega,by rw[hf]⟩ ?_ K;rintro x c hc ⟨s,hs,rfl⟩;obtain⟨q,hq,h⟩:=ZnM hd hs hc;refine⟨q,hq,?_⟩;unfold nxS;rw[show(Zaz d).moves=mvs d d.next.length from rfl];simp only[Int.toNat_natCast];rw[h]
 have:=Zdn (Za9 (nx:=nxS (Zaz d)) (a:=(((fstV (Zaz d):Nat):Int),0)) K).1 (m:=(List.range d.next.length).map fun s=>(((2 ^ s:Nat):Int),(0:Int))) fun x hx=>by obtain⟨s,hs,rfl⟩:=hall x hx;exact List.mem_map.2 ⟨s,List.mem_range.2 hs,rfl⟩
 simpa using this
theorem Zhp (d:DfaD):∀ k,(eds d k).Pairwise (·<·)
 | 0=>List.Pairwise.nil
 | k+1=>by
  unfold eds
  split
  ·rw[List.pairwise_append];refine⟨Zhp d k,List.pairwise_singleton _ _,fun x hx y hy => ?_⟩;rw[List.mem_singleton.1 hy];exact(ZeJ d k x hx).2
  exact Zhp d k
theorem ZdN {d:DfaD} (hd:Zae d.next d.ends=true):Zg5 (Zaz d)=true:=by
 have hl:=Zac hd;unfold Zg5;simp only[Bool.and_eq_true,decide_eq_true_eq];refine⟨⟨⟨⟨?_,?_⟩,?_⟩,?_⟩,?_⟩
 ·show inB (d.next.length:Int) 0 40=true;simp only[inB,Bool.and_eq_true,decide_eq_true_eq];exact⟨by omega,by omega⟩
 ·show(mvs d d.next.length).length≤400;rw[ZbS];omega
 ·refine Zja fun j hj => ?_
  have hj:j<1:=hj;obtain rfl:j=0:=by omega
  refine⟨?_,fun h=>by omega⟩;simp only[Zaz,List.getD_cons_zero];omega
 ·refine Zja fun j hj => ?_
  have hj:j<(eds d d.next.length).length:=hj;have h1:=ZeJ d _ _ (memD (d:=(0:Int)) hj);refine⟨?_,fun h => ?_⟩
  ·show 0≤(eds d d.next.length).getD j 0∧(eds d d.next.length).getD j 0≤(d.next.length:Int)-1;omega
  have:=List.pairwise_iff_getElem.1 (Zhp d d.next.length) (j-1) j (by omega) hj (by omega);show(eds d d.next.length).getD (j-1) 0<(eds d d.next.length).getD j 0;rw[Za1 (by omega),Za1 hj];exact this
 rw[List.all_eq_true];intro m hm;obtain⟨s,c,h1,h2,rfl⟩:=ZdB.1 (show m∈mvs d d.next.length from hm);have hr:=(ZaD hd h1).2 c h2;show mvOk (d.next.length:Int) _=true;simp only[mvOk,inB,Bool.and_eq_true,decide_eq_true_eq];exact⟨⟨⟨by omega,by omega⟩,by omega,by omega⟩,by omega,by omega⟩
end Go.Proofs.YtfikabecgaappaaGreat
namespace Go.Proofs.YtfikabecgaappaaGreat
open Go.RowKit
theorem Zoj {d:DfaD} (hd:Zae d.next d.ends=true) {s c:Nat} (hs:s<d.next.length) (hc:c<3):stV 40 (mvs d d.next.length) (2 ^ s) (c:Int)=2 ^ nxD d s c:=by
 have hr:=(ZaD hd hs).2 c hc;unfold stV;rw[Ze8 (Zci _ _)];apply Zmh;intro t;rw[ZbA,Zdf,decide_eq_true_eq];constructor
 ·rintro(h|⟨m,hm,h1,h2,h3⟩)
  ·simp at h
  obtain⟨s',c',h4,h5,rfl⟩:=ZdB.1 hm;rw[Zdf,decide_eq_true_eq] at h2;simp only[Int.toNat_natCast] at h2;subst h2;have:c'=c:=by simp only at h1;omega
  subst this;exact h3
 rintro rfl;right;refine⟨_,ZdB.2 ⟨s,c,hs,hc,rfl⟩,rfl,?_,rfl⟩;rw[Zdf];simp
theorem ZlK (d:DfaD):fstV (Zaz d)=2 ^ 0:=by unfold fstV;rw[show(Zaz d).moves=mvs d d.next.length from rfl,Ze8 (Zci _ _)];rfl
theorem ZiY {d:DfaD}:∀ {k:Nat} {x:Int},x∈eds d k↔∃ s:Nat,x=(s:Int)∧s<k∧enD d s=true
 | 0,x=>by simp[eds]
 | k+1,x=>by
  have ih:=ZiY (d:=d) (k:=k) (x:=x);unfold eds;by_cases h:d.ends.getD k false=true
  ·rw[if_pos h,List.mem_append,ih,List.mem_singleton];constructor
   ·rintro(⟨s,h1,h2,h3⟩|rfl)
    ·exact⟨s,h1,by omega,h3⟩
    exact⟨k,rfl,by omega,h⟩
   rintro⟨s,h1,h2,h3⟩;by_cases hk:s=k
   ·subst hk;exact .inr h1
   exact .inl ⟨s,h1,by omega,h3⟩
  rw[if_neg h,ih];constructor
  ·rintro⟨s,h1,h2,h3⟩;exact⟨s,h1,by omega,h3⟩
  rintro⟨s,h1,h2,h3⟩;by_cases hk:s=k
  ·subst hk;exact absurd h3 h
  exact⟨s,h1,by omega,h3⟩
theorem ZlZ {d:DfaD} (hd:Zae d.next d.ends=true) {K:Nat} (hK:d.next.length≤K):detK K (Zaz d)=some (ZaU d):=by
 have hl:=Zac hd;have hf:=ZaB hd;unfold detK;rw[if_pos ⟨ZdN hd,Nat.le_trans (ZnW hd K) hK⟩];congr 1
 let f:Int→Int × Int:=fun x=>(((2 ^ x.toNat:Nat):Int),0)
 let Q:Int→Prop:=fun x=>∃ s:Nat,x=(s:Int)∧s<d.next.length
 have hm:=ZcP (nx:=dnx d) (nx':=nxS (Zaz d)) (a:=(0:Int)) (f:=f) (Q:=Q) (en:=den d) (en':=enS (Zaz d)) (K:=K) ⟨0,rfl,by omega⟩ (by
  rintro x c hc ⟨s,rfl,hs⟩;obtain⟨h3,h4⟩:=Zbm hf hs hc;exact⟨_,h4,h3⟩) (by
  rintro x y ⟨s,rfl,hs⟩ ⟨t,rfl,ht⟩ h;have h1:((2 ^ s:Nat):Int)=((2 ^ t:Nat):Int):=congrArg Prod.fst h;have:s=t:=(Nat.pow_right_inj (show 1<2 by omega)).1 (Int.ofNat_inj.1 h1);rw[this]) (by
  rintro x c hc ⟨s,rfl,hs⟩;obtain⟨h3,h4⟩:=Zbm hf hs hc;simp only[f,h4,nxS,Int.toNat_natCast];rw[show(Zaz d).moves=mvs d d.next.length from rfl,Zoj hd hs hc]) (by
  rintro x ⟨s,rfl,hs⟩;rw[ZaW];simp only[f,enS,Int.toNat_natCast];unfold endV;rw[show(Zaz d).ends=eds d d.next.length from rfl,Bool.eq_iff_iff,List.any_eq_true];constructor
  ·rintro⟨x,hx,hb⟩;obtain⟨t,rfl,ht,he⟩:=ZiY.1 hx;rw[Zdf,decide_eq_true_eq] at hb;simp only[Int.toNat_natCast] at hb;rw[hb];exact he
  intro he;refine⟨(s:Int),ZiY.2 ⟨s,rfl,hs,he⟩,?_⟩;rw[Zdf];simp)
 have h0:f 0=((((fstV (Zaz d):Nat):Int),0):Int × Int):=by rw[ZlK];rfl
 rw[h0] at hm;refine hm.trans ?_;unfold ZaU;rw[Zbj (Zbd hf _).2 hK]
theorem Zlf {d:DfaD} (hd:Zae d.next d.ends=true) {w:List Nat} (hw:isW w):accS (Zaz d) w=accD d w:=by rw[← Znh (ZlZ hd (Nat.le_refl _)) hw,Zmy (ZaB hd) hw]
-- ways through an automaton of any size
theorem Zma {N:Nat} {ms:List (Int × Int × Int)} (hm:mvIn N ms) {v t:Nat} (hv:v<2 ^ N):(clV N ms v).testBit t=true↔∃ s:Nat,s<N∧v.testBit s=true∧Pth ms s [] t:=by
 constructor
 ·intro h;obtain⟨u,hu⟩:=Zlh (fun t=>∃ s:Nat,s<N∧v.testBit s=true∧Pth ms s [] t) N
  have hc:ZbE ms u:=by
   intro m hmm he hf;obtain⟨h1,s,hs,hvs,hp⟩:=(hu _).1 hf;have h2:=hm m hmm;refine(hu _).2 ⟨by omega,s,hs,hvs,?_⟩;have e1:((m.1.toNat:Nat):Int)=m.1:=by omega
   have e2:((m.2.2.toNat:Nat):Int)=m.2.2:=by omega
   rw[e1] at hp;rw[e2];refine hp.append (y:=[]) (.eps ?_ (.here _));rw[← he];exact hmm
  have hsub:subV v u:=by intro s hs;have:=Zfw hv hs;exact(hu s).2 ⟨this,s,this,hs,.here _⟩
  exact((hu t).1 (Zl8 hc hsub t h)).2
 rintro⟨s,hs,hvs,hp⟩;have:=hp.closed (Zb8 hm v) rfl (by rw[Int.toNat_natCast];exact ZfV N ms v s hvs)
 rwa [Int.toNat_natCast] at this
theorem ZkK {N:Nat} {ms:List (Int × Int × Int)} (hm:mvIn N ms) {v t:Nat} (c:Nat):(stV N ms v (c:Int)).testBit t=true↔∃ x,x∈ms∧x.2.1=(c:Int)∧v.testBit x.1.toNat=true∧Pth ms x.2.2 [] t:=by
 have hlt:ms.foldl (ZaI v c) 0<2 ^ N:=Zbu _ (fun u=>u<2 ^ N) (fun _ _ hx hu=>Zca hm hx hu) (Nat.two_pow_pos N);unfold stV;rw[Zma hm hlt];constructor
 ·rintro⟨s,hs,hb,hp⟩;rw[ZbA] at hb;rcases hb with hb|⟨m,hmm,h1,h2,h3⟩
  ·simp at hb
  refine⟨m,hmm,h1,h2,?_⟩;have e:m.2.2=(s:Int):=by have:=(hm m hmm).2;omega
  rw[e];exact hp
 rintro⟨x,hx,h1,h2,hp⟩;have h4:=(hm x hx).2;refine⟨x.2.2.toNat,by omega,?_,?_⟩
 ·rw[ZbA];exact .inr ⟨x,hx,h1,h2,rfl⟩
 have e:((x.2.2.toNat:Nat):Int)=x.2.2:=by omega
 rw[e];exact hp
theorem Zh8 {N:Nat} {ms:List (Int × Int × Int)} (hm:mvIn N ms):∀ (cs:List Nat) (V:Nat),V<2 ^ N→ZbE ms V→∀ t,(cs.foldl (fun v (c:Nat)=>stV N ms v (c:Int)) V).testBit t=true↔∃ s:Nat,s<N∧V.testBit s=true∧Pth ms s cs t
 | [],V,hV,hc,t=>by
  rw[List.foldl_nil];constructor
  ·intro h;exact⟨t,Zfw hV h,h,.here _⟩
  rintro⟨s,hs,h1,h2⟩;have:=h2.closed hc rfl (by rwa [Int.toNat_natCast])
  rwa [Int.toNat_natCast] at this
 | c::cs,V,hV,hc,t=>by
  rw[List.foldl_cons,Zh8 hm cs _ (ZkI hm V c) (Zb8 hm _)];constructor
  ·rintro⟨s,hs,h1,h2⟩;rw[ZkK hm] at h1;obtain⟨x,hx,h3,h4,h5⟩:=h1;have h6:=(hm x hx).1;refine⟨x.1.toNat,by omega,h4,?_⟩;have e:((x.1.toNat:Nat):Int)=x.1:=by omega
   rw[e];refine .step (t:=x.2.2) ?_ (h5.append h2);rw[← h3];exact hx
  rintro⟨s,hs,h1,h2⟩;obtain⟨m,h3,h4,h5,h6⟩:=h2.split rfl;have h7:=(hm m h3).2;refine⟨m.2.2.toNat,by omega,?_,?_⟩
  ·rw[ZkK hm];have:=h5.closed hc rfl (by rwa [Int.toNat_natCast]);refine⟨m,h3,h4,this,?_⟩;have e:((m.2.2.toNat:Nat):Int)=m.2.2:=by omega
   rw[e];exact .here _
  have e:((m.2.2.toNat:Nat):Int)=m.2.2:=by omega
  rw[e];exact h6
def accP (n:NfaD) (w:List Nat):Prop:=∃ f∈n.firsts,∃ e∈n.ends,Pth n.moves f w e
theorem Zh7 {N:Nat} {n:NfaD}:∀ (w:List Nat) (v:Nat),w.foldl (nxSM N n) (((v:Nat):Int),0)=(((w.foldl (fun v (c:Nat)=>stV N n.moves v (c:Int)) v:Nat):Int),0)
 | [],_=>rfl
 | c::w,v=>by rw[List.foldl_cons,List.foldl_cons,← Zh7 w];rfl
theorem ZjB {N K:Nat} {n:NfaD} {D:DfaD} (hm:mvIn N n.moves) (hf:inN N n.firsts) (he:inN N n.ends) (h:detM N K n=some D) {w:List Nat} (hw:isW w):accD D w=true↔accP n w:=by
 unfold detM at h
 split at h
 ·rename_i h2;simp only[Option.some.injEq] at h;subst h;unfold metSM at h2 ⊢;rw[Zea h2 hw,Zh7];show(n.ends.any fun s=>(w.foldl (fun v (c:Nat)=>stV N n.moves v (c:Int)) (clV N n.moves (setV n.firsts))).testBit s.toNat)=true↔_;have hlt:clV N n.moves (setV n.firsts)<2 ^ N:=ZcT hm (ZcK hf) N;have hrun:=Zh8 hm w _ hlt (Zb8 hm (setV n.firsts));rw[List.any_eq_true];constructor
  ·rintro⟨e,hee,hb⟩;obtain⟨s,hs,h1,h2⟩:=(hrun _).1 hb;rw[Zma hm (ZcK hf)] at h1;obtain⟨r,hr,h3,h4⟩:=h1;rw[ZgR,List.any_eq_true] at h3;obtain⟨f,hff,h5⟩:=h3;have h5:=of_decide_eq_true h5;have h6:=hf f hff;have h7:=he e hee;refine⟨f,hff,e,hee,?_⟩;have e1:(r:Int)=f:=by omega
   have e2:((e.toNat:Nat):Int)=e:=by omega
   rw[e1] at h4;rw[e2] at h2;exact h4.append h2
  rintro⟨f,hff,e,hee,hp⟩;have h6:=hf f hff;have h7:=he e hee;refine⟨e,hee,(hrun _).2 ⟨f.toNat,by omega,?_,?_⟩⟩
  ·exact ZfV N n.moves _ _ (Zjb hff)
  have e1:((f.toNat:Nat):Int)=f:=by omega
  have e2:((e.toNat:Nat):Int)=e:=by omega
  rw[e1,e2];exact hp
 cases h
theorem Pth.starred {p:NfaD} {a:Nat} (ha:p.states=(a:Int)) (hpm:mvIn a p.moves) (hpf:inN a p.firsts) (hpe:inN a p.ends) {s t:Int} {x:List Nat} (h:Pth (Zch p).moves s x t) (ht:t=p.states) :
  (s=p.states→StarL (accP p) x)∧(s<p.states→∃ u v,x=u++v∧(∃ e∈p.ends,Pth p.moves s u e)∧StarL (accP p) v):=by
 have hmem:∀ m∈(Zch p).moves,m∈p.moves∨(∃ f∈p.firsts,m=(p.states,-1,f))∨∃ e∈p.ends,m=(e,-1,p.states):=fun m hm=>by
  simp only[Zch,List.mem_append,List.mem_map] at hm;rcases hm with(hm|⟨f,hf,rfl⟩)|⟨e,he,rfl⟩
  ·exact .inl hm
  ·exact .inr (.inl ⟨f,hf,rfl⟩)
  exact .inr (.inr ⟨e,he,rfl⟩)
 induction h with
 | here s=>exact⟨fun _ => .nil,fun h=>by omega⟩
 | @eps s' t' u w hm _ ih =>
  obtain⟨i1,i2⟩:=ih ht;rcases hmem _ hm with hm|⟨f,hf,e⟩|⟨e,he,e'⟩
  ·have h1:=hpm _ hm;simp only at h1;refine⟨fun h=>by omega,fun _ => ?_⟩;obtain⟨x,y,rfl,⟨e,he,h2⟩,h3⟩:=i2 (by omega);exact⟨x,y,rfl,⟨e,he,.eps hm h2⟩,h3⟩
  ·simp only[Prod.mk.injEq] at e;obtain⟨rfl,-,rfl⟩:=e;have h1:=hpf _ hf;refine⟨fun _ => ?_,fun h=>by omega⟩;obtain⟨x,y,rfl,⟨e,he,h2⟩,h3⟩:=i2 (by omega);exact .cons ⟨_,hf,e,he,h2⟩ h3
  simp only[Prod.mk.injEq] at e';obtain⟨rfl,-,rfl⟩:=e';have h1:=hpe _ he;exact⟨fun h=>by omega,fun _=>⟨[],w,rfl,⟨_,he,.here _⟩,i1 rfl⟩⟩
 | @step s' t' u c w hm _ ih =>
  obtain⟨i1,i2⟩:=ih ht;rcases hmem _ hm with hm|⟨f,hf,e⟩|⟨e,he,e'⟩
  ·have h1:=hpm _ hm;simp only at h1;refine⟨fun h=>by omega,fun _ => ?_⟩;obtain⟨x,y,rfl,⟨e,he,h2⟩,h3⟩:=i2 (by omega);exact⟨c::x,y,rfl,⟨e,he,.step hm h2⟩,h3⟩
  ·simp only[Prod.mk.injEq] at e;omega
  simp only[Prod.mk.injEq] at e';omega
theorem ZkG {p:NfaD} {a:Nat} (ha:p.states=(a:Int)) (hpm:mvIn a p.moves) (hpf:inN a p.firsts) (hpe:inN a p.ends) (x:List Nat):accP (Zch p) x↔StarL (accP p) x:=by
 constructor
 ·rintro⟨f,hf,e,he,h⟩;simp only[Zch,List.mem_singleton] at hf he;subst hf he;exact(h.starred ha hpm hpf hpe rfl).1 rfl
 rintro⟨ws,rfl,hw⟩;refine⟨p.states,by simp[Zch],p.states,by simp[Zch],?_⟩
 induction ws with
 | nil=>exact .here _
 | cons u ws ih =>
  rw[List.flatten_cons];refine Pth.append ?_ (ih fun x hx=>hw x (List.mem_cons_of_mem _ hx));obtain⟨f,hf,e,he,h⟩:=hw u (by simp);have h1:Pth (Zch p).moves f u e:=h.mono fun m hm=>by simp[Zch,hm]
  have h2:Pth (Zch p).moves p.states [] f:=.eps (by simp[Zch,hf]) (.here _);have h3:Pth (Zch p).moves e [] p.states:=.eps (by simp only[Zch,List.mem_append,List.mem_map];exact .inr ⟨e,he,rfl⟩) (.here _);have h4:=(h2.append h1).append h3
  rwa [List.nil_append,List.append_nil] at h4
theorem Zlz {p q:NfaD} {a b:Nat} (ha:p.states=(a:Int)) (hpm:mvIn a p.moves) (hqm:mvIn b q.moves) (hpf:inN a p.firsts) (hpe:inN a p.ends) (hqf:inN b q.firsts) (hqe:inN b q.ends) (x:List Nat):accP (Zc7 p q) x↔∃ u v,x=u++v∧accP p u∧accP q v:=by
 constructor
 ·rintro⟨f,hf,e,he,hw⟩;obtain⟨y,hy,rfl⟩:=List.mem_map.1 (show e∈q.ends.map (·+p.states) from he);have h1:=hpf f hf;have h2:=hqe y hy;obtain⟨k,hk,g,hg,z,hz,h3,h4⟩:=(hw.cross ha hpm hqm hpe hqf (by omega)).1 (by omega);rw[show y+p.states-p.states=y by omega] at h4;exact⟨x.take k,x.drop k,(List.take_append_drop k x).symm,⟨f,hf,g,hg,h3⟩,⟨z,hz,y,hy,h4⟩⟩
 rintro⟨u,v,rfl,⟨f,hf,e,he,h3⟩,⟨g,hg,d,hd,h4⟩⟩;refine⟨f,hf,d+p.states,List.mem_map.2 ⟨d,hd,rfl⟩,?_⟩;have h5:Pth (Zc7 p q).moves f u e:=h3.mono fun m hm=>by simp only[Zc7,List.mem_append];exact .inl (.inl hm)
 have h6:Pth (Zc7 p q).moves (g+p.states) v (d+p.states):=(h4.up p.states).mono fun m hm=>by simp only[Zc7,List.mem_append];exact .inl (.inr hm)
 have h7:Pth (Zc7 p q).moves e [] (g+p.states):=.eps (by simp only[Zc7,List.mem_append,List.mem_flatMap,List.mem_map];exact .inr ⟨e,he,g+p.states,List.mem_map.2 ⟨g,hg,rfl⟩,rfl⟩) (.here _);have h8:=(h5.append h7).append h6
 rwa [List.append_nil] at h8
theorem Zcx {d:DfaD} (hd:Zae d.next d.ends=true) {w:List Nat} (hw:isW w):accP (Zaz d) w↔accD d w=true:=by rw[← Zlf hd hw,Zno (ZdN hd)];rfl
theorem Zc5 {d:DfaD} (hd:Zae d.next d.ends=true):inN d.next.length (Zaz d).firsts:=fun s hs=>by have hl:=Zac hd;have hs:s∈[(0:Int)]:=hs;simp only[List.mem_singleton] at hs;omega
theorem Zen (d:DfaD):inN d.next.length (Zaz d).ends:=fun s hs=>ZeJ d _ s hs
theorem Ze5 {u v:List Nat} (h:isW (u++v)):isW u:=fun c hc=>h c (by simp[hc])
theorem ZdS {u v:List Nat} (h:isW (u++v)):isW v:=fun c hc=>h c (by simp[hc])
theorem Zjr {ws:List (List Nat)} (h:isW ws.flatten):∀ u∈ws,isW u:=fun u hu c hc=>h c (List.mem_flatten.2 ⟨u,hu,hc⟩)
theorem StarL.congr {L M:List Nat→Prop} (h:∀ u,isW u→(L u↔M u)) {w:List Nat} (hw:isW w):StarL L w↔StarL M w:=by
 constructor
 ·rintro⟨ws,rfl,hs⟩;exact⟨ws,rfl,fun u hu=>(h u (Zjr hw u hu)).1 (hs u hu)⟩
 rintro⟨ws,rfl,hs⟩;exact⟨ws,rfl,fun u hu=>(h u (Zjr hw u hu)).2 (hs u hu)⟩
theorem ZbI {d:DfaD} (hd:Zae d.next d.ends=true) {w:List Nat} (hw:isW w):accD (Zaj d) w=accD d w:=by rw[Zcc (ZaB hd)];exact Zln (ZaB hd) hw
theorem Zjm {K:Nat} {f:Bool→Bool→Bool} {a b d:DfaD} (h:Zbk K f a b=some d) {w:List Nat} (hw:isW w):accD d w=f (accD a w) (accD b w):=by
 unfold Zbk at h
 split at h
 ·rename_i h2;simp only[Option.some.injEq] at h;subst h;unfold metP at h2 ⊢;rw[Zea h2 hw]
  have key:∀ (w:List Nat) (p:Int × Int),w.foldl (Zav a b) p=(runD a p.1 w,runD b p.2 w):=fun w=>by
   induction w with
   | nil=>intro p;rfl
   | cons c w ih =>intro p;rw[List.foldl_cons,ih];rfl
  rw[key];rfl
 cases h
theorem ZmK (w:List Nat) (hw:isW w):accD ZdM w=false:=by
 have key:∀ w,isW w→runD ZdM 0 w=0:=fun w=>by
  induction w with
  | nil=>intro _;rfl
  | cons c w ih =>
   intro h;obtain⟨h1,h2⟩:=ZbY h;rw[ZaM]
   have:dnx ZdM 0 c=0:=by
    have:c=0∨c=1∨c=2:=by omega
    rcases this with rfl|rfl|rfl<;>rfl
   rw[this];exact ih h2
 unfold accD;rw[key w hw];rfl
theorem ZnR (w:List Nat) (hw:isW w):accD oneD w=true↔w=[]:=by
 have key:∀ w,isW w→runD oneD 1 w=1:=fun w=>by
  induction w with
  | nil=>intro _;rfl
  | cons c w ih =>
   intro h;obtain⟨h1,h2⟩:=ZbY h;rw[ZaM]
   have:dnx oneD 1 c=1:=by
    have:c=0∨c=1∨c=2:=by omega
    rcases this with rfl|rfl|rfl<;>rfl
   rw[this];exact ih h2
 cases w with
 | nil=>exact⟨fun _=>rfl,fun _=>rfl⟩
 | cons c w =>
  obtain⟨h1,h2⟩:=ZbY hw
  have e:dnx oneD 0 c=1:=by
   have:c=0∨c=1∨c=2:=by omega
   rcases this with rfl|rfl|rfl<;>rfl
  have:accD oneD (c::w)=false:=by unfold accD;rw[ZaM,e,key w h2];rfl
  rw[this];simp
theorem ZnY (a:Fin 3) (w:List Nat) (hw:isW w):accD (ltrD a) w=true↔w=[a.val]:=by
 have ha:a=0∨a=1∨a=2:=by omega
 have k2:∀ w,isW w→runD (ltrD a) 2 w=2:=fun w=>by
  induction w with
  | nil=>intro _;rfl
  | cons c w ih =>
   intro h;obtain⟨h1,h2⟩:=ZbY h;rw[ZaM]
   have:dnx (ltrD a) 2 c=2:=by
    have:c=0∨c=1∨c=2:=by omega
    rcases this with rfl|rfl|rfl<;>rcases ha with rfl|rfl|rfl<;>rfl
   rw[this];exact ih h2
 have e2:den (ltrD a) 2=false:=by rcases ha with rfl|rfl|rfl<;>rfl
 have e1:den (ltrD a) 1=true:=by rcases ha with rfl|rfl|rfl<;>rfl
 have e0:den (ltrD a) 0=false:=by rcases ha with rfl|rfl|rfl<;>rfl
 cases w with
 | nil =>have:accD (ltrD a) []=false:=e0;rw[this];simp
 | cons c w =>
  obtain⟨h1,h2⟩:=ZbY hw
  have e:dnx (ltrD a) 0 c=if c=a.val then 1 else 2:=by
   have:c=0∨c=1∨c=2:=by omega
   rcases this with rfl|rfl|rfl<;>rcases ha with rfl|rfl|rfl<;>rfl
  have hr:accD (ltrD a) (c::w)=den (ltrD a) (runD (ltrD a) (if c=a.val then 1 else 2) w):=by unfold accD;rw[ZaM,e]
  rw[hr];by_cases hc:c=a.val
  ·rw[if_pos hc];cases w with
   | nil =>rw[hc];exact⟨fun _=>rfl,fun _=>e1⟩
   | cons b w =>
    obtain⟨h3,h4⟩:=ZbY h2
    have e3:dnx (ltrD a) 1 b=2:=by
     have:b=0∨b=1∨b=2:=by omega
     rcases this with rfl|rfl|rfl<;>rcases ha with rfl|rfl|rfl<;>rfl
    rw[ZaM,e3,k2 w h4,e2];simp
  rw[if_neg hc,k2 w h2,e2];simp[hc]
theorem Zl2 {K:Nat} (hK:K=40):∀ (t:Ex) {d:DfaD},Zam K t=some d→∀ w,isW w→(accD d w=true↔memE t w):=by
 intro t
 induction t with
 | zero =>intro d h w hw;simp only[Zam,Option.some.injEq] at h;rw[← h,ZbI ZdL hw,ZmK w hw];simp[memE]
 | one =>intro d h w hw;simp only[Zam,Option.some.injEq] at h;rw[← h,ZbI Zfq hw,ZnR w hw];rfl
 | ltr c =>intro d h w hw;simp only[Zam,Option.some.injEq] at h;rw[← h,ZbI (ZdC c) hw,ZnY c w hw];rfl
 | join a b iha ihb =>
  intro d h w hw;simp only[Zam,Option.bind_eq_some_iff,Option.map_eq_some_iff] at h;obtain⟨x,hx,y,hy,z,hz,rfl⟩:=h;have hxo:=Za8 hK a hx;have hyo:=Za8 hK b hy;have hxl:=Zac hxo;have hyl:=Zac hyo;rw[ZbI (Zcs hK hz) hw];have h1:mvIn 81 (ZcI x y).moves:=Zfu (ZgM hxo hyo) (by omega);have h2:inN 81 (ZcI x y).firsts:=fun s hs=>by have:=ZcY (b:=y) hxo s hs;omega
  have h3:inN 81 (ZcI x y).ends:=fun s hs=>by have:=Zeb s hs;omega
  rw[ZjB h1 h2 h3 hz hw,← ZfE,
   Zlz (a:=x.next.length) (b:=y.next.length) rfl (ZeD hxo _ (Nat.le_refl _)) (ZeD hyo _ (Nat.le_refl _)) (Zc5 hxo) (Zen x) (Zc5 hyo) (Zen y)]
  constructor
  ·rintro⟨u,v,rfl,p,q⟩;exact⟨u,v,rfl,(iha hx u (Ze5 hw)).1 ((Zcx hxo (Ze5 hw)).1 p),(ihb hy v (ZdS hw)).1 ((Zcx hyo (ZdS hw)).1 q)⟩
  rintro⟨u,v,rfl,p,q⟩;exact⟨u,v,rfl,(Zcx hxo (Ze5 hw)).2 ((iha hx u (Ze5 hw)).2 p),(Zcx hyo (ZdS hw)).2 ((ihb hy v (ZdS hw)).2 q)⟩
 | alt a b iha ihb =>intro d h w hw;simp only[Zam,Option.bind_eq_some_iff,Option.map_eq_some_iff] at h;obtain⟨x,hx,y,hy,z,hz,rfl⟩:=h;rw[ZbI (Zbf hK hz) hw,Zjm hz hw,Bool.or_eq_true,iha hx w hw,ihb hy w hw];rfl
 | both a b iha ihb =>intro d h w hw;simp only[Zam,Option.bind_eq_some_iff,Option.map_eq_some_iff] at h;obtain⟨x,hx,y,hy,z,hz,rfl⟩:=h;rw[ZbI (Zbf hK hz) hw,Zjm hz hw,Bool.and_eq_true,iha hx w hw,ihb hy w hw];rfl
 | neg a iha =>intro d h w hw;simp only[Zam,Option.map_eq_some_iff] at h;obtain⟨x,hx,rfl⟩:=h;have hxo:=Za8 hK a hx;rw[ZbI (Zft hxo) hw,Zlg,Zn5 hxo hw];show _↔¬ memE a w;rw[← iha hx w hw];cases accD x w<;>simp[xb]
 | star a iha =>
  intro d h w hw;simp only[Zam,Option.bind_eq_some_iff,Option.map_eq_some_iff] at h;obtain⟨x,hx,z,hz,rfl⟩:=h;have hxo:=Za8 hK a hx;have hxl:=Zac hxo;rw[ZbI (Zcs hK hz) hw];have h1:mvIn 81 (ZcX x).moves:=Zfu (ZgL hxo) (by omega);have h2:inN 81 (ZcX x).firsts:=fun s hs=>by have:=Zct (a:=x) s hs;omega
  have h3:inN 81 (ZcX x).ends:=fun s hs=>by have:=Zct (a:=x) s hs;omega
  rw[ZjB h1 h2 h3 hz hw,← Zff,
   ZkG (a:=x.next.length) rfl (ZeD hxo _ (Nat.le_refl _)) (Zc5 hxo) (Zen x)]
  exact StarL.congr (fun u hu=>by rw[Zcx hxo hu,iha hx u hu]) hw
end Go.Proofs.YtfikabecgaappaaGreat
