/-
  Plain: the program's machine over a stack of automata gives what compiling the tree of an expression gives.
  Condition: the bound of states is 40.
-/
import Derived.Test.YtfikabecgaappaaGreatPb22Po
set_option maxHeartbeats 1600000
namespace Go.Proofs.YtfikabecgaappaaGreat
open Go.RowKit
def Ziu (p:Int × Int):DfaD:=if p.1=1 then ZfX else if p.1=2 then oneD else minD ⟨[[2,2,2].set p.2.toNat 1,[2,2,2],[2,2,2]],[false,true,false]⟩
def oneQ (K:Nat) (k:Int) (a:DfaD):Option DfaD:=if k=8 then(Zfd 81 K (Zbj (Za1 a))).map minD else some (flB true a)
def twoQ (K:Nat) (k:Int) (a b:DfaD):Option DfaD :=
 if k=4 then(Zfd 81 K (ZbL (Za1 a) (Za1 b))).map minD else if k=5 then(ZbW K (fun p q=>p||q) a b).map minD else(ZbW K (fun p q=>p&&q) a b).map minD
def Ze1 (K:Nat) (p:Int × Int) (st:List DfaD):Option (List DfaD) :=
 if Zad p=0 then some (Ziu p::st)
 else if Zad p=1 then
  match st with
  | a::r=>(oneQ K p.1 a).map (·::r)
  | []=>none
 else
  match st with
  | b::a::r=>(twoQ K p.1 a b).map (·::r)
  | _=>none
def runC (K:Nat):List (Int × Int)→List DfaD→Option (List DfaD)
 | [],st=>some st
 | p::ps,st=>(Ze1 K p st).bind (runC K ps)
theorem Znc {d:DfaD} (hd:fine d):Zbi (flB true d)=flB true (Zbi d):=by
 have hm:=(ZcN hd d.next.length).1;unfold Zbi Zau flB;show DfaD.mk _ _=DfaD.mk _ _;congr 1;rw[List.map_map];refine List.map_congr_left fun x hx => ?_
 obtain⟨h1,h2⟩:=hm x hx;have h3:=hd.2.2.1;have hlt:x.toNat<d.ends.length:=by omega
 simp[den,hlt]
theorem ZoC {d:DfaD} (hd:Zak d.next d.ends=true) (hm:minD d=d):minD (flB true d)=flB true d:=by
 have hf:=ZaP hd;have hF:=ZaP (Zoj (b:=true) hd);have ht:Zbi d=d:=by have:=Zny hf;rw[hm] at this;exact this
 refine Znz hF (by rw[Znc hf,ht]) fun s t hs ht' h => ?_
 have hs:s<d.next.length:=hs;have ht':t<d.next.length:=ht';refine Zjp hf (by rw[hm];exact hs) (by rw[hm];exact ht') fun w hw => ?_
 rw[hm];obtain⟨a,ha,hra⟩:=Zfi hf w hw hs;obtain⟨b,hb,hrb⟩:=Zfi hf w hw ht';have h1:=h w hw;rw[ZjB,ZjB,hra,hrb,Za9,Za9] at h1;rw[hra,hrb,Za9,Za9]
 have e:∀ i,i<d.next.length→enD (flB true d) i = !enD d i:=fun i hi=>by
  have h3:=(Zaj hd).2.2;have hi2:i<d.ends.length:=by omega
  simp[enD,flB,hi2,xb]
 rw[e a ha,e b hb] at h1;simpa using h1
theorem Zh0 {K:Nat} (hK:K=40) (t:Ex) {d:DfaD} (h:ZaE K t=some d):minD d=d:=by
 have key:∀ {y:DfaD},Zak y.next y.ends=true→ZaK y=d→minD d=d:=fun {y} hy e=>by rw[← e,Zcj (ZaP hy)];exact ZoB (ZaP hy)
 cases t with
 | zero=>simp only[ZaE,Option.some.injEq] at h;exact key Zfm h
 | one=>simp only[ZaE,Option.some.injEq] at h;exact key ZhC h
 | ltr c=>simp only[ZaE,Option.some.injEq] at h;exact key (ZeE c) h
 | join a b =>simp only[ZaE,Option.bind_eq_some_iff,Option.map_eq_some_iff] at h;obtain⟨x,-,y,-,z,hz,e⟩:=h;exact key (Zdo hK hz) e
 | alt a b =>simp only[ZaE,Option.bind_eq_some_iff,Option.map_eq_some_iff] at h;obtain⟨x,-,y,-,z,hz,e⟩:=h;exact key (ZbS hK hz) e
 | both a b =>simp only[ZaE,Option.bind_eq_some_iff,Option.map_eq_some_iff] at h;obtain⟨x,-,y,-,z,hz,e⟩:=h;exact key (ZbS hK hz) e
 | neg a =>simp only[ZaE,Option.map_eq_some_iff] at h;obtain⟨x,hx,e⟩:=h;exact key (ZhF (Zcz hK a hx)) e
 | star a =>simp only[ZaE,Option.bind_eq_some_iff,Option.map_eq_some_iff] at h;obtain⟨x,-,z,hz,e⟩:=h;exact key (Zdo hK hz) e
theorem Zd4 {o:Option DfaD} (h:∀ d,o=some d→Zak d.next d.ends=true):o.map ZaK=o.map minD:=by
 cases o with
 | none=>rfl
 | some d=>exact congrArg some (Zcj (ZaP (h d rfl)))
theorem Zl3 (d:DfaD):negD d=flB true d:=by unfold negD flB;congr 1;exact List.map_congr_left fun x _=>by cases x<;>rfl
theorem Zmg:ZaK ZfX=ZfX:=by decide +kernel
theorem ZnG:ZaK oneD=oneD:=by decide +kernel
theorem ZlB {K:Nat} (hK:K=40):∀ (t:Ex) (rest:List (Int × Int)) (st:List DfaD),runC K (t.post++rest) st=(ZaE K t).bind fun d=>runC K rest (d::st):=by
 intro t
 induction t with
 | zero =>intro rest st;show(some (ZfX::st)).bind (runC K rest)=_;simp only[ZaE,Zmg];rfl
 | one =>intro rest st;show(some (oneD::st)).bind (runC K rest)=_;simp only[ZaE,ZnG];rfl
 | ltr c =>
  intro rest st;have e:Ze1 K (3,(c.val:Int)) st=some (Ziu (3,(c.val:Int))::st):=by unfold Ze1;rw[if_pos (ZdW c)]
  show(Ze1 K (3,(c.val:Int)) st).bind (runC K rest)=_;rw[e];simp only[ZaE];rw[Zcj (ZaP (ZeE c))];rfl
 | join a b ha hb =>
  intro rest st;show runC K ((a.post++b.post++[(4,0)])++rest) st=_;rw[List.append_assoc,List.append_assoc,ha];simp only[ZaE];cases hx:ZaE K a with
  | none=>rfl
  | some x =>
   show runC K (b.post++([(4,0)]++rest)) (x::st)=_;rw[hb];show _=((ZaE K b).bind fun y=>(detM 81 K (ZdF x y)).map ZaK).bind _;cases hy:ZaE K b with
   | none=>rfl
   | some y =>show((twoQ K 4 x y).map (·::st)).bind (runC K rest)=((detM 81 K (ZdF x y)).map ZaK).bind _;rw[show twoQ K 4 x y=(detM 81 K (ZdF x y)).map ZaK by rw[Zd4 fun d hd=>Zdo hK hd,← Zkh,← Zga];rfl];cases (detM 81 K (ZdF x y)).map ZaK<;>rfl
 | alt a b ha hb =>
  intro rest st;show runC K ((a.post++b.post++[(5,0)])++rest) st=_;rw[List.append_assoc,List.append_assoc,ha];simp only[ZaE];cases hx:ZaE K a with
  | none=>rfl
  | some x =>
   show runC K (b.post++([(5,0)]++rest)) (x::st)=_;rw[hb];show _=((ZaE K b).bind fun y=>(ZbW K (fun p q=>p||q) x y).map ZaK).bind _;cases hy:ZaE K b with
   | none=>rfl
   | some y =>show((twoQ K 5 x y).map (·::st)).bind (runC K rest)=((ZbW K (fun p q=>p||q) x y).map ZaK).bind _;rw[show twoQ K 5 x y=(ZbW K (fun p q=>p||q) x y).map ZaK by rw[Zd4 fun d hd=>ZbS hK hd];rfl];cases (ZbW K (fun p q=>p||q) x y).map ZaK<;>rfl
 | both a b ha hb =>
  intro rest st;show runC K ((a.post++b.post++[(6,0)])++rest) st=_;rw[List.append_assoc,List.append_assoc,ha];simp only[ZaE];cases hx:ZaE K a with
  | none=>rfl
  | some x =>
   show runC K (b.post++([(6,0)]++rest)) (x::st)=_;rw[hb];show _=((ZaE K b).bind fun y=>(ZbW K (fun p q=>p&&q) x y).map ZaK).bind _;cases hy:ZaE K b with
   | none=>rfl
   | some y =>show((twoQ K 6 x y).map (·::st)).bind (runC K rest)=((ZbW K (fun p q=>p&&q) x y).map ZaK).bind _;rw[show twoQ K 6 x y=(ZbW K (fun p q=>p&&q) x y).map ZaK by rw[Zd4 fun d hd=>ZbS hK hd];rfl];cases (ZbW K (fun p q=>p&&q) x y).map ZaK<;>rfl
 | neg a ha =>
  intro rest st;show runC K ((a.post++[(7,0)])++rest) st=_;rw[List.append_assoc,ha];simp only[ZaE];cases hx:ZaE K a with
  | none=>rfl
  | some x =>have hok:=Zcz hK a hx;show runC K rest (flB true x::st)=runC K rest (ZaK (negD x)::st);rw[Zcj (ZaP (ZhF hok)),Zl3,ZoC hok (Zh0 hK a hx)]
 | star a ha =>
  intro rest st;show runC K ((a.post++[(8,0)])++rest) st=_;rw[List.append_assoc,ha];simp only[ZaE];cases hx:ZaE K a with
  | none=>rfl
  | some x =>show((oneQ K 8 x).map (·::st)).bind (runC K rest)=((detM 81 K (Zer x)).map ZaK).bind _;rw[show oneQ K 8 x=(detM 81 K (Zer x)).map ZaK by rw[Zd4 fun d hd=>Zdo hK hd,← Zkh,← Zfz];rfl];cases (detM 81 K (Zer x)).map ZaK<;>rfl
theorem Zkx {K:Nat} (hK:K=40) (t:Ex):runC K t.post []=(ZaE K t).map fun d=>[d]:=by have h:=ZlB hK t [] [];rw[List.append_nil] at h;rw[h];cases ZaE K t<;>rfl
theorem ZnH {p:Int × Int} (h:pOk p=true) (hn:Zad p=0):Zak (Ziu p).next (Ziu p).ends=true:=by
 unfold Ziu
 split
 ·exact Zfm
 split
 ·exact ZhC
 rename_i h1 h2
 have h3:p.1=3∧0≤p.2∧p.2≤2:=by
  unfold Zad at hn;rw[if_pos h] at hn;simp only[pOk,inB,Bool.and_eq_true,Bool.or_eq_true,decide_eq_true_eq,Bool.not_eq_true',decide_eq_false_iff_not] at h
  split at hn
  ·omega
  split at hn<;>omega
 obtain⟨c,hc⟩:∃ c:Fin 3,p.2.toNat=c.val:=⟨⟨p.2.toNat,by omega⟩,rfl⟩;rw[hc];have:=ZbR (ZeE c);rw[Zcj (ZaP (ZeE c))] at this;exact this
theorem Zl8 {d:DfaD} (h:Zak d.next d.ends=true):Zak (minD d).next (minD d).ends=true:=by rw[← Zcj (ZaP h)];exact ZbR h
end Go.Proofs.YtfikabecgaappaaGreat
namespace Go.Proofs.YtfikabecgaappaaGreat
open Go.RowKit
def subV (v u:Nat):Prop:=∀ s,v.testBit s=true→u.testBit s=true
theorem ZdT (v:Nat):subV v v:=fun _ h=>h
theorem ZgS {a b c:Nat} (h:subV a b) (h':subV b c):subV a c:=fun s hs=>h' s (h s hs)
theorem Zlg {a b:Nat} (h:subV a b) (h':subV b a):a=b:=by apply Nat.eq_of_testBit_eq;intro i;have h1:=h i;have h2:=h' i;cases ha:a.testBit i<;>cases hb:b.testBit i<;>simp_all
theorem Znf (v s:Nat):subV v (adj v s):=fun t ht=>by rw[Zcq,ht];rfl
theorem Zha (v:Nat) (m:Int × Int × Int):subV v (Zat v m):=by
 unfold Zat
 split
 ·exact Znf _ _
 exact ZdT _
theorem ZeK:∀ (ms:List (Int × Int × Int)) (v:Nat),subV v (ms.foldl Zat v)
 | [],v=>ZdT v
 | m::ms,v=>ZgS (Zha v m) (ZeK ms _)
theorem Zkm (ms:List (Int × Int × Int)) (v:Nat):∀ k,subV v (clIt ms v k)
 | 0=>ZdT v
 | k+1=>ZgS (Zkm ms v k) (ZeK ms _)
def ZbP (ms:List (Int × Int × Int)) (u:Nat):Prop:=∀ m∈ms,m.2.1 = -1→u.testBit m.1.toNat=true→u.testBit m.2.2.toNat=true
theorem ZmQ {ms:List (Int × Int × Int)} {u v:Nat} (hu:ZbP ms u) (h:subV v u) {m:Int × Int × Int} (hm:m∈ms):subV (Zat v m) u:=by
 unfold Zat
 split
 ·rename_i hc;simp only[Bool.and_eq_true,decide_eq_true_eq] at hc;intro s hs;rw[Zcq,Bool.or_eq_true] at hs;rcases hs with hs|hs
  ·exact h s hs
  rw[← of_decide_eq_true hs];exact hu m hm hc.1.1 (h _ hc.1.2)
 exact h
theorem ZiU {ms:List (Int × Int × Int)} {u:Nat} (hu:ZbP ms u):∀ (l:List (Int × Int × Int)) (v:Nat),(∀ m∈l,m∈ms)→subV v u→subV (l.foldl Zat v) u
 | [],_,_,h=>h
 | m::l,v,hl,h=>ZiU hu l _ (fun x hx=>hl x (by simp[hx])) (ZmQ hu h (hl m (by simp)))
theorem ZmR {ms:List (Int × Int × Int)} {u v:Nat} (hu:ZbP ms u) (h:subV v u):∀ k,subV (clIt ms v k) u
 | 0=>h
 | k+1=>ZiU hu ms _ (fun _ hx=>hx) (ZmR hu h k)
theorem ZoV {n:Nat} {ms:List (Int × Int × Int)} (h:mvIn n ms) (v:Nat):ZiS ms (clV n ms v)=clV n ms v:=by
 rcases Zek h v n with h1|h1
 ·exact h1
 have:=ZmK n v;omega
theorem Zkb:∀ {l:List (Int × Int × Int)} {v:Nat},l.foldl Zat v=v→∀ m∈l,Zat v m=v
 | [],_,_,_,hm=>by cases hm
 | m::l,v,h,x,hx=>by
  have h1:Zat v m=v:=Zlg (by have:=ZeK l (Zat v m);rw[List.foldl_cons] at h;rw[h] at this;exact this) (Zha v m);rw[List.foldl_cons,h1] at h;rcases List.mem_cons.1 hx with rfl|hx
  ·exact h1
  exact Zkb h x hx
theorem Zch {n:Nat} {ms:List (Int × Int × Int)} (h:mvIn n ms) (v:Nat):ZbP ms (clV n ms v):=by
 intro m hm hl hf;have h1:=Zkb (ZoV h v) m hm;cases ht:(clV n ms v).testBit m.2.2.toNat with
 | true=>rfl
 | false =>exfalso;unfold Zat at h1;rw[if_pos (by simp[hl,hf,ht])] at h1;have:=Zcq (clV n ms v) m.2.2.toNat m.2.2.toNat;rw[h1,ht] at this;simp at this
theorem Zgs (n:Nat) (ms:List (Int × Int × Int)) (v:Nat):subV v (clV n ms v):=Zkm ms v n
theorem ZmN {n:Nat} {ms:List (Int × Int × Int)} {u v:Nat} (hu:ZbP ms u) (h:subV v u):subV (clV n ms v) u:=ZmR hu h n
theorem Zfq {n:Nat} {ms:List (Int × Int × Int)} {u:Nat} (hu:ZbP ms u):clV n ms u=u:=Zlg (ZmN hu (ZdT u)) (Zgs n ms u)
theorem ZjT:∀ (l:List Int) (v t:Nat),(l.foldl (fun v s=>adj v s.toNat) v).testBit t=(v.testBit t||l.any fun s=>decide (s.toNat=t))
 | [],v,t=>by simp
 | s::l,v,t=>by rw[List.foldl_cons,ZjT l,Zcq,List.any_cons,Bool.or_assoc]
theorem Zhn (l:List Int) (t:Nat):(setV l).testBit t=l.any fun s=>decide (s.toNat=t):=by unfold setV;rw[ZjT];simp
theorem ZjS {l:List Int} {x:Int} (hx:x∈l):(setV l).testBit x.toNat=true:=by rw[Zhn,List.any_eq_true];exact⟨x,hx,by simp⟩
inductive Pth (ms:List (Int × Int × Int)):Int→List Nat→Int→Prop
 | here (s:Int):Pth ms s [] s
 | eps {s t u:Int} {w:List Nat}:(s,-1,t)∈ms→Pth ms t w u→Pth ms s w u
 | step {s t u:Int} {c:Nat} {w:List Nat}:(s,(c:Int),t)∈ms→Pth ms t w u→Pth ms s (c::w) u
theorem Pth.append {ms:List (Int × Int × Int)} {s t u:Int} {x y:List Nat} (h:Pth ms s x t) (h':Pth ms t y u):Pth ms s (x++y) u:=by
 induction h with
 | here s=>exact h'
 | eps hm _ ih=>exact .eps hm (ih h')
 | step hm _ ih=>exact .step hm (ih h')
theorem Pth.mono {ms ns:List (Int × Int × Int)} (hs:∀ m∈ms,m∈ns) {s t:Int} {x:List Nat} (h:Pth ms s x t):Pth ns s x t:=by
 induction h with
 | here s=>exact .here s
 | eps hm _ ih=>exact .eps (hs _ hm) ih
 | step hm _ ih=>exact .step (hs _ hm) ih
theorem Pth.map {ms ns:List (Int × Int × Int)} (f:Int→Int) (hs:∀ m∈ms,(f m.1,m.2.1,f m.2.2)∈ns∨(m.2.1 = -1∧f m.1=f m.2.2)) {s t:Int} {x:List Nat} (h:Pth ms s x t):Pth ns (f s) x (f t):=by
 induction h with
 | here s=>exact .here _
 | eps hm _ ih =>
  rcases hs _ hm with h|⟨_,h⟩
  ·exact .eps h ih
  exact h ▸ ih
 | step hm _ ih =>
  rcases hs _ hm with h|⟨h,_⟩
  ·exact .step h ih
  simp only at h;omega
theorem Pth.in {ms:List (Int × Int × Int)} {n:Nat} (hm:mvIn n ms) {s t:Int} {x:List Nat} (h:Pth ms s x t) (hs:0≤s∧s<(n:Int)):0≤t∧t<(n:Int):=by
 induction h with
 | here s=>exact hs
 | eps h _ ih=>exact ih (hm _ h).2
 | step h _ ih=>exact ih (hm _ h).2
def runS (n:NfaD) (cs:List Nat):Nat:=cs.foldl (fun v (c:Nat)=>stV 40 n.moves v (c:Int)) (clV 40 n.moves (setV n.firsts))
def accS (n:NfaD) (cs:List Nat):Bool:=n.ends.any fun s=>(runS n cs).testBit s.toNat
theorem Zl4 (P:Nat→Prop):∀ n:Nat,∃ u:Nat,∀ t,u.testBit t=true↔t<n∧P t
 | 0=>⟨0,fun t=>by simp⟩
 | n+1=>by
  obtain⟨u,hu⟩:=Zl4 P n;by_cases hp:P n
  ·refine⟨adj u n,fun t => ?_⟩;rw[Zcq,Bool.or_eq_true,hu,decide_eq_true_eq];constructor
   ·rintro(⟨h1,h2⟩|rfl)
    ·exact⟨by omega,h2⟩
    exact⟨by omega,hp⟩
   rintro⟨h1,h2⟩;by_cases h:n=t
   ·exact .inr h
   exact .inl ⟨by omega,h2⟩
  refine⟨u,fun t => ?_⟩;rw[hu];constructor
  ·rintro⟨h1,h2⟩;exact⟨by omega,h2⟩
  rintro⟨h1,h2⟩;by_cases h:t=n
  ·subst h;exact absurd h2 hp
  exact⟨by omega,h2⟩
theorem Pth.closed {ms:List (Int × Int × Int)} {u:Nat} (hu:ZbP ms u) {s t:Int} {x:List Nat} (h:Pth ms s x t) (hx:x=[]) (hs:u.testBit s.toNat=true):u.testBit t.toNat=true:=by
 induction h with
 | here s=>exact hs
 | eps hm _ ih=>exact ih hx (hu _ hm rfl hs)
 | step hm _ ih=>cases hx
theorem ZmM {ms:List (Int × Int × Int)} (hm:mvIn 40 ms) {v t:Nat} (hv:v<2 ^ 40):(clV 40 ms v).testBit t=true↔∃ s:Nat,s<40∧v.testBit s=true∧Pth ms s [] t:=by
 constructor
 ·intro h;obtain⟨u,hu⟩:=Zl4 (fun t=>∃ s:Nat,s<40∧v.testBit s=true∧Pth ms s [] t) 40
  have hc:ZbP ms u:=by
   intro m hmm he hf;obtain⟨h1,s,hs,hvs,hp⟩:=(hu _).1 hf;have h2:=hm m hmm;refine(hu _).2 ⟨by omega,s,hs,hvs,?_⟩;have e1:((m.1.toNat:Nat):Int)=m.1:=by omega
   have e2:((m.2.2.toNat:Nat):Int)=m.2.2:=by omega
   rw[e1] at hp;rw[e2];refine hp.append (y:=[]) (.eps ?_ (.here _));rw[← he];exact hmm
  have hsub:subV v u:=by
   intro s hs
   have:s<40:=by
    by_cases h:s<40
    ·exact h
    rw[Nat.testBit_lt_two_pow (Nat.lt_of_lt_of_le hv (Nat.pow_le_pow_right (by omega) (by omega)))] at hs;cases hs
   exact(hu s).2 ⟨this,s,this,hs,.here _⟩
  exact((hu t).1 (ZmN hc hsub t h)).2
 rintro⟨s,hs,hvs,hp⟩;have:=hp.closed (Zch hm v) rfl (by rw[Int.toNat_natCast];exact Zgs 40 ms v s hvs)
 rwa [Int.toNat_natCast] at this
theorem ZbN {c:Int} {v:Nat}:∀ (l:List (Int × Int × Int)) (u t:Nat),(l.foldl (ZaT v c) u).testBit t=true↔u.testBit t=true∨∃ m∈l,m.2.1=c∧v.testBit m.1.toNat=true∧m.2.2.toNat=t
 | [],u,t=>by simp
 | m::l,u,t=>by
  rw[List.foldl_cons,ZbN l,ZaT]
  split
  ·rename_i h;rw[Bool.and_eq_true,decide_eq_true_eq] at h;rw[Zcq,Bool.or_eq_true,decide_eq_true_eq];constructor
   ·rintro((h1|h1)|⟨x,hx,h1⟩)
    ·exact .inl h1
    ·exact .inr ⟨m,by simp,h.1,h.2,h1⟩
    exact .inr ⟨x,by simp[hx],h1⟩
   rintro(h1|⟨x,hx,h1⟩)
   ·exact .inl (.inl h1)
   rcases List.mem_cons.1 hx with rfl|hx
   ·exact .inl (.inr h1.2.2)
   exact .inr ⟨x,hx,h1⟩
  rename_i h;rw[Bool.and_eq_true,decide_eq_true_eq] at h;constructor
  ·rintro(h1|⟨x,hx,h1⟩)
   ·exact .inl h1
   exact .inr ⟨x,by simp[hx],h1⟩
  rintro(h1|⟨x,hx,h1⟩)
  ·exact .inl h1
  rcases List.mem_cons.1 hx with rfl|hx
  ·exact absurd ⟨h1.1,h1.2.1⟩ h
  exact .inr ⟨x,hx,h1⟩
theorem Zf2 {v s n:Nat} (hv:v<2 ^ n) (hs:v.testBit s=true):s<n:=by
 by_cases h:s<n
 ·exact h
 rw[Nat.testBit_lt_two_pow (Nat.lt_of_lt_of_le hv (Nat.pow_le_pow_right (by omega) (by omega)))] at hs;cases hs
theorem Zln {ms:List (Int × Int × Int)} (hm:mvIn 40 ms) {v t:Nat} (c:Nat):(stV 40 ms v (c:Int)).testBit t=true↔∃ x,x∈ms∧x.2.1=(c:Int)∧v.testBit x.1.toNat=true∧Pth ms x.2.2 [] t:=by
 have hlt:ms.foldl (ZaT v c) 0<2 ^ 40:=ZbG _ (fun u=>u<2 ^ 40) (fun _ _ hx hu=>Zci hm hx hu) (by decide);unfold stV;rw[ZmM hm hlt];constructor
 ·rintro⟨s,hs,hb,hp⟩;rw[ZbN] at hb;rcases hb with hb|⟨m,hmm,h1,h2,h3⟩
  ·simp at hb
  refine⟨m,hmm,h1,h2,?_⟩;have e:m.2.2=(s:Int):=by have:=(hm m hmm).2;omega
  rw[e];exact hp
 rintro⟨x,hx,h1,h2,hp⟩;have h4:=(hm x hx).2;refine⟨x.2.2.toNat,by omega,?_,?_⟩
 ·rw[ZbN];exact .inr ⟨x,hx,h1,h2,rfl⟩
 have e:((x.2.2.toNat:Nat):Int)=x.2.2:=by omega
 rw[e];exact hp
theorem Pth.split {ms:List (Int × Int × Int)} {s u:Int} {x:List Nat} (h:Pth ms s x u):∀ {c:Nat} {w:List Nat},x=c::w→∃ m,m∈ms∧m.2.1=(c:Int)∧Pth ms s [] m.1∧Pth ms m.2.2 w u:=by
 induction h with
 | here s=>intro c w h;cases h
 | eps hm _ ih =>intro c w h;obtain⟨m,h1,h2,h3,h4⟩:=ih h;exact⟨m,h1,h2,.eps hm h3,h4⟩
 | step hm hp ih =>
  intro c w h
  injection h with h1 h2
  subst h1;subst h2;exact⟨_,hm,rfl,.here _,hp⟩
theorem Zkt {ms:List (Int × Int × Int)} (hm:mvIn 40 ms) (v:Nat) (c:Int):ZbP ms (stV 40 ms v c):=Zch hm _
theorem ZiH {ms:List (Int × Int × Int)} (hm:mvIn 40 ms):∀ (cs:List Nat) (V:Nat),V<2 ^ 40→ZbP ms V→∀ t,(cs.foldl (fun v (c:Nat)=>stV 40 ms v (c:Int)) V).testBit t=true↔∃ s:Nat,s<40∧V.testBit s=true∧Pth ms s cs t
 | [],V,hV,hc,t=>by
  rw[List.foldl_nil];constructor
  ·intro h;exact⟨t,Zf2 hV h,h,.here _⟩
  rintro⟨s,hs,h1,h2⟩;have:=h2.closed hc rfl (by rwa [Int.toNat_natCast])
  rwa [Int.toNat_natCast] at this
 | c::cs,V,hV,hc,t=>by
  rw[List.foldl_cons,ZiH hm cs _ (Zig hm V c) (Zkt hm V c)];constructor
  ·rintro⟨s,hs,h1,h2⟩;rw[Zln hm] at h1;obtain⟨x,hx,h3,h4,h5⟩:=h1;have h6:=(hm x hx).1;refine⟨x.1.toNat,by omega,h4,?_⟩;have e:((x.1.toNat:Nat):Int)=x.1:=by omega
   rw[e];refine .step (t:=x.2.2) ?_ (h5.append h2);rw[← h3];exact hx
  rintro⟨s,hs,h1,h2⟩;obtain⟨m,h3,h4,h5,h6⟩:=h2.split rfl;have h7:=(hm m h3).2;refine⟨m.2.2.toNat,by omega,?_,?_⟩
  ·rw[Zln hm];have:=h5.closed hc rfl (by rwa [Int.toNat_natCast]);refine⟨m,h3,h4,this,?_⟩;have e:((m.2.2.toNat:Nat):Int)=m.2.2:=by omega
   rw[e];exact .here _
  have e:((m.2.2.toNat:Nat):Int)=m.2.2:=by omega
  rw[e];exact h6
theorem ZbK {n:NfaD} (hn:Zal n=true) (cs:List Nat):accS n cs=true↔∃ f∈n.firsts,∃ e∈n.ends,Pth n.moves f cs e:=by
 obtain⟨m,hm,hm40,hmv,-,hf,-,he,-⟩:=Zai hn;have hm4:=ZeD hmv hm40;have hfi:inN 40 n.firsts:=fun s hs=>by have:=hf s hs;omega
 have hlt:clV 40 n.moves (setV n.firsts)<2 ^ 40:=Zc8 hm4 (Zck hfi) 40;have hrun:=ZiH hm4 cs _ hlt (Zch hm4 (setV n.firsts));unfold accS runS;rw[List.any_eq_true];constructor
 ·rintro⟨e,hee,hb⟩;obtain⟨s,hs,h1,h2⟩:=(hrun _).1 hb;rw[ZmM hm4 (Zck hfi)] at h1;obtain⟨r,hr,h3,h4⟩:=h1;rw[Zhn,List.any_eq_true] at h3;obtain⟨f,hff,h5⟩:=h3;have h5:=of_decide_eq_true h5;have h6:=hf f hff;have h7:=he e hee;refine⟨f,hff,e,hee,?_⟩;have e1:(r:Int)=f:=by omega
  have e2:((e.toNat:Nat):Int)=e:=by omega
  rw[e1] at h4;rw[e2] at h2;exact h4.append h2
 rintro⟨f,hff,e,hee,hp⟩;have h6:=hf f hff;have h7:=he e hee;refine⟨e,hee,(hrun _).2 ⟨f.toNat,by omega,?_,?_⟩⟩
 ·exact Zgs 40 n.moves _ _ (ZjS hff)
 have e1:((f.toNat:Nat):Int)=f:=by omega
 have e2:((e.toNat:Nat):Int)=e:=by omega
 rw[e1,e2];exact hp
theorem Pth.up {ms:List (Int × Int × Int)} (d:Int) {s t:Int} {x:List Nat} (h:Pth ms s x t):Pth (ms.map (shM d)) (s+d) x (t+d) :=
 h.map (·+d) fun m hm => .inl (List.mem_map.2 ⟨m,hm,rfl⟩)
theorem Pth.down {ms:List (Int × Int × Int)} {d:Int} {s t:Int} {x:List Nat} (h:Pth (ms.map (shM d)) s x t):Pth ms (s-d) x (t-d) :=
 h.map (·-d) fun m hm=>by
  obtain⟨y,hy,rfl⟩:=List.mem_map.1 hm;left;have e1:(shM d y).1-d=y.1:=by simp[shM]
  have e2:(shM d y).2.2-d=y.2.2:=by simp[shM]
  simp only[e1,e2];exact hy
theorem Pth.low {ms ns:List (Int × Int × Int)} {d:Int} (h1:∀ m∈ms,m.1<d∧m.2.2<d) (h2:∀ m∈ns,¬ m.1<d) {s t:Int} {x:List Nat} (h:Pth (ms++ns) s x t) (hs:s<d):Pth ms s x t:=by
 induction h with
 | here s=>exact .here s
 | eps hm _ ih =>
  rcases List.mem_append.1 hm with hm|hm
  ·exact .eps hm (ih (h1 _ hm).2)
  exact absurd hs (h2 _ hm)
 | step hm _ ih =>
  rcases List.mem_append.1 hm with hm|hm
  ·exact .step hm (ih (h1 _ hm).2)
  exact absurd hs (h2 _ hm)
theorem Pth.high {ms ns:List (Int × Int × Int)} {d:Int} (h1:∀ m∈ms,m.1<d) (h2:∀ m∈ns,d≤m.2.2) {s t:Int} {x:List Nat} (h:Pth (ms++ns) s x t) (hs:d≤s):Pth ns s x t:=by
 induction h with
 | here s=>exact .here s
 | eps hm _ ih =>
  rcases List.mem_append.1 hm with hm|hm
  ·have:=h1 _ hm;simp only at this;omega
  exact .eps hm (ih (h2 _ hm))
 | step hm _ ih =>
  rcases List.mem_append.1 hm with hm|hm
  ·have:=h1 _ hm;simp only at this;omega
  exact .step hm (ih (h2 _ hm))
theorem ZkX {p q:NfaD} (hp:Zal p=true) (hq:Zal q=true) (he:Zal (ZcH p q)=true) (x:List Nat):accS (ZcH p q) x=(accS p x||accS q x):=by
 obtain⟨a,ha,-,hpm,-,hpf,-,hpe,-⟩:=Zai hp;obtain⟨b,hb,-,hqm,-,hqf,-,hqe,-⟩:=Zai hq;have m1:∀ m∈p.moves,m.1<p.states∧m.2.2<p.states:=fun m hm=>by have:=hpm m hm;omega
 have m2:∀ m∈q.moves.map (shM p.states),p.states≤m.1∧p.states≤m.2.2:=fun m hm=>by obtain⟨y,hy,rfl⟩:=List.mem_map.1 hm;have:=hqm y hy;simp only[shM];omega
 rw[Bool.eq_iff_iff,Bool.or_eq_true,ZbK he,ZbK hp,ZbK hq];constructor
 ·rintro⟨f,hf,e,hee,hw⟩;have hw:Pth (p.moves++q.moves.map (shM p.states)) f x e:=hw;rcases List.mem_append.1 (show f∈p.firsts++q.firsts.map (·+p.states) from hf) with hf|hf
  ·left;have h1:=hpf f hf;have h2:=hw.low m1 (fun m hm=>by have:=m2 m hm;omega) (by omega);have h3:=h2.in hpm h1;rcases List.mem_append.1 (show e∈p.ends++q.ends.map (·+p.states) from hee) with hee|hee
   ·exact⟨f,hf,e,hee,h2⟩
   obtain⟨y,hy,rfl⟩:=List.mem_map.1 hee;have:=hqe y hy;omega
  right;obtain⟨g,hg,rfl⟩:=List.mem_map.1 hf;have h1:=hqf g hg;have h2:=(hw.high (fun m hm=>(m1 m hm).1) (fun m hm=>(m2 m hm).2) (by omega)).down;rw[show g+p.states-p.states=g by omega] at h2;have h3:=h2.in hqm h1;rcases List.mem_append.1 (show e∈p.ends++q.ends.map (·+p.states) from hee) with hee|hee
  ·have:=hpe e hee;omega
  obtain⟨y,hy,rfl⟩:=List.mem_map.1 hee;rw[show y+p.states-p.states=y by omega] at h2;exact⟨g,hg,y,hy,h2⟩
 rintro(⟨f,hf,e,hee,hw⟩|⟨f,hf,e,hee,hw⟩)
 ·exact⟨f,List.mem_append.2 (.inl hf),e,List.mem_append.2 (.inl hee),hw.mono fun m hm=>List.mem_append.2 (.inl hm)⟩
 exact⟨f+p.states,List.mem_append.2 (.inr (List.mem_map.2 ⟨f,hf,rfl⟩)),e+p.states,List.mem_append.2 (.inr (List.mem_map.2 ⟨e,hee,rfl⟩)),(hw.up p.states).mono fun m hm=>List.mem_append.2 (.inr hm)⟩
theorem Pth.cross {p q:NfaD} {a b:Nat} (ha:p.states=(a:Int)) (hpm:mvIn a p.moves) (hqm:mvIn b q.moves) (hpe:inN a p.ends) (hqf:inN b q.firsts) {s t:Int} {x:List Nat} (h:Pth (ZbL p q).moves s x t) (ht:p.states≤t):(s<p.states→∃ k,k≤x.length∧∃ e∈p.ends,∃ f∈q.firsts,Pth p.moves s (x.take k) e∧Pth q.moves f (x.drop k) (t-p.states))∧(p.states≤s→Pth q.moves (s-p.states) x (t-p.states)):=by
 induction h with
 | here s=>exact⟨fun h=>by omega,fun _ => .here _⟩
 | @eps s' t' u w hm _ ih =>
  obtain⟨i1,i2⟩:=ih ht;rcases List.mem_append.1 hm with hm|hm
  ·rcases List.mem_append.1 hm with hm|hm
   ·have h1:=hpm _ hm;simp only at h1;refine⟨fun h => ?_,fun h=>by omega⟩;obtain⟨k,hk,e,he,f,hf,h2,h3⟩:=i1 (by omega);exact⟨k,hk,e,he,f,hf,.eps hm h2,h3⟩
   obtain⟨y,hy,e⟩:=List.mem_map.1 (show _∈q.moves.map (shM p.states) from hm);have h1:=hqm _ hy
   injection e with e1 e2
   injection e2 with e2 e3
   refine⟨fun h=>by omega,fun h => .eps (t:=t'-p.states) ?_ (i2 (by omega))⟩;rw[← e1,← e3,show y.1+p.states-p.states=y.1 by omega,show y.2.2+p.states-p.states=y.2.2 by omega,← e2];exact hy
  obtain⟨y,hy,e⟩:=List.mem_flatMap.1 hm;obtain⟨z,hz,e⟩:=List.mem_map.1 e;obtain⟨z,hz',rfl⟩:=List.mem_map.1 (show z∈q.firsts.map (·+p.states) from hz)
  injection e with e1 e2
  injection e2 with e2 e3
  have h1:=hpe y hy;have h2:=hqf z hz';refine⟨fun h=>⟨0,Nat.zero_le _,y,hy,z,hz',?_,?_⟩,fun h=>by omega⟩
  ·rw[e1];exact .here _
  have:=i2 (by omega);rw[← e3,show z+p.states-p.states=z by omega] at this;exact this
 | @step s' t' u c w hm _ ih =>
  obtain⟨i1,i2⟩:=ih ht;rcases List.mem_append.1 hm with hm|hm
  ·rcases List.mem_append.1 hm with hm|hm
   ·have h1:=hpm _ hm;simp only at h1;refine⟨fun h => ?_,fun h=>by omega⟩;obtain⟨k,hk,e,he,f,hf,h2,h3⟩:=i1 (by omega);exact⟨k+1,by simp only[List.length_cons];omega,e,he,f,hf,.step hm h2,h3⟩
   obtain⟨y,hy,e⟩:=List.mem_map.1 (show _∈q.moves.map (shM p.states) from hm);have h1:=hqm _ hy
   injection e with e1 e2
   injection e2 with e2 e3
   refine⟨fun h=>by omega,fun h => .step (t:=t'-p.states) ?_ (i2 (by omega))⟩;rw[← e1,← e3,show y.1+p.states-p.states=y.1 by omega,show y.2.2+p.states-p.states=y.2.2 by omega,← e2];exact hy
  obtain⟨y,hy,e⟩:=List.mem_flatMap.1 hm;obtain⟨z,hz,e⟩:=List.mem_map.1 e
  injection e with e1 e2
  injection e2 with e2 e3
  omega
def epsN:NfaD:=⟨1,[],[0],[0]⟩
theorem Zok:Zal epsN=true:=by decide
theorem ZoR (x:List Nat):accS epsN x=true↔x=[]:=by
 rw[ZbK Zok];constructor
 ·rintro⟨f,hf,e,he,hw⟩;cases hw with
  | here=>rfl
  | eps h=>cases h
  | step h=>cases h
 rintro rfl;exact⟨0,by simp[epsN],0,by simp[epsN],.here _⟩
def txB (l:List Nat):ByteArray:=⟨(l.map UInt8.ofNat).toArray⟩
def isT (l:List Nat):Prop:=∀ b∈l,b<256
theorem ZcX (l:List Nat):(txB l).size=l.length:=by simp[txB,ByteArray.size]
theorem Zeb {l:List Nat} {i:Nat} (hi:i<l.length):l.getD i 0∈l:=by rw[List.getD_eq_getElem?_getD,List.getElem?_eq_getElem hi];exact List.getElem_mem hi
theorem Zo3 {l:List Nat} {i:Nat} (hi:i<l.length) (ht:isT l) (h:i<(txB l).size):(((txB l)[i]'h).toNat:Int)=(l.getD i 0:Nat):=by
 have hc:l.getD i 0<256:=ht _ (Zeb hi);have e:(txB l)[i]'h=UInt8.ofNat (l.getD i 0):=by show(txB l).data[i]=_;simp[txB,hi]
 rw[e,UInt8.toNat_ofNat'];omega
theorem Zia {l:List Nat} {i:Nat} (hi:i<l.length) (ht:isT l) (w:World):(Instr.index 9 (.string (txB l)) (.int .i64 (i:Int))).run Tryz.prog w = .ok (.int .u8 ((l.getD i 0:Nat):Int)) w:=by have hs:(txB l).size=l.length:=ZcX l;rw[run_index_string w 9 (txB l) .i64 i Tryz.underlying9,dif_pos (by omega)];congr 2;exact Zo3 hi ht _
def okT (l:List Nat) (k:Nat):Bool:=(List.range k).all fun i=>inB ((l.getD i 0:Nat):Int) 97 99
def wdOk (l:List Nat):Bool:=okT l l.length&&decide (l.length≤8)
theorem Znr {l:List Nat} {k:Nat} (h:okT l k=true) (h1:inB ((l.getD k 0:Nat):Int) 97 99=true):okT l (k+1)=true:=Zcb h h1
theorem Zoy {l:List Nat} {k:Nat} (hk:k<l.length) (h1:inB ((l.getD k 0:Nat):Int) 97 99=false):wdOk l=false:=by
 unfold wdOk okT;have:((List.range l.length).all fun i=>inB ((l.getD i 0:Nat):Int) 97 99)=false:=by rw[List.all_eq_false];exact⟨k,List.mem_range.2 hk,by rw[h1];simp⟩
 rw[this];rfl
theorem ZgN (l:List Nat) (w:World) (ht:isT l) (hl:l.length≤2000000) (r:Bool) (hr:wdOk l=r) :
  Calls Tryz.prog 99 #[.string (txB l),.int .i64 8] w fun e w'=>e = .returned (.bool r)∧w=w':=by
 have hs:(txB l).size=l.length:=ZcX l;replace hr:=qh hr;have Hht:=qh ht;clear ht
 go_enter Tryz.func99, Tryz.ntmps99
 go_wp2
 go_loopw [8] (fun i wr=>∃ k:Nat,i = .int .i64 k∧k≤l.length∧okT l k=true∧w=wr) (fun i _=>l.length-(intOf i).toNat)
 case atStart=>exact⟨0,rfl,Nat.zero_le _,rfl,rfl⟩
 case round =>
  obtain⟨k,rfl,hk,hok,rfl⟩:=hrel;by_cases hlt:k<l.length
  ·have hkl:(k:Int)<l.length:=by omega
   have hrun:=Zia hlt Hht.out;have hb:=Hht.out _ (Zeb hlt);obtain⟨c,hcc⟩:=eI (l.getD k 0);rw[← hcc] at hrun hb;have hw9:IntKind.i64.wrap (c:Int)=(c:Int):=IntWalk.i64_in _ (by omega);have Hhok:=qh hok;clear hok;replace hcc:=qh hcc;cases hin:inB (c:Int) 97 99
   ·have Hhin:=qh hin;clear hin;go_wp2_with (go_at_call 48;refine(Zav _ _ _ _ _ Hhin.out).mono ?_;rintro e w' ⟨rfl,rfl⟩);go_ret;exact⟨by rw[← hr.out,Zoy hlt (by rw[← hcc.out];exact Hhin.out)];rfl,rfl⟩
   have Hhin:=qh hin;clear hin;go_wp2_with (go_at_call 48;refine(Zav _ _ _ _ _ Hhin.out).mono ?_;rintro e w' ⟨rfl,rfl⟩);go_roundw
   case rel=>exact⟨k+1,by go_num,by omega,Znr Hhok.out (by rw[← hcc.out];exact Hhin.out),trivial⟩
   case measure=>simp[intOf];omega
  obtain rfl:k=l.length:=by omega
  have hrr:decide ((l.length:Int)≤8)=r:=by rw[← hr.out];unfold wdOk;rw[hok,Bool.true_and];exact decide_eq_decide.2 (by omega)
  have Hhok:=qh hok;clear hok;have Hhrr:=qh hrr;clear hrr;go_wp2;go_ret;exact⟨by rw[← Hhrr.out];rfl,rfl⟩
theorem Zbe (l:List Nat) (w:World) (ht:isT l) (hl:l.length≤2000000) (r:Bool) (hr:wdOk l=r) :
  Calls Tryz.prog 52 #[.string (txB l)] w fun e w'=>e = .returned (.bool r)∧w=w':=by
 replace hr:=qh hr;have Hht:=qh ht;clear ht
 go_enter Tryz.func52, Tryz.ntmps52
 go_wp2_with (go_at_call 99;refine(ZgN l _ Hht.out hl _ hr.out).mono ?_;rintro e w' ⟨rfl,rfl⟩);go_ret;exact⟨rfl,rfl⟩
theorem Zc5 (l:List Nat) (i:Nat) (hi:i<l.length) (ht:isT l) (hlo:97≤l.getD i 0) (w:World):Calls Tryz.prog 63 #[.string (txB l),.int .i64 i] w fun e w'=>e = .returned (.int .i64 ((l.getD i 0-97:Nat):Int))∧w=w':=by
 have hb:=ht _ (Zeb hi);have hrun:=Zia hi ht;obtain⟨c,hcc⟩:=eI (l.getD i 0-97);have hc2:((l.getD i 0:Nat):Int)=97+(c:Int):=by omega
 rw[hc2] at hrun;rw[← hcc]
 have hw8:IntKind.u8.wrap (97+(c:Int)-97)=(c:Int):=by
  have:97+(c:Int)-97=(c:Int):=by omega
  rw[this];exact IntWalk.u8_in _ (by omega)
 have hw9:IntKind.i64.wrap (c:Int)=(c:Int):=IntWalk.i64_in _ (by omega);replace hcc:=qh hcc;clear hc2 hlo hb
 go_enter Tryz.func63, Tryz.ntmps63
 go_wp2;go_ret;exact⟨rfl,rfl⟩
def shF:Nat→Nat
 | 0=>0
 | k+1=>shF k+3 ^ k
theorem ZlL {k:Nat} (h:k≤9):3 ^ k≤19683:=Nat.pow_le_pow_right (by omega) h
theorem Zoc:∀ k,shF k≤3 ^ k
 | 0=>by decide
 | k+1=>by show shF k+3 ^ k≤3 ^ (k+1);have:=Zoc k;rw[Nat.pow_succ];omega
theorem Zi0 (n:Nat) (w:World) (hn:n≤9):Calls Tryz.prog 131 #[.int .i64 n] w fun e w'=>e = .returned (.int .i64 ((3 ^ n:Nat):Int))∧w=w':=by
 go_enter Tryz.func131, Tryz.ntmps131
 go_wp2
 go_loopw [3,5] (fun p i wr=>∃ k q:Nat,i = .int .i64 k∧p = .int .i64 q∧k≤n∧3 ^ k=q∧w=wr) (fun _ i _=>n-(intOf i).toNat)
 case atStart=>exact⟨0,1,rfl,rfl,Nat.zero_le _,rfl,rfl⟩
 case round =>
  obtain⟨k,q,rfl,rfl,hk,hq,rfl⟩:=hrel;have hq2:=ZlL (k:=k) (by omega);rw[hq] at hq2;by_cases hlt:k<n
  ·have hkl:(k:Int)<n:=by omega
   replace hq:=qh hq;go_wp2;go_roundw
   case rel=>exact⟨k+1,q*3,by go_num,by go_num,by omega,by rw[Nat.pow_succ,hq.out],trivial⟩
   case measure=>simp[intOf];omega
  obtain rfl:k=n:=by omega
  replace hq:=qh hq;go_wp2;go_ret;exact⟨by rw[hq.out];rfl,rfl⟩
theorem Zi9 (n:Nat) (w:World) (hn:n≤9):Calls Tryz.prog 88 #[.int .i64 n] w fun e w'=>e = .returned (.int .i64 ((shF n:Nat):Int))∧w=w':=by
 go_enter Tryz.func88, Tryz.ntmps88
 go_wp2
 go_loopw [3,6] (fun p i wr=>∃ k q:Nat,i = .int .i64 k∧p = .int .i64 q∧k≤n∧shF k=q∧w=wr) (fun _ i _=>n-(intOf i).toNat)
 case atStart=>exact⟨0,0,rfl,rfl,Nat.zero_le _,rfl,rfl⟩
 case round =>
  obtain⟨k,q,rfl,rfl,hk,hq,rfl⟩:=hrel;have hq2:=ZlL (k:=k) (by omega);have hq3:=Zoc k;rw[hq] at hq3;obtain⟨t,hT⟩:=eJ (3 ^ k);rw[hT] at hq2 hq3;by_cases hlt:k<n
  ·have hkl:(k:Int)<n:=by omega
   replace hq:=qh hq;replace hT:=qh hT;go_wp2_with (go_at_call 131;refine(Zi0 k _ (by omega)).mono ?_;rintro e w' ⟨rfl,rfl⟩;rw[hT.out]);go_roundw
   case rel=>exact⟨k+1,q+t,by go_num,by go_num,by omega,by rw[← hq.out,← hT.out];rfl,trivial⟩
   case measure=>simp[intOf];omega
  obtain rfl:k=n:=by omega
  replace hq:=qh hq;replace hT:=qh hT;go_wp2;go_ret;exact⟨by rw[hq.out];rfl,rfl⟩
theorem ZkA (w:World):Calls Tryz.prog 43 #[.string { data:=#[97,98] }] w fun e w'=>e = .returned (.int .i64 5)∧w=w':=by
 have hab:({ data:=#[97,98] }:ByteArray)=txB [97,98]:=rfl;have hab2:isT [97,98]:=fun b hb=>by simp at hb;omega
 have hsz:(txB [97,98]).size=2:=rfl;have l0:=fun w=>Zc5 [97,98] 0 (by decide) hab2 (by decide) w
 have l1:=fun w=>Zc5 [97,98] 1 (by decide) hab2 (by decide) w
 have sh:∀ w,Calls Tryz.prog 88 #[.int .i64 2] w fun e w'=>e = .returned (.int .i64 4)∧w=w':=fun w=>Zi9 2 w (by omega)
 have hv:=fun w=>Zbe [97,98] w hab2 (by decide) true rfl
 rw[hab];have L0:=qh l0;have L1:=qh l1;have Sh:=qh sh;have Hv:=qh hv;clear l0 l1 sh hab hab2 hv
 go_enter Tryz.func43, Tryz.ntmps43
 go_wp2_with (go_at_call 52;refine(Hv.out _).mono ?_;rintro e w' ⟨rfl,rfl⟩)
 go_loopw [3,10] (fun n i wr=>∃ k q:Nat,i = .int .i64 k∧n = .int .i64 q∧k≤2∧q≤1∧(k<2→q=0)∧(k=2→q=1)∧w=wr) (fun _ i _=>2-(intOf i).toNat)
 case atStart=>exact⟨0,0,rfl,rfl,by omega,by omega,fun _=>rfl,fun h=>by omega,rfl⟩
 case round =>
  obtain⟨k,q,rfl,rfl,hk,hq1,hq2,hq3,rfl⟩:=hrel;obtain rfl|rfl|rfl:k=0∨k=1∨k=2:=by omega
  ·obtain rfl:=hq2 (by omega);clear hq1 hq2 hq3 hk;go_wp2_with (go_at_call 63;refine(L0.out _).mono ?_;rintro e w' ⟨rfl,rfl⟩);go_roundw
   case rel=>exact⟨1,0,rfl,rfl,by omega,by omega,fun _=>rfl,fun h=>by omega,trivial⟩
   case measure=>simp[intOf]
  ·obtain rfl:=hq2 (by omega);clear hq1 hq2 hq3 hk;go_wp2_with (go_at_call 63;refine(L1.out _).mono ?_;rintro e w' ⟨rfl,rfl⟩);go_roundw
   case rel=>exact⟨2,1,rfl,rfl,by omega,by omega,fun h=>by omega,fun _=>rfl,trivial⟩
   case measure=>simp[intOf]
  obtain rfl:=hq3 rfl;clear hq1 hq2 hq3 hk;go_wp2_with (go_at_call 88;refine(Sh.out _).mono ?_;rintro e w' ⟨rfl,rfl⟩);go_ret;exact⟨rfl,rfl⟩
theorem Zm4 (w:World):Calls Tryz.prog 10 #[] w fun e w'=>e = .returned (.bool true)∧w=w':=by
 go_enter Tryz.func10, Tryz.ntmps10
 go_wp2_with (go_at_call 43;refine(ZkA _).mono ?_;rintro e w' ⟨rfl,rfl⟩);go_ret;exact⟨rfl,rfl⟩
end Go.Proofs.YtfikabecgaappaaGreat
