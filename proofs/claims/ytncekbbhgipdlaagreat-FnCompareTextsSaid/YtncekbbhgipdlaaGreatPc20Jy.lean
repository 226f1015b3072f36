/-
  The walks over the program's accepts and ExprAccepts.
  Conditions: the list of parts reads as such; the text is one of bytes.
-/
import Derived.Test.YtncekbbhgipdlaaGreatPc17Ctt
import Derived.Test.YtncekbbhgipdlaaGreatPc19Spo
set_option maxHeartbeats 8000000
set_option maxRecDepth 100000
namespace Go.Proofs.YtncekbbhgipdlaaGreat
open Go.RowKit
theorem Zh0 {P:Program} (t e:TypeId) (n:Nat) (cs:Array Value) (i:Nat) (d:TypeDesc) (sz:Nat) (h:P.underlying t=some (.array n e)) (hi:i<n) (hu:P.underlying e=some d) (hd:d.isRow=true) (hs:(P.info? e).map (·.size)=some sz) (w:World) :
  (Instr.index t (.agg cs) (.int .i64 (i:Int))).run P w = .ok (.agg (cs.extract (i*sz) (i*sz+sz))) w:=by
 cases hq:P.info? e with
 | none=>simp[hq] at hs
 | some C =>
  have hz:C.size=sz:=by simpa [hq] using hs
  have B:(isAgg e).run P w = .ok true w:=by unfold isAgg;rw[Sem.run_bind,run_underlying hu w];cases d<;>simp_all
  have h0:(0:Int)≤(i:Int)∧(i:Int)<(n:Int):=by omega
  simp[Instr.index,run_underlying h,asIntOf,h0,go_sem,part,B,sizeOf,typeInfo,hq,hz];exact fun hle=>absurd hle (by omega)
theorem Zi8 {P:Program} (t e:TypeId) (n:Nat) (cs:Array Value) (i:Nat) (d:TypeDesc) (v:Value) (h:P.underlying t=some (.array n e)) (hi:i<n) (hu:P.underlying e=some d) (hd:d.isRow=false) (hs:(P.info? e).map (·.size)=some 1) (C:cs[i]? = some v) (w:World) :
  (Instr.index t (.agg cs) (.int .i64 (i:Int))).run P w = .ok v w:=by
 cases hq:P.info? e with
 | none=>simp[hq] at hs
 | some D =>
  have hz:D.size=1:=by simpa [hq] using hs
  have B:(isAgg e).run P w = .ok false w:=by unfold isAgg;rw[Sem.run_bind,run_underlying hu w];cases d<;>simp_all
  have h0:(0:Int)≤(i:Int)∧(i:Int)<(n:Int):=by omega
  simp[Instr.index,run_underlying h,asIntOf,h0,go_sem,part,B,sizeOf,typeInfo,hq,hz,C];exact fun hle=>absurd hle (by omega)
def accX (l:List Nat) (t:Ex):Bool:=tabE l.length (lsT l) t 0 l.length
def AccO (es:List (Int × Int)) (l:List Nat) (r:Bool):Prop:=(exOk es=true∧wdOk l=true∧∃ t:Ex,t.post=es∧accX l t=r)∨((exOk es=false∨wdOk l=false)∧r=false)
theorem Zsf (es:List (Int × Int)) (l:List Nat):∃ r,AccO es l r:=by
 cases h:exOk es with
 | false=>exact⟨false,.inr ⟨.inl h,rfl⟩⟩
 | true =>
  cases g:wdOk l with
  | false=>exact⟨false,.inr ⟨.inr g,rfl⟩⟩
  | true =>obtain⟨t,ht⟩:=parse h;exact⟨_,.inl ⟨h,g,t,ht,rfl⟩⟩
theorem Zih (t:Ex) (es:List (Int × Int)) (l:List Nat) (v:Value) (w:World) (r:Bool) (hr:accX l t=r) (F:t.post=es) (hok:exOk es=true) (h:Pairs 0 w v es) (ht:isT l) (C:wdOk l=true) :
  Calls Tryz.prog 75 #[v,.string (txB l)] w fun e w'=>e = .returned (.bool r)∧Below w.heap.size w w':=by
 obtain⟨n,hln⟩:=eJ (l.length);obtain⟨H,-⟩:=Zeo C;have N:=ZaE l;rw[hln] at N H;have Q:(Tryz.prog.info? 130).map (·.size)=some 9:=by kernel_rfl
 have P:(Tryz.prog.info? 4).map (·.size)=some 1:=by kernel_rfl
 have E:∀ (X:Array Value) (u:World),(Instr.index 132 (.agg X) (.int .i64 0)).run Tryz.prog u = .ok (.agg (X.extract (0*9) (0*9+9))) u:=fun X u=>Zh0 _ 130 9 X 0 _ 9 (by kernel_rfl) (by omega) Tryz.underlying130 rfl Q u
 obtain⟨Y,J⟩:=eI ((spC (Zaq n (tabE n (lsT l) t))).extract (0*9) (0*9+9));have G:Y[n]? = some (.bool r):=by rw[J,Array.getElem?_extract,if_pos (by rw[Zal];omega)];have:=ZnX (Zaq n (tabE n (lsT l) t)) (i:=0) (j:=n) (by omega) (by omega);rw[show 0*9+n=0*9+n from rfl] at this;rw[this,ZbR _ (Nat.zero_le _) (Nat.le_refl _),← hr,← hln];rfl
 have D:∀ u:World,(Instr.index 130 (.agg Y) (.int .i64 (n:Int))).run Tryz.prog u = .ok (.bool r) u:=fun u=>Zi8 _ 4 9 Y n _ (.bool r) (by kernel_rfl) (by omega) Tryz.underlying4 rfl P G u
 have B:=fun u=>E (spC (Zaq n (tabE n (lsT l) t))) u
 rw[← J] at B;have I:=qh B;have O:=qh D;have S:=qh (fun u (hp:Pairs 0 u v es)=>Zk5 t es l n v u F hok hp ht C hln);have R:=qh h;clear E B D J G Q P F hok h ht C hr
 go_enter Tryz.func75, Tryz.ntmps75
 go_wp2_with fail;refine(S.o _ R.o).mono ?_;rintro e w1 ⟨rfl,hb1⟩;have L:=I.o w1;have M:=O.o w1;go_wp2;go_ret;exact⟨rfl,hb1⟩
theorem ZeW (es:List (Int × Int)) (l:List Nat) (v:Value) (w:World) (r:Bool) (hr:AccO es l r) (h:Pairs 0 w v es) (ht:isT l) (hlen:l.length≤2000000) :
  Calls Tryz.prog 32 #[v,.string (txB l)] w fun e w'=>e = .returned (.bool r)∧Below w.heap.size w w':=by
 obtain⟨x,hx⟩:=eJ (exOk es);obtain⟨y,hy⟩:=eJ (wdOk l);have C:=qh (fun u (hp:Pairs 0 u v es)=>Zcl es v u hp x hx);have F:=qh (fun u=>Zdt l u ht hlen y hy);have G:=qh h;have I:=qh ht;have Hr:=qh hr;replace hx:=qh hx;have B:=qh hy;clear hy;clear h ht hr;cases x with
 | false =>
  have hrf:r=false:=by
   rcases Hr.o with⟨h1,-,-⟩|⟨-,h2⟩
   ·rw[hx.o] at h1;cases h1
   exact h2
  subst hrf
  go_enter Tryz.func32, Tryz.ntmps32
  go_wp2_with fail;refine(C.o _ G.o).mono ?_;rintro e w1 ⟨rfl,hb1⟩;go_wp2;go_ret;exact⟨rfl,hb1⟩
 | true =>
  cases y with
  | false =>
   have hrf:r=false:=by
    rcases Hr.o with⟨-,h1,-⟩|⟨-,h2⟩
    ·rw[B.o] at h1;cases h1
    exact h2
   subst hrf
   go_enter Tryz.func32, Tryz.ntmps32
   go_wp2_with fail;refine(C.o _ G.o).mono ?_;rintro e w1 ⟨rfl,hb1⟩;go_wp2_with (go_at_call 67;refine(F.o _).mono ?_;rintro e w' ⟨rfl,rfl⟩);go_ret;exact⟨rfl,hb1⟩
  | true =>
   obtain⟨t,E,D⟩:∃ t:Ex,t.post=es∧accX l t=r:=by
    rcases Hr.o with⟨-,-,h1⟩|⟨h1|h1,-⟩
    ·exact h1
    ·rw[hx.o] at h1;cases h1
    rw[B.o] at h1;cases h1
   have H:=qh (fun u (hp:Pairs 0 u v es)=>Zih t es l v u r D E hx.o hp I.o B.o);clear E D
   go_enter Tryz.func32, Tryz.ntmps32
   go_wp2_with fail;refine(C.o _ G.o).mono ?_;rintro e w1 ⟨rfl,hb1⟩;go_wp2_with (first|(go_at_call 67;refine(F.o _).mono ?_;rintro e w' ⟨rfl,rfl⟩)|(go_at_call 75;refine(H.o _ (G.o.below hb1)).mono ?_;rintro e w2 ⟨rfl,hb2⟩));go_ret;exact⟨rfl,hb1.trans (hb2.mono hb1.size)⟩
def AccT (s l:List Nat) (r:Bool):Prop:=(Zbv s=none∧r=false)∨∃ es,Zbv s=some es∧AccO es l r
theorem ZpX (s l:List Nat):∃ r,AccT s l r:=by
 cases h:Zbv s with
 | none=>exact⟨false,.inl ⟨h,rfl⟩⟩
 | some es =>obtain⟨r,hr⟩:=Zsf es l;exact⟨r,.inr ⟨es,h,hr⟩⟩
theorem ZcW (s l:List Nat) (w:World) (r:Bool) (hr:AccT s l r) (hs:isT s) (ht:isT l) (hlen:l.length≤2000000) :
  Calls Tryz.prog 13 #[.string (txB s),.string (txB l)] w fun e w'=>e = .returned (.bool r)∧Below w.heap.size w w':=by
 have HR:=qh (fun u=>ZdT s u hs);have HA:=qh (fun es v u (hr:AccO es l r) (hp:Pairs 0 u v es)=>ZeW es l v u r hr hp ht hlen);have Hr:=qh hr;clear hr hs ht
 go_enter Tryz.func13, Tryz.ntmps13
 go_wp2_with fail;refine(HR.o _).mono ?_;rintro e w1 (⟨hn,rfl,hb⟩|⟨es,a,c,hn,rfl,hS⟩)
 ·have hrf:r=false:=by
   rcases Hr.o with⟨-,h⟩|⟨es,h,-⟩
   ·exact h
   rw[hn] at h;cases h
  subst hrf;clear hn;go_wp2;go_ret;exact⟨rfl,hb⟩
 have hro:AccO es l r:=by
  rcases Hr.o with⟨h,-⟩|⟨es',h,h2⟩
  ·rw[hn] at h;cases h
  rw[hn] at h;obtain rfl:=Option.some.inj h;exact h2
 have HP:=qh (Zaj (hS.row 0 rfl));have HB:=qh hS.bel;have Hro:=qh hro;clear hn hS hro;go_wp2_with (go_at_call 32;refine(HA.o _ _ _ Hro.o HP.o).mono ?_;rintro e w2 ⟨rfl,hb2⟩);go_ret;exact⟨rfl,HB.o.trans (hb2.mono HB.o.size)⟩
-- ways through an automaton of any size
theorem ZpG {N:Nat} {ms:List (Int × Int × Int)} (hm:mvIn N ms) {v t:Nat} (E:v<2 ^ N):(clV N ms v).testBit t=true↔∃ s:Nat,s<N∧v.testBit s=true∧Pth ms s [] t:=by
 constructor
 ·intro h;obtain⟨u,hu⟩:=Zov (fun t=>∃ s:Nat,s<N∧v.testBit s=true∧Pth ms s [] t) N
  have hc:Zcn ms u:=by
   intro m C he hf;obtain⟨h1,s,hs,B,hp⟩:=(hu _).1 hf;have h2:=hm m C;refine(hu _).2 ⟨by omega,s,hs,B,?_⟩;have e1:((m.1.toNat:Nat):Int)=m.1:=by omega
   have e2:((m.2.2.toNat:Nat):Int)=m.2.2:=by omega
   rw[e1] at hp;rw[e2];refine hp.append (y:=[]) (.eps ?_ (.here _));rw[← he];exact C
  have D:subV v u:=by intro s hs;have:=Zhs E hs;exact(hu s).2 ⟨this,s,this,hs,.here _⟩
  exact((hu t).1 (ZpE hc D t h)).2
 rintro⟨s,hs,B,hp⟩;have:=hp.closed (ZcM hm v) rfl (by rw[Int.toNat_natCast];exact ZhP N ms v s B)
 rwa [Int.toNat_natCast] at this
theorem ZnW {N:Nat} {ms:List (Int × Int × Int)} (hm:mvIn N ms) {v t:Nat} (c:Nat):(stV N ms v (c:Int)).testBit t=true↔∃ x,x∈ms∧x.2.1=(c:Int)∧v.testBit x.1.toNat=true∧Pth ms x.2.2 [] t:=by
 have hlt:ms.foldl (ZaZ v c) 0<2 ^ N:=Zca _ (fun u=>u<2 ^ N) (fun _ _ hx hu=>ZcP hm hx hu) (Nat.two_pow_pos N);unfold stV;rw[ZpG hm hlt];constructor
 ·rintro⟨s,hs,hb,hp⟩;rw[Zcg] at hb;rcases hb with hb|⟨m,B,h1,h2,h3⟩
  ·simp at hb
  refine⟨m,B,h1,h2,?_⟩;have e:m.2.2=(s:Int):=by have:=(hm m B).2;omega
  rw[e];exact hp
 rintro⟨x,hx,h1,h2,hp⟩;have h4:=(hm x hx).2;refine⟨x.2.2.toNat,by omega,?_,?_⟩
 ·rw[Zcg];exact .inr ⟨x,hx,h1,h2,rfl⟩
 have e:((x.2.2.toNat:Nat):Int)=x.2.2:=by omega
 rw[e];exact hp
theorem ZkB {N:Nat} {ms:List (Int × Int × Int)} (hm:mvIn N ms):∀ (cs:List Nat) (V:Nat),V<2 ^ N→Zcn ms V→∀ t,(cs.foldl (fun v (c:Nat)=>stV N ms v (c:Int)) V).testBit t=true↔∃ s:Nat,s<N∧V.testBit s=true∧Pth ms s cs t
 | [],V,B,hc,t=>by
  rw[List.foldl_nil];constructor
  ·intro h;exact⟨t,Zhs B h,h,.here _⟩
  rintro⟨s,hs,h1,h2⟩;have:=h2.closed hc rfl (by rwa [Int.toNat_natCast])
  rwa [Int.toNat_natCast] at this
 | c::cs,V,B,hc,t=>by
  rw[List.foldl_cons,ZkB hm cs _ (ZnU hm V c) (ZcM hm _)];constructor
  ·rintro⟨s,hs,h1,h2⟩;rw[ZnW hm] at h1;obtain⟨x,hx,h3,h4,h5⟩:=h1;have h6:=(hm x hx).1;refine⟨x.1.toNat,by omega,h4,?_⟩;have e:((x.1.toNat:Nat):Int)=x.1:=by omega
   rw[e];refine .step (t:=x.2.2) ?_ (h5.append h2);rw[← h3];exact hx
  rintro⟨s,hs,h1,h2⟩;obtain⟨m,h3,h4,h5,h6⟩:=h2.split rfl;have h7:=(hm m h3).2;refine⟨m.2.2.toNat,by omega,?_,?_⟩
  ·rw[ZnW hm];have:=h5.closed hc rfl (by rwa [Int.toNat_natCast]);refine⟨m,h3,h4,this,?_⟩;have e:((m.2.2.toNat:Nat):Int)=m.2.2:=by omega
   rw[e];exact .here _
  have e:((m.2.2.toNat:Nat):Int)=m.2.2:=by omega
  rw[e];exact h6
def accP (n:NfaD) (w:List Nat):Prop:=∃ f∈n.firsts,∃ e∈n.ends,Pth n.moves f w e
theorem Zkz {N:Nat} {n:NfaD}:∀ (w:List Nat) (v:Nat),w.foldl (nxSM N n) (((v:Nat):Int),0)=(((w.foldl (fun v (c:Nat)=>stV N n.moves v (c:Int)) v:Nat):Int),0)
 | [],_=>rfl
 | c::w,v=>by rw[List.foldl_cons,List.foldl_cons,← Zkz w];rfl
theorem Zms {N K:Nat} {n:NfaD} {D:DfaD} (hm:mvIn N n.moves) (hf:inN N n.firsts) (he:inN N n.ends) (h:detM N K n=some D) {w:List Nat} (C:isW w):accD D w=true↔accP n w:=by
 unfold detM at h
 split at h
 ·rename_i h2;simp only[w_9] at h;subst h;unfold metSM at h2 ⊢;rw[ZfE h2 C,Zkz];show(n.ends.any fun s=>(w.foldl (fun v (c:Nat)=>stV N n.moves v (c:Int)) (clV N n.moves (setV n.firsts))).testBit s.toNat)=true↔_;have hlt:clV N n.moves (setV n.firsts)<2 ^ N:=ZdS hm (ZdC hf) N;have B:=ZkB hm w _ hlt (ZcM hm (setV n.firsts));rw[List.any_eq_true];constructor
  ·rintro⟨e,hee,hb⟩;obtain⟨s,hs,h1,h2⟩:=(B _).1 hb;rw[ZpG hm (ZdC hf)] at h1;obtain⟨r,hr,h3,h4⟩:=h1;rw[Zi7,List.any_eq_true] at h3;obtain⟨f,hff,h5⟩:=h3;have h5:=of_decide_eq_true h5;have h6:=hf f hff;have h7:=he e hee;refine⟨f,hff,e,hee,?_⟩;have e1:(r:Int)=f:=by omega
   have e2:((e.toNat:Nat):Int)=e:=by omega
   rw[e1] at h4;rw[e2] at h2;exact h4.append h2
  rintro⟨f,hff,e,hee,hp⟩;have h6:=hf f hff;have h7:=he e hee;refine⟨e,hee,(B _).2 ⟨f.toNat,by omega,?_,?_⟩⟩
  ·exact ZhP N n.moves _ _ (ZlX hff)
  have e1:((f.toNat:Nat):Int)=f:=by omega
  have e2:((e.toNat:Nat):Int)=e:=by omega
  rw[e1,e2];exact hp
 cases h
theorem Pth.starred {p:NfaD} {a:Nat} (ha:p.states=(a:Int)) (B:mvIn a p.moves) (F:inN a p.firsts) (E:inN a p.ends) {s t:Int} {x:List Nat} (h:Pth (Zc0 p).moves s x t) (ht:t=p.states) :
  (s=p.states→StarL (accP p) x)∧(s<p.states→∃ u v,x=u++v∧(∃ e∈p.ends,Pth p.moves s u e)∧StarL (accP p) v):=by
 have hmem:∀ m∈(Zc0 p).moves,m∈p.moves∨(∃ f∈p.firsts,m=(p.states,-1,f))∨∃ e∈p.ends,m=(e,-1,p.states):=fun m hm=>by
  simp only[Zc0,List.mem_append,List.mem_map] at hm;rcases hm with(hm|⟨f,hf,rfl⟩)|⟨e,he,rfl⟩
  ·exact .inl hm
  ·exact .inr (.inl ⟨f,hf,rfl⟩)
  exact .inr (.inr ⟨e,he,rfl⟩)
 induction h with
 | here s=>exact⟨fun _ => .nil,fun h=>by omega⟩
 | @eps H I u w hm _ D =>
  obtain⟨G,C⟩:=D ht;rcases hmem _ hm with hm|⟨f,hf,e⟩|⟨e,he,e'⟩
  ·have h1:=B _ hm;simp only at h1;refine⟨fun h=>by omega,fun _ => ?_⟩;obtain⟨x,y,rfl,⟨e,he,h2⟩,h3⟩:=C (by omega);exact⟨x,y,rfl,⟨e,he,.eps hm h2⟩,h3⟩
  ·simp only[Prod.mk.injEq] at e;obtain⟨rfl,-,rfl⟩:=e;have h1:=F _ hf;refine⟨fun _ => ?_,fun h=>by omega⟩;obtain⟨x,y,rfl,⟨e,he,h2⟩,h3⟩:=C (by omega);exact .cons ⟨_,hf,e,he,h2⟩ h3
  simp only[Prod.mk.injEq] at e';obtain⟨rfl,-,rfl⟩:=e';have h1:=E _ he;exact⟨fun h=>by omega,fun _=>⟨[],w,rfl,⟨_,he,.here _⟩,G rfl⟩⟩
 | @step H I u c w hm _ D =>
  obtain⟨G,C⟩:=D ht;rcases hmem _ hm with hm|⟨f,hf,e⟩|⟨e,he,e'⟩
  ·have h1:=B _ hm;simp only at h1;refine⟨fun h=>by omega,fun _ => ?_⟩;obtain⟨x,y,rfl,⟨e,he,h2⟩,h3⟩:=C (by omega);exact⟨c::x,y,rfl,⟨e,he,.step hm h2⟩,h3⟩
  ·simp only[Prod.mk.injEq] at e;omega
  simp only[Prod.mk.injEq] at e';omega
theorem ZnP {p:NfaD} {a:Nat} (ha:p.states=(a:Int)) (C:mvIn a p.moves) (B:inN a p.firsts) (D:inN a p.ends) (x:List Nat):accP (Zc0 p) x↔StarL (accP p) x:=by
 constructor
 ·rintro⟨f,hf,e,he,h⟩;simp only[Zc0,List.mem_singleton] at hf he;subst hf he;exact(h.starred ha C B D rfl).1 rfl
 rintro⟨ws,rfl,E⟩;refine⟨p.states,by simp[Zc0],p.states,by simp[Zc0],?_⟩
 induction ws with
 | nil=>exact .here _
 | cons u ws F =>
  rw[List.flatten_cons];refine Pth.append ?_ (F fun x hx=>E x (List.mem_cons_of_mem _ hx));obtain⟨f,hf,e,he,h⟩:=E u (by simp);have h1:Pth (Zc0 p).moves f u e:=h.mono fun m hm=>by simp[Zc0,hm]
  have h2:Pth (Zc0 p).moves p.states [] f:=.eps (by simp[Zc0,hf]) (.here _);have h3:Pth (Zc0 p).moves e [] p.states:=.eps (by simp only[Zc0,List.mem_append,List.mem_map];exact .inr ⟨e,he,rfl⟩) (.here _);have h4:=(h2.append h1).append h3
  rwa [List.nil_append,List.append_nil] at h4
theorem ZoW {p q:NfaD} {a b:Nat} (ha:p.states=(a:Int)) (F:mvIn a p.moves) (B:mvIn b q.moves) (E:inN a p.firsts) (H:inN a p.ends) (D:inN b q.firsts) (C:inN b q.ends) (x:List Nat):accP (Zef p q) x↔∃ u v,x=u++v∧accP p u∧accP q v:=by
 constructor
 ·rintro⟨f,hf,e,he,I⟩;obtain⟨y,hy,rfl⟩:=List.mem_map.1 (show e∈q.ends.map (·+p.states) from he);have h1:=E f hf;have h2:=C y hy;obtain⟨k,hk,g,G,z,hz,h3,h4⟩:=(I.cross ha F B H D (by omega)).1 (by omega);rw[show y+p.states-p.states=y by omega] at h4;exact⟨x.take k,x.drop k,(List.take_append_drop k x).symm,⟨f,hf,g,G,h3⟩,⟨z,hz,y,hy,h4⟩⟩
 rintro⟨u,v,rfl,⟨f,hf,e,he,h3⟩,⟨g,G,d,hd,h4⟩⟩;refine⟨f,hf,d+p.states,List.mem_map.2 ⟨d,hd,rfl⟩,?_⟩;have h5:Pth (Zef p q).moves f u e:=h3.mono fun m hm=>by simp only[Zef,List.mem_append];exact .inl (.inl hm)
 have h6:Pth (Zef p q).moves (g+p.states) v (d+p.states):=(h4.up p.states).mono fun m hm=>by simp only[Zef,List.mem_append];exact .inl (.inr hm)
 have h7:Pth (Zef p q).moves e [] (g+p.states):=.eps (by simp only[Zef,List.mem_append,List.mem_flatMap,List.mem_map];exact .inr ⟨e,he,g+p.states,List.mem_map.2 ⟨g,G,rfl⟩,rfl⟩) (.here _);have h8:=(h5.append h7).append h6
 rwa [List.append_nil] at h8
theorem Zdq {d:DfaD} (hd:Zac d.next d.ends=true) {w:List Nat} (B:isW w):accP (ZaL d) w↔accD d w=true:=by rw[← Zot hd B,Zrk (Zfd hd)];rfl
theorem Zec {d:DfaD} (hd:Zac d.next d.ends=true):inN d.next.length (ZaL d).firsts:=fun s hs=>by have hl:=Zaf hd;have hs:s∈[(0:Int)]:=hs;simp only[List.mem_singleton] at hs;omega
theorem ZfR (d:DfaD):inN d.next.length (ZaL d).ends:=fun s hs=>Zgl d _ s hs
theorem ZgM {u v:List Nat} (h:isW (u++v)):isW u:=fun c hc=>h c (by simp[hc])
theorem Zfm {u v:List Nat} (h:isW (u++v)):isW v:=fun c hc=>h c (by simp[hc])
theorem Zmg {ws:List (List Nat)} (h:isW ws.flatten):∀ u∈ws,isW u:=fun u hu c hc=>h c (List.mem_flatten.2 ⟨u,hu,hc⟩)
theorem StarL.congr {L M:List Nat→Prop} (h:∀ u,isW u→(L u↔M u)) {w:List Nat} (B:isW w):StarL L w↔StarL M w:=by
 constructor
 ·rintro⟨ws,rfl,hs⟩;exact⟨ws,rfl,fun u hu=>(h u (Zmg B u hu)).1 (hs u hu)⟩
 rintro⟨ws,rfl,hs⟩;exact⟨ws,rfl,fun u hu=>(h u (Zmg B u hu)).2 (hs u hu)⟩
theorem Zct {d:DfaD} (hd:Zac d.next d.ends=true) {w:List Nat} (B:isW w):accD (Zao d) w=accD d w:=by rw[ZcR (ZaS hd)];exact ZoC (ZaS hd) B
theorem Zl8 {K:Nat} {f:Bool→Bool→Bool} {a b d:DfaD} (h:ZbV K f a b=some d) {w:List Nat} (C:isW w):accD d w=f (accD a w) (accD b w):=by
 unfold ZbV at h
 split at h
 ·rename_i h2;simp only[w_9] at h;subst h;unfold metP at h2 ⊢;rw[ZfE h2 C]
  have key:∀ (w:List Nat) (p:Int × Int),w.foldl (Zan a b) p=(runD a p.1 w,runD b p.2 w):=fun w=>by
   induction w with
   | nil=>intro p;rfl
   | cons c w B =>intro p;rw[List.foldl_cons,B];rfl
  rw[key];rfl
 cases h
theorem Zqw (w:List Nat) (C:isW w):accD Zfc w=false:=by
 have key:∀ w,isW w→runD Zfc 0 w=0:=fun w=>by
  induction w with
  | nil=>intro _;rfl
  | cons c w B =>
   intro h;obtain⟨h1,h2⟩:=Zcr h;rw[Za4]
   have:dnx Zfc 0 c=0:=by
    have:c=0∨c=1∨c=2:=by omega
    rcases this with rfl|rfl|rfl<;>rfl
   rw[this];exact B h2
 unfold accD;rw[key w C];rfl
theorem ZrJ (w:List Nat) (C:isW w):accD oneD w=true↔w=[]:=by
 have key:∀ w,isW w→runD oneD 1 w=1:=fun w=>by
  induction w with
  | nil=>intro _;rfl
  | cons c w B =>
   intro h;obtain⟨h1,h2⟩:=Zcr h;rw[Za4]
   have:dnx oneD 1 c=1:=by
    have:c=0∨c=1∨c=2:=by omega
    rcases this with rfl|rfl|rfl<;>rfl
   rw[this];exact B h2
 cases w with
 | nil=>exact⟨fun _=>rfl,fun _=>rfl⟩
 | cons c w =>
  obtain⟨h1,h2⟩:=Zcr C
  have e:dnx oneD 0 c=1:=by
   have:c=0∨c=1∨c=2:=by omega
   rcases this with rfl|rfl|rfl<;>rfl
  have:accD oneD (c::w)=false:=by unfold accD;rw[Za4,e,key w h2];rfl
  rw[this];simp
theorem ZrV (a:Fin 3) (w:List Nat) (E:isW w):accD (ltrD a) w=true↔w=[a.val]:=by
 have ha:a=0∨a=1∨a=2:=by omega
 have B:∀ w,isW w→runD (ltrD a) 2 w=2:=fun w=>by
  induction w with
  | nil=>intro _;rfl
  | cons c w C =>
   intro h;obtain⟨h1,h2⟩:=Zcr h;rw[Za4]
   have:dnx (ltrD a) 2 c=2:=by
    have:c=0∨c=1∨c=2:=by omega
    rcases this with rfl|rfl|rfl<;>rcases ha with rfl|rfl|rfl<;>rfl
   rw[this];exact C h2
 have e2:den (ltrD a) 2=false:=by rcases ha with rfl|rfl|rfl<;>rfl
 have e1:den (ltrD a) 1=true:=by rcases ha with rfl|rfl|rfl<;>rfl
 have D:den (ltrD a) 0=false:=by rcases ha with rfl|rfl|rfl<;>rfl
 cases w with
 | nil =>have:accD (ltrD a) []=false:=D;rw[this];simp
 | cons c w =>
  obtain⟨h1,h2⟩:=Zcr E
  have e:dnx (ltrD a) 0 c=if c=a.val then 1 else 2:=by
   have:c=0∨c=1∨c=2:=by omega
   rcases this with rfl|rfl|rfl<;>rcases ha with rfl|rfl|rfl<;>rfl
  have hr:accD (ltrD a) (c::w)=den (ltrD a) (runD (ltrD a) (if c=a.val then 1 else 2) w):=by unfold accD;rw[Za4,e]
  rw[hr];by_cases hc:c=a.val
  ·rw[if_pos hc];cases w with
   | nil =>rw[hc];exact⟨fun _=>rfl,fun _=>e1⟩
   | cons b w =>
    obtain⟨h3,h4⟩:=Zcr h2
    have e3:dnx (ltrD a) 1 b=2:=by
     have:b=0∨b=1∨b=2:=by omega
     rcases this with rfl|rfl|rfl<;>rcases ha with rfl|rfl|rfl<;>rfl
    rw[Za4,e3,B w h4,e2];simp
  rw[if_neg hc,B w h2,e2];simp[hc]
theorem Zpw {K:Nat} (G:K=40):∀ (t:Ex) {d:DfaD},Zat K t=some d→∀ w,isW w→(accD d w=true↔memE t w):=by
 intro t
 induction t with
 | zero =>intro d h w B;simp only[Zat,w_9] at h;rw[← h,Zct Zfb B,Zqw w B];simp[memE]
 | one =>intro d h w B;simp only[Zat,w_9] at h;rw[← h,Zct Zhk B,ZrJ w B];rfl
 | ltr c =>intro d h w B;simp only[Zat,w_9] at h;rw[← h,Zct (ZeT c) B,ZrV c w B];rfl
 | join a b D F =>
  intro d h w B;simp only[Zat,Option.bind_eq_some_iff,Option.map_eq_some_iff] at h;obtain⟨x,hx,y,hy,z,hz,rfl⟩:=h;have C:=ZbS G a hx;have E:=ZbS G b hy;have H:=Zaf C;have I:=Zaf E;rw[Zct (Zdl G hz) B];have h1:mvIn 81 (ZdA x y).moves:=Zhp (ZiW C E) (by omega);have h2:inN 81 (ZdA x y).firsts:=fun s hs=>by have:=Zd1 (b:=y) C s hs;omega
  have h3:inN 81 (ZdA x y).ends:=fun s hs=>by have:=ZfF s hs;omega
  rw[Zms h1 h2 h3 hz B,← ZhB,
   ZoW (a:=x.next.length) (b:=y.next.length) rfl (Zgd C _ (Nat.le_refl _)) (Zgd E _ (Nat.le_refl _)) (Zec C) (ZfR x) (Zec E) (ZfR y)]
  constructor
  ·rintro⟨u,v,rfl,p,q⟩;exact⟨u,v,rfl,(D hx u (ZgM B)).1 ((Zdq C (ZgM B)).1 p),(F hy v (Zfm B)).1 ((Zdq E (Zfm B)).1 q)⟩
  rintro⟨u,v,rfl,p,q⟩;exact⟨u,v,rfl,(Zdq C (ZgM B)).2 ((D hx u (ZgM B)).2 p),(Zdq E (Zfm B)).2 ((F hy v (Zfm B)).2 q)⟩
 | alt a b D F =>intro d h w B;simp only[Zat,Option.bind_eq_some_iff,Option.map_eq_some_iff] at h;obtain⟨x,hx,y,hy,z,hz,rfl⟩:=h;rw[Zct (ZbP G hz) B,Zl8 hz B,Bool.or_eq_true,D hx w B,F hy w B];rfl
 | both a b D F =>intro d h w B;simp only[Zat,Option.bind_eq_some_iff,Option.map_eq_some_iff] at h;obtain⟨x,hx,y,hy,z,hz,rfl⟩:=h;rw[Zct (ZbP G hz) B,Zl8 hz B,Bool.and_eq_true,D hx w B,F hy w B];rfl
 | neg a D =>intro d h w B;simp only[Zat,Option.map_eq_some_iff] at h;obtain⟨x,hx,rfl⟩:=h;have C:=ZbS G a hx;rw[Zct (Zho C) B,Zou,Zr4 C B];show _↔¬ memE a w;rw[← D hx w B];cases accD x w<;>simp[xb]
 | star a D =>
  intro d h w B;simp only[Zat,Option.bind_eq_some_iff,Option.map_eq_some_iff] at h;obtain⟨x,hx,z,hz,rfl⟩:=h;have C:=ZbS G a hx;have H:=Zaf C;rw[Zct (Zdl G hz) B];have h1:mvIn 81 (Zd0 x).moves:=Zhp (ZiV C) (by omega);have h2:inN 81 (Zd0 x).firsts:=fun s hs=>by have:=Zdm (a:=x) s hs;omega
  have h3:inN 81 (Zd0 x).ends:=fun s hs=>by have:=Zdm (a:=x) s hs;omega
  rw[Zms h1 h2 h3 hz B,← Zg0,
   ZnP (a:=x.next.length) rfl (Zgd C _ (Nat.le_refl _)) (Zec C) (ZfR x)]
  exact StarL.congr (fun u hu=>by rw[Zdq C hu,D hx u hu]) B
theorem Zrj {l:List Nat} (B:wdOk l=true) (t:Ex):accX l t=true↔memE t (lets l):=by
 have h8:(lsT l).length≤8:=by rw[ZoL];exact(Zeo B).1
 have:=Zqe h8 t;rw[ZoL] at this;exact this
theorem Zrl {K:Nat} (G:K=40) {es:List (Int × Int)} {l:List Nat} {D:DfaD} {r:Bool} (hc:ZlP K es (some D)) (hr:AccO es l r):(wdOk l&&accD D (lets l))=r:=by
 obtain⟨hok,t,ht,E⟩|⟨-,h⟩:=hc
 ·rcases hr with⟨-,B,F,C,hx⟩|⟨h1|h1,hf⟩
  ·have e:F=t:=Zjh (C.trans ht.symm);subst e;rw[B,Bool.true_and,← hx,Bool.eq_iff_iff,Zrj B];exact Zpw G F E _ (ZqN B)
  ·rw[hok] at h1;cases h1
  rw[h1,hf];rfl
 cases h
theorem ZmH {K:Nat} (C:K=40) {s l:List Nat} {D:DfaD} {r:Bool} (hc:ZjW K (Zbv s) (some D)) (hr:AccT s l r):(wdOk l&&accD D (lets l))=r:=by
 rcases hc with⟨-,h⟩|⟨es,B,-,hc⟩
 ·cases h
 rcases hr with⟨h,-⟩|⟨es',h,hr⟩
 ·rw[B] at h;cases h
 rw[B] at h;obtain rfl:=Option.some.inj h;exact Zrl C hc hr
theorem Zpy {K:Nat} (B:K=40) {es:List (Int × Int)} {D:DfaD} (h:ZlP K es (some D)):Zac D.next D.ends=true∧minQ D=D:=by
 have hok:=Zrc B h;refine⟨hok,?_⟩;obtain⟨-,t,-,hc⟩|⟨-,h⟩:=h
 ·unfold minQ;rw[if_pos hok];exact ZjK B t hc
 cases h
theorem Zpx {K:Nat} (E:K=40) {es:List (Int × Int)} {o:Option DfaD} (h:ZlP K es o) {D:DfaD} {fb:Bool} (C:o.getD Za2=D) (B:o.isSome=fb):(fb=false→D.next.length=0)∧(fb=true→o=some D∧Zac D.next D.ends=true∧minQ D=D):=by
 cases o with
 | none=>subst C;exact⟨fun _=>rfl,fun e=>(by rw[e] at B;cases B)⟩
 | some d =>obtain rfl:d=D:=C;exact⟨fun e=>(by rw[e] at B;cases B),fun _=>⟨rfl,Zpy E h⟩⟩
theorem Zdv {K:Nat} (E:K=40) {q:Option (List (Int × Int))} {o:Option DfaD} (h:ZjW K q o) {D:DfaD} {fb:Bool} (C:o.getD Za2=D) (B:o.isSome=fb):(fb=false→D.next.length=0)∧(fb=true→o=some D∧Zac D.next D.ends=true∧minQ D=D):=by
 rcases h with⟨-,rfl⟩|⟨es,-,-,h⟩
 ·subst C;exact⟨fun _=>rfl,fun e=>(by rw[e] at B;cases B)⟩
 exact Zpx E h C B
end Go.Proofs.YtncekbbhgipdlaaGreat
namespace Go.Proofs.YtncekbbhgipdlaaGreat
open Go.RowKit Go.Maps
def cmpR (A B:DfaD) (f:Bool):Int × ByteArray:=if f=true then(match hitP A B with|none=>(0,{ data:=#[] })|some l=>(if (feO A B).isSome=false then 1 else if (feO B A).isSome=false then 2 else 3,wdB l)) else(4,{ data:=#[] })
theorem ZbI (K:Nat) (c:K=40) (s t:List Nat) (J O:Option DfaD) (hoa:ZjW K (Zbv s) J) (hob:ZjW K (Zbv t) O) (r:Int × ByteArray) (hr:cmpR (J.getD Za2) (O.getD Za2) (J.isSome&&O.isSome)=r) (w:World) (hs:isT s) (ht:isT t) :
  Calls Tryz.prog 14 #[.string (txB s),.string (txB t)] w fun e w'=>e = .returned (.tuple #[.int .i64 r.1,.string r.2])∧Below w.heap.size w w':=by
 have N:=fun (u:World)=>ZcX K c s J hoa u hs
 have M:=fun (u:World)=>ZcX K c t O hob u ht
 obtain⟨A,p⟩:=eJ (J.getD Za2);obtain⟨B,m⟩:=eJ (O.getD Za2);obtain⟨fa,G⟩:∃ f,J.isSome=f:=⟨_,rfl⟩;obtain⟨fb,I⟩:∃ f,O.isSome=f:=⟨_,rfl⟩;have k:J.getD zeD=A:=p;have a:O.getD zeD=B:=m;have Z:=(Zdv c hoa p G).2;have R:=(Zdv c hob m I).2;rw[p,m,G,I] at hr;rw[k,G] at N;rw[a,I] at M;obtain⟨s1,X⟩:=Za3 (feO A B);obtain⟨s2,Q⟩:=Za3 (feO B A);obtain⟨i1,b⟩:∃ i,(feO A B).isSome=i:=⟨_,rfl⟩;obtain⟨i2,U⟩:∃ i,(feO B A).isSome=i:=⟨_,rfl⟩;have aF:=qh X;have x:=qh Q;have H:=qh b;have P:=qh U;have aB:=qh N;have y:=qh M;have Hr:=qh hr;have aC:=qh Z;have q:=qh R;clear N M p m k a G I hr Z R X Q b U hoa hob c
 go_enter Tryz.func14, Tryz.ntmps14
 go_wp2_with fail;refine(aB.o _).mono ?_;rintro e w2 ⟨⟨g1,c1,g2,c2,rfl,hx⟩,hb⟩;have g:=qh (((St.start w).call hb).alloc _ rfl #[.slice g1 A.next.length c1,.slice g2 A.ends.length c2] 44);have T:=qh (((hx.r).mono (Nat.zero_le _)).below ((Below.refl w2.heap.size w2).alloc (Nat.le_refl _) (.cells #[.slice g1 A.next.length c1,.slice g2 A.ends.length c2] 44)));clear hb hx;go_wp2_with fail;refine(y.o _).mono ?_;rintro e n ⟨⟨x1,y1,x2,y2,rfl,hx⟩,hb⟩;have C:=qh ((g.o.call hb).alloc _ rfl #[.slice x1 B.next.length y1,.slice x2 B.ends.length y2] 44);have S:=qh ((T.o.below hb).below ((Below.refl n.heap.size n).alloc (Nat.le_refl _) (.cells #[.slice x1 B.next.length y1,.slice x2 B.ends.length y2] 44)));have j:=qh (((hx.r).mono (Nat.zero_le _)).below ((Below.refl n.heap.size n).alloc (Nat.le_refl _) (.cells #[.slice x1 B.next.length y1,.slice x2 B.ends.length y2] 44)));clear hb hx T g;cases fa
 ·go_wp2;refine bodyPost_ret (v:=.tuple #[.int .i64 4,.string { data:=#[] }]) (by simp[results,Tryz.results14,go_sem]) rfl ⟨?_,C.o.bel⟩;rw[← Hr.o];rfl
 cases fb
 ·go_wp2;refine bodyPost_ret (v:=.tuple #[.int .i64 4,.string { data:=#[] }]) (by simp[results,Tryz.results14,go_sem]) rfl ⟨?_,C.o.bel⟩;rw[← Hr.o];rfl
 have aD:=qh (aC.o rfl).2.1;have z:=qh (q.o rfl).2.1;have a0:=C.o.cell (v:=.slice g1 A.next.length c1) 0 0 rfl rfl;have a1:=C.o.cell (v:=.slice g2 A.ends.length c2) 0 1 rfl rfl;have V:=C.o.cell (v:=.slice x1 B.next.length y1) 1 0 rfl rfl;have b1:=C.o.cell (v:=.slice x2 B.ends.length y2) 1 1 rfl rfl;go_wp2_with fail;refine(Znn A B _ _ _ aD.o z.o S.o j.o).mono ?_;rintro e w4 ⟨he,hb⟩;have D:=qh (C.o.call hb);have Y:=qh (S.o.below hb);have d:=qh (j.o.below hb);clear hb a0 a1 V b1;cases hp:hitP A B with
 | none =>rw[hp] at he;unfold ZaQ at he;simp only at he;subst he;have E:=qh hp;clear hp;go_wp2;refine bodyPost_ret (v:=.tuple #[.int .i64 0,.string { data:=#[] }]) (by simp[results,Tryz.results14,go_sem]) rfl ⟨?_,D.o.bel⟩;rw[← Hr.o,cmpR,E.o];rfl
 | some l =>
  rw[hp] at he;unfold ZaQ at he;simp only at he;subst he;have E:=qh hp;clear hp;have a0:=D.o.cell (v:=.slice g1 A.next.length c1) 0 0 rfl rfl;have a1:=D.o.cell (v:=.slice g2 A.ends.length c2) 0 1 rfl rfl;have V:=D.o.cell (v:=.slice x1 B.next.length y1) 1 0 rfl rfl;have b1:=D.o.cell (v:=.slice x2 B.ends.length y2) 1 1 rfl rfl;go_wp2_with fail;refine(Zc7 A B _ _ _ Y.o d.o _ rfl).mono ?_;rintro e w5 ⟨he,hb⟩;rw[aF.o,H.o] at he;subst he;have F:=qh (D.o.call hb);have aA:=qh (Y.o.below hb);have aE:=qh (d.o.below hb);clear hb a0 a1 V b1;have a0:=F.o.cell (v:=.slice g1 A.next.length c1) 0 0 rfl rfl;have a1:=F.o.cell (v:=.slice g2 A.ends.length c2) 0 1 rfl rfl;have V:=F.o.cell (v:=.slice x1 B.next.length y1) 1 0 rfl rfl;have b1:=F.o.cell (v:=.slice x2 B.ends.length y2) 1 1 rfl rfl;go_wp2_with fail;refine(Zc7 B A _ _ _ aE.o aA.o _ rfl).mono ?_;rintro e w6 ⟨he,hb⟩;rw[x.o,P.o] at he;subst he;have L:=qh (F.o.call hb);clear hb a0 a1 V b1;cases i1
  ·go_wp2;refine bodyPost_ret (v:=.tuple #[.int .i64 1,.string (wdB l)]) (by simp[results,Tryz.results14,go_sem]) rfl ⟨?_,L.o.bel⟩;rw[← Hr.o,cmpR,E.o];simp[H.o]
  cases i2
  ·go_wp2;refine bodyPost_ret (v:=.tuple #[.int .i64 2,.string (wdB l)]) (by simp[results,Tryz.results14,go_sem]) rfl ⟨?_,L.o.bel⟩;rw[← Hr.o,cmpR,E.o];simp[H.o,P.o]
  go_wp2;refine bodyPost_ret (v:=.tuple #[.int .i64 3,.string (wdB l)]) (by simp[results,Tryz.results14,go_sem]) rfl ⟨?_,L.o.bel⟩;rw[← Hr.o,cmpR,E.o];simp[H.o,P.o]
theorem Zez (K:Nat) (m:K=40) (s t:List Nat) (R S:Option DfaD) (hoa:ZjW K (Zbv s) R) (hob:ZjW K (Zbv t) S) (r:Int × ByteArray) (hr:cmpR (R.getD Za2) (S.getD Za2) (R.isSome&&S.isSome)=r) (w:World) (hs:isT s) (ht:isT t) :
  Calls Tryz.prog 16 #[.string (txB s),.string (txB t)] w fun e w'=>e = .returned (.tuple #[.int .i64 r.1,.string r.2])∧Below w.heap.size w w':=by
 have P:=fun (u:World)=>ZcQ K m s R hoa u hs
 have M:=fun (u:World)=>ZcQ K m t S hob u ht
 unfold RO at P M;obtain⟨A,j⟩:=eJ (R.getD Za2);obtain⟨B,X⟩:=eJ (S.getD Za2);obtain⟨fa,I⟩:∃ f,R.isSome=f:=⟨_,rfl⟩;obtain⟨fb,O⟩:∃ f,S.isSome=f:=⟨_,rfl⟩;have aH:R.getD zeD=A:=j;have aC:S.getD zeD=B:=X;have g:=(Zdv m hoa j I).2;have Y:=(Zdv m hob X O).2;rw[j,X,I,O] at hr;rw[j,I] at P;rw[X,O] at M;obtain⟨s1,d⟩:=Za3 (feO A B);obtain⟨s2,V⟩:=Za3 (feO B A);obtain⟨i1,k⟩:∃ i,(feO A B).isSome=i:=⟨_,rfl⟩;obtain⟨i2,b⟩:∃ i,(feO B A).isSome=i:=⟨_,rfl⟩;have q:=qh d;have c:=qh V;have G:=qh k;have Q:=qh b;have aE:=qh P;have aB:=qh M;have Hr:=qh hr;have aF:=qh g;have aA:=qh Y;clear P M j X aH aC I O hr g Y d V k b hoa hob m
 go_enter Tryz.func16, Tryz.ntmps16
 go_wp2_with fail;refine(aE.o _).mono ?_;rintro e w2 ⟨g1,c1,g2,c2,rfl,hx,hb⟩;have n:=qh (((St.start w).call hb).alloc _ rfl #[.slice g1 A.next.length c1,.slice g2 A.ends.length c2] 44);have a:=qh ((hx.mono (Nat.zero_le _)).below ((Below.refl w2.heap.size w2).alloc (Nat.le_refl _) (.cells #[.slice g1 A.next.length c1,.slice g2 A.ends.length c2] 44)));clear hb hx;go_wp2_with fail;refine(aB.o _).mono ?_;rintro e y ⟨x1,y1,x2,y2,rfl,hx,hb⟩;have E:=qh ((n.o.call hb).alloc _ rfl #[.slice x1 B.next.length y1,.slice x2 B.ends.length y2] 44);have Z:=qh ((a.o.below hb).below ((Below.refl y.heap.size y).alloc (Nat.le_refl _) (.cells #[.slice x1 B.next.length y1,.slice x2 B.ends.length y2] 44)));have p:=qh ((hx.mono (Nat.zero_le _)).below ((Below.refl y.heap.size y).alloc (Nat.le_refl _) (.cells #[.slice x1 B.next.length y1,.slice x2 B.ends.length y2] 44)));clear hb hx a n;cases fa
 ·go_wp2;refine bodyPost_ret (v:=.tuple #[.int .i64 4,.string { data:=#[] }]) (by simp[results,Tryz.results16,go_sem]) rfl ⟨?_,E.o.bel⟩;rw[← Hr.o];rfl
 cases fb
 ·go_wp2;refine bodyPost_ret (v:=.tuple #[.int .i64 4,.string { data:=#[] }]) (by simp[results,Tryz.results16,go_sem]) rfl ⟨?_,E.o.bel⟩;rw[← Hr.o];rfl
 have aG:=qh (aF.o rfl).2.1;have aD:=qh (aA.o rfl).2.1;have x:fdO A B=hitP A B:=by unfold fdO;rw[aG.o,aD.o];rfl
 have z:=qh x;clear x;have a0:=E.o.cell (v:=.slice g1 A.next.length c1) 0 0 rfl rfl;have a1:=E.o.cell (v:=.slice g2 A.ends.length c2) 0 1 rfl rfl;have J:=E.o.cell (v:=.slice x1 B.next.length y1) 1 0 rfl rfl;have b1:=E.o.cell (v:=.slice x2 B.ends.length y2) 1 1 rfl rfl;go_wp2_with fail;refine(ZeK A B _ _ _ Z.o p.o _ z.o).mono ?_;rintro e w4 ⟨he,hb⟩;have D:=qh (E.o.call hb);have L:=qh (Z.o.below hb);have N:=qh (p.o.below hb);clear hb a0 a1 J b1;cases hp:hitP A B with
 | none =>rw[hp] at he;unfold ZaQ at he;simp only at he;subst he;have F:=qh hp;clear hp;have a0:=D.o.cell (v:=.slice g1 A.next.length c1) 0 0 rfl rfl;have a1:=D.o.cell (v:=.slice g2 A.ends.length c2) 0 1 rfl rfl;have J:=D.o.cell (v:=.slice x1 B.next.length y1) 1 0 rfl rfl;have b1:=D.o.cell (v:=.slice x2 B.ends.length y2) 1 1 rfl rfl;go_wp2_with fail;refine(Zbt A B _ _ _ L.o N.o _ rfl).mono ?_;rintro e w5 ⟨he,hb⟩;rw[q.o,G.o] at he;subst he;have C:=qh (D.o.call hb);have T:=qh (L.o.below hb);have U:=qh (N.o.below hb);clear hb a0 a1 J b1;have a0:=C.o.cell (v:=.slice g1 A.next.length c1) 0 0 rfl rfl;have a1:=C.o.cell (v:=.slice g2 A.ends.length c2) 0 1 rfl rfl;have J:=C.o.cell (v:=.slice x1 B.next.length y1) 1 0 rfl rfl;have b1:=C.o.cell (v:=.slice x2 B.ends.length y2) 1 1 rfl rfl;go_wp2_with fail;refine(Zbt B A _ _ _ U.o T.o _ rfl).mono ?_;rintro e w6 ⟨he,hb⟩;rw[c.o,Q.o] at he;subst he;have H:=qh (C.o.call hb);clear hb a0 a1 J b1;go_wp2;refine bodyPost_ret (v:=.tuple #[.int .i64 0,.string { data:=#[] }]) (by simp[results,Tryz.results16,go_sem]) rfl ⟨?_,H.o.bel⟩;rw[← Hr.o,cmpR,F.o];rfl
 | some l =>
  rw[hp] at he;unfold ZaQ at he;simp only at he;subst he;have F:=qh hp;clear hp;have a0:=D.o.cell (v:=.slice g1 A.next.length c1) 0 0 rfl rfl;have a1:=D.o.cell (v:=.slice g2 A.ends.length c2) 0 1 rfl rfl;have J:=D.o.cell (v:=.slice x1 B.next.length y1) 1 0 rfl rfl;have b1:=D.o.cell (v:=.slice x2 B.ends.length y2) 1 1 rfl rfl;go_wp2_with fail;refine(Zbt A B _ _ _ L.o N.o _ rfl).mono ?_;rintro e w5 ⟨he,hb⟩;rw[q.o,G.o] at he;subst he;have C:=qh (D.o.call hb);have T:=qh (L.o.below hb);have U:=qh (N.o.below hb);clear hb a0 a1 J b1;have a0:=C.o.cell (v:=.slice g1 A.next.length c1) 0 0 rfl rfl;have a1:=C.o.cell (v:=.slice g2 A.ends.length c2) 0 1 rfl rfl;have J:=C.o.cell (v:=.slice x1 B.next.length y1) 1 0 rfl rfl;have b1:=C.o.cell (v:=.slice x2 B.ends.length y2) 1 1 rfl rfl;go_wp2_with fail;refine(Zbt B A _ _ _ U.o T.o _ rfl).mono ?_;rintro e w6 ⟨he,hb⟩;rw[c.o,Q.o] at he;subst he;have H:=qh (C.o.call hb);clear hb a0 a1 J b1;cases i1
  ·go_wp2;refine bodyPost_ret (v:=.tuple #[.int .i64 1,.string (wdB l)]) (by simp[results,Tryz.results16,go_sem]) rfl ⟨?_,H.o.bel⟩;rw[← Hr.o,cmpR,F.o];simp[G.o]
  cases i2
  ·go_wp2;refine bodyPost_ret (v:=.tuple #[.int .i64 2,.string (wdB l)]) (by simp[results,Tryz.results16,go_sem]) rfl ⟨?_,H.o.bel⟩;rw[← Hr.o,cmpR,F.o];simp[G.o,Q.o]
  go_wp2;refine bodyPost_ret (v:=.tuple #[.int .i64 3,.string (wdB l)]) (by simp[results,Tryz.results16,go_sem]) rfl ⟨?_,H.o.bel⟩;rw[← Hr.o,cmpR,F.o];simp[G.o,Q.o]
end Go.Proofs.YtncekbbhgipdlaaGreat
namespace Go.Proofs.YtncekbbhgipdlaaGreat
open Go.RowKit
theorem Zo5 {K:Nat} {a b:DfaD} (h:hitE K a b=none):∀ p∈metP a b K,den a p.1=true→den b p.2=true:=fun p hp hx=>by
 have C:=(ZaG (nx:=Zan a b) (a:=((0,0):Int × Int)) K).2.1;obtain⟨j,hj,rfl⟩:=List.mem_iff_getElem.1 hp;unfold hitE ZaO at h;rw[Option.map_eq_none_iff,List.find?_eq_none] at h;have B:j<(bat (Zan a b) (0,0) K).met.length:=hj;have hz:j<((bat (Zan a b) (0,0) K).met.zip (bat (Zan a b) (0,0) K).words).length:=by rw[List.length_zip,C];omega
 have h1:=h _ (List.getElem_mem hz);rw[List.getElem_zip] at h1;have h2:Zba (fun x y=>x && !y) a b (metP a b K)[j]=false:=by simpa using h1
 unfold Zba at h2;unfold den at hx ⊢;rw[hx] at h2;simpa using h2
theorem Zpn {a b:DfaD} (ha:Zac a.next a.ends=true) (hb:Zac b.next b.ends=true) (h:(feO a b).isSome=false) {w:List Nat} (B:isW w) (hx:accD a w=true):accD b w=true:=by
 unfold feO at h;rw[if_pos (by rw[ha,hb];rfl)] at h
 have h1:hitE Zhq a b=none:=by
  cases hh:hitX a b with
  | none=>exact hh
  | some l=>rw[hh] at h;cases h
 exact Zo5 h1 _ (ZoE (Zln ha hb ZqA) w B (0,0) (ZoF a b Zhq)) hx
theorem Znd {K:Nat} {a b:DfaD} {w:List Nat} (h:hitK K a b=some w):w.length≤K:=by have B:=(ZaG (nx:=Zan a b) (a:=((0,0):Int × Int)) K).2.1;obtain⟨i,hi,C,-⟩:=ZdP (d:=((0,0):Int × Int)) B h;rw[← C];exact Zew (nx:=Zan a b) (a:=((0,0):Int × Int)) K _ (memD (by omega))
theorem Zo4 {a b:DfaD} {w:List Nat} (h:hitP a b=some w):w.length≤1600:=Nat.le_trans (Znd h) (Nat.le_refl _)
theorem Zre {A:DfaD} {f:Bool} (h:f=true):cmpR A A f=(0,{ data:=#[] }):=by
 subst h;unfold cmpR;rw[if_pos rfl];cases hh:hitP A A with
 | none=>rfl
 | some l=>exact absurd rfl (Zjy hh).2
theorem ZlH {A B:DfaD} {f:Bool} (h:f=false):cmpR A B f=(4,{ data:=#[] }):=by subst h;rfl
theorem Zr9 {A B:DfaD} (ha:Zac A.next A.ends=true) (hb:Zac B.next B.ends=true):(cmpR A B true=(0,{ data:=#[] })∧cmpR B A true=(0,{ data:=#[] }))∨∃ (l:List Nat) (n m:Int) (x y:Bool),isW l∧l.length≤1600∧cmpR A B true=(n,wdB l)∧cmpR B A true=(m,wdB l)∧accD A l=x∧accD B l=y ∧
  ((n=1∧m=2∧x=false∧y=true)∨(n=2∧m=1∧x=true∧y=false)∨(n=3∧m=3∧x=false∧y=true)∨(n=3∧m=3∧x=true∧y=false)):=by
 have E:hitP B A=hitP A B:=Zq1 _ _ _;unfold cmpR;rw[if_pos rfl,if_pos rfl,E];cases hh:hitP A B with
 | none=>exact .inl ⟨rfl,rfl⟩
 | some l =>
  obtain⟨D,C⟩:=Zjy hh;have hl:=Zo4 hh;have h1:=fun h=>Zpn ha hb (h:(feO A B).isSome=false) D
  have h2:=fun h=>Zpn hb ha (h:(feO B A).isSome=false) D
  refine .inr ⟨l,_,_,_,_,D,hl,rfl,rfl,rfl,rfl,?_⟩;cases e1:(feO A B).isSome<;>cases e2:(feO B A).isSome<;>cases e3:accD A l<;>cases e4:accD B l<;>simp[e1,e2,e3,e4] at C h1 h2 ⊢
theorem Zp2 {l:List Nat} (B:isW l):wdB l=txB (l.map (·+97))∧isT (l.map (·+97))∧lets (l.map (·+97))=l:=by
 refine⟨?_,fun b hb => ?_,?_⟩
 ·unfold wdB txB;congr 2;rw[List.map_map]
  exact List.map_congr_left fun x hx=>by
   have:=B x hx;obtain rfl|rfl|rfl:x=0∨x=1∨x=2:=by omega
   all_goals rfl
 ·obtain⟨c,hc,rfl⟩:=List.mem_map.1 hb;have:=B c hc;show c+97<256;omega
 unfold lets;rw[List.map_map]
 conv=>rhs;rw[← List.map_id l]
 exact List.map_congr_left fun x _=>by simp
theorem Zny {l:List Nat} (D:isW l) (h8:l.length≤8):wdOk (l.map (·+97))=true:=by
 unfold wdOk okT;simp only[Bool.and_eq_true,List.all_eq_true,List.mem_range,decide_eq_true_eq];refine⟨fun i hi => ?_,by rw[List.length_map];exact h8⟩;have B:i<l.length:=by rw[List.length_map] at hi;exact hi
 have h2:=D _ (List.getElem_mem B);obtain⟨c,hc⟩:=eJ ((l.map (·+97)).getD i 0);have C:c=l[i]+97:=by rw[← hc,List.getD_eq_getElem?_getD,List.getElem?_eq_getElem hi,List.getElem_map];rfl
 rw[hc];unfold inB;simp only[Bool.and_eq_true,decide_eq_true_eq];omega
def PtH (E:Ent) (v:Value) (es:List (Int × Int)):Prop:=∀ w,E.holds w→(∀ k,E.foot k→k<w.heap.size)→Pairs 0 w v es
theorem PtH.r {w0 w:World} {L:List Ent} {E:Ent} {v:Value} {es:List (Int × Int)} (h:PtH E v es) (hS:St w0 w L) (i:Nat) (hx:L[i]? = some E):Pairs 0 w v es :=
 h w (hS.has i _ hx).1 fun k hk=>((hS.has i _ hx).2 k hk).2
theorem Zoc (a:Option Addr) (c:Nat) (es:List (Int × Int)):PtH (Zbw a c es) (.slice a es.length c) es:=fun w h _=>((Zab h).sl (by omega)).mono (Nat.zero_le _)
end Go.Proofs.YtncekbbhgipdlaaGreat
