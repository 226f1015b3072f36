/-
  Runs of a numbered automaton, plain: it accepts what the numbered things accept.
  No condition: this text speaks of no program.
-/
import Derived.Test.YtfanhfcamblghaaPq26Prl
import Derived.Test.YtfanhfcamblghaaPq33Me
import Derived.Test.YtfanhfcamblghaaPq36Qs
import Derived.Test.YtfanhfcamblghaaPq37L16
set_option maxHeartbeats 16000000
set_option maxRecDepth 100000
namespace Go.Proofs.Ytfanhfcamblghaa
open Go.RowKit
section
variable {α:Type} [DecidableEq α] {nx:α→Nat→α} {a:α} {en:α→Bool} {K:Nat}
theorem Zja {F:List α} {x:α} (h:x∈F) (d:α):F.getD (Zat F x) d=x:=by have h1:=Zcc h;rw[ZcB h1];exact List.getElem_idxOf h1
theorem Zj1 (hK:(bat nx a K).met.length≤K):∀ (w:List Nat),isW w→∀ x∈(bat nx a K).met,w.foldl nx x∈(bat nx a K).met∧runD (ZaM nx en (bat nx a K).met) (Zat (bat nx a K).met x:Nat) w=(Zat (bat nx a K).met (w.foldl nx x):Nat)
 | [],_,x,hx=>⟨hx,rfl⟩
 | c::w,hw,x,hx=>by have hc:c<3:=hw c (by simp);have hx2:=Zgi hK hx hc;have h1:=Zcc hx;obtain⟨h2,h3⟩:=Zj1 hK w (fun b hb=>hw b (by simp[hb])) (nx x c) hx2;refine⟨h2,?_⟩;unfold runD at *;rw[List.foldl_cons,List.foldl_cons,← h3,Znt (a:=a) (by omega) (by omega) hc];unfold Zh0;rw[Int.toNat_natCast,Zja hx]
theorem Zmy (hK:(bat nx a K).met.length≤K) {w:List Nat} (hw:isW w):accD (ZaM nx en (bat nx a K).met) w=en (w.foldl nx a):=by
 have h0:=ZgX (nx:=nx) (a:=a) K;obtain⟨h1,h2⟩:=Zj1 (en:=en) hK w hw a h0;have h3:Zat (bat nx a K).met a=0:=by have hp:=ZgW (nx:=nx) (a:=a) K;have hf:=ZhE (nx:=nx) (a:=a) K;have hn:=(Zb3 (nx:=nx) (a:=a) K).1;rw[ZcB hp] at hf;have:=List.Nodup.idxOf_getElem hn 0 hp;rw[hf] at this;exact this
 rw[h3] at h2;unfold accD;rw[show((0:Nat):Int)=0 from rfl] at h2;rw[h2,Znw (Zcc h1)];congr 1;exact List.getElem_idxOf _
end
theorem ZeG (d:DfaD) (s:Int):runD d s []=s:=rfl
theorem Zca (d:DfaD) (s:Int) (c:Nat) (w:List Nat):runD d s (c::w)=runD d (dnx d s c) w:=rfl
theorem ZlW {c:Nat} {w:List Nat} (h:isW (c::w)):c<3∧isW w:=⟨h c (by simp),fun b hb=>h b (by simp[hb])⟩
theorem ZkM:isW []:=fun c hc=>by simp at hc
theorem ZmC {c:Nat} {w:List Nat} (hc:c<3) (h:isW w):isW (c::w):=fun b hb=>by
 rcases List.mem_cons.1 hb with rfl|hb
 ·exact hc
 exact h b hb
theorem Zdp {d:DfaD} (hd:fine d) {s c:Nat} (hs:s<d.next.length) (hc:c<3):nxD d s c<d.next.length∧dnx d (s:Int) c=((nxD d s c:Nat):Int):=Zen hd hs hc
theorem ZgS (d:DfaD) (s:Nat):den d (s:Int)=enD d s:=by simp[den,enD]
theorem ZmJ {d:DfaD} (hd:fine d):∀ (w:List Nat) {s t:Nat},isW w→s<d.next.length→t<d.next.length→clD d s=clD d t→den d (runD d (s:Int) w)=den d (runD d (t:Int) w)
 | [],s,t,_,hs,ht,h=>by rw[ZeG,ZeG,ZgS,ZgS];exact Zjy hs ht h
 | c::w,s,t,hw,hs,ht,h=>by obtain⟨h1,h2⟩:=ZlW hw;obtain⟨h3,h4⟩:=Zdp hd hs h1;obtain⟨h5,h6⟩:=Zdp hd ht h1;rw[Zca,Zca,h4,h6];exact ZmJ hd w h2 h3 h5 (Zmt (fun s c hs hc=>(Zdp hd hs hc).1) hs ht h c h1)
theorem Zgv {d:DfaD} (hd:fine d):∀ (i:Nat) {s t:Nat},s<d.next.length→t<d.next.length→(∀ w,isW w→den d (runD d (s:Int) w)=den d (runD d (t:Int) w))→clAt d.next.length (nxD d) (enD d) i s=clAt d.next.length (nxD d) (enD d) i t
 | 0,s,t,hs,ht,h=>by
  refine(Zlc hs ht).2 ?_;have:=h [] ZkM
  rwa [ZeG,ZeG,ZgS,ZgS] at this
 | i+1,s,t,hs,ht,h=>by
  refine(Zdy hs ht).2 ((ZaG _).2 ⟨Zgv hd i hs ht h,fun c hc => ?_⟩);obtain⟨h3,h4⟩:=Zdp hd hs hc;obtain⟨h5,h6⟩:=Zdp hd ht hc;refine Zgv hd i h3 h5 fun w hw => ?_
  have:=h (c::w) (ZmC hc hw)
  rwa [Zca,Zca,h4,h6] at this
theorem ZmA {d:DfaD} (hd:fine d) {s t:Nat} (hs:s<d.next.length) (ht:t<d.next.length) (h:∀ w,isW w→den d (runD d (s:Int) w)=den d (runD d (t:Int) w)):clD d s=clD d t:=Zgv hd _ hs ht h
theorem ZfG {d:DfaD} {s:Nat} (hs:s<d.next.length):clD d s<d.next.length:=by have:=(ZcK (d:=d) s hs).1;omega
theorem ZgT {d:DfaD} (hd:fine d) {s:Nat} (hs:s<d.next.length) {w:List Nat} (hw:isW w):den d (runD d ((clD d s:Nat):Int) w)=den d (runD d (s:Int) w) :=
 ZmJ hd w hw (ZfG hs) hs (ZcK s hs).2
theorem Zjf {d:DfaD} (hf:fine d) (K:Nat):(∀ x∈(bat (nxM d) ((clD d 0:Nat):Int) K).met,∃ s:Nat,x=(s:Int)∧s<d.next.length∧clD d s=s)∧(bat (nxM d) ((clD d 0:Nat):Int) K).met.length≤d.next.length:=by
 have hl:1≤d.next.length:=hf.1
 have h1:∀ x∈(bat (nxM d) ((clD d 0:Nat):Int) K).met,∃ s:Nat,x=(s:Int)∧s<d.next.length∧clD d s=s:=by
  refine Zds (Q:=fun x=>∃ s:Nat,x=(s:Int)∧s<d.next.length∧clD d s=s) ?_ (fun x c hc hx => ?_) K
  ·exact⟨clD d 0,rfl,ZfG (by omega),(ZcK 0 (by omega)).2⟩
  obtain⟨s,rfl,hs,-⟩:=hx;have h2:=(Zen hf hs hc).1;exact⟨clD d (nxD d s c),by simp[nxM],ZfG h2,(ZcK _ h2).2⟩
 refine⟨h1,?_⟩;have h2:=ZgF (Zb3 (nx:=nxM d) (a:=((clD d 0:Nat):Int)) K).1 (m:=ZeW d.next.length) (fun x hx=>by obtain⟨s,rfl,hs,-⟩:=h1 x hx;rw[Zd9];exact hs);rw[ZdZ] at h2;exact h2
theorem Zkx {d:DfaD} (hd:fine d) {K:Nat} (hK:d.next.length≤K):minD d=ZaM (nxM d) (den d) (bat (nxM d) ((clD d 0:Nat):Int) K).met:=by unfold minD;rw[ZeR (Zjf hd _).2 hK]
theorem Zkw {x y:DfaD} (hx:fine x) (hy:fine y) (h:∀ w,isW w→accD x w=accD y w):minD x=minD y:=by
 obtain⟨K,hK⟩:=eI (x.next.length+y.next.length);rw[Zkx hx (show x.next.length≤K by omega),Zkx hy (show y.next.length≤K by omega)];have lx:0<x.next.length:=hx.1;have ly:0<y.next.length:=hy.1
 let nq:Int × Int→Nat→Int × Int:=fun p c=>(nxM x p.1 c,nxM y p.2 c)
 let Q:Int × Int→Prop:=fun p=>∃ s t:Nat,p=((s:Int),(t:Int))∧s<x.next.length∧t<y.next.length∧clD x s=s∧clD y t=t∧∀ w,isW w→den x (runD x (s:Int) w)=den y (runD y (t:Int) w)
 let a:Int × Int:=(((clD x 0:Nat):Int),((clD y 0:Nat):Int))
 have h0:Q a:=⟨clD x 0,clD y 0,rfl,ZfG lx,ZfG ly,(ZcK 0 lx).2,(ZcK 0 ly).2,fun w hw=>by rw[ZgT hx lx hw,ZgT hy ly hw];exact h w hw⟩
 have hv:∀ p c,c<3→Q p→Q (nq p c):=by
  rintro p c hc ⟨s,t,rfl,hs,ht,-,-,hr⟩;obtain⟨h3,h4⟩:=Zdp hx hs hc;obtain⟨h5,h6⟩:=Zdp hy ht hc;refine⟨clD x (nxD x s c),clD y (nxD y t c),by simp[nq,nxM],ZfG h3,ZfG h5,(ZcK _ h3).2,(ZcK _ h5).2,fun w hw => ?_⟩;rw[ZgT hx h3 hw,ZgT hy h5 hw];have:=hr (c::w) (ZmC hc hw)
  rwa [Zca,Zca,h4,h6] at this
 have f1:∀ p q,Q p→Q q→p.1=q.1→p=q:=by
  rintro p q ⟨s,t,rfl,hs,ht,-,e1,r1⟩ ⟨s',t',rfl,hs',ht',-,e2,r2⟩ he;simp only[Int.ofNat_inj] at he;subst he;have:=ZmA hy ht ht' fun w hw=>(r1 w hw).symm.trans (r2 w hw)
  rw[e1,e2] at this;rw[this]
 have f2:∀ p q,Q p→Q q→p.2=q.2→p=q:=by
  rintro p q ⟨s,t,rfl,hs,ht,e1,-,r1⟩ ⟨s',t',rfl,hs',ht',e2,-,r2⟩ he;simp only[Int.ofNat_inj] at he;subst he;have:=ZmA hx hs hs' fun w hw=>(r1 w hw).trans (r2 w hw).symm
  rw[e1,e2] at this;rw[this]
 have m1:=Zfj (nx:=nq) (nx':=nxM x) (a:=a) (f:=Prod.fst) (Q:=Q) (en:=fun p=>den x p.1) (en':=den x) (K:=K) h0 hv f1 (fun _ _ _ _=>rfl) (fun _ _=>rfl);have m2:=Zfj (nx:=nq) (nx':=nxM y) (a:=a) (f:=Prod.snd) (Q:=Q) (en:=fun p=>den x p.1) (en':=den y) (K:=K) h0 hv f2 (fun _ _ _ _=>rfl) (fun p hp=>by obtain⟨s,t,rfl,-,-,-,-,r⟩:=hp;exact(r [] ZkM).symm);exact m1.trans m2.symm
def vl (w:List Nat):Nat:=w.foldl (fun n c=>3*n+c+1) 0
section
variable {α:Type} [DecidableEq α] {nx:α→Nat→α} {a:α}
structure BI (s:Bs α) (B:Nat):Prop where
 len:s.words.length=s.met.length
 inc:∀ i j,i<j→j<s.met.length→vl (s.words.getD i [])<vl (s.words.getD j [])
 bnd:∀ j,j<s.met.length→vl (s.words.getD j [])≤B
omit [DecidableEq α] in
theorem BI.up {s:Bs α} {B B':Nat} (h:BI s B) (hB:B≤B'):BI s B':=⟨h.len,h.inc,fun j hj=>Nat.le_trans (h.bnd j hj) hB⟩
end
end Go.Proofs.Ytfanhfcamblghaa
namespace Go.Proofs.Ytfanhfcamblghaa
open Go.RowKit
theorem Zic {K:Nat} {n:NfaD} {D:DfaD} (h:detK K n=some D):Zaq n=true∧(metS n K).length≤K∧D=ZaM (nxS n) (enS n) (metS n K):=by
 unfold detK at h
 split at h
 ·rename_i h1;exact⟨h1.1,h1.2,(Option.some.inj h).symm⟩
 cases h
theorem Zho {n:NfaD}:∀ (w:List Nat) (v:Nat),w.foldl (nxS n) (((v:Nat):Int),0)=(((w.foldl (fun v (c:Nat)=>stV 40 n.moves v (c:Int)) v:Nat):Int),0)
 | [],_=>rfl
 | c::w,v=>by rw[List.foldl_cons,List.foldl_cons,← Zho w];rfl
theorem ZiO {K:Nat} {n:NfaD} {D:DfaD} (h:detK K n=some D) {w:List Nat} (hw:isW w):accD D w=accS n w:=by obtain⟨-,h2,rfl⟩:=Zic h;rw[Zmy h2 hw,Zho];rfl
end Go.Proofs.Ytfanhfcamblghaa
namespace Go.Proofs.Ytfanhfcamblghaa
open Go.RowKit
-- ways through an automaton of any size
def accP (n:NfaD) (w:List Nat):Prop:=∃ f∈n.firsts,∃ e∈n.ends,Pth n.moves f w e
theorem Pth.starred {p:NfaD} {a:Nat} (ha:p.states=(a:Int)) (hpm:mvIn a p.moves) (hpf:inN a p.firsts) (hpe:inN a p.ends) {s t:Int} {x:List Nat} (h:Pth (ZbO p).moves s x t) (ht:t=p.states) :
  (s=p.states→StarL (accP p) x)∧(s<p.states→∃ u v,x=u++v∧(∃ e∈p.ends,Pth p.moves s u e)∧StarL (accP p) v):=by
 have hmem:∀ m∈(ZbO p).moves,m∈p.moves∨(∃ f∈p.firsts,m=(p.states,-1,f))∨∃ e∈p.ends,m=(e,-1,p.states):=fun m hm=>by
  simp only[ZbO,List.mem_append,List.mem_map] at hm;rcases hm with(hm|⟨f,hf,rfl⟩)|⟨e,he,rfl⟩
  ·exact .inl hm
  ·exact .inr (.inl ⟨f,hf,rfl⟩)
  exact .inr (.inr ⟨e,he,rfl⟩)
 induction h with
 | here s=>exact⟨fun _ => .nil,fun h=>by omega⟩
 | @eps s' t' u w hm _ ih =>
  obtain⟨i1,i2⟩:=ih ht;rcases hmem _ hm with hm|⟨f,hf,e⟩|⟨e,he,e'⟩
  ·have h1:=hpm _ hm;simp only at h1;refine⟨fun h=>by omega,fun _ => ?_⟩;obtain⟨x,y,rfl,⟨e,he,h2⟩,h3⟩:=i2 (by omega);exact⟨x,y,rfl,⟨e,he,.eps hm h2⟩,h3⟩
  ·simp only[Prod.mk.injEq] at e;obtain⟨rfl,-,rfl⟩:=e;have h1:=hpf _ hf;refine⟨fun _ => ?_,fun h=>by omega⟩;obtain⟨x,y,rfl,⟨e,he,h2⟩,h3⟩:=i2 (by omega);exact .cons ⟨_,hf,e,he,h2⟩ h3
  simp only[Prod.mk.injEq] at e';obtain⟨rfl,-,rfl⟩:=e';have h1:=hpe _ he;exact⟨fun h=>by omega,fun _=>⟨[],w,rfl,⟨_,he,.here _⟩,i1 rfl⟩⟩
 | @step s' t' u c w hm _ ih =>
  obtain⟨i1,i2⟩:=ih ht;rcases hmem _ hm with hm|⟨f,hf,e⟩|⟨e,he,e'⟩
  ·have h1:=hpm _ hm;simp only at h1;refine⟨fun h=>by omega,fun _ => ?_⟩;obtain⟨x,y,rfl,⟨e,he,h2⟩,h3⟩:=i2 (by omega);exact⟨c::x,y,rfl,⟨e,he,.step hm h2⟩,h3⟩
  ·simp only[Prod.mk.injEq] at e;omega
  simp only[Prod.mk.injEq] at e';omega
theorem ZjP {p:NfaD} {a:Nat} (ha:p.states=(a:Int)) (hpm:mvIn a p.moves) (hpf:inN a p.firsts) (hpe:inN a p.ends) (x:List Nat):accP (ZbO p) x↔StarL (accP p) x:=by
 constructor
 ·rintro⟨f,hf,e,he,h⟩;simp only[ZbO,List.mem_singleton] at hf he;subst hf he;exact(h.starred ha hpm hpf hpe rfl).1 rfl
 rintro⟨ws,rfl,hw⟩;refine⟨p.states,by simp[ZbO],p.states,by simp[ZbO],?_⟩
 induction ws with
 | nil=>exact .here _
 | cons u ws ih =>
  rw[List.flatten_cons];refine Pth.append ?_ (ih fun x hx=>hw x (List.mem_cons_of_mem _ hx));obtain⟨f,hf,e,he,h⟩:=hw u (by simp);have h1:Pth (ZbO p).moves f u e:=h.mono fun m hm=>by simp[ZbO,hm]
  have h2:Pth (ZbO p).moves p.states [] f:=.eps (by simp[ZbO,hf]) (.here _);have h3:Pth (ZbO p).moves e [] p.states:=.eps (by simp only[ZbO,List.mem_append,List.mem_map];exact .inr ⟨e,he,rfl⟩) (.here _);have h4:=(h2.append h1).append h3
  rwa [List.nil_append,List.append_nil] at h4
theorem ZkK {p q:NfaD} {a b:Nat} (ha:p.states=(a:Int)) (hpm:mvIn a p.moves) (hqm:mvIn b q.moves) (hpf:inN a p.firsts) (hpe:inN a p.ends) (hqf:inN b q.firsts) (hqe:inN b q.ends) (x:List Nat):accP (Zb5 p q) x↔∃ u v,x=u++v∧accP p u∧accP q v:=by
 constructor
 ·rintro⟨f,hf,e,he,hw⟩;obtain⟨y,hy,rfl⟩:=List.mem_map.1 (show e∈q.ends.map (·+p.states) from he);have h1:=hpf f hf;have h2:=hqe y hy;obtain⟨k,hk,g,hg,z,hz,h3,h4⟩:=(hw.cross ha hpm hqm hpe hqf (by omega)).1 (by omega);rw[show y+p.states-p.states=y by omega] at h4;exact⟨x.take k,x.drop k,(List.take_append_drop k x).symm,⟨f,hf,g,hg,h3⟩,⟨z,hz,y,hy,h4⟩⟩
 rintro⟨u,v,rfl,⟨f,hf,e,he,h3⟩,⟨g,hg,d,hd,h4⟩⟩;refine⟨f,hf,d+p.states,List.mem_map.2 ⟨d,hd,rfl⟩,?_⟩;have h5:Pth (Zb5 p q).moves f u e:=h3.mono fun m hm=>by simp only[Zb5,List.mem_append];exact .inl (.inl hm)
 have h6:Pth (Zb5 p q).moves (g+p.states) v (d+p.states):=(h4.up p.states).mono fun m hm=>by simp only[Zb5,List.mem_append];exact .inl (.inr hm)
 have h7:Pth (Zb5 p q).moves e [] (g+p.states):=.eps (by simp only[Zb5,List.mem_append,List.mem_flatMap,List.mem_map];exact .inr ⟨e,he,g+p.states,List.mem_map.2 ⟨g,hg,rfl⟩,rfl⟩) (.here _);have h8:=(h5.append h7).append h6
 rwa [List.append_nil] at h8
theorem ZiF {u v:List Nat} (h:isW (u++v)):isW u:=fun c hc=>h c (by simp[hc])
theorem Zhk {u v:List Nat} (h:isW (u++v)):isW v:=fun c hc=>h c (by simp[hc])
theorem ZiG {ws:List (List Nat)} (h:isW ws.flatten):∀ u∈ws,isW u:=fun u hu c hc=>h c (List.mem_flatten.2 ⟨u,hu,hc⟩)
theorem StarL.congr {L M:List Nat→Prop} (h:∀ u,isW u→(L u↔M u)) {w:List Nat} (hw:isW w):StarL L w↔StarL M w:=by
 constructor
 ·rintro⟨ws,rfl,hs⟩;exact⟨ws,rfl,fun u hu=>(h u (ZiG hw u hu)).1 (hs u hu)⟩
 rintro⟨ws,rfl,hs⟩;exact⟨ws,rfl,fun u hu=>(h u (ZiG hw u hu)).2 (hs u hu)⟩
theorem ZgR (p q:NfaD) (v1 v2 v3 u1 u2 u3:Value) (w:World) (hp:Zaq p=true) (hq:Zaq q=true) (h1:Moves 0 w v1 p.moves) (h2:Ints 0 w v2 p.firsts) (h3:Ints 0 w v3 p.ends) (g1:Moves 0 w u1 q.moves) (g2:Ints 0 w u2 q.firsts) (g3:Ints 0 w u3 q.ends) :
  Calls Try.prog 104 #[.agg #[.int .i64 p.states,v1,v2,v3],.agg #[.int .i64 q.states,u1,u2,u3]] w fun e w'=>RNfaS (ZdP p q) w e w':=by
 obtain⟨S,hSp,hS40,hpm,hpl,hpf,hpfl,hpe,hpel⟩:=Zao hp;obtain⟨Q,hQq,hQ40,hqm,hql,hqf,hqfl,hqe,hqel⟩:=Zao hq;have hsm:=fun (u:World) (hu:Below w.heap.size w u)=>ZcF p q S v1 v2 v3 u1 u2 u3 u hSp hS40 (by omega) (by omega) (Zd8 hqm hQ40) (h1.below hu) (g1.below hu)
 have hsf:=fun (u:World) (hu:Below w.heap.size w u)=>Zdi q.firsts u2 (S:Int) u (by omega) (fun x hx=>by have:=hqf x hx;omega) (by omega) (g2.below hu)
 have hcf:=fun (u:World) (b:Nat) (va vb:Value) (hb:b<u.heap.size) (k0:u.cell? ⟨b,0,none⟩=some va) (k1:u.cell? ⟨b,1,none⟩=some vb) (hx:Ints 0 u va p.firsts) (hy:u.ownsRow w.heap.size 3 1 vb (q.firsts.map (·+(S:Int))).length (intCells (q.firsts.map (·+(S:Int)))))=>Zco p.firsts (q.firsts.map (·+(S:Int))) va vb b 2 u (by omega) (by rw[List.length_map];omega) hb k0 k1 hx (Zah hy)
 have hce:=fun (u:World) (b:Nat) (va vb:Value) (hb:b<u.heap.size) (k0:u.cell? ⟨b,0,none⟩=some va) (k1:u.cell? ⟨b,1,none⟩=some vb) (hx:Ints 0 u va p.ends) (hy:u.ownsRow w.heap.size 3 1 vb (q.ends.map (·+(S:Int))).length (intCells (q.ends.map (·+(S:Int)))))=>Zco p.ends (q.ends.map (·+(S:Int))) va vb b 2 u (by omega) (by rw[List.length_map];omega) hb k0 k1 hx (Zah hy)
 simp only[List.length_map] at hcf hce;have H2:=qh h2;have H3:=qh h3;have hse:=fun (u:World) (hu:Below w.heap.size w u)=>Zdi q.ends u3 (S:Int) u (by omega) (fun x hx=>by have:=hqe x hx;omega) (by omega) (g3.below hu)
 obtain⟨pa1,pc1,rfl,-,-,-⟩:=h1.form;obtain⟨pa2,pc2,rfl,-,-,-⟩:=h2.form;obtain⟨pa3,pc3,rfl,-,-,-⟩:=h3.form;obtain⟨qa1,qc1,rfl,-,-,-⟩:=g1.form;obtain⟨qa2,qc2,rfl,-,-,-⟩:=g2.form;obtain⟨qa3,qc3,rfl,-,-,-⟩:=g3.form;obtain⟨L1,hL1⟩:∃ L,L=p.moves.length:=⟨_,rfl⟩;obtain⟨F1,hF1⟩:∃ L,L=p.firsts.length:=⟨_,rfl⟩;obtain⟨E1,hE1⟩:∃ L,L=p.ends.length:=⟨_,rfl⟩;obtain⟨L2,hL2⟩:∃ L,L=q.moves.length:=⟨_,rfl⟩;obtain⟨F2,hF2⟩:∃ L,L=q.firsts.length:=⟨_,rfl⟩;obtain⟨E2,hE2⟩:∃ L,L=q.ends.length:=⟨_,rfl⟩;have hS0:=(((St.start w).alloc _ rfl #[.int .i64 p.states,.slice pa1 p.moves.length pc1,.slice pa2 p.firsts.length pc2,.slice pa3 p.ends.length pc3] 28).alloc (w.heap.size+1) (by simp) #[.int .i64 q.states,.slice qa1 q.moves.length qc1,.slice qa2 q.firsts.length qc2,.slice qa3 q.ends.length qc3] 28).alloc (w.heap.size+1+1) (by simp) #[.int .i64 0,.slice none 0 0,.slice none 0 0,.slice none 0 0] 28;rw[hSp,hQq,← hL1,← hF1,← hE1,← hL2,← hF2,← hE2] at hS0;rw[hSp,hQq,← hL1,← hF1,← hE1,← hL2,← hF2,← hE2];rw[hSp,hQq,← hL1,← hF1,← hE1,← hL2,← hF2,← hE2] at hsm;rw[← hL1] at hpl;rw[← hF1] at hpfl H2;rw[← hE1] at hpel H3;rw[← hL2] at hql;rw[← hF2] at hqfl hsf;rw[← hE2] at hqel hse;rw[← hF1,← hF2] at hcf;rw[← hE1,← hE2] at hce;have hS1:=hS0.call (Below.refl _ _)
 have HS0:Hid (St w _ [Ent.box w.heap.size #[.int .i64 (S:Int),.slice pa1 L1 pc1,.slice pa2 F1 pc2,.slice pa3 E1 pc3] 28,Ent.box (w.heap.size+1) #[.int .i64 (Q:Int),.slice qa1 L2 qc1,.slice qa2 F2 qc2,.slice qa3 E2 qc3] 28,Ent.box (w.heap.size+1+1) #[.int .i64 0,.slice none 0 0,.slice none 0 0,.slice none 0 0] 28,Ent.nil,Ent.nil,Ent.nil,Ent.nil,Ent.nil,Ent.nil,Ent.nil]):=qh (hS1.pick [0,1,2,3,4,5,6,7,8,9] (by decide));have Hsm:=qh hsm;have Hcf:=qh hcf;have Hse:=qh hse;have Hsf:=qh hsf;have Hce:=qh hce;replace hL1:=qh hL1;replace hF1:=qh hF1;replace hE1:=qh hE1;have HhL2:=qh hL2;clear hL2;have HhF2:=qh hF2;clear hF2;have HhE2:=qh hE2;clear hE2;have HhSp:=qh hSp;clear hSp;have HhQq:=qh hQq;clear hQq;clear h1 h2 h3 g1 g2 g3 hsm hcf hse hsf hce hS0 hS1 hpm hpf hpe hqm hqe hqf hp hq
 go_enter Try.func104, Try.ntmps104
 go_wp2_with fail;refine wp_region_any (by kernel_rfl) ?_
 refine Zaf (fun A listed a w'=>∃ (l0 l1 l2 l3 l4 l5 l6 l7 l8 l9 l10 l11 l12 l13 l14 l15 l16 l17 l18 l19 l20 l21 l22 l23 l24 l25 l26 l27:Bool) (am:Option Addr) (cm:Nat) (ag:Option Addr) (cg:Nat) (af:Option Addr) (cf:Nat) (ah:Option Addr) (ch:Nat) (ae:Option Addr) (ce:Nat) (b1:Nat) (b2:Nat),listed=#[l0,l1,l2,l3,l4,l5,l6,l7,l8,l9,l10,l11,l12,l13,l14,l15,l16,l17,l18,l19,l20,l21,l22,l23,l24,l25,l26,l27]∧(l15=true→l9=true∧l14=true)∧(l16=true→l15=true∧l14=true)∧(l24=true→l18=true∧l23=true)∧(l25=true→l24=true∧l23=true)∧(l26=true→l4=true∧l7=true∧l16=true∧l25=true)∧(l27=true→l26=true∧l25=true) ∧
   a=⟨(((((((((((((((((((((((((((A.tmps.setIfInBounds 5 (if l0=true then .pointer (some ⟨w.heap.size,0,none⟩) else A.tmps.getD 5 undef)).setIfInBounds 6 (if l1=true then .int .i64 (S:Int) else A.tmps.getD 6 undef)).setIfInBounds 7 (if l2=true then .pointer (some ⟨w.heap.size+1,0,none⟩) else A.tmps.getD 7 undef)).setIfInBounds 8 (if l3=true then .int .i64 (Q:Int) else A.tmps.getD 8 undef)).setIfInBounds 9 (if l4=true then .int .i64 ((S:Int)+(Q:Int)) else A.tmps.getD 9 undef)).setIfInBounds 10 (if l5=true then .agg #[.int .i64 (S:Int),.slice pa1 L1 pc1,.slice pa2 F1 pc2,.slice pa3 E1 pc3] else A.tmps.getD 10 undef)).setIfInBounds 11 (if l6=true then .agg #[.int .i64 (Q:Int),.slice qa1 L2 qc1,.slice qa2 F2 qc2,.slice qa3 E2 qc3] else A.tmps.getD 11 undef)).setIfInBounds 12 (if l7=true then .slice am (L1+L2) cm else A.tmps.getD 12 undef)).setIfInBounds 13 (if l8=true then .pointer (some ⟨w.heap.size,2,none⟩) else A.tmps.getD 13 undef)).setIfInBounds 14 (if l9=true then .slice pa2 F1 pc2 else A.tmps.getD 14 undef)).setIfInBounds 15 (if l10=true then .pointer (some ⟨w.heap.size+1,2,none⟩) else A.tmps.getD 15 undef)).setIfInBounds 16 (if l11=true then .slice qa2 F2 qc2 else A.tmps.getD 16 undef)).setIfInBounds 17 (if l12=true then .pointer (some ⟨w.heap.size,0,none⟩) else A.tmps.getD 17 undef)).setIfInBounds 18 (if l13=true then .int .i64 (S:Int) else A.tmps.getD 18 undef)).setIfInBounds 19 (if l14=true then .slice ag F2 cg else A.tmps.getD 19 undef)).setIfInBounds 20 (if l15=true then .slice (some ⟨b1,0,none⟩) 2 2 else A.tmps.getD 20 undef)).setIfInBounds 21 (if l16=true then .slice af (F1+F2) cf else A.tmps.getD 21 undef)).setIfInBounds 22 (if l17=true then .pointer (some ⟨w.heap.size,3,none⟩) else A.tmps.getD 22 undef)).setIfInBounds 23 (if l18=true then .slice pa3 E1 pc3 else A.tmps.getD 23 undef)).setIfInBounds 24 (if l19=true then .pointer (some ⟨w.heap.size+1,3,none⟩) else A.tmps.getD 24 undef)).setIfInBounds 25 (if l20=true then .slice qa3 E2 qc3 else A.tmps.getD 25 undef)).setIfInBounds 26 (if l21=true then .pointer (some ⟨w.heap.size,0,none⟩) else A.tmps.getD 26 undef)).setIfInBounds 27 (if l22=true then .int .i64 (S:Int) else A.tmps.getD 27 undef)).setIfInBounds 28 (if l23=true then .slice ah E2 ch else A.tmps.getD 28 undef)).setIfInBounds 29 (if l24=true then .slice (some ⟨b2,0,none⟩) 2 2 else A.tmps.getD 29 undef)).setIfInBounds 30 (if l25=true then .slice ae (E1+E2) ce else A.tmps.getD 30 undef)).setIfInBounds 31 (if l26=true then .agg #[.int .i64 ((S:Int)+(Q:Int)),.slice am (L1+L2) cm,.slice af (F1+F2) cf,.slice ae (E1+E2) ce] else A.tmps.getD 31 undef)),A.defers⟩ ∧
   St w w' [Ent.box w.heap.size #[.int .i64 (S:Int),.slice pa1 L1 pc1,.slice pa2 F1 pc2,.slice pa3 E1 pc3] 28,Ent.box (w.heap.size+1) #[.int .i64 (Q:Int),.slice qa1 L2 qc1,.slice qa2 F2 qc2,.slice qa3 E2 qc3] 28,Ent.box (w.heap.size+1+1) #[(if l27=true then .int .i64 ((S:Int)+(Q:Int)) else .int .i64 0),(if l27=true then .slice am (L1+L2) cm else .slice none 0 0),(if l27=true then .slice af (F1+F2) cf else .slice none 0 0),(if l27=true then .slice ae (E1+E2) ce else .slice none 0 0)] 28,(if l7=true then Ent.row 34 3 (.slice am (L1+L2) cm) (L1+L2) ((p.moves++q.moves.map (shM (S:Int))).flatMap Zab) else Ent.nil),(if l14=true then Ent.row 3 1 (.slice ag F2 cg) F2 (intCells (q.firsts.map (·+(S:Int)))) else Ent.nil),(if l15=true then Ent.box b1 #[.slice pa2 F1 pc2,.slice ag F2 cg] 26 else Ent.nil),(if l16=true then Ent.row 3 1 (.slice af (F1+F2) cf) (F1+F2) (intCells (p.firsts++q.firsts.map (·+(S:Int)))) else Ent.nil),(if l23=true then Ent.row 3 1 (.slice ah E2 ch) E2 (intCells (q.ends.map (·+(S:Int)))) else Ent.nil),(if l24=true then Ent.box b2 #[.slice pa3 E1 pc3,.slice ah E2 ch] 26 else Ent.nil),(if l25=true then Ent.row 3 1 (.slice ae (E1+E2) ce) (E1+E2) (intCells (p.ends++q.ends.map (·+(S:Int)))) else Ent.nil)]) ?_ ?_ ?_
 ·rintro listed a w' ⟨l0,l1,l2,l3,l4,l5,l6,l7,l8,l9,l10,l11,l12,l13,l14,l15,l16,l17,l18,l19,l20,l21,l22,l23,l24,l25,l26,l27,am,cm,ag,cg,af,cf,ah,ch,ae,ce,b1,b2,rfl,hd15,hd16,hd24,hd25,hd26,hd27,rfl,hS⟩ i hi;obtain⟨hun,o,ho,hall⟩:=mem_ready.1 hi;have hlt:=(Array.getElem?_eq_some_iff.1 ho).1;refine wpOp_step ho (fun K hK => ?_);clear hi;have HS:=qh hS;clear hS;simp only[List.setIfInBounds_toArray,List.set_cons_zero,List.set_cons_succ,Array.getD_eq_getD_getElem?,List.getElem?_toArray,List.getElem?_cons_zero,List.getElem?_cons_succ,Option.getD_some];obtain h|h|h|h|h|h|h|h|h|h|h|h|h|h|h|h|h|h|h|h|h|h|h|h|h|h|h|h:i=0∨i=1∨i=2∨i=3∨i=4∨i=5∨i=6∨i=7∨i=8∨i=9∨i=10∨i=11∨i=12∨i=13∨i=14∨i=15∨i=16∨i=17∨i=18∨i=19∨i=20∨i=21∨i=22∨i=23∨i=24∨i=25∨i=26∨i=27:=by simp at hlt;omega
  all_goals subst h
  all_goals simp only[List.getElem?_toArray,List.getElem?_cons_zero,List.getElem?_cons_succ,Option.some.injEq] at ho
  all_goals subst ho
  all_goals simp[Region.binds] at hun hall
  ·subst hun;go_simp;exact hK _ _ ⟨true,l1,l2,l3,l4,l5,l6,l7,l8,l9,l10,l11,l12,l13,l14,l15,l16,l17,l18,l19,l20,l21,l22,l23,l24,l25,l26,l27,am,cm,ag,cg,af,cf,ah,ch,ae,ce,b1,b2,rfl,hd15,hd16,hd24,hd25,hd26,hd27,(by simp),HS.out⟩
  ·obtain rfl:=hall;subst hun;have e0:=HS.out.cell (v:=.int .i64 (S:Int)) 0 0 rfl rfl;go_simp;exact hK _ _ ⟨true,true,l2,l3,l4,l5,l6,l7,l8,l9,l10,l11,l12,l13,l14,l15,l16,l17,l18,l19,l20,l21,l22,l23,l24,l25,l26,l27,am,cm,ag,cg,af,cf,ah,ch,ae,ce,b1,b2,rfl,hd15,hd16,hd24,hd25,hd26,hd27,(by simp),HS.out⟩
  ·subst hun;go_simp;exact hK _ _ ⟨l0,l1,true,l3,l4,l5,l6,l7,l8,l9,l10,l11,l12,l13,l14,l15,l16,l17,l18,l19,l20,l21,l22,l23,l24,l25,l26,l27,am,cm,ag,cg,af,cf,ah,ch,ae,ce,b1,b2,rfl,hd15,hd16,hd24,hd25,hd26,hd27,(by simp),HS.out⟩
  ·obtain rfl:=hall;subst hun;have e0:=HS.out.cell (v:=.int .i64 (Q:Int)) 1 0 rfl rfl;go_simp;exact hK _ _ ⟨l0,l1,true,true,l4,l5,l6,l7,l8,l9,l10,l11,l12,l13,l14,l15,l16,l17,l18,l19,l20,l21,l22,l23,l24,l25,l26,l27,am,cm,ag,cg,af,cf,ah,ch,ae,ce,b1,b2,rfl,hd15,hd16,hd24,hd25,hd26,hd27,(by simp),HS.out⟩
  ·obtain⟨rfl,rfl⟩:=hall;subst hun;obtain rfl:l26=false:=by cases l26 with|false=>rfl|true=>simpa using hd26 rfl
   obtain rfl:l27=false:=offL hd27 rfl;have hw:IntKind.i64.wrap ((S:Int)+(Q:Int))=(S:Int)+(Q:Int):=IntWalk.i64_in _ (by omega);go_simp;exact hK _ _ ⟨l0,true,l2,true,true,l5,l6,l7,l8,l9,l10,l11,l12,l13,l14,l15,l16,l17,l18,l19,l20,l21,l22,l23,l24,l25,false,false,am,cm,ag,cg,af,cf,ah,ch,ae,ce,b1,b2,rfl,hd15,hd16,hd24,hd25,by simp,by simp,(by simp),HS.out⟩
  ·subst hun;have e0:=HS.out.cell (v:=.int .i64 (S:Int)) 0 0 rfl rfl;have e1:=HS.out.cell (v:=.slice pa1 L1 pc1) 0 1 rfl rfl;have e2:=HS.out.cell (v:=.slice pa2 F1 pc2) 0 2 rfl rfl;have e3:=HS.out.cell (v:=.slice pa3 E1 pc3) 0 3 rfl rfl;go_simp;exact hK _ _ ⟨l0,l1,l2,l3,l4,true,l6,l7,l8,l9,l10,l11,l12,l13,l14,l15,l16,l17,l18,l19,l20,l21,l22,l23,l24,l25,l26,l27,am,cm,ag,cg,af,cf,ah,ch,ae,ce,b1,b2,rfl,hd15,hd16,hd24,hd25,hd26,hd27,(by simp),HS.out⟩
  ·subst hun;have e0:=HS.out.cell (v:=.int .i64 (Q:Int)) 1 0 rfl rfl;have e1:=HS.out.cell (v:=.slice qa1 L2 qc1) 1 1 rfl rfl;have e2:=HS.out.cell (v:=.slice qa2 F2 qc2) 1 2 rfl rfl;have e3:=HS.out.cell (v:=.slice qa3 E2 qc3) 1 3 rfl rfl;go_simp;exact hK _ _ ⟨l0,l1,l2,l3,l4,l5,true,l7,l8,l9,l10,l11,l12,l13,l14,l15,l16,l17,l18,l19,l20,l21,l22,l23,l24,l25,l26,l27,am,cm,ag,cg,af,cf,ah,ch,ae,ce,b1,b2,rfl,hd15,hd16,hd24,hd25,hd26,hd27,(by simp),HS.out⟩
  ·obtain⟨rfl,rfl⟩:=hall;subst hun;obtain rfl:l26=false:=by cases l26 with|false=>rfl|true=>simpa using hd26 rfl
   obtain rfl:l27=false:=offL hd27 rfl;go_simp
   go_at_call 141
   refine(Hsm.out _ HS.out.bel).mono ?_;rintro e u1 ⟨x1,d1,rfl,hb⟩;have hS2:=(HS.out.cat hb).pick [0,1,2,10,4,5,6,7,8,9] (by decide);have HhS2:=qh hS2;clear hS2;go_simp;exact hK _ _ ⟨l0,l1,l2,l3,l4,true,true,true,l8,l9,l10,l11,l12,l13,l14,l15,l16,l17,l18,l19,l20,l21,l22,l23,l24,l25,false,false,x1,d1,ag,cg,af,cf,ah,ch,ae,ce,b1,b2,rfl,hd15,hd16,hd24,hd25,by simp,by simp,(by simp),HhS2.out⟩
  ·subst hun;go_simp;exact hK _ _ ⟨l0,l1,l2,l3,l4,l5,l6,l7,true,l9,l10,l11,l12,l13,l14,l15,l16,l17,l18,l19,l20,l21,l22,l23,l24,l25,l26,l27,am,cm,ag,cg,af,cf,ah,ch,ae,ce,b1,b2,rfl,hd15,hd16,hd24,hd25,hd26,hd27,(by simp),HS.out⟩
  ·obtain rfl:=hall;subst hun;obtain rfl:l15=false:=offL hd15 rfl;obtain rfl:l16=false:=offL hd16 rfl;obtain rfl:l26=false:=by cases l26 with|false=>rfl|true=>simpa using hd26 rfl
   obtain rfl:l27=false:=offL hd27 rfl;have e0:=HS.out.cell (v:=.slice pa2 F1 pc2) 0 2 rfl rfl;go_simp;exact hK _ _ ⟨l0,l1,l2,l3,l4,l5,l6,l7,true,true,l10,l11,l12,l13,l14,false,false,l17,l18,l19,l20,l21,l22,l23,l24,l25,false,false,am,cm,ag,cg,af,cf,ah,ch,ae,ce,b1,b2,rfl,by simp,by simp,hd24,hd25,by simp,by simp,(by simp),HS.out⟩
  ·subst hun;go_simp;exact hK _ _ ⟨l0,l1,l2,l3,l4,l5,l6,l7,l8,l9,true,l11,l12,l13,l14,l15,l16,l17,l18,l19,l20,l21,l22,l23,l24,l25,l26,l27,am,cm,ag,cg,af,cf,ah,ch,ae,ce,b1,b2,rfl,hd15,hd16,hd24,hd25,hd26,hd27,(by simp),HS.out⟩
  ·obtain rfl:=hall;subst hun;have e0:=HS.out.cell (v:=.slice qa2 F2 qc2) 1 2 rfl rfl;go_simp;exact hK _ _ ⟨l0,l1,l2,l3,l4,l5,l6,l7,l8,l9,true,true,l12,l13,l14,l15,l16,l17,l18,l19,l20,l21,l22,l23,l24,l25,l26,l27,am,cm,ag,cg,af,cf,ah,ch,ae,ce,b1,b2,rfl,hd15,hd16,hd24,hd25,hd26,hd27,(by simp),HS.out⟩
  ·subst hun;go_simp;exact hK _ _ ⟨l0,l1,l2,l3,l4,l5,l6,l7,l8,l9,l10,l11,true,l13,l14,l15,l16,l17,l18,l19,l20,l21,l22,l23,l24,l25,l26,l27,am,cm,ag,cg,af,cf,ah,ch,ae,ce,b1,b2,rfl,hd15,hd16,hd24,hd25,hd26,hd27,(by simp),HS.out⟩
  ·obtain rfl:=hall;subst hun;have e0:=HS.out.cell (v:=.int .i64 (S:Int)) 0 0 rfl rfl;go_simp;exact hK _ _ ⟨l0,l1,l2,l3,l4,l5,l6,l7,l8,l9,l10,l11,true,true,l14,l15,l16,l17,l18,l19,l20,l21,l22,l23,l24,l25,l26,l27,am,cm,ag,cg,af,cf,ah,ch,ae,ce,b1,b2,rfl,hd15,hd16,hd24,hd25,hd26,hd27,(by simp),HS.out⟩
  ·obtain⟨rfl,rfl,rfl⟩:=hall;subst hun;obtain rfl:l15=false:=offR hd15 rfl;obtain rfl:l16=false:=offL hd16 rfl;obtain rfl:l26=false:=by cases l26 with|false=>rfl|true=>simpa using hd26 rfl
   obtain rfl:l27=false:=offL hd27 rfl;go_simp
   go_at_call 142
   refine(Hsf.out _ HS.out.bel).mono ?_;rintro e u1 ⟨x1,d1,rfl,hb⟩;have hS2:=(HS.out.cat hb).pick [0,1,2,3,10,5,6,7,8,9] (by decide);have HhS2:=qh hS2;clear hS2;go_simp;exact hK _ _ ⟨l0,l1,l2,l3,l4,l5,l6,true,l8,l9,l10,true,l12,true,true,false,false,l17,l18,l19,l20,l21,l22,l23,l24,l25,false,false,am,cm,x1,d1,af,cf,ah,ch,ae,ce,b1,b2,rfl,by simp,by simp,hd24,hd25,by simp,by simp,(by simp),HhS2.out⟩
  ·obtain⟨rfl,rfl⟩:=hall;subst hun;obtain rfl:l16=false:=offL hd16 rfl;obtain rfl:l26=false:=by cases l26 with|false=>rfl|true=>simpa using hd26 rfl
   obtain rfl:l27=false:=offL hd27 rfl;have hS2:=(HS.out.alloc _ rfl #[.slice pa2 F1 pc2,.slice ag F2 cg] 26).pick [0,1,2,3,4,10,6,7,8,9] (by decide);have HhS2:=qh hS2;clear hS2;go_simp;exact hK _ _ ⟨l0,l1,l2,l3,l4,l5,l6,l7,l8,true,l10,l11,l12,l13,true,true,false,l17,l18,l19,l20,l21,l22,l23,l24,l25,false,false,am,cm,ag,cg,af,cf,ah,ch,ae,ce,w'.heap.size,b2,rfl,by simp,by simp,hd24,hd25,by simp,by simp,(by simp),HhS2.out⟩
  ·obtain⟨rfl,rfl⟩:=hall;subst hun;obtain⟨rfl,-⟩:=hd15 rfl;obtain rfl:l26=false:=by cases l26 with|false=>rfl|true=>simpa using hd26 rfl
   obtain rfl:l27=false:=offL hd27 rfl;go_simp
   go_at_call 124
   refine(Hcf.out _ _ _ _ (HS.out.boxlt 5 rfl).2 (HS.out.cell 5 0 rfl rfl) (HS.out.cell 5 1 rfl rfl) (H2.out.below HS.out.bel) (HS.out.row 4 rfl)).mono ?_;rintro e u1 ⟨x1,d1,rfl,hb⟩;have hS2:=(HS.out.cat hb).pick [0,1,2,3,4,5,10,7,8,9] (by decide);have HhS2:=qh hS2;clear hS2;go_simp;exact hK _ _ ⟨l0,l1,l2,l3,l4,l5,l6,l7,l8,true,l10,l11,l12,l13,true,true,true,l17,l18,l19,l20,l21,l22,l23,l24,l25,false,false,am,cm,ag,cg,x1,d1,ah,ch,ae,ce,b1,b2,rfl,by simp,by simp,hd24,hd25,by simp,by simp,(by simp),HhS2.out⟩
  ·subst hun;go_simp;exact hK _ _ ⟨l0,l1,l2,l3,l4,l5,l6,l7,l8,l9,l10,l11,l12,l13,l14,l15,l16,true,l18,l19,l20,l21,l22,l23,l24,l25,l26,l27,am,cm,ag,cg,af,cf,ah,ch,ae,ce,b1,b2,rfl,hd15,hd16,hd24,hd25,hd26,hd27,(by simp),HS.out⟩
  ·obtain rfl:=hall;subst hun;obtain rfl:l24=false:=offL hd24 rfl;obtain rfl:l25=false:=offL hd25 rfl;obtain rfl:l26=false:=by cases l26 with|false=>rfl|true=>simpa using hd26 rfl
   obtain rfl:l27=false:=offL hd27 rfl;have e0:=HS.out.cell (v:=.slice pa3 E1 pc3) 0 3 rfl rfl;go_simp;exact hK _ _ ⟨l0,l1,l2,l3,l4,l5,l6,l7,l8,l9,l10,l11,l12,l13,l14,l15,l16,true,true,l19,l20,l21,l22,l23,false,false,false,false,am,cm,ag,cg,af,cf,ah,ch,ae,ce,b1,b2,rfl,hd15,hd16,by simp,by simp,by simp,by simp,(by simp),HS.out⟩
  ·subst hun;go_simp;exact hK _ _ ⟨l0,l1,l2,l3,l4,l5,l6,l7,l8,l9,l10,l11,l12,l13,l14,l15,l16,l17,l18,true,l20,l21,l22,l23,l24,l25,l26,l27,am,cm,ag,cg,af,cf,ah,ch,ae,ce,b1,b2,rfl,hd15,hd16,hd24,hd25,hd26,hd27,(by simp),HS.out⟩
  ·obtain rfl:=hall;subst hun;have e0:=HS.out.cell (v:=.slice qa3 E2 qc3) 1 3 rfl rfl;go_simp;exact hK _ _ ⟨l0,l1,l2,l3,l4,l5,l6,l7,l8,l9,l10,l11,l12,l13,l14,l15,l16,l17,l18,true,true,l21,l22,l23,l24,l25,l26,l27,am,cm,ag,cg,af,cf,ah,ch,ae,ce,b1,b2,rfl,hd15,hd16,hd24,hd25,hd26,hd27,(by simp),HS.out⟩
  ·subst hun;go_simp;exact hK _ _ ⟨l0,l1,l2,l3,l4,l5,l6,l7,l8,l9,l10,l11,l12,l13,l14,l15,l16,l17,l18,l19,l20,true,l22,l23,l24,l25,l26,l27,am,cm,ag,cg,af,cf,ah,ch,ae,ce,b1,b2,rfl,hd15,hd16,hd24,hd25,hd26,hd27,(by simp),HS.out⟩
  ·obtain rfl:=hall;subst hun;have e0:=HS.out.cell (v:=.int .i64 (S:Int)) 0 0 rfl rfl;go_simp;exact hK _ _ ⟨l0,l1,l2,l3,l4,l5,l6,l7,l8,l9,l10,l11,l12,l13,l14,l15,l16,l17,l18,l19,l20,true,true,l23,l24,l25,l26,l27,am,cm,ag,cg,af,cf,ah,ch,ae,ce,b1,b2,rfl,hd15,hd16,hd24,hd25,hd26,hd27,(by simp),HS.out⟩
  ·obtain⟨rfl,rfl,rfl⟩:=hall;subst hun;obtain⟨rfl,rfl⟩:=hd16 rfl;obtain⟨rfl,-⟩:=hd15 rfl;obtain rfl:l24=false:=offR hd24 rfl;obtain rfl:l25=false:=offL hd25 rfl;obtain rfl:l26=false:=by cases l26 with|false=>rfl|true=>simpa using hd26 rfl
   obtain rfl:l27=false:=offL hd27 rfl;go_simp
   go_at_call 142
   refine(Hse.out _ HS.out.bel).mono ?_;rintro e u1 ⟨x1,d1,rfl,hb⟩;have hS2:=(HS.out.cat hb).pick [0,1,2,3,4,5,6,10,8,9] (by decide);have HhS2:=qh hS2;clear hS2;go_simp;exact hK _ _ ⟨l0,l1,l2,l3,l4,l5,l6,l7,l8,true,l10,l11,l12,l13,true,true,true,l17,l18,l19,true,l21,true,true,false,false,false,false,am,cm,ag,cg,af,cf,x1,d1,ae,ce,b1,b2,rfl,by simp,by simp,by simp,by simp,by simp,by simp,(by simp),HhS2.out⟩
  ·obtain⟨rfl,rfl⟩:=hall;subst hun;obtain rfl:l25=false:=offL hd25 rfl;obtain rfl:l26=false:=by cases l26 with|false=>rfl|true=>simpa using hd26 rfl
   obtain rfl:l27=false:=offL hd27 rfl;have hS2:=(HS.out.alloc _ rfl #[.slice pa3 E1 pc3,.slice ah E2 ch] 26).pick [0,1,2,3,4,5,6,7,10,9] (by decide);have HhS2:=qh hS2;clear hS2;go_simp;exact hK _ _ ⟨l0,l1,l2,l3,l4,l5,l6,l7,l8,l9,l10,l11,l12,l13,l14,l15,l16,l17,true,l19,l20,l21,l22,true,true,false,false,false,am,cm,ag,cg,af,cf,ah,ch,ae,ce,b1,w'.heap.size,rfl,hd15,hd16,by simp,by simp,by simp,by simp,(by simp),HhS2.out⟩
  ·obtain⟨rfl,rfl⟩:=hall;subst hun;obtain⟨rfl,-⟩:=hd24 rfl;obtain rfl:l26=false:=by cases l26 with|false=>rfl|true=>simpa using hd26 rfl
   obtain rfl:l27=false:=offL hd27 rfl;go_simp
   go_at_call 124
   refine(Hce.out _ _ _ _ (HS.out.boxlt 8 rfl).2 (HS.out.cell 8 0 rfl rfl) (HS.out.cell 8 1 rfl rfl) (H3.out.below HS.out.bel) (HS.out.row 7 rfl)).mono ?_;rintro e u1 ⟨x1,d1,rfl,hb⟩;have hS2:=(HS.out.cat hb).pick [0,1,2,3,4,5,6,7,8,10] (by decide);have HhS2:=qh hS2;clear hS2;go_simp;exact hK _ _ ⟨l0,l1,l2,l3,l4,l5,l6,l7,l8,l9,l10,l11,l12,l13,l14,l15,l16,l17,true,l19,l20,l21,l22,true,true,true,false,false,am,cm,ag,cg,af,cf,ah,ch,x1,d1,b1,b2,rfl,hd15,hd16,by simp,by simp,by simp,by simp,(by simp),HhS2.out⟩
  ·obtain⟨rfl,rfl,rfl,rfl⟩:=hall;subst hun;obtain⟨rfl,rfl⟩:=hd16 rfl;obtain⟨rfl,rfl⟩:=hd25 rfl;obtain⟨rfl,-⟩:=hd15 rfl;obtain⟨rfl,-⟩:=hd24 rfl;obtain rfl:l27=false:=offL hd27 rfl;go_simp;exact hK _ _ ⟨l0,l1,l2,l3,true,l5,l6,true,l8,true,l10,l11,l12,l13,true,true,true,l17,true,l19,l20,l21,l22,true,true,true,true,false,am,cm,ag,cg,af,cf,ah,ch,ae,ce,b1,b2,rfl,by simp,by simp,by simp,by simp,by simp,by simp,(by simp),HS.out⟩
  obtain⟨rfl,rfl,rfl,rfl,rfl,rfl,rfl,rfl,rfl,rfl,rfl,rfl,rfl,rfl,rfl,rfl,rfl,rfl,rfl,rfl,rfl,rfl,rfl,rfl,rfl,rfl,rfl,-,-⟩:=hall;subst hun;have f0:=HS.out.fr 2 0 rfl;have k0:=HS.out.cell (v:=.int .i64 0) 2 0 rfl rfl;have f1:=HS.out.fr 2 1 rfl;have k1:=HS.out.cell (v:=.slice none 0 0) 2 1 rfl rfl;have f2:=HS.out.fr 2 2 rfl;have k2:=HS.out.cell (v:=.slice none 0 0) 2 2 rfl rfl;have f3:=HS.out.fr 2 3 rfl;have k3:=HS.out.cell (v:=.slice none 0 0) 2 3 rfl rfl;go_simp;exact hK _ _ ⟨true,true,true,true,true,true,true,true,true,true,true,true,true,true,true,true,true,true,true,true,true,true,true,true,true,true,true,true,am,cm,ag,cg,af,cf,ah,ch,ae,ce,b1,b2,rfl,by simp,by simp,by simp,by simp,by simp,by simp,(by simp only[↓reduceIte,List.setIfInBounds_toArray,List.set_cons_zero,List.set_cons_succ]),((((HS.out.set 2 rfl 0 (.int .i64 ((S:Int)+(Q:Int)))).set 2 rfl 1 (.slice am (L1+L2) cm)).set 2 rfl 2 (.slice af (F1+F2) cf)).set 2 rfl 3 (.slice ae (E1+E2) ce))⟩
 ·rintro listed a w' ⟨l0,l1,l2,l3,l4,l5,l6,l7,l8,l9,l10,l11,l12,l13,l14,l15,l16,l17,l18,l19,l20,l21,l22,l23,l24,l25,l26,l27,am,cm,ag,cg,af,cf,ah,ch,ae,ce,b1,b2,rfl,hd15,hd16,hd24,hd25,hd26,hd27,rfl,hS⟩ hr;have hall:=Zag (by kernel_rfl) rfl hr;obtain rfl:l0=true:=by simpa using hall 0 (by simp)
  obtain rfl:l1=true:=by simpa using hall 1 (by simp)
  obtain rfl:l2=true:=by simpa using hall 2 (by simp)
  obtain rfl:l3=true:=by simpa using hall 3 (by simp)
  obtain rfl:l4=true:=by simpa using hall 4 (by simp)
  obtain rfl:l5=true:=by simpa using hall 5 (by simp)
  obtain rfl:l6=true:=by simpa using hall 6 (by simp)
  obtain rfl:l7=true:=by simpa using hall 7 (by simp)
  obtain rfl:l8=true:=by simpa using hall 8 (by simp)
  obtain rfl:l9=true:=by simpa using hall 9 (by simp)
  obtain rfl:l10=true:=by simpa using hall 10 (by simp)
  obtain rfl:l11=true:=by simpa using hall 11 (by simp)
  obtain rfl:l12=true:=by simpa using hall 12 (by simp)
  obtain rfl:l13=true:=by simpa using hall 13 (by simp)
  obtain rfl:l14=true:=by simpa using hall 14 (by simp)
  obtain rfl:l15=true:=by simpa using hall 15 (by simp)
  obtain rfl:l16=true:=by simpa using hall 16 (by simp)
  obtain rfl:l17=true:=by simpa using hall 17 (by simp)
  obtain rfl:l18=true:=by simpa using hall 18 (by simp)
  obtain rfl:l19=true:=by simpa using hall 19 (by simp)
  obtain rfl:l20=true:=by simpa using hall 20 (by simp)
  obtain rfl:l21=true:=by simpa using hall 21 (by simp)
  obtain rfl:l22=true:=by simpa using hall 22 (by simp)
  obtain rfl:l23=true:=by simpa using hall 23 (by simp)
  obtain rfl:l24=true:=by simpa using hall 24 (by simp)
  obtain rfl:l25=true:=by simpa using hall 25 (by simp)
  obtain rfl:l26=true:=by simpa using hall 26 (by simp)
  obtain rfl:l27=true:=by simpa using hall 27 (by simp)
  clear hall hr hd15 hd16 hd24 hd25 hd26 hd27;simp only[↓reduceIte] at hS ⊢;simp only[List.setIfInBounds_toArray,List.set_cons_zero,List.set_cons_succ];have HSf:=qh (hS.pick [0,1,2,3,4,5,6,7,8,9] (by decide));clear hS;have q0:=HSf.out.cell (v:=.int .i64 ((S:Int)+(Q:Int))) 2 0 rfl rfl;have q1:=HSf.out.cell (v:=.slice am (L1+L2) cm) 2 1 rfl rfl;have q2:=HSf.out.cell (v:=.slice af (F1+F2) cf) 2 2 rfl rfl;have q3:=HSf.out.cell (v:=.slice ae (E1+E2) ce) 2 3 rfl rfl;go_wp2;refine bodyPost_ret (v:=.agg #[.int .i64 ((S:Int)+(Q:Int)),.slice am (L1+L2) cm,.slice af (F1+F2) cf,.slice ae (E1+E2) ce]) (by simp[results,Try.results104,go_sem,q0,q1,q2,q3]) rfl ?_;have hj:ZdP p q=⟨(S:Int)+(Q:Int),p.moves++q.moves.map (shM (S:Int)),p.firsts++q.firsts.map (·+(S:Int)),p.ends++q.ends.map (·+(S:Int))⟩:=by unfold ZdP shN;rw[HhSp.out,HhQq.out];simp only[NfaD.mk.injEq,and_true];omega
  rw[hj];refine⟨am,cm,af,cf,ae,ce,?_,?_⟩
  ·simp only[List.length_append,List.length_map,← hL1.out,← HhL2.out,← hF1.out,← HhF2.out,← hE1.out,← HhE2.out]
  simp only[List.length_append,List.length_map,← hL1.out,← HhL2.out,← hF1.out,← HhF2.out,← hE1.out,← HhE2.out];exact HSf.out.pick [3,6,9] (by decide)
 refine⟨false,false,false,false,false,false,false,false,false,false,false,false,false,false,false,false,false,false,false,false,false,false,false,false,false,false,false,false,none,0,none,0,none,0,none,0,none,0,0,0,rfl,by simp,by simp,by simp,by simp,by simp,by simp,(by simp),?_⟩;exact HS0.out.drew.pick [0,1,2,3,4,5,6,7,8,9] (by decide)
end Go.Proofs.Ytfanhfcamblghaa
