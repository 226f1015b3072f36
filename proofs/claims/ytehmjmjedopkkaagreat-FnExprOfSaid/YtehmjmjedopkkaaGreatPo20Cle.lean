/-
  The language of an automaton with choices, plain: ways through it, and what joins, repeats, unites and turns languages.
  No condition: this text speaks of no program.
-/
import Derived.Test.YtehmjmjedopkkaaGreatPo10Jv
import Derived.Test.YtehmjmjedopkkaaGreatPo19Cv
set_option maxHeartbeats 8000000
set_option maxRecDepth 100000
namespace Go.Proofs.YtehmjmjedopkkaaGreat
open Go.RowKit
inductive Pth (ms:List (Int × Int × Int)):Int→List Nat→Int→Prop
 | here (s:Int):Pth ms s [] s
 | eps {s t u:Int} {w:List Nat}:(s,-1,t)∈ms→Pth ms t w u→Pth ms s w u
 | step {s t u:Int} {c:Nat} {w:List Nat}:(s,(c:Int),t)∈ms→Pth ms t w u→Pth ms s (c::w) u
theorem Pth.append {ms:List (Int × Int × Int)} {s t u:Int} {x y:List Nat} (h:Pth ms s x t) (h':Pth ms t y u):Pth ms s (x++y) u:=by
 induction h with
 | here s=>exact h'
 | eps hm _ ih=>exact .eps hm (ih h')
 | step hm _ ih=>exact .step hm (ih h')
theorem Pth.mono {ms ns:List (Int × Int × Int)} (hs:∀ m∈ms,m∈ns) {s t:Int} {x:List Nat} (h:Pth ms s x t):Pth ns s x t:=by
 induction h with
 | here s=>exact .here s
 | eps hm _ ih=>exact .eps (hs _ hm) ih
 | step hm _ ih=>exact .step (hs _ hm) ih
theorem Pth.map {ms ns:List (Int × Int × Int)} (f:Int→Int) (hs:∀ m∈ms,(f m.1,m.2.1,f m.2.2)∈ns∨(m.2.1 = -1∧f m.1=f m.2.2)) {s t:Int} {x:List Nat} (h:Pth ms s x t):Pth ns (f s) x (f t):=by
 induction h with
 | here s=>exact .here _
 | eps hm _ ih =>
  rcases hs _ hm with h|⟨_,h⟩
  ·exact .eps h ih
  exact h ▸ ih
 | step hm _ ih =>
  rcases hs _ hm with h|⟨h,_⟩
  ·exact .step h ih
  simp only at h;omega
theorem Pth.in {ms:List (Int × Int × Int)} {n:Nat} (hm:mvIn n ms) {s t:Int} {x:List Nat} (h:Pth ms s x t) (hs:0≤s∧s<(n:Int)):0≤t∧t<(n:Int):=by
 induction h with
 | here s=>exact hs
 | eps h _ ih=>exact ih (hm _ h).2
 | step h _ ih=>exact ih (hm _ h).2
def runS (n:NfaD) (cs:List Nat):Nat:=cs.foldl (fun v (c:Nat)=>stV 40 n.moves v (c:Int)) (clV 40 n.moves (setV n.firsts))
def accS (n:NfaD) (cs:List Nat):Bool:=n.ends.any fun s=>(runS n cs).testBit s.toNat
theorem Znw (P:Nat→Prop):∀ n:Nat,∃ u:Nat,∀ t,u.testBit t=true↔t<n∧P t
 | 0=>⟨0,fun t=>by simp⟩
 | n+1=>by
  obtain⟨u,hu⟩:=Znw P n;by_cases hp:P n
  ·refine⟨adj u n,fun t => ?_⟩;rw[Zcg,Bool.or_eq_true,hu,decide_eq_true_eq];constructor
   ·rintro(⟨h1,h2⟩|rfl)
    ·exact⟨by omega,h2⟩
    exact⟨by omega,hp⟩
   rintro⟨h1,h2⟩;by_cases h:n=t
   ·exact .inr h
   exact .inl ⟨by omega,h2⟩
  refine⟨u,fun t => ?_⟩;rw[hu];constructor
  ·rintro⟨h1,h2⟩;exact⟨by omega,h2⟩
  rintro⟨h1,h2⟩;by_cases h:t=n
  ·subst h;exact absurd h2 hp
  exact⟨by omega,h2⟩
theorem Pth.closed {ms:List (Int × Int × Int)} {u:Nat} (hu:ZbY ms u) {s t:Int} {x:List Nat} (h:Pth ms s x t) (hx:x=[]) (hs:u.testBit s.toNat=true):u.testBit t.toNat=true:=by
 induction h with
 | here s=>exact hs
 | eps hm _ ih=>exact ih hx (hu _ hm rfl hs)
 | step hm _ ih=>cases hx
theorem Zot {ms:List (Int × Int × Int)} (hm:mvIn 40 ms) {v t:Nat} (hv:v<2 ^ 40):(clV 40 ms v).testBit t=true↔∃ s:Nat,s<40∧v.testBit s=true∧Pth ms s [] t:=by
 constructor
 ·intro h;obtain⟨u,hu⟩:=Znw (fun t=>∃ s:Nat,s<40∧v.testBit s=true∧Pth ms s [] t) 40
  have hc:ZbY ms u:=by
   intro m hmm he hf;obtain⟨h1,s,hs,hvs,hp⟩:=(hu _).1 hf;have h2:=hm m hmm;refine(hu _).2 ⟨by omega,s,hs,hvs,?_⟩;have e1:((m.1.toNat:Nat):Int)=m.1:=by omega
   have e2:((m.2.2.toNat:Nat):Int)=m.2.2:=by omega
   rw[e1] at hp;rw[e2];refine hp.append (y:=[]) (.eps ?_ (.here _));rw[← he];exact hmm
  have hsub:subV v u:=by
   intro s hs
   have:s<40:=by
    by_cases h:s<40
    ·exact h
    rw[Nat.testBit_lt_two_pow (Nat.lt_of_lt_of_le hv (Nat.pow_le_pow_right (by omega) (by omega)))] at hs;cases hs
   exact(hu s).2 ⟨this,s,this,hs,.here _⟩
  exact((hu t).1 (Zou hc hsub t h)).2
 rintro⟨s,hs,hvs,hp⟩;have:=hp.closed (Zcy hm v) rfl (by rw[Int.toNat_natCast];exact ZgQ 40 ms v s hvs)
 rwa [Int.toNat_natCast] at this
theorem ZbV {c:Int} {v:Nat}:∀ (l:List (Int × Int × Int)) (u t:Nat),(l.foldl (ZaN v c) u).testBit t=true↔u.testBit t=true∨∃ m∈l,m.2.1=c∧v.testBit m.1.toNat=true∧m.2.2.toNat=t
 | [],u,t=>by simp
 | m::l,u,t=>by
  rw[List.foldl_cons,ZbV l,ZaN]
  split
  ·rename_i h;rw[Bool.and_eq_true,decide_eq_true_eq] at h;rw[Zcg,Bool.or_eq_true,decide_eq_true_eq];constructor
   ·rintro((h1|h1)|⟨x,hx,h1⟩)
    ·exact .inl h1
    ·exact .inr ⟨m,by simp,h.1,h.2,h1⟩
    exact .inr ⟨x,by simp[hx],h1⟩
   rintro(h1|⟨x,hx,h1⟩)
   ·exact .inl (.inl h1)
   rcases List.mem_cons.1 hx with rfl|hx
   ·exact .inl (.inr h1.2.2)
   exact .inr ⟨x,hx,h1⟩
  rename_i h;rw[Bool.and_eq_true,decide_eq_true_eq] at h;constructor
  ·rintro(h1|⟨x,hx,h1⟩)
   ·exact .inl h1
   exact .inr ⟨x,by simp[hx],h1⟩
  rintro(h1|⟨x,hx,h1⟩)
  ·exact .inl h1
  rcases List.mem_cons.1 hx with rfl|hx
  ·exact absurd ⟨h1.1,h1.2.1⟩ h
  exact .inr ⟨x,hx,h1⟩
theorem Zgo {v s n:Nat} (hv:v<2 ^ n) (hs:v.testBit s=true):s<n:=by
 by_cases h:s<n
 ·exact h
 rw[Nat.testBit_lt_two_pow (Nat.lt_of_lt_of_le hv (Nat.pow_le_pow_right (by omega) (by omega)))] at hs;cases hs
theorem ZmY {ms:List (Int × Int × Int)} (hm:mvIn 40 ms) {v t:Nat} (c:Nat):(stV 40 ms v (c:Int)).testBit t=true↔∃ x,x∈ms∧x.2.1=(c:Int)∧v.testBit x.1.toNat=true∧Pth ms x.2.2 [] t:=by
 have hlt:ms.foldl (ZaN v c) 0<2 ^ 40:=ZbO _ (fun u=>u<2 ^ 40) (fun _ _ hx hu=>Zcz hm hx hu) (by decide);unfold stV;rw[Zot hm hlt];constructor
 ·rintro⟨s,hs,hb,hp⟩;rw[ZbV] at hb;rcases hb with hb|⟨m,hmm,h1,h2,h3⟩
  ·simp at hb
  refine⟨m,hmm,h1,h2,?_⟩;have e:m.2.2=(s:Int):=by have:=(hm m hmm).2;omega
  rw[e];exact hp
 rintro⟨x,hx,h1,h2,hp⟩;have h4:=(hm x hx).2;refine⟨x.2.2.toNat,by omega,?_,?_⟩
 ·rw[ZbV];exact .inr ⟨x,hx,h1,h2,rfl⟩
 have e:((x.2.2.toNat:Nat):Int)=x.2.2:=by omega
 rw[e];exact hp
theorem Pth.split {ms:List (Int × Int × Int)} {s u:Int} {x:List Nat} (h:Pth ms s x u):∀ {c:Nat} {w:List Nat},x=c::w→∃ m,m∈ms∧m.2.1=(c:Int)∧Pth ms s [] m.1∧Pth ms m.2.2 w u:=by
 induction h with
 | here s=>intro c w h;cases h
 | eps hm _ ih =>intro c w h;obtain⟨m,h1,h2,h3,h4⟩:=ih h;exact⟨m,h1,h2,.eps hm h3,h4⟩
 | step hm hp ih =>
  intro c w h
  injection h with h1 h2
  subst h1;subst h2;exact⟨_,hm,rfl,.here _,hp⟩
theorem ZlP {ms:List (Int × Int × Int)} (hm:mvIn 40 ms) (v:Nat) (c:Int):ZbY ms (stV 40 ms v c):=Zcy hm _
theorem Zjx {ms:List (Int × Int × Int)} (hm:mvIn 40 ms):∀ (cs:List Nat) (V:Nat),V<2 ^ 40→ZbY ms V→∀ t,(cs.foldl (fun v (c:Nat)=>stV 40 ms v (c:Int)) V).testBit t=true↔∃ s:Nat,s<40∧V.testBit s=true∧Pth ms s cs t
 | [],V,hV,hc,t=>by
  rw[List.foldl_nil];constructor
  ·intro h;exact⟨t,Zgo hV h,h,.here _⟩
  rintro⟨s,hs,h1,h2⟩;have:=h2.closed hc rfl (by rwa [Int.toNat_natCast])
  rwa [Int.toNat_natCast] at this
 | c::cs,V,hV,hc,t=>by
  rw[List.foldl_cons,Zjx hm cs _ (ZmZ hm V c) (ZlP hm V c)];constructor
  ·rintro⟨s,hs,h1,h2⟩;rw[ZmY hm] at h1;obtain⟨x,hx,h3,h4,h5⟩:=h1;have h6:=(hm x hx).1;refine⟨x.1.toNat,by omega,h4,?_⟩;have e:((x.1.toNat:Nat):Int)=x.1:=by omega
   rw[e];refine .step (t:=x.2.2) ?_ (h5.append h2);rw[← h3];exact hx
  rintro⟨s,hs,h1,h2⟩;obtain⟨m,h3,h4,h5,h6⟩:=h2.split rfl;have h7:=(hm m h3).2;refine⟨m.2.2.toNat,by omega,?_,?_⟩
  ·rw[ZmY hm];have:=h5.closed hc rfl (by rwa [Int.toNat_natCast]);refine⟨m,h3,h4,this,?_⟩;have e:((m.2.2.toNat:Nat):Int)=m.2.2:=by omega
   rw[e];exact .here _
  have e:((m.2.2.toNat:Nat):Int)=m.2.2:=by omega
  rw[e];exact h6
theorem ZpQ {n:NfaD} (hn:Zig n=true) (cs:List Nat):accS n cs=true↔∃ f∈n.firsts,∃ e∈n.ends,Pth n.moves f cs e:=by
 obtain⟨m,hm,hm40,hmv,-,hf,-,he,-⟩:=Zde hn;have hm4:=Znz hmv hm40;have hfi:inN 40 n.firsts:=fun s hs=>by have:=hf s hs;omega
 have hlt:clV 40 n.moves (setV n.firsts)<2 ^ 40:=Zdk hm4 (Zc8 hfi) 40;have hrun:=Zjx hm4 cs _ hlt (Zcy hm4 (setV n.firsts));unfold accS runS;rw[List.any_eq_true];constructor
 ·rintro⟨e,hee,hb⟩;obtain⟨s,hs,h1,h2⟩:=(hrun _).1 hb;rw[Zot hm4 (Zc8 hfi)] at h1;obtain⟨r,hr,h3,h4⟩:=h1;rw[ZhY,List.any_eq_true] at h3;obtain⟨f,hff,h5⟩:=h3;have h5:=of_decide_eq_true h5;have h6:=hf f hff;have h7:=he e hee;refine⟨f,hff,e,hee,?_⟩;have e1:(r:Int)=f:=by omega
  have e2:((e.toNat:Nat):Int)=e:=by omega
  rw[e1] at h4;rw[e2] at h2;exact h4.append h2
 rintro⟨f,hff,e,hee,hp⟩;have h6:=hf f hff;have h7:=he e hee;refine⟨e,hee,(hrun _).2 ⟨f.toNat,by omega,?_,?_⟩⟩
 ·exact ZgQ 40 n.moves _ _ (ZkX hff)
 have e1:((f.toNat:Nat):Int)=f:=by omega
 have e2:((e.toNat:Nat):Int)=e:=by omega
 rw[e1,e2];exact hp
theorem Pth.up {ms:List (Int × Int × Int)} (d:Int) {s t:Int} {x:List Nat} (h:Pth ms s x t):Pth (ms.map (shM d)) (s+d) x (t+d) :=
 h.map (·+d) fun m hm => .inl (List.mem_map.2 ⟨m,hm,rfl⟩)
theorem Pth.cross {p q:NfaD} {a b:Nat} (ha:p.states=(a:Int)) (hpm:mvIn a p.moves) (hqm:mvIn b q.moves) (hpe:inN a p.ends) (hqf:inN b q.firsts) {s t:Int} {x:List Nat} (h:Pth (Zdz p q).moves s x t) (ht:p.states≤t):(s<p.states→∃ k,k≤x.length∧∃ e∈p.ends,∃ f∈q.firsts,Pth p.moves s (x.take k) e∧Pth q.moves f (x.drop k) (t-p.states))∧(p.states≤s→Pth q.moves (s-p.states) x (t-p.states)):=by
 induction h with
 | here s=>exact⟨fun h=>by omega,fun _ => .here _⟩
 | @eps s' t' u w hm _ ih =>
  obtain⟨i1,i2⟩:=ih ht;rcases List.mem_append.1 hm with hm|hm
  ·rcases List.mem_append.1 hm with hm|hm
   ·have h1:=hpm _ hm;simp only at h1;refine⟨fun h => ?_,fun h=>by omega⟩;obtain⟨k,hk,e,he,f,hf,h2,h3⟩:=i1 (by omega);exact⟨k,hk,e,he,f,hf,.eps hm h2,h3⟩
   obtain⟨y,hy,e⟩:=List.mem_map.1 (show _∈q.moves.map (shM p.states) from hm);have h1:=hqm _ hy
   injection e with e1 e2
   injection e2 with e2 e3
   refine⟨fun h=>by omega,fun h => .eps (t:=t'-p.states) ?_ (i2 (by omega))⟩;rw[← e1,← e3,show y.1+p.states-p.states=y.1 by omega,show y.2.2+p.states-p.states=y.2.2 by omega,← e2];exact hy
  obtain⟨y,hy,e⟩:=List.mem_flatMap.1 hm;obtain⟨z,hz,e⟩:=List.mem_map.1 e;obtain⟨z,hz',rfl⟩:=List.mem_map.1 (show z∈q.firsts.map (·+p.states) from hz)
  injection e with e1 e2
  injection e2 with e2 e3
  have h1:=hpe y hy;have h2:=hqf z hz';refine⟨fun h=>⟨0,Nat.zero_le _,y,hy,z,hz',?_,?_⟩,fun h=>by omega⟩
  ·rw[e1];exact .here _
  have:=i2 (by omega);rw[← e3,show z+p.states-p.states=z by omega] at this;exact this
 | @step s' t' u c w hm _ ih =>
  obtain⟨i1,i2⟩:=ih ht;rcases List.mem_append.1 hm with hm|hm
  ·rcases List.mem_append.1 hm with hm|hm
   ·have h1:=hpm _ hm;simp only at h1;refine⟨fun h => ?_,fun h=>by omega⟩;obtain⟨k,hk,e,he,f,hf,h2,h3⟩:=i1 (by omega);exact⟨k+1,by simp only[List.length_cons];omega,e,he,f,hf,.step hm h2,h3⟩
   obtain⟨y,hy,e⟩:=List.mem_map.1 (show _∈q.moves.map (shM p.states) from hm);have h1:=hqm _ hy
   injection e with e1 e2
   injection e2 with e2 e3
   refine⟨fun h=>by omega,fun h => .step (t:=t'-p.states) ?_ (i2 (by omega))⟩;rw[← e1,← e3,show y.1+p.states-p.states=y.1 by omega,show y.2.2+p.states-p.states=y.2.2 by omega,← e2];exact hy
  obtain⟨y,hy,e⟩:=List.mem_flatMap.1 hm;obtain⟨z,hz,e⟩:=List.mem_map.1 e
  injection e with e1 e2
  injection e2 with e2 e3
  omega
def lets (l:List Nat):List Nat:=l.map (·-97)
theorem ZqU {l:List Nat} {k:Nat} (h:okT l l.length=true) (hk:k<l.length):97≤l.getD k 0∧l.getD k 0≤99:=by unfold okT at h;have:=List.all_eq_true.1 h k (List.mem_range.2 hk);simp only[inB,Bool.and_eq_true,decide_eq_true_eq] at this;omega
theorem ZlN {l:List Nat} (h:wdOk l=true):okT l l.length=true∧l.length≤8:=by unfold wdOk at h;simp only[Bool.and_eq_true,decide_eq_true_eq] at h;exact h
end Go.Proofs.YtehmjmjedopkkaaGreat
namespace Go.Proofs.YtehmjmjedopkkaaGreat
open Go.RowKit
theorem ZkU (l:List Nat) (k:Nat):(txB l).extract 0 k=txB (l.take k):=by apply ByteArray.ext;simp[txB,ByteArray.data_extract,List.map_take]
theorem ZkR {l:List Nat}:wdOk l=true↔(∀ b∈l,97≤b∧b≤99)∧l.length≤8:=by
 constructor
 ·intro h;obtain⟨h1,h2⟩:=ZlN h;refine⟨fun b hb => ?_,h2⟩;obtain⟨k,hk,e⟩:=List.getElem_of_mem hb;have:=ZqU h1 hk;rw[Za5 hk,e] at this;exact this
 rintro⟨h1,h2⟩;unfold wdOk okT;rw[Bool.and_eq_true,List.all_eq_true,decide_eq_true_eq];refine⟨fun k hk => ?_,h2⟩;have hk:=List.mem_range.1 hk;have:=h1 _ (ZdB hk);simp only[inB,Bool.and_eq_true,decide_eq_true_eq];omega
theorem ZmI (l:List Nat):(txB l).toList.isEmpty=l.isEmpty:=by rw[ByteArray.toList_eq];cases l<;>rfl
end Go.Proofs.YtehmjmjedopkkaaGreat
namespace Go.Proofs.YtehmjmjedopkkaaGreat
open Go.RowKit
theorem Zld {l:List Nat} (h:wdOk l=true):isW (lets l):=fun c hc=>by obtain⟨b,hb,rfl⟩:=List.mem_map.1 hc;have:=(ZkR.1 h).1 b hb;omega
theorem ZoR {l:List Nat} (h:wdOk l=true):txB l=wdB (lets l):=by unfold txB wdB lets;rw[List.map_map];congr 2;apply List.map_congr_left;intro b hb;have:=(ZkR.1 h).1 b hb;show UInt8.ofNat b=UInt8.ofNat (97+(b-97));congr 1;omega
theorem ZqE {K:Nat} {n:NfaD} {D:DfaD} (h:detK K n=some D):Zig n=true∧(metS n K).length≤K∧D=Zav (nxS n) (enS n) (metS n K):=by
 unfold detK at h
 split at h
 ·rename_i h1;exact⟨h1.1,h1.2,(Option.some.inj h).symm⟩
 cases h
theorem Zjy {n:NfaD}:∀ (w:List Nat) (v:Nat),w.foldl (nxS n) (((v:Nat):Int),0)=(((w.foldl (fun v (c:Nat)=>stV 40 n.moves v (c:Int)) v:Nat):Int),0)
 | [],_=>rfl
 | c::w,v=>by rw[List.foldl_cons,List.foldl_cons,← Zjy w];rfl
theorem ZpL {K:Nat} {n:NfaD} {D:DfaD} (h:detK K n=some D) {w:List Nat} (hw:isW w):accD D w=accS n w:=by obtain⟨-,h2,rfl⟩:=ZqE h;rw[ZeO h2 hw,Zjy];rfl
theorem Zhg (d:DfaD) (l:List Nat) (v:Value) (w:World) (ht:isT l) (hll:l.length≤1000) (h:DfaR 0 w v d) (hd:Zae d.next d.ends=true) (hwd:wdOk l=true) :
  Calls Tryz.prog 20 #[v,.string (txB l)] w fun e w'=>e = .returned (.bool (accD d (lets l)))∧Below w.heap.size w w':=by
 have H:=qh h;obtain⟨v1,v2,rfl,g1,g2⟩:=h;have hS0:=(St.start w).alloc _ rfl #[v1,v2] 32;have e0:=hS0.cell (v:=v1) 0 0 rfl rfl;have e1:=hS0.cell (v:=v2) 0 1 rfl rfl;obtain⟨q,hq⟩:=eJ (accD d (lets l));have hacc:=fun (u:World) (hu:Below w.heap.size w u)=>ZkN d (lets l) (.agg #[v1,v2]) u hd (Zld hwd) (by unfold lets;rw[List.length_map];omega) (H.out.below hu)
 rw[← ZoR hwd,hq] at hacc;rw[hq];have Hacc:=qh hacc;replace ht:=qh ht;replace hS0:=qh hS0;have Hhd:=qh hd;clear hd;have Hhwd:=qh hwd;clear hwd;have Hhq:=qh hq;clear hq;clear g1 g2 hacc
 go_enter Tryz.func20, Tryz.ntmps20
 go_wp2_with fail;refine(ZaR d _ _ (H.out.below hS0.out.bel) _ Hhd.out).mono ?_;rintro e w1 ⟨rfl,hb1⟩;have HS1:=qh (hS0.out.call hb1);clear hb1 e0 e1;have e0:=HS1.out.cell (v:=v1) 0 0 rfl rfl;have e1:=HS1.out.cell (v:=v2) 0 1 rfl rfl;go_wp2_with (go_at_call 27;refine(Zbj l _ ht.out (by omega) _ Hhwd.out).mono ?_;rintro e w' ⟨rfl,rfl⟩);refine(Hacc.out _ HS1.out.bel).mono ?_;rintro e w2 ⟨rfl,hb2⟩;go_wp2;go_ret;exact⟨rfl,(HS1.out.call hb2).bel⟩
end Go.Proofs.YtehmjmjedopkkaaGreat
namespace Go.Proofs.YtehmjmjedopkkaaGreat
open Go.RowKit
theorem ZkW {l:List Int} {m:Int} (h:∀ j,j<l.length→(0≤l.getD j 0∧l.getD j 0≤m-1)∧(0<j→l.getD (j-1) 0<l.getD j 0)):stOk l m=true:=by
 unfold stOk;rw[List.all_eq_true];intro j hj;obtain⟨h1,h2⟩:=h j (List.mem_range.1 hj);unfold okAt;rw[Bool.and_eq_true,Bool.or_eq_true];refine⟨by simp only[inB,Bool.and_eq_true,decide_eq_true_eq];exact h1,?_⟩;by_cases h0:j=0
 ·exact .inl (decide_eq_true h0)
 exact .inr (decide_eq_true (h2 (by omega)))
theorem ZdJ {s t:Nat}:(2 ^ s).testBit t=decide (s=t):=by rw[Nat.testBit_two_pow]
theorem Zd6 {d:DfaD}:∀ {k:Nat} {m:Int × Int × Int},m∈mvs d k↔∃ s c:Nat,s<k∧c<3∧m=((s:Int),(c:Int),(d.next.getD s []).getD c 0)
 | 0,m=>by simp[mvs]
 | k+1,m=>by
  rw[show mvs d (k+1)=mvs d k++rowM d k from rfl,List.mem_append,Zd6];constructor
  ·rintro(⟨s,c,h1,h2,h3⟩|h)
   ·exact⟨s,c,by omega,h2,h3⟩
   obtain⟨c,hc,rfl⟩:=List.mem_map.1 h;exact⟨k,c,by omega,List.mem_range.1 hc,rfl⟩
  rintro⟨s,c,h1,h2,h3⟩;by_cases h:s=k
  ·subst h;exact .inr (List.mem_map.2 ⟨c,List.mem_range.2 h2,h3.symm⟩)
  exact .inl ⟨s,c,by omega,h2,h3⟩
theorem ZcI {d:DfaD} (k u:Nat):ZbY (mvs d k) u:=by intro m hm he;obtain⟨s,c,-,-,rfl⟩:=Zd6.1 hm;simp only at he;omega
theorem ZoE {a b:Nat} (h:∀ t,a.testBit t=true↔b.testBit t=true):a=b:=by apply Nat.eq_of_testBit_eq;intro t;rw[Bool.eq_iff_iff];exact h t
theorem Zqd {d:DfaD} (hd:Zae d.next d.ends=true) {s c:Nat} (hs:s<d.next.length) (hc:c<3):∃ q:Nat,q<d.next.length∧stV 40 (mvs d d.next.length) (2 ^ s) (c:Int)=2 ^ q:=by
 have hr:=(ZaI hd hs).2 c hc;obtain⟨q,hq⟩:=Int.eq_ofNat_of_zero_le hr.1;refine⟨q,by omega,?_⟩;unfold stV;rw[ZfT (ZcI _ _)];apply ZoE;intro t;rw[ZbV,ZdJ,decide_eq_true_eq];constructor
 ·rintro(h|⟨m,hm,h1,h2,h3⟩)
  ·simp at h
  obtain⟨s',c',h4,h5,rfl⟩:=Zd6.1 hm;rw[ZdJ,decide_eq_true_eq] at h2;simp only[Int.toNat_natCast] at h2;subst h2;have:c'=c:=by simp only at h1;omega
  subst this;simp only[hq] at h3;omega
 rintro rfl;right;refine⟨_,Zd6.2 ⟨s,c,hs,hc,rfl⟩,rfl,?_,?_⟩
 ·rw[ZdJ];simp
 simp only[hq];omega
theorem Zqr {d:DfaD} (hd:Zae d.next d.ends=true) (K:Nat):(metS (ZaF d) K).length≤d.next.length:=by
 have hl:=Zad hd;have hf:fstV (ZaF d)=2 ^ 0:=by unfold fstV;rw[show(ZaF d).moves=mvs d d.next.length from rfl,ZfT (ZcI _ _)];rfl
 have hall:∀ x∈metS (ZaF d) K,∃ s:Nat,s<d.next.length∧x=(((2 ^ s:Nat):Int),0):=by refine ZbZ (Q:=fun x=>∃ s:Nat,s<d.next.length∧x=(((2 ^ s:Nat):Int),0)) ⟨0,by omega,by rw[hf]⟩ ?_ K;rintro x c hc ⟨s,hs,rfl⟩;obtain⟨q,hq,h⟩:=Zqd hd hs hc;refine⟨q,hq,?_⟩;unfold nxS;rw[show(ZaF d).moves=mvs d d.next.length from rfl];simp only[Int.toNat_natCast];rw[h]
 have:=ZdQ (Zbl (nx:=nxS (ZaF d)) (a:=(((fstV (ZaF d):Nat):Int),0)) K).1 (m:=(List.range d.next.length).map fun s=>(((2 ^ s:Nat):Int),(0:Int))) fun x hx=>by obtain⟨s,hs,rfl⟩:=hall x hx;exact List.mem_map.2 ⟨s,List.mem_range.2 hs,rfl⟩
 simpa using this
theorem ZiD (d:DfaD):∀ k,(eds d k).Pairwise (·<·)
 | 0=>List.Pairwise.nil
 | k+1=>by
  unfold eds
  split
  ·rw[List.pairwise_append];refine⟨ZiD d k,List.pairwise_singleton _ _,fun x hx y hy => ?_⟩;rw[List.mem_singleton.1 hy];exact(Zfo d k x hx).2
  exact ZiD d k
theorem Zem {d:DfaD} (hd:Zae d.next d.ends=true):Zig (ZaF d)=true:=by
 have hl:=Zad hd;unfold Zig;simp only[Bool.and_eq_true,decide_eq_true_eq];refine⟨⟨⟨⟨?_,?_⟩,?_⟩,?_⟩,?_⟩
 ·show inB (d.next.length:Int) 0 40=true;simp only[inB,Bool.and_eq_true,decide_eq_true_eq];exact⟨by omega,by omega⟩
 ·show(mvs d d.next.length).length≤400;rw[Zcf];omega
 ·refine ZkW fun j hj => ?_
  have hj:j<1:=hj;obtain rfl:j=0:=by omega
  refine⟨?_,fun h=>by omega⟩;simp only[ZaF,List.getD_cons_zero];omega
 ·refine ZkW fun j hj => ?_
  have hj:j<(eds d d.next.length).length:=hj;have h1:=Zfo d _ _ (memD (d:=(0:Int)) hj);refine⟨?_,fun h => ?_⟩
  ·show 0≤(eds d d.next.length).getD j 0∧(eds d d.next.length).getD j 0≤(d.next.length:Int)-1;omega
  have:=List.pairwise_iff_getElem.1 (ZiD d d.next.length) (j-1) j (by omega) hj (by omega);show(eds d d.next.length).getD (j-1) 0<(eds d d.next.length).getD j 0;rw[Za5 (by omega),Za5 hj];exact this
 rw[List.all_eq_true];intro m hm;obtain⟨s,c,h1,h2,rfl⟩:=Zd6.1 (show m∈mvs d d.next.length from hm);have hr:=(ZaI hd h1).2 c h2;show mvOk (d.next.length:Int) _=true;simp only[mvOk,inB,Bool.and_eq_true,decide_eq_true_eq];exact⟨⟨⟨by omega,by omega⟩,by omega,by omega⟩,by omega,by omega⟩
end Go.Proofs.YtehmjmjedopkkaaGreat
namespace Go.Proofs.YtehmjmjedopkkaaGreat
open Go.RowKit
theorem ZqS {d:DfaD} (hd:Zae d.next d.ends=true) {s c:Nat} (hs:s<d.next.length) (hc:c<3):stV 40 (mvs d d.next.length) (2 ^ s) (c:Int)=2 ^ nxD d s c:=by
 have hr:=(ZaI hd hs).2 c hc;unfold stV;rw[ZfT (ZcI _ _)];apply ZoE;intro t;rw[ZbV,ZdJ,decide_eq_true_eq];constructor
 ·rintro(h|⟨m,hm,h1,h2,h3⟩)
  ·simp at h
  obtain⟨s',c',h4,h5,rfl⟩:=Zd6.1 hm;rw[ZdJ,decide_eq_true_eq] at h2;simp only[Int.toNat_natCast] at h2;subst h2;have:c'=c:=by simp only at h1;omega
  subst this;exact h3
 rintro rfl;right;refine⟨_,Zd6.2 ⟨s,c,hs,hc,rfl⟩,rfl,?_,rfl⟩;rw[ZdJ];simp
theorem Zn4 (d:DfaD):fstV (ZaF d)=2 ^ 0:=by unfold fstV;rw[show(ZaF d).moves=mvs d d.next.length from rfl,ZfT (ZcI _ _)];rfl
theorem ZkF {d:DfaD}:∀ {k:Nat} {x:Int},x∈eds d k↔∃ s:Nat,x=(s:Int)∧s<k∧enD d s=true
 | 0,x=>by simp[eds]
 | k+1,x=>by
  have ih:=ZkF (d:=d) (k:=k) (x:=x);unfold eds;by_cases h:d.ends.getD k false=true
  ·rw[if_pos h,List.mem_append,ih,List.mem_singleton];constructor
   ·rintro(⟨s,h1,h2,h3⟩|rfl)
    ·exact⟨s,h1,by omega,h3⟩
    exact⟨k,rfl,by omega,h⟩
   rintro⟨s,h1,h2,h3⟩;by_cases hk:s=k
   ·subst hk;exact .inr h1
   exact .inl ⟨s,h1,by omega,h3⟩
  rw[if_neg h,ih];constructor
  ·rintro⟨s,h1,h2,h3⟩;exact⟨s,h1,by omega,h3⟩
  rintro⟨s,h1,h2,h3⟩;by_cases hk:s=k
  ·subst hk;exact absurd h3 h
  exact⟨s,h1,by omega,h3⟩
theorem Zol {d:DfaD} (hd:Zae d.next d.ends=true) {K:Nat} (hK:d.next.length≤K):detK K (ZaF d)=some (Za3 d):=by
 have hl:=Zad hd;have hf:=Zaz hd;unfold detK;rw[if_pos ⟨Zem hd,Nat.le_trans (Zqr hd K) hK⟩];congr 1
 let f:Int→Int × Int:=fun x=>(((2 ^ x.toNat:Nat):Int),0)
 let Q:Int→Prop:=fun x=>∃ s:Nat,x=(s:Int)∧s<d.next.length
 have hm:=Zdd (nx:=dnx d) (nx':=nxS (ZaF d)) (a:=(0:Int)) (f:=f) (Q:=Q) (en:=den d) (en':=enS (ZaF d)) (K:=K) ⟨0,rfl,by omega⟩ (by
  rintro x c hc ⟨s,rfl,hs⟩;obtain⟨h3,h4⟩:=ZbC hf hs hc;exact⟨_,h4,h3⟩) (by
  rintro x y ⟨s,rfl,hs⟩ ⟨t,rfl,ht⟩ h;have h1:((2 ^ s:Nat):Int)=((2 ^ t:Nat):Int):=congrArg Prod.fst h;have:s=t:=(Nat.pow_right_inj (show 1<2 by omega)).1 (Int.ofNat_inj.1 h1);rw[this]) (by
  rintro x c hc ⟨s,rfl,hs⟩;obtain⟨h3,h4⟩:=ZbC hf hs hc;simp only[f,h4,nxS,Int.toNat_natCast];rw[show(ZaF d).moves=mvs d d.next.length from rfl,ZqS hd hs hc]) (by
  rintro x ⟨s,rfl,hs⟩;rw[Za6];simp only[f,enS,Int.toNat_natCast];unfold endV;rw[show(ZaF d).ends=eds d d.next.length from rfl,Bool.eq_iff_iff,List.any_eq_true];constructor
  ·rintro⟨x,hx,hb⟩;obtain⟨t,rfl,ht,he⟩:=ZkF.1 hx;rw[ZdJ,decide_eq_true_eq] at hb;simp only[Int.toNat_natCast] at hb;rw[hb];exact he
  intro he;refine⟨(s:Int),ZkF.2 ⟨s,rfl,hs,he⟩,?_⟩;rw[ZdJ];simp)
 have h0:f 0=((((fstV (ZaF d):Nat):Int),0):Int × Int):=by rw[Zn4];rfl
 rw[h0] at hm;refine hm.trans ?_;unfold Za3;rw[Zbz (Zbq hf _).2 hK]
theorem Znu {d:DfaD} (hd:Zae d.next d.ends=true) {w:List Nat} (hw:isW w):accS (ZaF d) w=accD d w:=by rw[← ZpL (Zol hd (Nat.le_refl _)) hw,ZoV (Zaz hd) hw]
def NfaT (n:NfaD) (v1 v2 v3:Value):Ent:=Ent.all [Ent.row 122 3 v1 n.moves.length (n.moves.flatMap Zac),Ent.row 3 1 v2 n.firsts.length (intCells n.firsts),Ent.row 3 1 v3 n.ends.length (intCells n.ends)]
def ZpR (n:NfaD) (w:World) (e:Ending) (w':World):Prop:=∃ a1 c1 a2 c2 a3 c3,e = .returned (.agg #[.int .i64 n.states,.slice a1 n.moves.length c1,.slice a2 n.firsts.length c2,.slice a3 n.ends.length c3]) ∧
 St w w' [NfaT n (.slice a1 n.moves.length c1) (.slice a2 n.firsts.length c2) (.slice a3 n.ends.length c3)]
theorem RNfaS.t {n:NfaD} {w:World} {e:Ending} {w':World} (h:RNfaS n w e w'):ZpR n w e w':=by obtain⟨a1,c1,a2,c2,a3,c3,rfl,hS⟩:=h;exact⟨a1,c1,a2,c2,a3,c3,rfl,St.pack (A:=[]) hS⟩
theorem St.nfaT {w0 w:World} {L:List Ent} (h:St w0 w L) (i:Nat) {n:NfaD} {v1 v2 v3:Value} (hx:L[i]? = some (NfaT n v1 v2 v3)):Moves 0 w v1 n.moves∧Ints 0 w v2 n.firsts∧Ints 0 w v3 n.ends:=by have hE:=(h.has i _ hx).1;have h1:(Ent.row 122 3 v1 n.moves.length (n.moves.flatMap Zac)).holds w:=hE _ (by simp);have h2:(Ent.row 3 1 v2 n.firsts.length (intCells n.firsts)).holds w:=hE _ (by simp);have h3:(Ent.row 3 1 v3 n.ends.length (intCells n.ends)).holds w:=hE _ (by simp);exact⟨ZcJ h1,ZdA h2,ZdA h3⟩
def DfaX (B0 B H:Nat) (v1 v2:Value) (D:DfaD):Ent:=⟨(DfaV B H v1 v2 D).foot,fun u=>B0≤B∧(DfaV B H v1 v2 D).holds u,fun a b h hk=>⟨h.1,(DfaV B H v1 v2 D).stable a b h.2 hk⟩⟩
theorem St.dfaX {w0 w w':World} {L:List Ent} (h:St w0 w L) (hb:Below w.heap.size w w') {v1 v2:Value} {D:DfaD} (hr:DfaR w.heap.size w' (.agg #[v1,v2]) D):St w0 w' (L++[DfaX w0.heap.size w.heap.size w'.heap.size v1 v2 D]) :=
 h.add hb _ ⟨h.size,w',rfl,hr,fun _ _ _=>rfl⟩ fun _ hk=>hk
theorem St.dfaXr {w0 w:World} {L:List Ent} (h:St w0 w L) (i:Nat) {B0 B H:Nat} {v1 v2:Value} {D:DfaD} (hx:L[i]? = some (DfaX B0 B H v1 v2 D)):DfaR B0 w (.agg #[v1,v2]) D:=by
 have hE:=h.has i _ hx;obtain⟨⟨hB,w',h1,⟨x1,x2,hv,⟨vs,h2,h3⟩,h4⟩,h5⟩,hf⟩:=hE;simp only[Value.agg.injEq,Array.mk.injEq,List.cons.injEq,and_true] at hv;obtain⟨rfl,rfl⟩:=hv;by_cases hlt:B<H
 ·have hs:w'.heap.size≤w.heap.size:=by have:H-1<w.heap.size:=(hf (H-1) (show B≤H-1∧H-1<H by omega)).2;omega
  have hk:∀ k,B≤k→k<w'.heap.size→w.heap[k]? = w'.heap[k]?:=fun k p q=>h5 k p (by omega)
  exact⟨_,_,rfl,⟨vs,h2.keptJ hB hs hk,fun i hi=>Sl.keptJ (h3 i hi) hB hs hk⟩,Sl.keptJ h4 hB hs hk⟩
 have hno:∀ {v:Value} {n size:Nat} {cs:List Value},Sl B w' v n size cs→0<size→Sl B0 w v n size cs:=fun {v n size cs} hs hz=>by obtain⟨g1,a,cap,g2,g3,g4,g5⟩:=hs;refine⟨g1,a,cap,g2,g3,g4,fun hn => ?_⟩;obtain⟨b,off,-,p,q,-⟩:=g5 hn;omega
 exact⟨_,_,rfl,⟨vs,hno h2 (by omega),fun i hi=>hno (h3 i hi) (by omega)⟩,hno h4 (by omega)⟩
def RTs (D:DfaD) (fb:Bool) (w:World) (e:Ending) (w':World):Prop:=∃ a1 c1 a2 c2,e = .returned (.tuple #[.agg #[.slice a1 D.next.length c1,.slice a2 D.ends.length c2],.bool fb])∧DfaR w.heap.size w' (.agg #[.slice a1 D.next.length c1,.slice a2 D.ends.length c2]) D∧Below w.heap.size w w'
theorem RTt.s {D:DfaD} {fb:Bool} {w:World} {e:Ending} {w':World} (h:RTt D fb w.heap.size e w'∧Below w.heap.size w w'):RTs D fb w e w':=by obtain⟨⟨a1,c1,a2,c2,rfl,h1⟩,h2⟩:=h;exact⟨a1,c1,a2,c2,rfl,h1.r,h2⟩
theorem Zpx {a b:DfaD} (ha:Zae a.next a.ends=true) (hb:Zae b.next b.ends=true):DetOkW 81 (Zdz (ZaF a) (ZaF b)):=by
 have hla:=Zad ha;have hlb:=Zad hb;have h1:=Zcf a a.next.length;have h2:=Zcf b b.next.length;have h3:(eds a a.next.length).length≤40:=Nat.le_trans (ZcR a _) hla.2.1;have h4:(eds b b.next.length).length≤40:=Nat.le_trans (ZcR b _) hlb.2.1;rw[Zgy];refine⟨Zgl (ZhP ha hb) (by omega),?_,fun s hs=>by have:=Zdo (b:=b) ha s hs;omega,by simp[Zc6],fun s hs=>by have:=ZeP s hs;omega,?_⟩
 ·simp only[Zc6,List.length_append,List.length_map];omega
 simp only[Zc6,List.length_map];omega
theorem Zfy (K:Nat) (hK:K=40) (a b:DfaD) (D:DfaD) (fb:Bool) (hD:(twoQ K 4 a b).getD zeD=D) (hfb:(twoQ K 4 a b).isSome=fb) (v1 v2:Value) (w:World) (hda:Zae a.next a.ends=true) (hdb:Zae b.next b.ends=true) (h1:DfaR 0 w v1 a) (h2:DfaR 0 w v2 b) :
  Calls Tryz.prog 70 #[.int .i64 4,v1,v2] w fun e w'=>RTs D fb w e w':=by
 have H1:=h1;have H2:=h2;obtain⟨x1,x2,rfl,-,-⟩:=h1;obtain⟨x3,x4,rfl,-,-⟩:=h2;have hS0:=(((St.start w).alloc _ rfl #[x1,x2] 32).alloc (w.heap.size+1) (by simp) #[x3,x4] 32).alloc (w.heap.size+1+1) (by simp) #[.slice none 0 0,.slice none 0 0] 32;obtain⟨P,hP⟩:=eI (ZaF a);obtain⟨Q,hQ⟩:=eI (ZaF b);obtain⟨J,hJ⟩:=eI (Zdz P Q);have HnA:=qh (show ∀ W:World,Below w.heap.size w W→Calls Tryz.prog 68 #[.agg #[x1,x2]] W fun e w'=>ZpR P W e w' from fun W hb=>by rw[hP];exact(Zd9 a _ W hda (H1.below hb)).mono fun e w' h=>h.t);have HnB:=qh (show ∀ W:World,Below w.heap.size w W→Calls Tryz.prog 68 #[.agg #[x3,x4]] W fun e w'=>ZpR Q W e w' from fun W hb=>by rw[hQ];exact(Zd9 b _ W hdb (H2.below hb)).mono fun e w' h=>h.t);have HnJ:=qh (show ∀ (W:World) (v1 v2 v3 u1 u2 u3:Value),(Moves 0 W v1 P.moves∧Ints 0 W v2 P.firsts∧Ints 0 W v3 P.ends)→(Moves 0 W u1 Q.moves∧Ints 0 W u2 Q.firsts∧Ints 0 W u3 Q.ends)→Calls Tryz.prog 107 #[.agg #[.int .i64 P.states,v1,v2,v3],.agg #[.int .i64 Q.states,u1,u2,u3]] W fun e w'=>ZpR J W e w' from fun W v1 v2 v3 u1 u2 u3 h g=>by rw[hJ];exact(Zkz P Q v1 v2 v3 u1 u2 u3 W (by rw[hP];exact Zem hda) (by rw[hQ];exact Zem hdb) h.1 h.2.1 h.2.2 g.1 g.2.1 g.2.2).mono fun e w' h=>h.t);have hdet:DetOkW 81 J:=by rw[hJ,hP,hQ];exact Zpx hda hdb
 have htw:twoQ K 4 a b=(ZfD 81 K J).map minD:=by rw[hJ,hP,hQ];rfl
 rw[htw] at hD hfb
 have HnS:=qh (show ∀ (W:World) (v1 v2 v3:Value),(Moves 0 W v1 J.moves∧Ints 0 W v2 J.firsts∧Ints 0 W v3 J.ends)→Calls Tryz.prog 69 #[.agg #[.int .i64 J.states,v1,v2,v3]] W fun e w'=>RTs D fb W e w' from fun W v1 v2 v3 h =>
  (ZdY 81 (by omega) J K hK D fb hD hfb v1 v2 v3 W hdet h.1 h.2.1 h.2.2).mono fun e w' h=>RTt.s h)
 replace hS0:=qh hS0;replace hP:=qh hP;have HhQ:=qh hQ;clear hQ;replace hJ:=qh hJ;clear hD hfb H1 H2 hda hdb hdet htw hK
 go_enter Tryz.func70, Tryz.ntmps70
 go_wp2;refine wp_region_any (by kernel_rfl) ?_
 refine Zao (fun A listed a w'=>∃ (l0 l1 l2 l3 l4 l5 l6 l7 l8 l9:Bool) (p1:Option Addr) (p2:Nat) (p3:Option Addr) (p4:Nat) (p5:Option Addr) (p6:Nat) (q1:Option Addr) (q2:Nat) (q3:Option Addr) (q4:Nat) (q5:Option Addr) (q6:Nat) (j1:Option Addr) (j2:Nat) (j3:Option Addr) (j4:Nat) (j5:Option Addr) (j6:Nat) (d1:Option Addr) (d2:Nat) (d3:Option Addr) (d4:Nat) (B:Nat) (H:Nat),listed=#[l0,l1,l2,l3,l4,l5,l6,l7,l8,l9]∧(l6=true→l5=true)∧(l8=true→l5=true) ∧
   a=⟨(((((((((A.tmps.setIfInBounds 11 (if l0=true then .agg #[x1,x2] else A.tmps.getD 11 undef)).setIfInBounds 12 (if l1=true then .agg #[.int .i64 P.states,.slice p1 P.moves.length p2,.slice p3 P.firsts.length p4,.slice p5 P.ends.length p6] else A.tmps.getD 12 undef)).setIfInBounds 13 (if l2=true then .agg #[x3,x4] else A.tmps.getD 13 undef)).setIfInBounds 14 (if l3=true then .agg #[.int .i64 Q.states,.slice q1 Q.moves.length q2,.slice q3 Q.firsts.length q4,.slice q5 Q.ends.length q6] else A.tmps.getD 14 undef)).setIfInBounds 15 (if l4=true then .agg #[.int .i64 J.states,.slice j1 J.moves.length j2,.slice j3 J.firsts.length j4,.slice j5 J.ends.length j6] else A.tmps.getD 15 undef)).setIfInBounds 16 (if l5=true then .tuple #[.agg #[.slice d1 D.next.length d2,.slice d3 D.ends.length d4],.bool fb] else A.tmps.getD 16 undef)).setIfInBounds 17 (if l6=true then .agg #[.slice d1 D.next.length d2,.slice d3 D.ends.length d4] else A.tmps.getD 17 undef)).setIfInBounds 18 (if l7=true then .bool fb else A.tmps.getD 18 undef)).setIfInBounds 7 (if l9=true then .bool fb else A.tmps.getD 7 undef)),A.defers⟩ ∧
   St w w' [Ent.box w.heap.size #[x1,x2] 32,Ent.box (w.heap.size+1) #[x3,x4] 32,(if l8=true then Ent.box (w.heap.size+1+1) #[.slice d1 D.next.length d2,.slice d3 D.ends.length d4] 32 else Ent.box (w.heap.size+1+1) #[.slice none 0 0,.slice none 0 0] 32),(if l1=true then NfaT P (.slice p1 P.moves.length p2) (.slice p3 P.firsts.length p4) (.slice p5 P.ends.length p6) else Ent.nil),(if l3=true then NfaT Q (.slice q1 Q.moves.length q2) (.slice q3 Q.firsts.length q4) (.slice q5 Q.ends.length q6) else Ent.nil),(if l4=true then NfaT J (.slice j1 J.moves.length j2) (.slice j3 J.firsts.length j4) (.slice j5 J.ends.length j6) else Ent.nil),(if l5=true then DfaX w.heap.size B H (.slice d1 D.next.length d2) (.slice d3 D.ends.length d4) D else Ent.nil)]) ?_ ?_ ?_
 ·rintro listed a w' ⟨l0,l1,l2,l3,l4,l5,l6,l7,l8,l9,p1,p2,p3,p4,p5,p6,q1,q2,q3,q4,q5,q6,j1,j2,j3,j4,j5,j6,d1,d2,d3,d4,B,H,rfl,hd6,hd8,rfl,hS⟩ i hi;obtain⟨hun,o,ho,hall⟩:=mem_ready.1 hi;have hlt:=(Array.getElem?_eq_some_iff.1 ho).1;refine wpOp_step ho (fun K hK => ?_);clear hi;have HS:=qh hS;clear hS;simp only[w_1,w_2,w_3,w_4,w_5,w_6,w_7,w_8];obtain h|h|h|h|h|h|h|h|h|h:i=0∨i=1∨i=2∨i=3∨i=4∨i=5∨i=6∨i=7∨i=8∨i=9:=by simp at hlt;omega
  all_goals subst h
  all_goals simp only[w_5,w_6,w_7,w_9] at ho
  all_goals subst ho
  all_goals simp[Region.binds] at hun hall
  ·subst hun;have e0:=HS.out.cell (v:=x1) 0 0 rfl rfl;have e1:=HS.out.cell (v:=x2) 0 1 rfl rfl;go_simp;exact hK _ _ ⟨_,_,_,_,_,_,_,_,_,_,p1,p2,p3,p4,p5,p6,q1,q2,q3,q4,q5,q6,j1,j2,j3,j4,j5,j6,d1,d2,d3,d4,B,H,rfl,hd6,hd8,(by simp),HS.out⟩
  ·obtain rfl:=hall;subst hun;go_simp
   go_at_call 68
   refine(HnA.out _ HS.out.bel).mono ?_;rintro e u1 ⟨pz1,pz2,pz3,pz4,pz5,pz6,rfl,hSx⟩;have hS2:=(HS.out.cat hSx).pick [0,1,2,7,4,5,6] (by decide);have HhS2:=qh hS2;clear hS2;go_simp;exact hK _ _ ⟨_,_,_,_,_,_,_,_,_,_,pz1,pz2,pz3,pz4,pz5,pz6,q1,q2,q3,q4,q5,q6,j1,j2,j3,j4,j5,j6,d1,d2,d3,d4,B,H,rfl,hd6,hd8,(by simp),HhS2.out⟩
  ·subst hun;have e0:=HS.out.cell (v:=x3) 1 0 rfl rfl;have e1:=HS.out.cell (v:=x4) 1 1 rfl rfl;go_simp;exact hK _ _ ⟨_,_,_,_,_,_,_,_,_,_,p1,p2,p3,p4,p5,p6,q1,q2,q3,q4,q5,q6,j1,j2,j3,j4,j5,j6,d1,d2,d3,d4,B,H,rfl,hd6,hd8,(by simp),HS.out⟩
  ·obtain⟨rfl,rfl⟩:=hall;subst hun;go_simp
   go_at_call 68
   refine(HnB.out _ HS.out.bel).mono ?_;rintro e u1 ⟨qz1,qz2,qz3,qz4,qz5,qz6,rfl,hSx⟩;have hS2:=(HS.out.cat hSx).pick [0,1,2,3,7,5,6] (by decide);have HhS2:=qh hS2;clear hS2;go_simp;exact hK _ _ ⟨_,_,_,_,_,_,_,_,_,_,p1,p2,p3,p4,p5,p6,qz1,qz2,qz3,qz4,qz5,qz6,j1,j2,j3,j4,j5,j6,d1,d2,d3,d4,B,H,rfl,hd6,hd8,(by simp),HhS2.out⟩
  ·obtain⟨rfl,rfl⟩:=hall;subst hun;go_simp
   go_at_call 107
   refine(HnJ.out _ _ _ _ _ _ _ (HS.out.nfaT 3 rfl) (HS.out.nfaT 4 rfl)).mono ?_;rintro e u1 ⟨jz1,jz2,jz3,jz4,jz5,jz6,rfl,hSx⟩;have hS2:=(HS.out.cat hSx).pick [0,1,2,3,4,7,6] (by decide);have HhS2:=qh hS2;clear hS2;go_simp;exact hK _ _ ⟨_,_,_,_,_,_,_,_,_,_,p1,p2,p3,p4,p5,p6,q1,q2,q3,q4,q5,q6,jz1,jz2,jz3,jz4,jz5,jz6,d1,d2,d3,d4,B,H,rfl,hd6,hd8,(by simp),HhS2.out⟩
  ·obtain rfl:=hall;subst hun;obtain rfl:l6=false:=by cases l6 with|false=>rfl|true=>simpa using hd6 rfl
   obtain rfl:l8=false:=by cases l8 with|false=>rfl|true=>simpa using hd8 rfl
   go_simp
   go_at_call 69
   refine(HnS.out _ _ _ _ (HS.out.nfaT 5 rfl)).mono ?_;rintro e u1 ⟨dz1,dz2,dz3,dz4,rfl,hr,hb⟩;have hS2:=(HS.out.dfaX hb hr).pick [0,1,2,3,4,5,7] (by decide);have HhS2:=qh hS2;clear hS2;go_simp;exact hK _ _ ⟨_,_,_,_,_,_,_,_,_,_,p1,p2,p3,p4,p5,p6,q1,q2,q3,q4,q5,q6,j1,j2,j3,j4,j5,j6,dz1,dz2,dz3,dz4,_,_,rfl,by simp,by simp,(by simp),HhS2.out⟩
  ·obtain rfl:=hall;subst hun;go_simp;exact hK _ _ ⟨_,_,_,_,_,_,_,_,_,_,p1,p2,p3,p4,p5,p6,q1,q2,q3,q4,q5,q6,j1,j2,j3,j4,j5,j6,d1,d2,d3,d4,B,H,rfl,by simp,hd8,(by simp),HS.out⟩
  ·obtain rfl:=hall;subst hun;go_simp;exact hK _ _ ⟨_,_,_,_,_,_,_,_,_,_,p1,p2,p3,p4,p5,p6,q1,q2,q3,q4,q5,q6,j1,j2,j3,j4,j5,j6,d1,d2,d3,d4,B,H,rfl,hd6,hd8,(by simp),HS.out⟩
  ·obtain⟨rfl,rfl,rfl,rfl,rfl,rfl,rfl,-,-,rfl⟩:=hall;subst hun;have f0:=HS.out.fr 2 0 rfl;have k0:=HS.out.cell (v:=.slice none 0 0) 2 0 rfl rfl;have f1:=HS.out.fr 2 1 rfl;have k1:=HS.out.cell (v:=.slice none 0 0) 2 1 rfl rfl;go_simp;exact hK _ _ ⟨_,_,_,_,_,_,_,_,_,_,p1,p2,p3,p4,p5,p6,q1,q2,q3,q4,q5,q6,j1,j2,j3,j4,j5,j6,d1,d2,d3,d4,B,H,rfl,by simp,by simp,(by simp),((HS.out.set 2 rfl 0 (.slice d1 D.next.length d2)).set 2 rfl 1 (.slice d3 D.ends.length d4))⟩
  obtain⟨rfl,rfl,rfl,rfl,rfl,rfl,rfl,rfl,rfl,-⟩:=hall;subst hun;go_simp;exact hK _ _ ⟨_,_,_,_,_,_,_,_,_,_,p1,p2,p3,p4,p5,p6,q1,q2,q3,q4,q5,q6,j1,j2,j3,j4,j5,j6,d1,d2,d3,d4,B,H,rfl,by simp,by simp,(by simp),HS.out⟩
 ·rintro listed a w' ⟨l0,l1,l2,l3,l4,l5,l6,l7,l8,l9,p1,p2,p3,p4,p5,p6,q1,q2,q3,q4,q5,q6,j1,j2,j3,j4,j5,j6,d1,d2,d3,d4,B,H,rfl,hd6,hd8,rfl,hS⟩ hr;obtain⟨rfl,rfl,rfl,rfl,rfl,rfl,rfl,rfl,rfl,rfl,-⟩:=zA (ZaG (by kernel_rfl) rfl hr) rfl;clear hr hd6 hd8;simp only[↓reduceIte] at hS ⊢;simp only[w_1,w_2,w_3];have HS9:=qh hS;clear hS;have q0:=HS9.out.cell (v:=.slice d1 D.next.length d2) 2 0 rfl rfl;have q1:=HS9.out.cell (v:=.slice d3 D.ends.length d4) 2 1 rfl rfl;go_wp2;refine bodyPost_ret (v:=.tuple #[.agg #[.slice d1 D.next.length d2,.slice d3 D.ends.length d4],.bool fb]) (by simp[results,Tryz.results70,go_sem,q0,q1]) rfl ?_;exact⟨_,_,_,_,rfl,HS9.out.dfaXr 6 rfl,HS9.out.bel⟩
 refine⟨false,false,false,false,false,false,false,false,false,false,none,0,none,0,none,0,none,0,none,0,none,0,none,0,none,0,none,0,none,0,none,0,0,0,rfl,by simp,by simp,(by simp),?_⟩;exact hS0.out.drew.pick [0,1,2,3,4,5,6] (by decide)
theorem ZqR (K:Nat) (a b:DfaD):twoQ K 5 a b=(ZbA K (fun p q=>p||q) a b).map minD:=rfl
theorem ZqQ (K:Nat) (a b:DfaD):twoQ K 6 a b=(ZbA K (fun p q=>p&&q) a b).map minD:=rfl
theorem ZfA (K:Nat) (hK:K=40) (a b:DfaD) (D:DfaD) (fb:Bool) (hD:(twoQ K 5 a b).getD zeD=D) (hfb:(twoQ K 5 a b).isSome=fb) (v1 v2:Value) (w:World) (hda:Zae a.next a.ends=true) (hdb:Zae b.next b.ends=true) (h1:DfaR 0 w v1 a) (h2:DfaR 0 w v2 b) :
  Calls Tryz.prog 70 #[.int .i64 5,v1,v2] w fun e w'=>RTs D fb w e w':=by
 have H1:=h1;have H2:=h2;obtain⟨x1,x2,rfl,-,-⟩:=h1;obtain⟨x3,x4,rfl,-,-⟩:=h2;have hS0:=(((St.start w).alloc _ rfl #[x1,x2] 32).alloc (w.heap.size+1) (by simp) #[x3,x4] 32).alloc (w.heap.size+1+1) (by simp) #[.slice none 0 0,.slice none 0 0] 32;rw[ZqR] at hD hfb;have Hsd:=qh (show ∀ W:World,Below w.heap.size w W→Calls Tryz.prog 108 #[.agg #[x1,x2],.agg #[x3,x4],.func (.func 109) #[] #[]] W fun e w'=>RTs D fb W e w' from fun W hb=>(Zir K hK a b D fb hD hfb _ _ W hda hdb (H1.below hb) (H2.below hb)).mono fun e w' h=>RTt.s h);replace hS0:=qh hS0;clear hD hfb H1 H2 hda hdb hK
 go_enter Tryz.func70, Tryz.ntmps70
 have e0:=hS0.out.cell (v:=x1) 0 0 rfl rfl;have e1:=hS0.out.cell (v:=x2) 0 1 rfl rfl;have e2:=hS0.out.cell (v:=x3) 1 0 rfl rfl;have e3:=hS0.out.cell (v:=x4) 1 1 rfl rfl;go_wp2_with fail;refine(Hsd.out _ hS0.out.bel).mono ?_;rintro e w5 ⟨a1,c1,a2,c2,rfl,hr,hb5⟩;have HS5:=qh (hS0.out.call hb5);have HDr:=qh hr;have hB1:=(hS0.out.boxlt 2 rfl).2;have hsz:=hS0.out.size;have f0:=HS5.out.fr 2 0 rfl;have f1:=HS5.out.fr 2 1 rfl;have k0:=HS5.out.cell (v:=.slice none 0 0) 2 0 rfl rfl;have k1:=HS5.out.cell (v:=.slice none 0 0) 2 1 rfl rfl;clear hr hb5 e0 e1 e2 e3;go_wp2;have hq:=(HS5.out.set 2 rfl 0 (.slice a1 D.next.length c1)).set 2 rfl 1 (.slice a2 D.ends.length c2);have q0:=hq.cell (v:=.slice a1 D.next.length c1) 2 0 rfl rfl;have q1:=hq.cell (v:=.slice a2 D.ends.length c2) 2 1 rfl rfl;refine bodyPost_ret (v:=.tuple #[.agg #[.slice a1 D.next.length c1,.slice a2 D.ends.length c2],.bool fb]) (by simp[results,Tryz.results70,go_sem,q0,q1]) rfl ?_;exact⟨a1,c1,a2,c2,rfl,((HDr.out.far hB1 0 _).far hB1 1 _).mono hsz,hq.bel⟩
theorem Zfz (K:Nat) (hK:K=40) (a b:DfaD) (D:DfaD) (fb:Bool) (hD:(twoQ K 6 a b).getD zeD=D) (hfb:(twoQ K 6 a b).isSome=fb) (v1 v2:Value) (w:World) (hda:Zae a.next a.ends=true) (hdb:Zae b.next b.ends=true) (h1:DfaR 0 w v1 a) (h2:DfaR 0 w v2 b) :
  Calls Tryz.prog 70 #[.int .i64 6,v1,v2] w fun e w'=>RTs D fb w e w':=by
 have H1:=h1;have H2:=h2;obtain⟨x1,x2,rfl,-,-⟩:=h1;obtain⟨x3,x4,rfl,-,-⟩:=h2;have hS0:=(((St.start w).alloc _ rfl #[x1,x2] 32).alloc (w.heap.size+1) (by simp) #[x3,x4] 32).alloc (w.heap.size+1+1) (by simp) #[.slice none 0 0,.slice none 0 0] 32;rw[ZqQ] at hD hfb;have Hsd:=qh (show ∀ W:World,Below w.heap.size w W→Calls Tryz.prog 108 #[.agg #[x1,x2],.agg #[x3,x4],.func (.func 110) #[] #[]] W fun e w'=>RTs D fb W e w' from fun W hb=>(Zis K hK a b D fb hD hfb _ _ W hda hdb (H1.below hb) (H2.below hb)).mono fun e w' h=>RTt.s h);replace hS0:=qh hS0;clear hD hfb H1 H2 hda hdb hK
 go_enter Tryz.func70, Tryz.ntmps70
 have e0:=hS0.out.cell (v:=x1) 0 0 rfl rfl;have e1:=hS0.out.cell (v:=x2) 0 1 rfl rfl;have e2:=hS0.out.cell (v:=x3) 1 0 rfl rfl;have e3:=hS0.out.cell (v:=x4) 1 1 rfl rfl;go_wp2_with fail;refine(Hsd.out _ hS0.out.bel).mono ?_;rintro e w5 ⟨a1,c1,a2,c2,rfl,hr,hb5⟩;have HS5:=qh (hS0.out.call hb5);have HDr:=qh hr;have hB1:=(hS0.out.boxlt 2 rfl).2;have hsz:=hS0.out.size;have f0:=HS5.out.fr 2 0 rfl;have f1:=HS5.out.fr 2 1 rfl;have k0:=HS5.out.cell (v:=.slice none 0 0) 2 0 rfl rfl;have k1:=HS5.out.cell (v:=.slice none 0 0) 2 1 rfl rfl;clear hr hb5 e0 e1 e2 e3;go_wp2;have hq:=(HS5.out.set 2 rfl 0 (.slice a1 D.next.length c1)).set 2 rfl 1 (.slice a2 D.ends.length c2);have q0:=hq.cell (v:=.slice a1 D.next.length c1) 2 0 rfl rfl;have q1:=hq.cell (v:=.slice a2 D.ends.length c2) 2 1 rfl rfl;refine bodyPost_ret (v:=.tuple #[.agg #[.slice a1 D.next.length c1,.slice a2 D.ends.length c2],.bool fb]) (by simp[results,Tryz.results70,go_sem,q0,q1]) rfl ?_;exact⟨a1,c1,a2,c2,rfl,((HDr.out.far hB1 0 _).far hB1 1 _).mono hsz,hq.bel⟩
theorem ZgD (K:Nat) (hK:K=40) (k:Int) (hk:k=4∨k=5∨k=6) (a b:DfaD) (D:DfaD) (fb:Bool) (hD:(twoQ K k a b).getD zeD=D) (hfb:(twoQ K k a b).isSome=fb) (v1 v2:Value) (w:World) (hda:Zae a.next a.ends=true) (hdb:Zae b.next b.ends=true) (h1:DfaR 0 w v1 a) (h2:DfaR 0 w v2 b) :
  Calls Tryz.prog 70 #[.int .i64 k,v1,v2] w fun e w'=>RTs D fb w e w':=by
 rcases hk with rfl|rfl|rfl
 ·exact Zfy K hK a b D fb hD hfb v1 v2 w hda hdb h1 h2
 ·exact ZfA K hK a b D fb hD hfb v1 v2 w hda hdb h1 h2
 exact Zfz K hK a b D fb hD hfb v1 v2 w hda hdb h1 h2
theorem Za7 (t:Int) (B:Nat) (w:World) (hB:w.heap.size=B):Calls Tryz.prog 104 #[.int .i64 t] w fun e w'=>e = .returned (.slice (some ⟨B,0,none⟩) 3 3)∧w'=w.alloc (.cells #[.int .i64 t,.int .i64 t,.int .i64 t] 3):=by
 subst hB
 go_enter Tryz.func104, Tryz.ntmps104
 go_wp2;go_ret;exact⟨rfl,rfl⟩
theorem Zbv {w0 w:World} {L:List Ent} (h:St w0 w L) (i:Nat) {e:Nat} {v:Value} {n:Nat} {l:List Int} (hx:L[i]? = some (Ent.row e 1 v n (intCells l))):Ints w0.heap.size w v l:=by
 have h2:=h.row i hx;have hn:n=l.length:=by have:=h2.1;simp[intCells] at this;omega
 subst hn;exact(Zaa h2).sl (by omega)
theorem Zf6 {w0 w:World} {L:List Ent} (h:St w0 w L) (i:Nat) {e:Nat} {v:Value} {n:Nat} {cs:List Value} (hx:L[i]? = some (Ent.row e 1 v n cs)):Sl w0.heap.size w v n 1 cs:=(Zaa (h.row i hx)).sl (by omega)
theorem ZdH {w0 w:World} {L:List Ent} (h:St w0 w L) (i:Nat) {e:Nat} {v:Value} {n:Nat} {l:List Bool} (hx:L[i]? = some (Ent.row e 1 v n (boolCells l))):Bools w0.heap.size w v l:=by
 have h2:=h.row i hx;have hn:n=l.length:=by have:=h2.1;simp[boolCells] at this;omega
 subst hn;exact(Zaa h2).sl (by omega)
theorem Ziu (w:World):Calls Tryz.prog 66 #[.agg #[.int .i64 1,.int .i64 0]] w fun e w'=>RDs Zel w e w':=by
 have hS0:=((St.start w).alloc _ rfl #[.int .i64 1,.int .i64 0] 55).alloc (w.heap.size+1) (by simp) #[.slice none 0 0,.slice none 0 0] 32;replace hS0:=qh hS0
 go_enter Tryz.func66, Tryz.ntmps66
 have e0:=hS0.out.cell (v:=.int .i64 1) 0 0 rfl rfl;go_wp2_with fail;refine(Za7 0 (w.heap.size+1+1) _ (by simp)).mono ?_;rintro e w1 ⟨rfl,rfl⟩;clear e0;go_wp2;have hq:=(((((St.start w).alloc _ rfl #[.int .i64 1,.int .i64 0] 55).alloc (w.heap.size+1) (by simp) #[.slice (some ⟨w.heap.size+1+1+1,0,none⟩) 1 1,.slice (some ⟨w.heap.size+1+1+1+1,0,none⟩) 1 1] 32).alloc (w.heap.size+1+1) (by simp) #[.int .i64 0,.int .i64 0,.int .i64 0] 3).alloc (w.heap.size+1+1+1) (by simp) #[.slice (some ⟨w.heap.size+1+1,0,none⟩) 3 3] 59).alloc (w.heap.size+1+1+1+1) (by simp) #[.bool false] 4;refine bodyPost_ret (v:=.agg #[.slice (some ⟨w.heap.size+1+1+1,0,none⟩) 1 1,.slice (some ⟨w.heap.size+1+1+1+1,0,none⟩) 1 1]) (by simp[results,Tryz.results66,go_sem]) rfl ?_;have hr:=((hq.boxrow 2 3 1 (intCells [0,0,0]) rfl rfl (by decide)).boxrow 3 1 1 [.slice (some ⟨w.heap.size+1+1,0,none⟩) 3 3] rfl rfl (by decide)).boxrow 4 1 1 (boolCells [false]) rfl rfl (by decide);refine⟨_,_,_,_,rfl,⟨_,_,rfl,⟨_,Zf6 hr 3 rfl,fun i hi => ?_⟩,ZdH hr 4 rfl⟩,hq.bel⟩;obtain rfl:i=0:=by have:i<1:=hi;omega
 exact Zbv hr 2 rfl
theorem Zit (w:World):Calls Tryz.prog 66 #[.agg #[.int .i64 2,.int .i64 0]] w fun e w'=>RDs oneD w e w':=by
 have hS0:=((St.start w).alloc _ rfl #[.int .i64 2,.int .i64 0] 55).alloc (w.heap.size+1) (by simp) #[.slice none 0 0,.slice none 0 0] 32;replace hS0:=qh hS0
 go_enter Tryz.func66, Tryz.ntmps66
 have e0:=hS0.out.cell (v:=.int .i64 2) 0 0 rfl rfl;go_wp2_with fail;refine(Za7 1 (w.heap.size+1+1) _ (by simp)).mono ?_;rintro e w1 ⟨rfl,rfl⟩;go_wp2_with fail;refine(Za7 1 (w.heap.size+1+1+1) _ (by simp)).mono ?_;rintro e w1 ⟨rfl,rfl⟩;clear e0;go_wp2;have hq:=((((((St.start w).alloc _ rfl #[.int .i64 2,.int .i64 0] 55).alloc (w.heap.size+1) (by simp) #[.slice (some ⟨w.heap.size+1+1+1+1,0,none⟩) 2 2,.slice (some ⟨w.heap.size+1+1+1+1+1,0,none⟩) 2 2] 32).alloc (w.heap.size+1+1) (by simp) #[.int .i64 1,.int .i64 1,.int .i64 1] 3).alloc (w.heap.size+1+1+1) (by simp) #[.int .i64 1,.int .i64 1,.int .i64 1] 3).alloc (w.heap.size+1+1+1+1) (by simp) #[.slice (some ⟨w.heap.size+1+1,0,none⟩) 3 3,.slice (some ⟨w.heap.size+1+1+1,0,none⟩) 3 3] 59).alloc (w.heap.size+1+1+1+1+1) (by simp) #[.bool true,.bool false] 4;refine bodyPost_ret (v:=.agg #[.slice (some ⟨w.heap.size+1+1+1+1,0,none⟩) 2 2,.slice (some ⟨w.heap.size+1+1+1+1+1,0,none⟩) 2 2]) (by simp[results,Tryz.results66,go_sem]) rfl ?_;have hr:=(((hq.boxrow 2 3 1 (intCells [1,1,1]) rfl rfl (by decide)).boxrow 3 3 1 (intCells [1,1,1]) rfl rfl (by decide)).boxrow 4 2 1 [.slice (some ⟨w.heap.size+1+1,0,none⟩) 3 3,.slice (some ⟨w.heap.size+1+1+1,0,none⟩) 3 3] rfl rfl (by decide)).boxrow 5 2 1 (boolCells [true,false]) rfl rfl (by decide);refine⟨_,_,_,_,rfl,⟨_,_,rfl,⟨_,Zf6 hr 4 rfl,fun i hi => ?_⟩,ZdH hr 5 rfl⟩,hq.bel⟩;have hi:i<2:=hi;obtain rfl|rfl:i=0∨i=1:=by omega
 ·exact Zbv hr 2 rfl
 exact Zbv hr 3 rfl
theorem Zha (D:DfaD) (hD:minD ⟨[[1,2,2],[2,2,2],[2,2,2]],[false,true,false]⟩=D) (w:World):Calls Tryz.prog 66 #[.agg #[.int .i64 3,.int .i64 0]] w fun e w'=>RDs D w e w':=by
 have hS0:=((St.start w).alloc _ rfl #[.int .i64 3,.int .i64 0] 55).alloc (w.heap.size+1) (by simp) #[.slice none 0 0,.slice none 0 0] 32;have hok:Zae [[1,2,2],[2,2,2],[2,2,2]] [false,true,false]=true:=by decide
 replace hS0:=qh hS0;replace hD:=qh hD;have Hhok:=qh hok;clear hok
 go_enter Tryz.func66, Tryz.ntmps66
 have e0:=hS0.out.cell (v:=.int .i64 3) 0 0 rfl rfl;have e1:=hS0.out.cell (v:=.int .i64 0) 0 1 rfl rfl;go_wp2_with fail;refine(Za7 2 (w.heap.size+1+1) _ (by simp)).mono ?_;rintro e w1 ⟨rfl,rfl⟩;go_wp2_with fail;refine(Za7 2 (w.heap.size+1+1+1) _ (by simp)).mono ?_;rintro e w1 ⟨rfl,rfl⟩;go_wp2_with fail;refine(Za7 2 (w.heap.size+1+1+1+1) _ (by simp)).mono ?_;rintro e w1 ⟨rfl,rfl⟩;have hS3:=((((hS0.out.alloc (w.heap.size+1+1) (by simp) #[.int .i64 1,.int .i64 2,.int .i64 2] 3).alloc (w.heap.size+1+1+1) (by simp) #[.int .i64 2,.int .i64 2,.int .i64 2] 3).alloc (w.heap.size+1+1+1+1) (by simp) #[.int .i64 2,.int .i64 2,.int .i64 2] 3).alloc (w.heap.size+1+1+1+1+1) (by simp) #[.slice (some ⟨w.heap.size+1+1,0,none⟩) 3 3,.slice (some ⟨w.heap.size+1+1+1,0,none⟩) 3 3,.slice (some ⟨w.heap.size+1+1+1+1,0,none⟩) 3 3] 59).alloc (w.heap.size+1+1+1+1+1+1) (by simp) #[.bool false,.bool true,.bool false] 4;have hr:=((((hS3.boxrow 2 3 1 (intCells [1,2,2]) rfl rfl (by decide)).boxrow 3 3 1 (intCells [2,2,2]) rfl rfl (by decide)).boxrow 4 3 1 (intCells [2,2,2]) rfl rfl (by decide)).boxrow 5 3 1 [.slice (some ⟨w.heap.size+1+1,0,none⟩) 3 3,.slice (some ⟨w.heap.size+1+1+1,0,none⟩) 3 3,.slice (some ⟨w.heap.size+1+1+1+1,0,none⟩) 3 3] rfl rfl (by decide)).boxrow 6 3 1 (boolCells [false,true,false]) rfl rfl (by decide)
 have hR:DfaR 0 _ (.agg #[.slice (some ⟨w.heap.size+1+1+1+1+1,0,none⟩) 3 3,.slice (some ⟨w.heap.size+1+1+1+1+1+1,0,none⟩) 3 3]) ⟨[[1,2,2],[2,2,2],[2,2,2]],[false,true,false]⟩:=⟨_,_,rfl,⟨_,(Zf6 hr 5 rfl).mono (Nat.zero_le _),fun i hi=>by
  have hi:i<3:=hi;obtain rfl|rfl|rfl:i=0∨i=1∨i=2:=by omega
  ·exact Sl.mono (Zbv hr 2 rfl) (Nat.zero_le _)
  ·exact Sl.mono (Zbv hr 3 rfl) (Nat.zero_le _)
  exact Sl.mono (Zbv hr 4 rfl) (Nat.zero_le _)⟩,Sl.mono (ZdH hr 6 rfl) (Nat.zero_le _)⟩
 have HS3:=qh hS3;have HR:=qh hR;clear hS3 hr hR e0 e1;go_wp2_with fail;refine(Zbd _ _ _ Hhok.out HR.out).mono ?_;rintro e w5 ⟨a1,c1,a2,c2,rfl,hown,hb5⟩;rw[hD.out] at hown;rw[hD.out];have HS4:=qh (HS3.out.call hb5);have HDr:=qh hown.r;have hB1:=(HS3.out.boxlt 1 rfl).2;have hsz:=HS3.out.size;have f0:=HS4.out.fr 1 0 rfl;have f1:=HS4.out.fr 1 1 rfl;have k0:=HS4.out.cell (v:=.slice none 0 0) 1 0 rfl rfl;have k1:=HS4.out.cell (v:=.slice none 0 0) 1 1 rfl rfl;clear hown hb5;go_wp2;have hq:=(HS4.out.set 1 rfl 0 (.slice a1 D.next.length c1)).set 1 rfl 1 (.slice a2 D.ends.length c2);have q0:=hq.cell (v:=.slice a1 D.next.length c1) 1 0 rfl rfl;have q1:=hq.cell (v:=.slice a2 D.ends.length c2) 1 1 rfl rfl;refine bodyPost_ret (v:=.agg #[.slice a1 D.next.length c1,.slice a2 D.ends.length c2]) (by simp[results,Tryz.results66,go_sem,q0,q1]) rfl ?_;exact⟨a1,c1,a2,c2,rfl,((HDr.out.far hB1 0 _).far hB1 1 _).mono hsz,hq.bel⟩
theorem Zg9 (D:DfaD) (hD:minD ⟨[[2,1,2],[2,2,2],[2,2,2]],[false,true,false]⟩=D) (w:World):Calls Tryz.prog 66 #[.agg #[.int .i64 3,.int .i64 1]] w fun e w'=>RDs D w e w':=by
 have hS0:=((St.start w).alloc _ rfl #[.int .i64 3,.int .i64 1] 55).alloc (w.heap.size+1) (by simp) #[.slice none 0 0,.slice none 0 0] 32;have hok:Zae [[2,1,2],[2,2,2],[2,2,2]] [false,true,false]=true:=by decide
 replace hS0:=qh hS0;replace hD:=qh hD;have Hhok:=qh hok;clear hok
 go_enter Tryz.func66, Tryz.ntmps66
 have e0:=hS0.out.cell (v:=.int .i64 3) 0 0 rfl rfl;have e1:=hS0.out.cell (v:=.int .i64 1) 0 1 rfl rfl;go_wp2_with fail;refine(Za7 2 (w.heap.size+1+1) _ (by simp)).mono ?_;rintro e w1 ⟨rfl,rfl⟩;go_wp2_with fail;refine(Za7 2 (w.heap.size+1+1+1) _ (by simp)).mono ?_;rintro e w1 ⟨rfl,rfl⟩;go_wp2_with fail;refine(Za7 2 (w.heap.size+1+1+1+1) _ (by simp)).mono ?_;rintro e w1 ⟨rfl,rfl⟩;have hS3:=((((hS0.out.alloc (w.heap.size+1+1) (by simp) #[.int .i64 2,.int .i64 1,.int .i64 2] 3).alloc (w.heap.size+1+1+1) (by simp) #[.int .i64 2,.int .i64 2,.int .i64 2] 3).alloc (w.heap.size+1+1+1+1) (by simp) #[.int .i64 2,.int .i64 2,.int .i64 2] 3).alloc (w.heap.size+1+1+1+1+1) (by simp) #[.slice (some ⟨w.heap.size+1+1,0,none⟩) 3 3,.slice (some ⟨w.heap.size+1+1+1,0,none⟩) 3 3,.slice (some ⟨w.heap.size+1+1+1+1,0,none⟩) 3 3] 59).alloc (w.heap.size+1+1+1+1+1+1) (by simp) #[.bool false,.bool true,.bool false] 4;have hr:=((((hS3.boxrow 2 3 1 (intCells [2,1,2]) rfl rfl (by decide)).boxrow 3 3 1 (intCells [2,2,2]) rfl rfl (by decide)).boxrow 4 3 1 (intCells [2,2,2]) rfl rfl (by decide)).boxrow 5 3 1 [.slice (some ⟨w.heap.size+1+1,0,none⟩) 3 3,.slice (some ⟨w.heap.size+1+1+1,0,none⟩) 3 3,.slice (some ⟨w.heap.size+1+1+1+1,0,none⟩) 3 3] rfl rfl (by decide)).boxrow 6 3 1 (boolCells [false,true,false]) rfl rfl (by decide)
 have hR:DfaR 0 _ (.agg #[.slice (some ⟨w.heap.size+1+1+1+1+1,0,none⟩) 3 3,.slice (some ⟨w.heap.size+1+1+1+1+1+1,0,none⟩) 3 3]) ⟨[[2,1,2],[2,2,2],[2,2,2]],[false,true,false]⟩:=⟨_,_,rfl,⟨_,(Zf6 hr 5 rfl).mono (Nat.zero_le _),fun i hi=>by
  have hi:i<3:=hi;obtain rfl|rfl|rfl:i=0∨i=1∨i=2:=by omega
  ·exact Sl.mono (Zbv hr 2 rfl) (Nat.zero_le _)
  ·exact Sl.mono (Zbv hr 3 rfl) (Nat.zero_le _)
  exact Sl.mono (Zbv hr 4 rfl) (Nat.zero_le _)⟩,Sl.mono (ZdH hr 6 rfl) (Nat.zero_le _)⟩
 have HS3:=qh hS3;have HR:=qh hR;clear hS3 hr hR e0 e1;go_wp2_with fail;refine(Zbd _ _ _ Hhok.out HR.out).mono ?_;rintro e w5 ⟨a1,c1,a2,c2,rfl,hown,hb5⟩;rw[hD.out] at hown;rw[hD.out];have HS4:=qh (HS3.out.call hb5);have HDr:=qh hown.r;have hB1:=(HS3.out.boxlt 1 rfl).2;have hsz:=HS3.out.size;have f0:=HS4.out.fr 1 0 rfl;have f1:=HS4.out.fr 1 1 rfl;have k0:=HS4.out.cell (v:=.slice none 0 0) 1 0 rfl rfl;have k1:=HS4.out.cell (v:=.slice none 0 0) 1 1 rfl rfl;clear hown hb5;go_wp2;have hq:=(HS4.out.set 1 rfl 0 (.slice a1 D.next.length c1)).set 1 rfl 1 (.slice a2 D.ends.length c2);have q0:=hq.cell (v:=.slice a1 D.next.length c1) 1 0 rfl rfl;have q1:=hq.cell (v:=.slice a2 D.ends.length c2) 1 1 rfl rfl;refine bodyPost_ret (v:=.agg #[.slice a1 D.next.length c1,.slice a2 D.ends.length c2]) (by simp[results,Tryz.results66,go_sem,q0,q1]) rfl ?_;exact⟨a1,c1,a2,c2,rfl,((HDr.out.far hB1 0 _).far hB1 1 _).mono hsz,hq.bel⟩
theorem Zg8 (D:DfaD) (hD:minD ⟨[[2,2,1],[2,2,2],[2,2,2]],[false,true,false]⟩=D) (w:World):Calls Tryz.prog 66 #[.agg #[.int .i64 3,.int .i64 2]] w fun e w'=>RDs D w e w':=by
 have hS0:=((St.start w).alloc _ rfl #[.int .i64 3,.int .i64 2] 55).alloc (w.heap.size+1) (by simp) #[.slice none 0 0,.slice none 0 0] 32;have hok:Zae [[2,2,1],[2,2,2],[2,2,2]] [false,true,false]=true:=by decide
 replace hS0:=qh hS0;replace hD:=qh hD;have Hhok:=qh hok;clear hok
 go_enter Tryz.func66, Tryz.ntmps66
 have e0:=hS0.out.cell (v:=.int .i64 3) 0 0 rfl rfl;have e1:=hS0.out.cell (v:=.int .i64 2) 0 1 rfl rfl;go_wp2_with fail;refine(Za7 2 (w.heap.size+1+1) _ (by simp)).mono ?_;rintro e w1 ⟨rfl,rfl⟩;go_wp2_with fail;refine(Za7 2 (w.heap.size+1+1+1) _ (by simp)).mono ?_;rintro e w1 ⟨rfl,rfl⟩;go_wp2_with fail;refine(Za7 2 (w.heap.size+1+1+1+1) _ (by simp)).mono ?_;rintro e w1 ⟨rfl,rfl⟩;have hS3:=((((hS0.out.alloc (w.heap.size+1+1) (by simp) #[.int .i64 2,.int .i64 2,.int .i64 1] 3).alloc (w.heap.size+1+1+1) (by simp) #[.int .i64 2,.int .i64 2,.int .i64 2] 3).alloc (w.heap.size+1+1+1+1) (by simp) #[.int .i64 2,.int .i64 2,.int .i64 2] 3).alloc (w.heap.size+1+1+1+1+1) (by simp) #[.slice (some ⟨w.heap.size+1+1,0,none⟩) 3 3,.slice (some ⟨w.heap.size+1+1+1,0,none⟩) 3 3,.slice (some ⟨w.heap.size+1+1+1+1,0,none⟩) 3 3] 59).alloc (w.heap.size+1+1+1+1+1+1) (by simp) #[.bool false,.bool true,.bool false] 4;have hr:=((((hS3.boxrow 2 3 1 (intCells [2,2,1]) rfl rfl (by decide)).boxrow 3 3 1 (intCells [2,2,2]) rfl rfl (by decide)).boxrow 4 3 1 (intCells [2,2,2]) rfl rfl (by decide)).boxrow 5 3 1 [.slice (some ⟨w.heap.size+1+1,0,none⟩) 3 3,.slice (some ⟨w.heap.size+1+1+1,0,none⟩) 3 3,.slice (some ⟨w.heap.size+1+1+1+1,0,none⟩) 3 3] rfl rfl (by decide)).boxrow 6 3 1 (boolCells [false,true,false]) rfl rfl (by decide)
 have hR:DfaR 0 _ (.agg #[.slice (some ⟨w.heap.size+1+1+1+1+1,0,none⟩) 3 3,.slice (some ⟨w.heap.size+1+1+1+1+1+1,0,none⟩) 3 3]) ⟨[[2,2,1],[2,2,2],[2,2,2]],[false,true,false]⟩:=⟨_,_,rfl,⟨_,(Zf6 hr 5 rfl).mono (Nat.zero_le _),fun i hi=>by
  have hi:i<3:=hi;obtain rfl|rfl|rfl:i=0∨i=1∨i=2:=by omega
  ·exact Sl.mono (Zbv hr 2 rfl) (Nat.zero_le _)
  ·exact Sl.mono (Zbv hr 3 rfl) (Nat.zero_le _)
  exact Sl.mono (Zbv hr 4 rfl) (Nat.zero_le _)⟩,Sl.mono (ZdH hr 6 rfl) (Nat.zero_le _)⟩
 have HS3:=qh hS3;have HR:=qh hR;clear hS3 hr hR e0 e1;go_wp2_with fail;refine(Zbd _ _ _ Hhok.out HR.out).mono ?_;rintro e w5 ⟨a1,c1,a2,c2,rfl,hown,hb5⟩;rw[hD.out] at hown;rw[hD.out];have HS4:=qh (HS3.out.call hb5);have HDr:=qh hown.r;have hB1:=(HS3.out.boxlt 1 rfl).2;have hsz:=HS3.out.size;have f0:=HS4.out.fr 1 0 rfl;have f1:=HS4.out.fr 1 1 rfl;have k0:=HS4.out.cell (v:=.slice none 0 0) 1 0 rfl rfl;have k1:=HS4.out.cell (v:=.slice none 0 0) 1 1 rfl rfl;clear hown hb5;go_wp2;have hq:=(HS4.out.set 1 rfl 0 (.slice a1 D.next.length c1)).set 1 rfl 1 (.slice a2 D.ends.length c2);have q0:=hq.cell (v:=.slice a1 D.next.length c1) 1 0 rfl rfl;have q1:=hq.cell (v:=.slice a2 D.ends.length c2) 1 1 rfl rfl;refine bodyPost_ret (v:=.agg #[.slice a1 D.next.length c1,.slice a2 D.ends.length c2]) (by simp[results,Tryz.results66,go_sem,q0,q1]) rfl ?_;exact⟨a1,c1,a2,c2,rfl,((HDr.out.far hB1 0 _).far hB1 1 _).mono hsz,hq.bel⟩
theorem Zjt (k l:Int) (w:World) (hok:pOk (k,l)=true) (h0:Zag (k,l)=0) (D:DfaD) (hD:Zjh (k,l)=D):Calls Tryz.prog 66 #[.agg #[.int .i64 k,.int .i64 l]] w fun e w'=>RDs D w e w':=by
 have hk:(k=1∧l=0)∨(k=2∧l=0)∨(k=3∧0≤l∧l≤2):=by
  unfold Zag at h0;rw[if_pos hok] at h0;simp only[pOk,inB,Bool.and_eq_true,Bool.or_eq_true,decide_eq_true_eq,Bool.not_eq_true',decide_eq_false_iff_not] at hok
  split at h0
  ·omega
  split at h0<;>omega
 subst hD;rcases hk with⟨rfl,rfl⟩|⟨rfl,rfl⟩|⟨rfl,h1,h2⟩
 ·exact Ziu w
 ·exact Zit w
 obtain⟨c,rfl⟩:∃ c:Nat,l=(c:Int):=⟨l.toNat,by omega⟩;obtain rfl|rfl|rfl:c=0∨c=1∨c=2:=by omega
 ·exact Zha _ rfl w
 ·exact Zg9 _ rfl w
 exact Zg8 _ rfl w
end Go.Proofs.YtehmjmjedopkkaaGreat
