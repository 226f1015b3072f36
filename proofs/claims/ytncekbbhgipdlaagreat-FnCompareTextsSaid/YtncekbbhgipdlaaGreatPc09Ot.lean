/-
  The language of an automaton with choices, plain: ways through it, and what joins, repeats, unites and turns languages.
  No condition: this text speaks of no program.
-/
import Derived.Test.YtncekbbhgipdlaaGreatPc08Tb
set_option maxHeartbeats 8000000
set_option maxRecDepth 100000
namespace Go.Proofs.YtncekbbhgipdlaaGreat
open Go.RowKit
inductive Pth (ms:List (Int × Int × Int)):Int→List Nat→Int→Prop
 | here (s:Int):Pth ms s [] s
 | eps {s t u:Int} {w:List Nat}:(s,-1,t)∈ms→Pth ms t w u→Pth ms s w u
 | step {s t u:Int} {c:Nat} {w:List Nat}:(s,(c:Int),t)∈ms→Pth ms t w u→Pth ms s (c::w) u
theorem Pth.append {ms:List (Int × Int × Int)} {s t u:Int} {x y:List Nat} (h:Pth ms s x t) (B:Pth ms t y u):Pth ms s (x++y) u:=by
 induction h with
 | here s=>exact B
 | eps hm _ C=>exact .eps hm (C B)
 | step hm _ C=>exact .step hm (C B)
theorem Pth.mono {ms C:List (Int × Int × Int)} (hs:∀ m∈ms,m∈C) {s t:Int} {x:List Nat} (h:Pth ms s x t):Pth C s x t:=by
 induction h with
 | here s=>exact .here s
 | eps hm _ B=>exact .eps (hs _ hm) B
 | step hm _ B=>exact .step (hs _ hm) B
theorem Pth.map {ms C:List (Int × Int × Int)} (f:Int→Int) (hs:∀ m∈ms,(f m.1,m.2.1,f m.2.2)∈C∨(m.2.1 = -1∧f m.1=f m.2.2)) {s t:Int} {x:List Nat} (h:Pth ms s x t):Pth C (f s) x (f t):=by
 induction h with
 | here s=>exact .here _
 | eps hm _ B =>
  rcases hs _ hm with h|⟨_,h⟩
  ·exact .eps h B
  exact h ▸ B
 | step hm _ B =>
  rcases hs _ hm with h|⟨h,_⟩
  ·exact .step h B
  simp only at h;omega
theorem Pth.in {ms:List (Int × Int × Int)} {n:Nat} (hm:mvIn n ms) {s t:Int} {x:List Nat} (h:Pth ms s x t) (hs:0≤s∧s<(n:Int)):0≤t∧t<(n:Int):=by
 induction h with
 | here s=>exact hs
 | eps h _ B=>exact B (hm _ h).2
 | step h _ B=>exact B (hm _ h).2
def runS (n:NfaD) (cs:List Nat):Nat:=cs.foldl (fun v (c:Nat)=>stV 40 n.moves v (c:Int)) (clV 40 n.moves (setV n.firsts))
def accS (n:NfaD) (cs:List Nat):Bool:=n.ends.any fun s=>(runS n cs).testBit s.toNat
theorem Zov (P:Nat→Prop):∀ n:Nat,∃ u:Nat,∀ t,u.testBit t=true↔t<n∧P t
 | 0=>⟨0,fun t=>by simp⟩
 | n+1=>by
  obtain⟨u,hu⟩:=Zov P n;by_cases hp:P n
  ·refine⟨adj u n,fun t => ?_⟩;rw[ZcB,Bool.or_eq_true,hu,decide_eq_true_eq];constructor
   ·rintro(⟨h1,h2⟩|rfl)
    ·exact⟨by omega,h2⟩
    exact⟨by omega,hp⟩
   rintro⟨h1,h2⟩;by_cases h:n=t
   ·exact .inr h
   exact .inl ⟨by omega,h2⟩
  refine⟨u,fun t => ?_⟩;rw[hu];constructor
  ·rintro⟨h1,h2⟩;exact⟨by omega,h2⟩
  rintro⟨h1,h2⟩;by_cases h:t=n
  ·subst h;exact absurd h2 hp
  exact⟨by omega,h2⟩
theorem Pth.closed {ms:List (Int × Int × Int)} {u:Nat} (hu:Zcn ms u) {s t:Int} {x:List Nat} (h:Pth ms s x t) (hx:x=[]) (hs:u.testBit s.toNat=true):u.testBit t.toNat=true:=by
 induction h with
 | here s=>exact hs
 | eps hm _ B=>exact B hx (hu _ hm rfl hs)
 | step hm _ B=>cases hx
theorem ZpD {ms:List (Int × Int × Int)} (hm:mvIn 40 ms) {v t:Nat} (E:v<2 ^ 40):(clV 40 ms v).testBit t=true↔∃ s:Nat,s<40∧v.testBit s=true∧Pth ms s [] t:=by
 constructor
 ·intro h;obtain⟨u,hu⟩:=Zov (fun t=>∃ s:Nat,s<40∧v.testBit s=true∧Pth ms s [] t) 40
  have hc:Zcn ms u:=by
   intro m C he hf;obtain⟨h1,s,hs,B,hp⟩:=(hu _).1 hf;have h2:=hm m C;refine(hu _).2 ⟨by omega,s,hs,B,?_⟩;have e1:((m.1.toNat:Nat):Int)=m.1:=by omega
   have e2:((m.2.2.toNat:Nat):Int)=m.2.2:=by omega
   rw[e1] at hp;rw[e2];refine hp.append (y:=[]) (.eps ?_ (.here _));rw[← he];exact C
  have D:subV v u:=by
   intro s hs
   have:s<40:=by
    by_cases h:s<40
    ·exact h
    rw[Nat.testBit_lt_two_pow (Nat.lt_of_lt_of_le E (Nat.pow_le_pow_right (by omega) (by omega)))] at hs;cases hs
   exact(hu s).2 ⟨this,s,this,hs,.here _⟩
  exact((hu t).1 (ZpE hc D t h)).2
 rintro⟨s,hs,B,hp⟩;have:=hp.closed (ZcM hm v) rfl (by rw[Int.toNat_natCast];exact ZhP 40 ms v s B)
 rwa [Int.toNat_natCast] at this
theorem Zcg {c:Int} {v:Nat}:∀ (l:List (Int × Int × Int)) (u t:Nat),(l.foldl (ZaZ v c) u).testBit t=true↔u.testBit t=true∨∃ m∈l,m.2.1=c∧v.testBit m.1.toNat=true∧m.2.2.toNat=t
 | [],u,t=>by simp
 | m::l,u,t=>by
  rw[List.foldl_cons,Zcg l,ZaZ]
  split
  ·rename_i h;rw[Bool.and_eq_true,decide_eq_true_eq] at h;rw[ZcB,Bool.or_eq_true,decide_eq_true_eq];constructor
   ·rintro((h1|h1)|⟨x,hx,h1⟩)
    ·exact .inl h1
    ·exact .inr ⟨m,by simp,h.1,h.2,h1⟩
    exact .inr ⟨x,by simp[hx],h1⟩
   rintro(h1|⟨x,hx,h1⟩)
   ·exact .inl (.inl h1)
   rcases List.mem_cons.1 hx with rfl|hx
   ·exact .inl (.inr h1.2.2)
   exact .inr ⟨x,hx,h1⟩
  rename_i h;rw[Bool.and_eq_true,decide_eq_true_eq] at h;constructor
  ·rintro(h1|⟨x,hx,h1⟩)
   ·exact .inl h1
   exact .inr ⟨x,by simp[hx],h1⟩
  rintro(h1|⟨x,hx,h1⟩)
  ·exact .inl h1
  rcases List.mem_cons.1 hx with rfl|hx
  ·exact absurd ⟨h1.1,h1.2.1⟩ h
  exact .inr ⟨x,hx,h1⟩
theorem Zhs {v s n:Nat} (B:v<2 ^ n) (hs:v.testBit s=true):s<n:=by
 by_cases h:s<n
 ·exact h
 rw[Nat.testBit_lt_two_pow (Nat.lt_of_lt_of_le B (Nat.pow_le_pow_right (by omega) (by omega)))] at hs;cases hs
theorem ZnT {ms:List (Int × Int × Int)} (hm:mvIn 40 ms) {v t:Nat} (c:Nat):(stV 40 ms v (c:Int)).testBit t=true↔∃ x,x∈ms∧x.2.1=(c:Int)∧v.testBit x.1.toNat=true∧Pth ms x.2.2 [] t:=by
 have hlt:ms.foldl (ZaZ v c) 0<2 ^ 40:=Zca _ (fun u=>u<2 ^ 40) (fun _ _ hx hu=>ZcP hm hx hu) (by decide);unfold stV;rw[ZpD hm hlt];constructor
 ·rintro⟨s,hs,hb,hp⟩;rw[Zcg] at hb;rcases hb with hb|⟨m,B,h1,h2,h3⟩
  ·simp at hb
  refine⟨m,B,h1,h2,?_⟩;have e:m.2.2=(s:Int):=by have:=(hm m B).2;omega
  rw[e];exact hp
 rintro⟨x,hx,h1,h2,hp⟩;have h4:=(hm x hx).2;refine⟨x.2.2.toNat,by omega,?_,?_⟩
 ·rw[Zcg];exact .inr ⟨x,hx,h1,h2,rfl⟩
 have e:((x.2.2.toNat:Nat):Int)=x.2.2:=by omega
 rw[e];exact hp
theorem Pth.split {ms:List (Int × Int × Int)} {s u:Int} {x:List Nat} (h:Pth ms s x u):∀ {c:Nat} {w:List Nat},x=c::w→∃ m,m∈ms∧m.2.1=(c:Int)∧Pth ms s [] m.1∧Pth ms m.2.2 w u:=by
 induction h with
 | here s=>intro c w h;cases h
 | eps hm _ B =>intro c w h;obtain⟨m,h1,h2,h3,h4⟩:=B h;exact⟨m,h1,h2,.eps hm h3,h4⟩
 | step hm hp B =>
  intro c w h
  injection h with h1 h2
  subst h1;subst h2;exact⟨_,hm,rfl,.here _,hp⟩
theorem ZmK {ms:List (Int × Int × Int)} (hm:mvIn 40 ms) (v:Nat) (c:Int):Zcn ms (stV 40 ms v c):=ZcM hm _
theorem Zkx {ms:List (Int × Int × Int)} (hm:mvIn 40 ms):∀ (cs:List Nat) (V:Nat),V<2 ^ 40→Zcn ms V→∀ t,(cs.foldl (fun v (c:Nat)=>stV 40 ms v (c:Int)) V).testBit t=true↔∃ s:Nat,s<40∧V.testBit s=true∧Pth ms s cs t
 | [],V,B,hc,t=>by
  rw[List.foldl_nil];constructor
  ·intro h;exact⟨t,Zhs B h,h,.here _⟩
  rintro⟨s,hs,h1,h2⟩;have:=h2.closed hc rfl (by rwa [Int.toNat_natCast])
  rwa [Int.toNat_natCast] at this
 | c::cs,V,B,hc,t=>by
  rw[List.foldl_cons,Zkx hm cs _ (ZnU hm V c) (ZmK hm V c)];constructor
  ·rintro⟨s,hs,h1,h2⟩;rw[ZnT hm] at h1;obtain⟨x,hx,h3,h4,h5⟩:=h1;have h6:=(hm x hx).1;refine⟨x.1.toNat,by omega,h4,?_⟩;have e:((x.1.toNat:Nat):Int)=x.1:=by omega
   rw[e];refine .step (t:=x.2.2) ?_ (h5.append h2);rw[← h3];exact hx
  rintro⟨s,hs,h1,h2⟩;obtain⟨m,h3,h4,h5,h6⟩:=h2.split rfl;have h7:=(hm m h3).2;refine⟨m.2.2.toNat,by omega,?_,?_⟩
  ·rw[ZnT hm];have:=h5.closed hc rfl (by rwa [Int.toNat_natCast]);refine⟨m,h3,h4,this,?_⟩;have e:((m.2.2.toNat:Nat):Int)=m.2.2:=by omega
   rw[e];exact .here _
  have e:((m.2.2.toNat:Nat):Int)=m.2.2:=by omega
  rw[e];exact h6
theorem Zrk {n:NfaD} (hn:Zjk n=true) (cs:List Nat):accS n cs=true↔∃ f∈n.firsts,∃ e∈n.ends,Pth n.moves f cs e:=by
 obtain⟨m,hm,D,F,-,hf,-,he,-⟩:=ZdK hn;have B:=Zoy F D;have E:inN 40 n.firsts:=fun s hs=>by have:=hf s hs;omega
 have hlt:clV 40 n.moves (setV n.firsts)<2 ^ 40:=ZdS B (ZdC E) 40;have C:=Zkx B cs _ hlt (ZcM B (setV n.firsts));unfold accS runS;rw[List.any_eq_true];constructor
 ·rintro⟨e,hee,hb⟩;obtain⟨s,hs,h1,h2⟩:=(C _).1 hb;rw[ZpD B (ZdC E)] at h1;obtain⟨r,hr,h3,h4⟩:=h1;rw[Zi7,List.any_eq_true] at h3;obtain⟨f,hff,h5⟩:=h3;have h5:=of_decide_eq_true h5;have h6:=hf f hff;have h7:=he e hee;refine⟨f,hff,e,hee,?_⟩;have e1:(r:Int)=f:=by omega
  have e2:((e.toNat:Nat):Int)=e:=by omega
  rw[e1] at h4;rw[e2] at h2;exact h4.append h2
 rintro⟨f,hff,e,hee,hp⟩;have h6:=hf f hff;have h7:=he e hee;refine⟨e,hee,(C _).2 ⟨f.toNat,by omega,?_,?_⟩⟩
 ·exact ZhP 40 n.moves _ _ (ZlX hff)
 have e1:((f.toNat:Nat):Int)=f:=by omega
 have e2:((e.toNat:Nat):Int)=e:=by omega
 rw[e1,e2];exact hp
theorem Pth.up {ms:List (Int × Int × Int)} (d:Int) {s t:Int} {x:List Nat} (h:Pth ms s x t):Pth (ms.map (shM d)) (s+d) x (t+d) :=
 h.map (·+d) fun m hm => .inl (List.mem_map.2 ⟨m,hm,rfl⟩)
theorem Pth.cross {p q:NfaD} {a b:Nat} (ha:p.states=(a:Int)) (C:mvIn a p.moves) (B:mvIn b q.moves) (J:inN a p.ends) (H:inN b q.firsts) {s t:Int} {x:List Nat} (h:Pth (Zef p q).moves s x t) (ht:p.states≤t):(s<p.states→∃ k,k≤x.length∧∃ e∈p.ends,∃ f∈q.firsts,Pth p.moves s (x.take k) e∧Pth q.moves f (x.drop k) (t-p.states))∧(p.states≤s→Pth q.moves (s-p.states) x (t-p.states)):=by
 induction h with
 | here s=>exact⟨fun h=>by omega,fun _ => .here _⟩
 | @eps L I u w hm _ F =>
  obtain⟨G,E⟩:=F ht;rcases List.mem_append.1 hm with hm|hm
  ·rcases List.mem_append.1 hm with hm|hm
   ·have h1:=C _ hm;simp only at h1;refine⟨fun h => ?_,fun h=>by omega⟩;obtain⟨k,hk,e,he,f,hf,h2,h3⟩:=G (by omega);exact⟨k,hk,e,he,f,hf,.eps hm h2,h3⟩
   obtain⟨y,hy,e⟩:=List.mem_map.1 (show _∈q.moves.map (shM p.states) from hm);have h1:=B _ hy
   injection e with e1 e2
   injection e2 with e2 e3
   refine⟨fun h=>by omega,fun h => .eps (t:=I-p.states) ?_ (E (by omega))⟩;rw[← e1,← e3,show y.1+p.states-p.states=y.1 by omega,show y.2.2+p.states-p.states=y.2.2 by omega,← e2];exact hy
  obtain⟨y,hy,e⟩:=List.mem_flatMap.1 hm;obtain⟨z,hz,e⟩:=List.mem_map.1 e;obtain⟨z,D,rfl⟩:=List.mem_map.1 (show z∈q.firsts.map (·+p.states) from hz)
  injection e with e1 e2
  injection e2 with e2 e3
  have h1:=J y hy;have h2:=H z D;refine⟨fun h=>⟨0,Nat.zero_le _,y,hy,z,D,?_,?_⟩,fun h=>by omega⟩
  ·rw[e1];exact .here _
  have:=E (by omega);rw[← e3,show z+p.states-p.states=z by omega] at this;exact this
 | @step L I u c w hm _ F =>
  obtain⟨G,E⟩:=F ht;rcases List.mem_append.1 hm with hm|hm
  ·rcases List.mem_append.1 hm with hm|hm
   ·have h1:=C _ hm;simp only at h1;refine⟨fun h => ?_,fun h=>by omega⟩;obtain⟨k,hk,e,he,f,hf,h2,h3⟩:=G (by omega);exact⟨k+1,by simp only[List.length_cons];omega,e,he,f,hf,.step hm h2,h3⟩
   obtain⟨y,hy,e⟩:=List.mem_map.1 (show _∈q.moves.map (shM p.states) from hm);have h1:=B _ hy
   injection e with e1 e2
   injection e2 with e2 e3
   refine⟨fun h=>by omega,fun h => .step (t:=I-p.states) ?_ (E (by omega))⟩;rw[← e1,← e3,show y.1+p.states-p.states=y.1 by omega,show y.2.2+p.states-p.states=y.2.2 by omega,← e2];exact hy
  obtain⟨y,hy,e⟩:=List.mem_flatMap.1 hm;obtain⟨z,hz,e⟩:=List.mem_map.1 e
  injection e with e1 e2
  injection e2 with e2 e3
  omega
def lets (l:List Nat):List Nat:=l.map (·-97)
theorem Zss {l:List Nat} {k:Nat} (h:okT l l.length=true) (hk:k<l.length):97≤l.getD k 0∧l.getD k 0≤99:=by unfold okT at h;have:=List.all_eq_true.1 h k (List.mem_range.2 hk);simp only[inB,Bool.and_eq_true,decide_eq_true_eq] at this;omega
theorem ZmI {l:List Nat} (h:wdOk l=true):okT l l.length=true∧l.length≤8:=by unfold wdOk at h;simp only[Bool.and_eq_true,decide_eq_true_eq] at h;exact h
theorem Zp3 (l:List Nat) (k:Nat):(txB l).extract 0 k=txB (l.take k):=by apply ByteArray.ext;simp[txB,ByteArray.data_extract,List.map_take]
theorem Zp4 (l:List Nat) (k:Nat):(txB l).extract k (txB l).size=txB (l.drop k):=by apply ByteArray.ext;rw[ZaE];simp only[txB,ByteArray.data_extract,List.map_drop,List.extract_toArray,List.extract_eq_take_drop];rw[List.take_of_length_le (by simp)]
theorem Zp1 {l:List Nat}:wdOk l=true↔(∀ b∈l,97≤b∧b≤99)∧l.length≤8:=by
 constructor
 ·intro h;obtain⟨h1,h2⟩:=ZmI h;refine⟨fun b hb => ?_,h2⟩;obtain⟨k,hk,e⟩:=List.getElem_of_mem hb;have:=Zss h1 hk;rw[Zbg hk,e] at this;exact this
 rintro⟨h1,h2⟩;unfold wdOk okT;rw[Bool.and_eq_true,List.all_eq_true,decide_eq_true_eq];refine⟨fun k hk => ?_,h2⟩;have hk:=List.mem_range.1 hk;have:=h1 _ (ZbN hk);simp only[inB,Bool.and_eq_true,decide_eq_true_eq];omega
theorem ZqN {l:List Nat} (h:wdOk l=true):isW (lets l):=fun c hc=>by obtain⟨b,hb,rfl⟩:=List.mem_map.1 hc;have:=(Zp1.1 h).1 b hb;omega
theorem Zr6 {K:Nat} {n:NfaD} {D:DfaD} (h:detK K n=some D):Zjk n=true∧(metS n K).length≤K∧D=Zar (nxS n) (enS n) (metS n K):=by
 unfold detK at h
 split at h
 ·rename_i h1;exact⟨h1.1,h1.2,(Option.some.inj h).symm⟩
 cases h
theorem Zky {n:NfaD}:∀ (w:List Nat) (v:Nat),w.foldl (nxS n) (((v:Nat):Int),0)=(((w.foldl (fun v (c:Nat)=>stV 40 n.moves v (c:Int)) v:Nat):Int),0)
 | [],_=>rfl
 | c::w,v=>by rw[List.foldl_cons,List.foldl_cons,← Zky w];rfl
theorem Zq9 {K:Nat} {n:NfaD} {D:DfaD} (h:detK K n=some D) {w:List Nat} (B:isW w):accD D w=accS n w:=by obtain⟨-,h2,rfl⟩:=Zr6 h;rw[ZfE h2 B,Zky];rfl
theorem ZlU {l:List Int} {m:Int} (h:∀ j,j<l.length→(0≤l.getD j 0∧l.getD j 0≤m-1)∧(0<j→l.getD (j-1) 0<l.getD j 0)):stOk l m=true:=by
 unfold stOk;rw[List.all_eq_true];intro j hj;obtain⟨h1,h2⟩:=h j (List.mem_range.1 hj);unfold okAt;rw[Bool.and_eq_true,Bool.or_eq_true];refine⟨by simp only[inB,Bool.and_eq_true,decide_eq_true_eq];exact h1,?_⟩;by_cases h0:j=0
 ·exact .inl (decide_eq_true h0)
 exact .inr (decide_eq_true (h2 (by omega)))
theorem Zen {s t:Nat}:(2 ^ s).testBit t=decide (s=t):=by rw[Nat.testBit_two_pow]
theorem ZeS {d:DfaD}:∀ {k:Nat} {m:Int × Int × Int},m∈mvs d k↔∃ s c:Nat,s<k∧c<3∧m=((s:Int),(c:Int),(d.next.getD s []).getD c 0)
 | 0,m=>by simp[mvs]
 | k+1,m=>by
  rw[show mvs d (k+1)=mvs d k++rowM d k from rfl,List.mem_append,ZeS];constructor
  ·rintro(⟨s,c,h1,h2,h3⟩|h)
   ·exact⟨s,c,by omega,h2,h3⟩
   obtain⟨c,hc,rfl⟩:=List.mem_map.1 h;exact⟨k,c,by omega,List.mem_range.1 hc,rfl⟩
  rintro⟨s,c,h1,h2,h3⟩;by_cases h:s=k
  ·subst h;exact .inr (List.mem_map.2 ⟨c,List.mem_range.2 h2,h3.symm⟩)
  exact .inl ⟨s,c,by omega,h2,h3⟩
theorem Zc4 {d:DfaD} (k u:Nat):Zcn (mvs d k) u:=by intro m hm he;obtain⟨s,c,-,-,rfl⟩:=ZeS.1 hm;simp only at he;omega
theorem ZpO {a b:Nat} (h:∀ t,a.testBit t=true↔b.testBit t=true):a=b:=by apply Nat.eq_of_testBit_eq;intro t;rw[Bool.eq_iff_iff];exact h t
theorem ZrD {d:DfaD} (hd:Zac d.next d.ends=true) {s c:Nat} (hs:s<d.next.length) (hc:c<3):∃ q:Nat,q<d.next.length∧stV 40 (mvs d d.next.length) (2 ^ s) (c:Int)=2 ^ q:=by
 have hr:=(ZaM hd hs).2 c hc;obtain⟨q,hq⟩:=Int.eq_ofNat_of_zero_le hr.1;refine⟨q,by omega,?_⟩;unfold stV;rw[ZgR (Zc4 _ _)];apply ZpO;intro t;rw[Zcg,Zen,decide_eq_true_eq];constructor
 ·rintro(h|⟨m,hm,h1,h2,h3⟩)
  ·simp at h
  obtain⟨C,B,h4,h5,rfl⟩:=ZeS.1 hm;rw[Zen,decide_eq_true_eq] at h2;simp only[Int.toNat_natCast] at h2;subst h2;have:B=c:=by simp only at h1;omega
  subst this;simp only[hq] at h3;omega
 rintro rfl;right;refine⟨_,ZeS.2 ⟨s,c,hs,hc,rfl⟩,rfl,?_,?_⟩
 ·rw[Zen];simp
 simp only[hq];omega
theorem ZrT {d:DfaD} (hd:Zac d.next d.ends=true) (K:Nat):(metS (ZaL d) K).length≤d.next.length:=by
 have hl:=Zaf hd;have hf:fstV (ZaL d)=2 ^ 0:=by unfold fstV;rw[show(ZaL d).moves=mvs d d.next.length from rfl,ZgR (Zc4 _ _)];rfl
 have hall:∀ x∈metS (ZaL d) K,∃ s:Nat,s<d.next.length∧x=(((2 ^ s:Nat):Int),0):=by refine ZbA (Q:=fun x=>∃ s:Nat,s<d.next.length∧x=(((2 ^ s:Nat):Int),0)) ⟨0,by omega,by rw[hf]⟩ ?_ K;rintro x c hc ⟨s,hs,rfl⟩;obtain⟨q,hq,h⟩:=ZrD hd hs hc;refine⟨q,hq,?_⟩;unfold nxS;rw[show(ZaL d).moves=mvs d d.next.length from rfl];simp only[Int.toNat_natCast];rw[h]
 have:=ZdJ (ZaG (nx:=nxS (ZaL d)) (a:=(((fstV (ZaL d):Nat):Int),0)) K).1 (m:=(List.range d.next.length).map fun s=>(((2 ^ s:Nat):Int),(0:Int))) fun x hx=>by obtain⟨s,hs,rfl⟩:=hall x hx;exact List.mem_map.2 ⟨s,List.mem_range.2 hs,rfl⟩
 simpa using this
theorem ZjF (d:DfaD):∀ k,(eds d k).Pairwise (·<·)
 | 0=>List.Pairwise.nil
 | k+1=>by
  unfold eds
  split
  ·rw[List.pairwise_append];refine⟨ZjF d k,List.pairwise_singleton _ _,fun x hx y hy => ?_⟩;rw[List.mem_singleton.1 hy];exact(Zgl d k x hx).2
  exact ZjF d k
theorem Zfd {d:DfaD} (hd:Zac d.next d.ends=true):Zjk (ZaL d)=true:=by
 have hl:=Zaf hd;unfold Zjk;simp only[Bool.and_eq_true,decide_eq_true_eq];refine⟨⟨⟨⟨?_,?_⟩,?_⟩,?_⟩,?_⟩
 ·show inB (d.next.length:Int) 0 40=true;simp only[inB,Bool.and_eq_true,decide_eq_true_eq];exact⟨by omega,by omega⟩
 ·show(mvs d d.next.length).length≤400;rw[ZcA];omega
 ·refine ZlU fun j hj => ?_
  have hj:j<1:=hj;obtain rfl:j=0:=by omega
  refine⟨?_,fun h=>by omega⟩;simp only[ZaL,List.getD_cons_zero];omega
 ·refine ZlU fun j hj => ?_
  have hj:j<(eds d d.next.length).length:=hj;have h1:=Zgl d _ _ (memD (d:=(0:Int)) hj);refine⟨?_,fun h => ?_⟩
  ·show 0≤(eds d d.next.length).getD j 0∧(eds d d.next.length).getD j 0≤(d.next.length:Int)-1;omega
  have:=List.pairwise_iff_getElem.1 (ZjF d d.next.length) (j-1) j (by omega) hj (by omega);show(eds d d.next.length).getD (j-1) 0<(eds d d.next.length).getD j 0;rw[Zbg (by omega),Zbg hj];exact this
 rw[List.all_eq_true];intro m hm;obtain⟨s,c,h1,h2,rfl⟩:=ZeS.1 (show m∈mvs d d.next.length from hm);have hr:=(ZaM hd h1).2 c h2;show mvOk (d.next.length:Int) _=true;simp only[mvOk,inB,Bool.and_eq_true,decide_eq_true_eq];exact⟨⟨⟨by omega,by omega⟩,by omega,by omega⟩,by omega,by omega⟩
theorem Zso {d:DfaD} (hd:Zac d.next d.ends=true) {s c:Nat} (hs:s<d.next.length) (hc:c<3):stV 40 (mvs d d.next.length) (2 ^ s) (c:Int)=2 ^ nxD d s c:=by
 have hr:=(ZaM hd hs).2 c hc;unfold stV;rw[ZgR (Zc4 _ _)];apply ZpO;intro t;rw[Zcg,Zen,decide_eq_true_eq];constructor
 ·rintro(h|⟨m,hm,h1,h2,h3⟩)
  ·simp at h
  obtain⟨C,B,h4,h5,rfl⟩:=ZeS.1 hm;rw[Zen,decide_eq_true_eq] at h2;simp only[Int.toNat_natCast] at h2;subst h2;have:B=c:=by simp only at h1;omega
  subst this;exact h3
 rintro rfl;right;refine⟨_,ZeS.2 ⟨s,c,hs,hc,rfl⟩,rfl,?_,rfl⟩;rw[Zen];simp
theorem Zpd (d:DfaD):fstV (ZaL d)=2 ^ 0:=by unfold fstV;rw[show(ZaL d).moves=mvs d d.next.length from rfl,ZgR (Zc4 _ _)];rfl
theorem ZlE {d:DfaD}:∀ {k:Nat} {x:Int},x∈eds d k↔∃ s:Nat,x=(s:Int)∧s<k∧enD d s=true
 | 0,x=>by simp[eds]
 | k+1,x=>by
  have B:=ZlE (d:=d) (k:=k) (x:=x);unfold eds;by_cases h:d.ends.getD k false=true
  ·rw[if_pos h,List.mem_append,B,List.mem_singleton];constructor
   ·rintro(⟨s,h1,h2,h3⟩|rfl)
    ·exact⟨s,h1,by omega,h3⟩
    exact⟨k,rfl,by omega,h⟩
   rintro⟨s,h1,h2,h3⟩;by_cases hk:s=k
   ·subst hk;exact .inr h1
   exact .inl ⟨s,h1,by omega,h3⟩
  rw[if_neg h,B];constructor
  ·rintro⟨s,h1,h2,h3⟩;exact⟨s,h1,by omega,h3⟩
  rintro⟨s,h1,h2,h3⟩;by_cases hk:s=k
  ·subst hk;exact absurd h3 h
  exact⟨s,h1,by omega,h3⟩
theorem Zps {d:DfaD} (hd:Zac d.next d.ends=true) {K:Nat} (B:d.next.length≤K):detK K (ZaL d)=some (Zbj d):=by
 have hl:=Zaf hd;have hf:=ZaS hd;unfold detK;rw[if_pos ⟨Zfd hd,Nat.le_trans (ZrT hd K) B⟩];congr 1
 let f:Int→Int × Int:=fun x=>(((2 ^ x.toNat:Nat):Int),0)
 let Q:Int→Prop:=fun x=>∃ s:Nat,x=(s:Int)∧s<d.next.length
 have hm:=ZdI (nx:=dnx d) (nx':=nxS (ZaL d)) (a:=(0:Int)) (f:=f) (Q:=Q) (en:=den d) (en':=enS (ZaL d)) (K:=K) ⟨0,rfl,by omega⟩ (by
  rintro x c hc ⟨s,rfl,hs⟩;obtain⟨h3,h4⟩:=ZbY hf hs hc;exact⟨_,h4,h3⟩) (by
  rintro x y ⟨s,rfl,hs⟩ ⟨t,rfl,ht⟩ h;have h1:((2 ^ s:Nat):Int)=((2 ^ t:Nat):Int):=congrArg Prod.fst h;have:s=t:=(Nat.pow_right_inj (show 1<2 by omega)).1 (Int.ofNat_inj.1 h1);rw[this]) (by
  rintro x c hc ⟨s,rfl,hs⟩;obtain⟨h3,h4⟩:=ZbY hf hs hc;simp only[f,h4,nxS,Int.toNat_natCast];rw[show(ZaL d).moves=mvs d d.next.length from rfl,Zso hd hs hc]) (by
  rintro x ⟨s,rfl,hs⟩;rw[Zby];simp only[f,enS,Int.toNat_natCast];unfold endV;rw[show(ZaL d).ends=eds d d.next.length from rfl,Bool.eq_iff_iff,List.any_eq_true];constructor
  ·rintro⟨x,hx,hb⟩;obtain⟨t,rfl,ht,he⟩:=ZlE.1 hx;rw[Zen,decide_eq_true_eq] at hb;simp only[Int.toNat_natCast] at hb;rw[hb];exact he
  intro he;refine⟨(s:Int),ZlE.2 ⟨s,rfl,hs,he⟩,?_⟩;rw[Zen];simp)
 have h0:f 0=((((fstV (ZaL d):Nat):Int),0):Int × Int):=by rw[Zpd];rfl
 rw[h0] at hm;refine hm.trans ?_;unfold Zbj;rw[Zbc (ZbL hf _).2 B]
theorem Zot {d:DfaD} (hd:Zac d.next d.ends=true) {w:List Nat} (B:isW w):accS (ZaL d) w=accD d w:=by rw[← Zq9 (Zps hd (Nat.le_refl _)) B,Zp8 (ZaS hd) B]
def NfaT (n:NfaD) (v1 v2 v3:Value):Ent:=Ent.all [Ent.row 117 3 v1 n.moves.length (n.moves.flatMap Zae),Ent.row 3 1 v2 n.firsts.length (intCells n.firsts),Ent.row 3 1 v3 n.ends.length (intCells n.ends)]
def Zrm (n:NfaD) (w:World) (e:Ending) (w':World):Prop:=∃ a1 c1 a2 c2 a3 c3,e = .returned (.agg #[.int .i64 n.states,.slice a1 n.moves.length c1,.slice a2 n.firsts.length c2,.slice a3 n.ends.length c3]) ∧
 St w w' [NfaT n (.slice a1 n.moves.length c1) (.slice a2 n.firsts.length c2) (.slice a3 n.ends.length c3)]
theorem RNfaS.t {n:NfaD} {w:World} {e:Ending} {w':World} (h:RNfaS n w e w'):Zrm n w e w':=by obtain⟨a1,c1,a2,c2,a3,c3,rfl,hS⟩:=h;exact⟨a1,c1,a2,c2,a3,c3,rfl,St.pack (A:=[]) hS⟩
theorem St.nfaT {w0 w:World} {L:List Ent} (h:St w0 w L) (i:Nat) {n:NfaD} {v1 v2 v3:Value} (hx:L[i]? = some (NfaT n v1 v2 v3)):Moves 0 w v1 n.moves∧Ints 0 w v2 n.firsts∧Ints 0 w v3 n.ends:=by have B:=(h.has i _ hx).1;have h1:(Ent.row 117 3 v1 n.moves.length (n.moves.flatMap Zae)).holds w:=B _ (by simp);have h2:(Ent.row 3 1 v2 n.firsts.length (intCells n.firsts)).holds w:=B _ (by simp);have h3:(Ent.row 3 1 v3 n.ends.length (intCells n.ends)).holds w:=B _ (by simp);exact⟨Zc5 h1,Zeg h2,Zeg h3⟩
def DfaX (B0 B H:Nat) (v1 v2:Value) (D:DfaD):Ent:=⟨(DfaV B H v1 v2 D).foot,fun u=>B0≤B∧(DfaV B H v1 v2 D).holds u,fun a b h hk=>⟨h.1,(DfaV B H v1 v2 D).stable a b h.2 hk⟩⟩
theorem St.dfaX {w0 w w':World} {L:List Ent} (h:St w0 w L) (hb:Below w.heap.size w w') {v1 v2:Value} {D:DfaD} (hr:DfaR w.heap.size w' (.agg #[v1,v2]) D):St w0 w' (L++[DfaX w0.heap.size w.heap.size w'.heap.size v1 v2 D]) :=
 h.add hb _ ⟨h.size,w',rfl,hr,fun _ _ _=>rfl⟩ fun _ hk=>hk
theorem St.dfaXr {w0 w:World} {L:List Ent} (h:St w0 w L) (i:Nat) {B0 B H:Nat} {v1 v2:Value} {D:DfaD} (hx:L[i]? = some (DfaX B0 B H v1 v2 D)):DfaR B0 w (.agg #[v1,v2]) D:=by
 have G:=h.has i _ hx;obtain⟨⟨E,w',h1,⟨x1,x2,F,⟨vs,h2,h3⟩,h4⟩,h5⟩,hf⟩:=G;simp only[Value.agg.injEq,Array.mk.injEq,List.cons.injEq,and_true] at F;obtain⟨rfl,rfl⟩:=F;by_cases hlt:B<H
 ·have hs:w'.heap.size≤w.heap.size:=by have:H-1<w.heap.size:=(hf (H-1) (show B≤H-1∧H-1<H by omega)).2;omega
  have hk:∀ k,B≤k→k<w'.heap.size→w.heap[k]? = w'.heap[k]?:=fun k p q=>h5 k p (by omega)
  exact⟨_,_,rfl,⟨vs,h2.keptJ E hs hk,fun i hi=>Sl.keptJ (h3 i hi) E hs hk⟩,Sl.keptJ h4 E hs hk⟩
 have C:∀ {v:Value} {n size:Nat} {cs:List Value},Sl B w' v n size cs→0<size→Sl B0 w v n size cs:=fun {v n size cs} hs hz=>by obtain⟨g1,a,cap,g2,g3,g4,I⟩:=hs;refine⟨g1,a,cap,g2,g3,g4,fun hn => ?_⟩;obtain⟨b,off,-,p,q,-⟩:=I hn;omega
 exact⟨_,_,rfl,⟨vs,C h2 (by omega),fun i hi=>C (h3 i hi) (by omega)⟩,C h4 (by omega)⟩
def RTs (D:DfaD) (fb:Bool) (w:World) (e:Ending) (w':World):Prop:=∃ a1 c1 a2 c2,e = .returned (.tuple #[.agg #[.slice a1 D.next.length c1,.slice a2 D.ends.length c2],.bool fb])∧DfaR w.heap.size w' (.agg #[.slice a1 D.next.length c1,.slice a2 D.ends.length c2]) D∧Below w.heap.size w w'
theorem RTt.s {D:DfaD} {fb:Bool} {w:World} {e:Ending} {w':World} (h:RTt D fb w.heap.size e w'∧Below w.heap.size w w'):RTs D fb w e w':=by obtain⟨⟨a1,c1,a2,c2,rfl,h1⟩,h2⟩:=h;exact⟨a1,c1,a2,c2,rfl,h1.r,h2⟩
theorem ZqW {a b:DfaD} (ha:Zac a.next a.ends=true) (hb:Zac b.next b.ends=true):DetOkW 81 (Zef (ZaL a) (ZaL b)):=by
 have B:=Zaf ha;have C:=Zaf hb;have h1:=ZcA a a.next.length;have h2:=ZcA b b.next.length;have h3:(eds a a.next.length).length≤40:=Nat.le_trans (Zdk a _) B.2.1;have h4:(eds b b.next.length).length≤40:=Nat.le_trans (Zdk b _) C.2.1;rw[ZhB];refine⟨Zhp (ZiW ha hb) (by omega),?_,fun s hs=>by have:=Zd1 (b:=b) ha s hs;omega,by simp[ZdA],fun s hs=>by have:=ZfF s hs;omega,?_⟩
 ·simp only[ZdA,List.length_append,List.length_map];omega
 simp only[ZdA,List.length_map];omega
theorem Zgw (K:Nat) (d:K=40) (a b:DfaD) (D:DfaD) (fb:Bool) (hD:(twoQ K 4 a b).getD zeD=D) (aC:(twoQ K 4 a b).isSome=fb) (v1 v2:Value) (w:World) (hda:Zac a.next a.ends=true) (hdb:Zac b.next b.ends=true) (h1:DfaR 0 w v1 a) (h2:DfaR 0 w v2 b) :
  Calls Tryz.prog 62 #[.int .i64 4,v1,v2] w fun e w'=>RTs D fb w e w':=by
 have H1:=h1;have H2:=h2;obtain⟨x1,x2,rfl,-,-⟩:=h1;obtain⟨x3,x4,rfl,-,-⟩:=h2;have aB:=(((St.start w).alloc _ rfl #[x1,x2] 44).alloc (w.heap.size+1) (by simp) #[x3,x4] 44).alloc (w.heap.size+1+1) (by simp) #[.slice none 0 0,.slice none 0 0] 44;obtain⟨P,hP⟩:=eI (ZaL a);obtain⟨Q,hQ⟩:=eI (ZaL b);obtain⟨J,hJ⟩:=eI (Zef P Q);have bD:=qh (show ∀ W:World,Below w.heap.size w W→Calls Tryz.prog 60 #[.agg #[x1,x2]] W fun e w'=>Zrm P W e w' from fun W hb=>by rw[hP];exact(ZeV a _ W hda (H1.below hb)).mono fun e w' h=>h.t);have aP:=qh (show ∀ W:World,Below w.heap.size w W→Calls Tryz.prog 60 #[.agg #[x3,x4]] W fun e w'=>Zrm Q W e w' from fun W hb=>by rw[hQ];exact(ZeV b _ W hdb (H2.below hb)).mono fun e w' h=>h.t);have aU:=qh (show ∀ (W:World) (v1 v2 v3 u1 u2 u3:Value),(Moves 0 W v1 P.moves∧Ints 0 W v2 P.firsts∧Ints 0 W v3 P.ends)→(Moves 0 W u1 Q.moves∧Ints 0 W u2 Q.firsts∧Ints 0 W u3 Q.ends)→Calls Tryz.prog 100 #[.agg #[.int .i64 P.states,v1,v2,v3],.agg #[.int .i64 Q.states,u1,u2,u3]] W fun e w'=>Zrm J W e w' from fun W v1 v2 v3 u1 u2 u3 h g=>by rw[hJ];exact(Zlz P Q v1 v2 v3 u1 u2 u3 W (by rw[hP];exact Zfd hda) (by rw[hQ];exact Zfd hdb) h.1 h.2.1 h.2.2 g.1 g.2.1 g.2.2).mono fun e w' h=>h.t);have aA:DetOkW 81 J:=by rw[hJ,hP,hQ];exact ZqW hda hdb
 have aD:twoQ K 4 a b=(ZgA 81 K J).map minD:=by rw[hJ,hP,hQ];rfl
 rw[aD] at hD aC
 have aH:=qh (show ∀ (W:World) (v1 v2 v3:Value),(Moves 0 W v1 J.moves∧Ints 0 W v2 J.firsts∧Ints 0 W v3 J.ends)→Calls Tryz.prog 61 #[.agg #[.int .i64 J.states,v1,v2,v3]] W fun e w'=>RTs D fb W e w' from fun W v1 v2 v3 h =>
  (ZeF 81 (by omega) J K d D fb hD aC v1 v2 v3 W aA h.1 h.2.1 h.2.2).mono fun e w' h=>RTt.s h)
 replace aB:=qh aB;replace hP:=qh hP;have bE:=qh hQ;clear hQ;replace hJ:=qh hJ;clear hD aC H1 H2 hda hdb aA aD d
 go_enter Tryz.func62, Tryz.ntmps62
 go_wp2;refine wp_region_any (by kernel_rfl) ?_
 refine Zay (fun A listed a w'=>∃ (l0 l1 l2 l3 l4 l5 l6 l7 l8 l9:Bool) (T:Option Addr) (k:Nat) (j:Option Addr) (Y:Nat) (p:Option Addr) (U:Nat) (S:Option Addr) (r:Nat) (m:Option Addr) (u:Nat) (Z:Option Addr) (V:Nat) (l:Option Addr) (q:Nat) (n:Option Addr) (c:Nat) (x:Option Addr) (X:Nat) (R:Option Addr) (M:Nat) (O:Option Addr) (N:Nat) (B:Nat) (H:Nat),listed=#[l0,l1,l2,l3,l4,l5,l6,l7,l8,l9]∧(l6=true→l5=true)∧(l8=true→l5=true) ∧
   a=⟨(((((((((A.tmps.setIfInBounds 11 (if l0=true then .agg #[x1,x2] else A.tmps.getD 11 undef)).setIfInBounds 12 (if l1=true then .agg #[.int .i64 P.states,.slice T P.moves.length k,.slice j P.firsts.length Y,.slice p P.ends.length U] else A.tmps.getD 12 undef)).setIfInBounds 13 (if l2=true then .agg #[x3,x4] else A.tmps.getD 13 undef)).setIfInBounds 14 (if l3=true then .agg #[.int .i64 Q.states,.slice S Q.moves.length r,.slice m Q.firsts.length u,.slice Z Q.ends.length V] else A.tmps.getD 14 undef)).setIfInBounds 15 (if l4=true then .agg #[.int .i64 J.states,.slice l J.moves.length q,.slice n J.firsts.length c,.slice x J.ends.length X] else A.tmps.getD 15 undef)).setIfInBounds 16 (if l5=true then .tuple #[.agg #[.slice R D.next.length M,.slice O D.ends.length N],.bool fb] else A.tmps.getD 16 undef)).setIfInBounds 17 (if l6=true then .agg #[.slice R D.next.length M,.slice O D.ends.length N] else A.tmps.getD 17 undef)).setIfInBounds 18 (if l7=true then .bool fb else A.tmps.getD 18 undef)).setIfInBounds 7 (if l9=true then .bool fb else A.tmps.getD 7 undef)),A.defers⟩ ∧
   St w w' [Ent.box w.heap.size #[x1,x2] 44,Ent.box (w.heap.size+1) #[x3,x4] 44,(if l8=true then Ent.box (w.heap.size+1+1) #[.slice R D.next.length M,.slice O D.ends.length N] 44 else Ent.box (w.heap.size+1+1) #[.slice none 0 0,.slice none 0 0] 44),(if l1=true then NfaT P (.slice T P.moves.length k) (.slice j P.firsts.length Y) (.slice p P.ends.length U) else Ent.nil),(if l3=true then NfaT Q (.slice S Q.moves.length r) (.slice m Q.firsts.length u) (.slice Z Q.ends.length V) else Ent.nil),(if l4=true then NfaT J (.slice l J.moves.length q) (.slice n J.firsts.length c) (.slice x J.ends.length X) else Ent.nil),(if l5=true then DfaX w.heap.size B H (.slice R D.next.length M) (.slice O D.ends.length N) D else Ent.nil)]) ?_ ?_ ?_
 ·rintro listed a w' ⟨l0,l1,l2,l3,l4,l5,l6,l7,l8,l9,T,k,j,Y,p,U,S,r,m,u,Z,V,l,q,n,c,x,X,R,M,O,N,B,H,rfl,L,I,rfl,hS⟩ i hi;obtain⟨E,o,ho,hall⟩:=mem_ready.1 hi;have hlt:=(Array.getElem?_eq_some_iff.1 ho).1;refine wpOp_step ho (fun K d => ?_);clear hi;have G:=qh hS;clear hS;simp only[w_1,w_2,w_3,w_4,w_5,w_6,w_7,w_8];obtain h|h|h|h|h|h|h|h|h|h:i=0∨i=1∨i=2∨i=3∨i=4∨i=5∨i=6∨i=7∨i=8∨i=9:=by simp at hlt;omega
  all_goals subst h
  all_goals simp only[w_5,w_6,w_7,w_9] at ho
  all_goals subst ho
  all_goals simp[Region.binds] at E hall
  ·subst E;have e0:=G.o.cell (v:=x1) 0 0 rfl rfl;have e1:=G.o.cell (v:=x2) 0 1 rfl rfl;go_simp;exact d _ _ ⟨_,_,_,_,_,_,_,_,_,_,T,k,j,Y,p,U,S,r,m,u,Z,V,l,q,n,c,x,X,R,M,O,N,B,H,rfl,L,I,(by simp),G.o⟩
  ·obtain rfl:=hall;subst E;go_simp
   go_at_call 60
   refine(bD.o _ G.o.bel).mono ?_;rintro e u1 ⟨aS,aF,aO,bA,bC,aQ,rfl,y⟩;have F:=(G.o.cat y).pick [0,1,2,7,4,5,6] (by decide);have C:=qh F;clear F;go_simp;exact d _ _ ⟨_,_,_,_,_,_,_,_,_,_,aS,aF,aO,bA,bC,aQ,S,r,m,u,Z,V,l,q,n,c,x,X,R,M,O,N,B,H,rfl,L,I,(by simp),C.o⟩
  ·subst E;have e0:=G.o.cell (v:=x3) 1 0 rfl rfl;have e1:=G.o.cell (v:=x4) 1 1 rfl rfl;go_simp;exact d _ _ ⟨_,_,_,_,_,_,_,_,_,_,T,k,j,Y,p,U,S,r,m,u,Z,V,l,q,n,c,x,X,R,M,O,N,B,H,rfl,L,I,(by simp),G.o⟩
  ·obtain⟨rfl,rfl⟩:=hall;subst E;go_simp
   go_at_call 60
   refine(aP.o _ G.o.bel).mono ?_;rintro e u1 ⟨aT,aE,aV,bB,aG,aI,rfl,y⟩;have F:=(G.o.cat y).pick [0,1,2,3,7,5,6] (by decide);have C:=qh F;clear F;go_simp;exact d _ _ ⟨_,_,_,_,_,_,_,_,_,_,T,k,j,Y,p,U,aT,aE,aV,bB,aG,aI,l,q,n,c,x,X,R,M,O,N,B,H,rfl,L,I,(by simp),C.o⟩
  ·obtain⟨rfl,rfl⟩:=hall;subst E;go_simp
   go_at_call 100
   refine(aU.o _ _ _ _ _ _ _ (G.o.nfaT 3 rfl) (G.o.nfaT 4 rfl)).mono ?_;rintro e u1 ⟨aM,aL,aY,aX,aZ,aN,rfl,y⟩;have F:=(G.o.cat y).pick [0,1,2,3,4,7,6] (by decide);have C:=qh F;clear F;go_simp;exact d _ _ ⟨_,_,_,_,_,_,_,_,_,_,T,k,j,Y,p,U,S,r,m,u,Z,V,aM,aL,aY,aX,aZ,aN,R,M,O,N,B,H,rfl,L,I,(by simp),C.o⟩
  ·obtain rfl:=hall;subst E;obtain rfl:l6=false:=by cases l6 with|false=>rfl|true=>simpa using L rfl
   obtain rfl:l8=false:=by cases l8 with|false=>rfl|true=>simpa using I rfl
   go_simp
   go_at_call 61
   refine(aH.o _ _ _ _ (G.o.nfaT 5 rfl)).mono ?_;rintro e u1 ⟨aK,aW,aR,aJ,rfl,hr,hb⟩;have F:=(G.o.dfaX hb hr).pick [0,1,2,3,4,5,7] (by decide);have C:=qh F;clear F;go_simp;exact d _ _ ⟨_,_,_,_,_,_,_,_,_,_,T,k,j,Y,p,U,S,r,m,u,Z,V,l,q,n,c,x,X,aK,aW,aR,aJ,_,_,rfl,by simp,by simp,(by simp),C.o⟩
  ·obtain rfl:=hall;subst E;go_simp;exact d _ _ ⟨_,_,_,_,_,_,_,_,_,_,T,k,j,Y,p,U,S,r,m,u,Z,V,l,q,n,c,x,X,R,M,O,N,B,H,rfl,by simp,I,(by simp),G.o⟩
  ·obtain rfl:=hall;subst E;go_simp;exact d _ _ ⟨_,_,_,_,_,_,_,_,_,_,T,k,j,Y,p,U,S,r,m,u,Z,V,l,q,n,c,x,X,R,M,O,N,B,H,rfl,L,I,(by simp),G.o⟩
  ·obtain⟨rfl,rfl,rfl,rfl,rfl,rfl,rfl,-,-,rfl⟩:=hall;subst E;have f0:=G.o.fr 2 0 rfl;have k0:=G.o.cell (v:=.slice none 0 0) 2 0 rfl rfl;have f1:=G.o.fr 2 1 rfl;have k1:=G.o.cell (v:=.slice none 0 0) 2 1 rfl rfl;go_simp;exact d _ _ ⟨_,_,_,_,_,_,_,_,_,_,T,k,j,Y,p,U,S,r,m,u,Z,V,l,q,n,c,x,X,R,M,O,N,B,H,rfl,by simp,by simp,(by simp),((G.o.set 2 rfl 0 (.slice R D.next.length M)).set 2 rfl 1 (.slice O D.ends.length N))⟩
  obtain⟨rfl,rfl,rfl,rfl,rfl,rfl,rfl,rfl,rfl,-⟩:=hall;subst E;go_simp;exact d _ _ ⟨_,_,_,_,_,_,_,_,_,_,T,k,j,Y,p,U,S,r,m,u,Z,V,l,q,n,c,x,X,R,M,O,N,B,H,rfl,by simp,by simp,(by simp),G.o⟩
 ·rintro listed a w' ⟨l0,l1,l2,l3,l4,l5,l6,l7,l8,l9,T,k,j,Y,p,U,S,r,m,u,Z,V,l,q,n,c,x,X,R,M,O,N,B,H,rfl,L,I,rfl,hS⟩ hr;obtain⟨rfl,rfl,rfl,rfl,rfl,rfl,rfl,rfl,rfl,rfl,-⟩:=zA (Za1 (by kernel_rfl) rfl hr) rfl;clear hr L I;simp only[↓reduceIte] at hS ⊢;simp only[w_1,w_2,w_3];have z:=qh hS;clear hS;have q0:=z.o.cell (v:=.slice R D.next.length M) 2 0 rfl rfl;have S:=z.o.cell (v:=.slice O D.ends.length N) 2 1 rfl rfl;go_wp2;refine bodyPost_ret (v:=.tuple #[.agg #[.slice R D.next.length M,.slice O D.ends.length N],.bool fb]) (by simp[results,Tryz.results62,go_sem,q0,S]) rfl ?_;exact⟨_,_,_,_,rfl,z.o.dfaXr 6 rfl,z.o.bel⟩
 refine⟨false,false,false,false,false,false,false,false,false,false,none,0,none,0,none,0,none,0,none,0,none,0,none,0,none,0,none,0,none,0,none,0,0,0,rfl,by simp,by simp,(by simp),?_⟩;exact aB.o.drew.pick [0,1,2,3,4,5,6] (by decide)
theorem Zsm (K:Nat) (a b:DfaD):twoQ K 5 a b=(ZbV K (fun p q=>p||q) a b).map minD:=rfl
theorem Zsl (K:Nat) (a b:DfaD):twoQ K 6 a b=(ZbV K (fun p q=>p&&q) a b).map minD:=rfl
theorem Zgy (K:Nat) (Q:K=40) (a b:DfaD) (D:DfaD) (fb:Bool) (H:(twoQ K 5 a b).getD zeD=D) (E:(twoQ K 5 a b).isSome=fb) (v1 v2:Value) (w:World) (hda:Zac a.next a.ends=true) (hdb:Zac b.next b.ends=true) (h1:DfaR 0 w v1 a) (h2:DfaR 0 w v2 b) :
  Calls Tryz.prog 62 #[.int .i64 5,v1,v2] w fun e w'=>RTs D fb w e w':=by
 have O:=h1;have P:=h2;obtain⟨x1,x2,rfl,-,-⟩:=h1;obtain⟨N,M,rfl,-,-⟩:=h2;have B:=(((St.start w).alloc _ rfl #[x1,x2] 44).alloc (w.heap.size+1) (by simp) #[N,M] 44).alloc (w.heap.size+1+1) (by simp) #[.slice none 0 0,.slice none 0 0] 44;rw[Zsm] at H E;have I:=qh (show ∀ W:World,Below w.heap.size w W→Calls Tryz.prog 101 #[.agg #[x1,x2],.agg #[N,M],.func (.func 102) #[] #[]] W fun e w'=>RTs D fb W e w' from fun W hb=>(Zjt K Q a b D fb H E _ _ W hda hdb (O.below hb) (P.below hb)).mono fun e w' h=>RTt.s h);replace B:=qh B;clear H E O P hda hdb Q
 go_enter Tryz.func62, Tryz.ntmps62
 have R:=B.o.cell (v:=x1) 0 0 rfl rfl;have e1:=B.o.cell (v:=x2) 0 1 rfl rfl;have e2:=B.o.cell (v:=N) 1 0 rfl rfl;have e3:=B.o.cell (v:=M) 1 1 rfl rfl;go_wp2_with fail;refine(I.o _ B.o.bel).mono ?_;rintro e X ⟨a1,c1,a2,c2,rfl,hr,F⟩;have C:=qh (B.o.call F);have L:=qh hr;have G:=(B.o.boxlt 2 rfl).2;have J:=B.o.size;have Y:=C.o.fr 2 0 rfl;have f1:=C.o.fr 2 1 rfl;have U:=C.o.cell (v:=.slice none 0 0) 2 0 rfl rfl;have V:=C.o.cell (v:=.slice none 0 0) 2 1 rfl rfl;clear hr F R e1 e2 e3;go_wp2;have hq:=(C.o.set 2 rfl 0 (.slice a1 D.next.length c1)).set 2 rfl 1 (.slice a2 D.ends.length c2);have S:=hq.cell (v:=.slice a1 D.next.length c1) 2 0 rfl rfl;have T:=hq.cell (v:=.slice a2 D.ends.length c2) 2 1 rfl rfl;refine bodyPost_ret (v:=.tuple #[.agg #[.slice a1 D.next.length c1,.slice a2 D.ends.length c2],.bool fb]) (by simp[results,Tryz.results62,go_sem,S,T]) rfl ?_;exact⟨a1,c1,a2,c2,rfl,((L.o.far G 0 _).far G 1 _).mono J,hq.bel⟩
theorem Zgx (K:Nat) (Q:K=40) (a b:DfaD) (D:DfaD) (fb:Bool) (H:(twoQ K 6 a b).getD zeD=D) (E:(twoQ K 6 a b).isSome=fb) (v1 v2:Value) (w:World) (hda:Zac a.next a.ends=true) (hdb:Zac b.next b.ends=true) (h1:DfaR 0 w v1 a) (h2:DfaR 0 w v2 b) :
  Calls Tryz.prog 62 #[.int .i64 6,v1,v2] w fun e w'=>RTs D fb w e w':=by
 have O:=h1;have P:=h2;obtain⟨x1,x2,rfl,-,-⟩:=h1;obtain⟨N,M,rfl,-,-⟩:=h2;have B:=(((St.start w).alloc _ rfl #[x1,x2] 44).alloc (w.heap.size+1) (by simp) #[N,M] 44).alloc (w.heap.size+1+1) (by simp) #[.slice none 0 0,.slice none 0 0] 44;rw[Zsl] at H E;have I:=qh (show ∀ W:World,Below w.heap.size w W→Calls Tryz.prog 101 #[.agg #[x1,x2],.agg #[N,M],.func (.func 103) #[] #[]] W fun e w'=>RTs D fb W e w' from fun W hb=>(Zju K Q a b D fb H E _ _ W hda hdb (O.below hb) (P.below hb)).mono fun e w' h=>RTt.s h);replace B:=qh B;clear H E O P hda hdb Q
 go_enter Tryz.func62, Tryz.ntmps62
 have R:=B.o.cell (v:=x1) 0 0 rfl rfl;have e1:=B.o.cell (v:=x2) 0 1 rfl rfl;have e2:=B.o.cell (v:=N) 1 0 rfl rfl;have e3:=B.o.cell (v:=M) 1 1 rfl rfl;go_wp2_with fail;refine(I.o _ B.o.bel).mono ?_;rintro e X ⟨a1,c1,a2,c2,rfl,hr,F⟩;have C:=qh (B.o.call F);have L:=qh hr;have G:=(B.o.boxlt 2 rfl).2;have J:=B.o.size;have Y:=C.o.fr 2 0 rfl;have f1:=C.o.fr 2 1 rfl;have U:=C.o.cell (v:=.slice none 0 0) 2 0 rfl rfl;have V:=C.o.cell (v:=.slice none 0 0) 2 1 rfl rfl;clear hr F R e1 e2 e3;go_wp2;have hq:=(C.o.set 2 rfl 0 (.slice a1 D.next.length c1)).set 2 rfl 1 (.slice a2 D.ends.length c2);have S:=hq.cell (v:=.slice a1 D.next.length c1) 2 0 rfl rfl;have T:=hq.cell (v:=.slice a2 D.ends.length c2) 2 1 rfl rfl;refine bodyPost_ret (v:=.tuple #[.agg #[.slice a1 D.next.length c1,.slice a2 D.ends.length c2],.bool fb]) (by simp[results,Tryz.results62,go_sem,S,T]) rfl ?_;exact⟨a1,c1,a2,c2,rfl,((L.o.far G 0 _).far G 1 _).mono J,hq.bel⟩
theorem ZhD (K:Nat) (E:K=40) (k:Int) (hk:k=4∨k=5∨k=6) (a b:DfaD) (D:DfaD) (fb:Bool) (C:(twoQ K k a b).getD zeD=D) (B:(twoQ K k a b).isSome=fb) (v1 v2:Value) (w:World) (hda:Zac a.next a.ends=true) (hdb:Zac b.next b.ends=true) (h1:DfaR 0 w v1 a) (h2:DfaR 0 w v2 b) :
  Calls Tryz.prog 62 #[.int .i64 k,v1,v2] w fun e w'=>RTs D fb w e w':=by
 rcases hk with rfl|rfl|rfl
 ·exact Zgw K E a b D fb C B v1 v2 w hda hdb h1 h2
 ·exact Zgy K E a b D fb C B v1 v2 w hda hdb h1 h2
 exact Zgx K E a b D fb C B v1 v2 w hda hdb h1 h2
theorem Zbn (t:Int) (B:Nat) (w:World) (C:w.heap.size=B):Calls Tryz.prog 97 #[.int .i64 t] w fun e w'=>e = .returned (.slice (some ⟨B,0,none⟩) 3 3)∧w'=w.alloc (.cells #[.int .i64 t,.int .i64 t,.int .i64 t] 3):=by
 subst C
 go_enter Tryz.func97, Tryz.ntmps97
 go_wp2;go_ret;exact⟨rfl,rfl⟩
theorem ZbQ {w0 w:World} {L:List Ent} (h:St w0 w L) (i:Nat) {e:Nat} {v:Value} {n:Nat} {l:List Int} (hx:L[i]? = some (Ent.row e 1 v n (intCells l))):Ints w0.heap.size w v l:=by
 have h2:=h.row i hx;have hn:n=l.length:=by have:=h2.1;simp[intCells] at this;omega
 subst hn;exact(Zab h2).sl (by omega)
theorem Zg4 {w0 w:World} {L:List Ent} (h:St w0 w L) (i:Nat) {e:Nat} {v:Value} {n:Nat} {cs:List Value} (hx:L[i]? = some (Ent.row e 1 v n cs)):Sl w0.heap.size w v n 1 cs:=(Zab (h.row i hx)).sl (by omega)
theorem Zem {w0 w:World} {L:List Ent} (h:St w0 w L) (i:Nat) {e:Nat} {v:Value} {n:Nat} {l:List Bool} (hx:L[i]? = some (Ent.row e 1 v n (boolCells l))):Bools w0.heap.size w v l:=by
 have h2:=h.row i hx;have hn:n=l.length:=by have:=h2.1;simp[boolCells] at this;omega
 subst hn;exact(Zab h2).sl (by omega)
theorem Zjw (w:World):Calls Tryz.prog 57 #[.agg #[.int .i64 1,.int .i64 0]] w fun e w'=>RDs Zfc w e w':=by
 have B:=((St.start w).alloc _ rfl #[.int .i64 1,.int .i64 0] 62).alloc (w.heap.size+1) (by simp) #[.slice none 0 0,.slice none 0 0] 44;replace B:=qh B
 go_enter Tryz.func57, Tryz.ntmps57
 have C:=B.o.cell (v:=.int .i64 1) 0 0 rfl rfl;go_wp2_with fail;refine(Zbn 0 (w.heap.size+1+1) _ (by simp)).mono ?_;rintro e w1 ⟨rfl,rfl⟩;clear C;go_wp2;have hq:=(((((St.start w).alloc _ rfl #[.int .i64 1,.int .i64 0] 62).alloc (w.heap.size+1) (by simp) #[.slice (some ⟨w.heap.size+1+1+1,0,none⟩) 1 1,.slice (some ⟨w.heap.size+1+1+1+1,0,none⟩) 1 1] 44).alloc (w.heap.size+1+1) (by simp) #[.int .i64 0,.int .i64 0,.int .i64 0] 3).alloc (w.heap.size+1+1+1) (by simp) #[.slice (some ⟨w.heap.size+1+1,0,none⟩) 3 3] 38).alloc (w.heap.size+1+1+1+1) (by simp) #[.bool false] 4;refine bodyPost_ret (v:=.agg #[.slice (some ⟨w.heap.size+1+1+1,0,none⟩) 1 1,.slice (some ⟨w.heap.size+1+1+1+1,0,none⟩) 1 1]) (by simp[results,Tryz.results57,go_sem]) rfl ?_;have hr:=((hq.boxrow 2 3 1 (intCells [0,0,0]) rfl rfl (by decide)).boxrow 3 1 1 [.slice (some ⟨w.heap.size+1+1,0,none⟩) 3 3] rfl rfl (by decide)).boxrow 4 1 1 (boolCells [false]) rfl rfl (by decide);refine⟨_,_,_,_,rfl,⟨_,_,rfl,⟨_,Zg4 hr 3 rfl,fun i hi => ?_⟩,Zem hr 4 rfl⟩,hq.bel⟩;obtain rfl:i=0:=by have:i<1:=hi;omega
 exact ZbQ hr 2 rfl
theorem Zjv (w:World):Calls Tryz.prog 57 #[.agg #[.int .i64 2,.int .i64 0]] w fun e w'=>RDs oneD w e w':=by
 have B:=((St.start w).alloc _ rfl #[.int .i64 2,.int .i64 0] 62).alloc (w.heap.size+1) (by simp) #[.slice none 0 0,.slice none 0 0] 44;replace B:=qh B
 go_enter Tryz.func57, Tryz.ntmps57
 have C:=B.o.cell (v:=.int .i64 2) 0 0 rfl rfl;go_wp2_with fail;refine(Zbn 1 (w.heap.size+1+1) _ (by simp)).mono ?_;rintro e w1 ⟨rfl,rfl⟩;go_wp2_with fail;refine(Zbn 1 (w.heap.size+1+1+1) _ (by simp)).mono ?_;rintro e w1 ⟨rfl,rfl⟩;clear C;go_wp2;have hq:=((((((St.start w).alloc _ rfl #[.int .i64 2,.int .i64 0] 62).alloc (w.heap.size+1) (by simp) #[.slice (some ⟨w.heap.size+1+1+1+1,0,none⟩) 2 2,.slice (some ⟨w.heap.size+1+1+1+1+1,0,none⟩) 2 2] 44).alloc (w.heap.size+1+1) (by simp) #[.int .i64 1,.int .i64 1,.int .i64 1] 3).alloc (w.heap.size+1+1+1) (by simp) #[.int .i64 1,.int .i64 1,.int .i64 1] 3).alloc (w.heap.size+1+1+1+1) (by simp) #[.slice (some ⟨w.heap.size+1+1,0,none⟩) 3 3,.slice (some ⟨w.heap.size+1+1+1,0,none⟩) 3 3] 38).alloc (w.heap.size+1+1+1+1+1) (by simp) #[.bool true,.bool false] 4;refine bodyPost_ret (v:=.agg #[.slice (some ⟨w.heap.size+1+1+1+1,0,none⟩) 2 2,.slice (some ⟨w.heap.size+1+1+1+1+1,0,none⟩) 2 2]) (by simp[results,Tryz.results57,go_sem]) rfl ?_;have hr:=(((hq.boxrow 2 3 1 (intCells [1,1,1]) rfl rfl (by decide)).boxrow 3 3 1 (intCells [1,1,1]) rfl rfl (by decide)).boxrow 4 2 1 [.slice (some ⟨w.heap.size+1+1,0,none⟩) 3 3,.slice (some ⟨w.heap.size+1+1+1,0,none⟩) 3 3] rfl rfl (by decide)).boxrow 5 2 1 (boolCells [true,false]) rfl rfl (by decide);refine⟨_,_,_,_,rfl,⟨_,_,rfl,⟨_,Zg4 hr 4 rfl,fun i hi => ?_⟩,Zem hr 5 rfl⟩,hq.bel⟩;have hi:i<2:=hi;obtain rfl|rfl:i=0∨i=1:=by omega
 ·exact ZbQ hr 2 rfl
 exact ZbQ hr 3 rfl
theorem Zib (D:DfaD) (L:minD ⟨[[1,2,2],[2,2,2],[2,2,2]],[false,true,false]⟩=D) (w:World):Calls Tryz.prog 57 #[.agg #[.int .i64 3,.int .i64 0]] w fun e w'=>RDs D w e w':=by
 have C:=((St.start w).alloc _ rfl #[.int .i64 3,.int .i64 0] 62).alloc (w.heap.size+1) (by simp) #[.slice none 0 0,.slice none 0 0] 44;have hok:Zac [[1,2,2],[2,2,2],[2,2,2]] [false,true,false]=true:=by decide
 replace C:=qh C;replace L:=qh L;have I:=qh hok;clear hok
 go_enter Tryz.func57, Tryz.ntmps57
 have P:=C.o.cell (v:=.int .i64 3) 0 0 rfl rfl;have e1:=C.o.cell (v:=.int .i64 0) 0 1 rfl rfl;go_wp2_with fail;refine(Zbn 2 (w.heap.size+1+1) _ (by simp)).mono ?_;rintro e w1 ⟨rfl,rfl⟩;go_wp2_with fail;refine(Zbn 2 (w.heap.size+1+1+1) _ (by simp)).mono ?_;rintro e w1 ⟨rfl,rfl⟩;go_wp2_with fail;refine(Zbn 2 (w.heap.size+1+1+1+1) _ (by simp)).mono ?_;rintro e w1 ⟨rfl,rfl⟩;have G:=((((C.o.alloc (w.heap.size+1+1) (by simp) #[.int .i64 1,.int .i64 2,.int .i64 2] 3).alloc (w.heap.size+1+1+1) (by simp) #[.int .i64 2,.int .i64 2,.int .i64 2] 3).alloc (w.heap.size+1+1+1+1) (by simp) #[.int .i64 2,.int .i64 2,.int .i64 2] 3).alloc (w.heap.size+1+1+1+1+1) (by simp) #[.slice (some ⟨w.heap.size+1+1,0,none⟩) 3 3,.slice (some ⟨w.heap.size+1+1+1,0,none⟩) 3 3,.slice (some ⟨w.heap.size+1+1+1+1,0,none⟩) 3 3] 38).alloc (w.heap.size+1+1+1+1+1+1) (by simp) #[.bool false,.bool true,.bool false] 4;have hr:=((((G.boxrow 2 3 1 (intCells [1,2,2]) rfl rfl (by decide)).boxrow 3 3 1 (intCells [2,2,2]) rfl rfl (by decide)).boxrow 4 3 1 (intCells [2,2,2]) rfl rfl (by decide)).boxrow 5 3 1 [.slice (some ⟨w.heap.size+1+1,0,none⟩) 3 3,.slice (some ⟨w.heap.size+1+1+1,0,none⟩) 3 3,.slice (some ⟨w.heap.size+1+1+1+1,0,none⟩) 3 3] rfl rfl (by decide)).boxrow 6 3 1 (boolCells [false,true,false]) rfl rfl (by decide)
 have O:DfaR 0 _ (.agg #[.slice (some ⟨w.heap.size+1+1+1+1+1,0,none⟩) 3 3,.slice (some ⟨w.heap.size+1+1+1+1+1+1,0,none⟩) 3 3]) ⟨[[1,2,2],[2,2,2],[2,2,2]],[false,true,false]⟩:=⟨_,_,rfl,⟨_,(Zg4 hr 5 rfl).mono (Nat.zero_le _),fun i hi=>by
  have hi:i<3:=hi;obtain rfl|rfl|rfl:i=0∨i=1∨i=2:=by omega
  ·exact Sl.mono (ZbQ hr 2 rfl) (Nat.zero_le _)
  ·exact Sl.mono (ZbQ hr 3 rfl) (Nat.zero_le _)
  exact Sl.mono (ZbQ hr 4 rfl) (Nat.zero_le _)⟩,Sl.mono (Zem hr 6 rfl) (Nat.zero_le _)⟩
 have F:=qh G;have HR:=qh O;clear G hr O P e1;go_wp2_with fail;refine(Zck _ _ _ I.o HR.o).mono ?_;rintro e U ⟨a1,c1,a2,c2,rfl,B,H⟩;rw[L.o] at B;rw[L.o];have E:=qh (F.o.call H);have N:=qh B.r;have J:=(F.o.boxlt 1 rfl).2;have M:=F.o.size;have V:=E.o.fr 1 0 rfl;have f1:=E.o.fr 1 1 rfl;have S:=E.o.cell (v:=.slice none 0 0) 1 0 rfl rfl;have T:=E.o.cell (v:=.slice none 0 0) 1 1 rfl rfl;clear B H;go_wp2;have hq:=(E.o.set 1 rfl 0 (.slice a1 D.next.length c1)).set 1 rfl 1 (.slice a2 D.ends.length c2);have Q:=hq.cell (v:=.slice a1 D.next.length c1) 1 0 rfl rfl;have R:=hq.cell (v:=.slice a2 D.ends.length c2) 1 1 rfl rfl;refine bodyPost_ret (v:=.agg #[.slice a1 D.next.length c1,.slice a2 D.ends.length c2]) (by simp[results,Tryz.results57,go_sem,Q,R]) rfl ?_;exact⟨a1,c1,a2,c2,rfl,((N.o.far J 0 _).far J 1 _).mono M,hq.bel⟩
theorem Zia (D:DfaD) (L:minD ⟨[[2,1,2],[2,2,2],[2,2,2]],[false,true,false]⟩=D) (w:World):Calls Tryz.prog 57 #[.agg #[.int .i64 3,.int .i64 1]] w fun e w'=>RDs D w e w':=by
 have C:=((St.start w).alloc _ rfl #[.int .i64 3,.int .i64 1] 62).alloc (w.heap.size+1) (by simp) #[.slice none 0 0,.slice none 0 0] 44;have hok:Zac [[2,1,2],[2,2,2],[2,2,2]] [false,true,false]=true:=by decide
 replace C:=qh C;replace L:=qh L;have I:=qh hok;clear hok
 go_enter Tryz.func57, Tryz.ntmps57
 have P:=C.o.cell (v:=.int .i64 3) 0 0 rfl rfl;have e1:=C.o.cell (v:=.int .i64 1) 0 1 rfl rfl;go_wp2_with fail;refine(Zbn 2 (w.heap.size+1+1) _ (by simp)).mono ?_;rintro e w1 ⟨rfl,rfl⟩;go_wp2_with fail;refine(Zbn 2 (w.heap.size+1+1+1) _ (by simp)).mono ?_;rintro e w1 ⟨rfl,rfl⟩;go_wp2_with fail;refine(Zbn 2 (w.heap.size+1+1+1+1) _ (by simp)).mono ?_;rintro e w1 ⟨rfl,rfl⟩;have G:=((((C.o.alloc (w.heap.size+1+1) (by simp) #[.int .i64 2,.int .i64 1,.int .i64 2] 3).alloc (w.heap.size+1+1+1) (by simp) #[.int .i64 2,.int .i64 2,.int .i64 2] 3).alloc (w.heap.size+1+1+1+1) (by simp) #[.int .i64 2,.int .i64 2,.int .i64 2] 3).alloc (w.heap.size+1+1+1+1+1) (by simp) #[.slice (some ⟨w.heap.size+1+1,0,none⟩) 3 3,.slice (some ⟨w.heap.size+1+1+1,0,none⟩) 3 3,.slice (some ⟨w.heap.size+1+1+1+1,0,none⟩) 3 3] 38).alloc (w.heap.size+1+1+1+1+1+1) (by simp) #[.bool false,.bool true,.bool false] 4;have hr:=((((G.boxrow 2 3 1 (intCells [2,1,2]) rfl rfl (by decide)).boxrow 3 3 1 (intCells [2,2,2]) rfl rfl (by decide)).boxrow 4 3 1 (intCells [2,2,2]) rfl rfl (by decide)).boxrow 5 3 1 [.slice (some ⟨w.heap.size+1+1,0,none⟩) 3 3,.slice (some ⟨w.heap.size+1+1+1,0,none⟩) 3 3,.slice (some ⟨w.heap.size+1+1+1+1,0,none⟩) 3 3] rfl rfl (by decide)).boxrow 6 3 1 (boolCells [false,true,false]) rfl rfl (by decide)
 have O:DfaR 0 _ (.agg #[.slice (some ⟨w.heap.size+1+1+1+1+1,0,none⟩) 3 3,.slice (some ⟨w.heap.size+1+1+1+1+1+1,0,none⟩) 3 3]) ⟨[[2,1,2],[2,2,2],[2,2,2]],[false,true,false]⟩:=⟨_,_,rfl,⟨_,(Zg4 hr 5 rfl).mono (Nat.zero_le _),fun i hi=>by
  have hi:i<3:=hi;obtain rfl|rfl|rfl:i=0∨i=1∨i=2:=by omega
  ·exact Sl.mono (ZbQ hr 2 rfl) (Nat.zero_le _)
  ·exact Sl.mono (ZbQ hr 3 rfl) (Nat.zero_le _)
  exact Sl.mono (ZbQ hr 4 rfl) (Nat.zero_le _)⟩,Sl.mono (Zem hr 6 rfl) (Nat.zero_le _)⟩
 have F:=qh G;have HR:=qh O;clear G hr O P e1;go_wp2_with fail;refine(Zck _ _ _ I.o HR.o).mono ?_;rintro e U ⟨a1,c1,a2,c2,rfl,B,H⟩;rw[L.o] at B;rw[L.o];have E:=qh (F.o.call H);have N:=qh B.r;have J:=(F.o.boxlt 1 rfl).2;have M:=F.o.size;have V:=E.o.fr 1 0 rfl;have f1:=E.o.fr 1 1 rfl;have S:=E.o.cell (v:=.slice none 0 0) 1 0 rfl rfl;have T:=E.o.cell (v:=.slice none 0 0) 1 1 rfl rfl;clear B H;go_wp2;have hq:=(E.o.set 1 rfl 0 (.slice a1 D.next.length c1)).set 1 rfl 1 (.slice a2 D.ends.length c2);have Q:=hq.cell (v:=.slice a1 D.next.length c1) 1 0 rfl rfl;have R:=hq.cell (v:=.slice a2 D.ends.length c2) 1 1 rfl rfl;refine bodyPost_ret (v:=.agg #[.slice a1 D.next.length c1,.slice a2 D.ends.length c2]) (by simp[results,Tryz.results57,go_sem,Q,R]) rfl ?_;exact⟨a1,c1,a2,c2,rfl,((N.o.far J 0 _).far J 1 _).mono M,hq.bel⟩
theorem Zh9 (D:DfaD) (L:minD ⟨[[2,2,1],[2,2,2],[2,2,2]],[false,true,false]⟩=D) (w:World):Calls Tryz.prog 57 #[.agg #[.int .i64 3,.int .i64 2]] w fun e w'=>RDs D w e w':=by
 have C:=((St.start w).alloc _ rfl #[.int .i64 3,.int .i64 2] 62).alloc (w.heap.size+1) (by simp) #[.slice none 0 0,.slice none 0 0] 44;have hok:Zac [[2,2,1],[2,2,2],[2,2,2]] [false,true,false]=true:=by decide
 replace C:=qh C;replace L:=qh L;have I:=qh hok;clear hok
 go_enter Tryz.func57, Tryz.ntmps57
 have P:=C.o.cell (v:=.int .i64 3) 0 0 rfl rfl;have e1:=C.o.cell (v:=.int .i64 2) 0 1 rfl rfl;go_wp2_with fail;refine(Zbn 2 (w.heap.size+1+1) _ (by simp)).mono ?_;rintro e w1 ⟨rfl,rfl⟩;go_wp2_with fail;refine(Zbn 2 (w.heap.size+1+1+1) _ (by simp)).mono ?_;rintro e w1 ⟨rfl,rfl⟩;go_wp2_with fail;refine(Zbn 2 (w.heap.size+1+1+1+1) _ (by simp)).mono ?_;rintro e w1 ⟨rfl,rfl⟩;have G:=((((C.o.alloc (w.heap.size+1+1) (by simp) #[.int .i64 2,.int .i64 2,.int .i64 1] 3).alloc (w.heap.size+1+1+1) (by simp) #[.int .i64 2,.int .i64 2,.int .i64 2] 3).alloc (w.heap.size+1+1+1+1) (by simp) #[.int .i64 2,.int .i64 2,.int .i64 2] 3).alloc (w.heap.size+1+1+1+1+1) (by simp) #[.slice (some ⟨w.heap.size+1+1,0,none⟩) 3 3,.slice (some ⟨w.heap.size+1+1+1,0,none⟩) 3 3,.slice (some ⟨w.heap.size+1+1+1+1,0,none⟩) 3 3] 38).alloc (w.heap.size+1+1+1+1+1+1) (by simp) #[.bool false,.bool true,.bool false] 4;have hr:=((((G.boxrow 2 3 1 (intCells [2,2,1]) rfl rfl (by decide)).boxrow 3 3 1 (intCells [2,2,2]) rfl rfl (by decide)).boxrow 4 3 1 (intCells [2,2,2]) rfl rfl (by decide)).boxrow 5 3 1 [.slice (some ⟨w.heap.size+1+1,0,none⟩) 3 3,.slice (some ⟨w.heap.size+1+1+1,0,none⟩) 3 3,.slice (some ⟨w.heap.size+1+1+1+1,0,none⟩) 3 3] rfl rfl (by decide)).boxrow 6 3 1 (boolCells [false,true,false]) rfl rfl (by decide)
 have O:DfaR 0 _ (.agg #[.slice (some ⟨w.heap.size+1+1+1+1+1,0,none⟩) 3 3,.slice (some ⟨w.heap.size+1+1+1+1+1+1,0,none⟩) 3 3]) ⟨[[2,2,1],[2,2,2],[2,2,2]],[false,true,false]⟩:=⟨_,_,rfl,⟨_,(Zg4 hr 5 rfl).mono (Nat.zero_le _),fun i hi=>by
  have hi:i<3:=hi;obtain rfl|rfl|rfl:i=0∨i=1∨i=2:=by omega
  ·exact Sl.mono (ZbQ hr 2 rfl) (Nat.zero_le _)
  ·exact Sl.mono (ZbQ hr 3 rfl) (Nat.zero_le _)
  exact Sl.mono (ZbQ hr 4 rfl) (Nat.zero_le _)⟩,Sl.mono (Zem hr 6 rfl) (Nat.zero_le _)⟩
 have F:=qh G;have HR:=qh O;clear G hr O P e1;go_wp2_with fail;refine(Zck _ _ _ I.o HR.o).mono ?_;rintro e U ⟨a1,c1,a2,c2,rfl,B,H⟩;rw[L.o] at B;rw[L.o];have E:=qh (F.o.call H);have N:=qh B.r;have J:=(F.o.boxlt 1 rfl).2;have M:=F.o.size;have V:=E.o.fr 1 0 rfl;have f1:=E.o.fr 1 1 rfl;have S:=E.o.cell (v:=.slice none 0 0) 1 0 rfl rfl;have T:=E.o.cell (v:=.slice none 0 0) 1 1 rfl rfl;clear B H;go_wp2;have hq:=(E.o.set 1 rfl 0 (.slice a1 D.next.length c1)).set 1 rfl 1 (.slice a2 D.ends.length c2);have Q:=hq.cell (v:=.slice a1 D.next.length c1) 1 0 rfl rfl;have R:=hq.cell (v:=.slice a2 D.ends.length c2) 1 1 rfl rfl;refine bodyPost_ret (v:=.agg #[.slice a1 D.next.length c1,.slice a2 D.ends.length c2]) (by simp[results,Tryz.results57,go_sem,Q,R]) rfl ?_;exact⟨a1,c1,a2,c2,rfl,((N.o.far J 0 _).far J 1 _).mono M,hq.bel⟩
theorem Zkv (k l:Int) (w:World) (hok:pOk (k,l)=true) (h0:Zag (k,l)=0) (D:DfaD) (B:Zkn (k,l)=D):Calls Tryz.prog 57 #[.agg #[.int .i64 k,.int .i64 l]] w fun e w'=>RDs D w e w':=by
 have hk:(k=1∧l=0)∨(k=2∧l=0)∨(k=3∧0≤l∧l≤2):=by
  unfold Zag at h0;rw[if_pos hok] at h0;simp only[pOk,inB,Bool.and_eq_true,Bool.or_eq_true,decide_eq_true_eq,Bool.not_eq_true',decide_eq_false_iff_not] at hok
  split at h0
  ·omega
  split at h0<;>omega
 subst B;rcases hk with⟨rfl,rfl⟩|⟨rfl,rfl⟩|⟨rfl,h1,h2⟩
 ·exact Zjw w
 ·exact Zjv w
 obtain⟨c,rfl⟩:∃ c:Nat,l=(c:Int):=⟨l.toNat,by omega⟩;obtain rfl|rfl|rfl:c=0∨c=1∨c=2:=by omega
 ·exact Zib _ rfl w
 ·exact Zia _ rfl w
 exact Zh9 _ rfl w
theorem ZeG (x:Int) (w:World) (r:Bool) (hr:inB x 0 2=r):Calls Tryz.prog 157 #[.int .i64 x] w fun e w'=>e = .returned (.bool r)∧w=w':=by
 have Hr:=qh hr;clear hr
 go_enter Tryz.func157, Tryz.ntmps157
 go_wp2_with fail;refine(Zbd _ _ _ _ _ Hr.o).mono ?_;rintro e w1 ⟨rfl,rfl⟩;go_wp2;go_ret;exact⟨rfl,rfl⟩
theorem Zdu (k l:Int) (w:World) (r:Bool) (hr:pOk (k,l)=r) :
  Calls Tryz.prog 129 #[.agg #[.int .i64 k,.int .i64 l]] w fun e w'=>e = .returned (.bool r)∧Below w.heap.size w w':=by
 unfold pOk at hr;simp only at hr;by_cases h3:k=3
 ·subst h3;have h1:inB 3 1 8=true:=by decide
  rw[h1,Bool.true_and] at hr;cases h2:inB l 0 2
  ·rw[h2] at hr;have hr:false=r:=hr;subst hr;have C:=qh h2;clear h2 h1
   go_enter Tryz.func129, Tryz.ntmps129
   go_wp2_with fail;refine(ZeG _ _ _ C.o).mono ?_;rintro e w1 ⟨rfl,rfl⟩;go_wp2;go_ret;exact⟨rfl,(Below.refl _ _).alloc (Nat.le_refl _) _⟩
  rw[h2] at hr;have hr:true=r:=hr;subst hr;have C:=qh h2;clear h2 h1
  go_enter Tryz.func129, Tryz.ntmps129
  go_wp2_with fail;refine(ZeG _ _ _ C.o).mono ?_;rintro e w1 ⟨rfl,rfl⟩;go_wp2;go_ret;exact⟨rfl,(Below.refl _ _).alloc (Nat.le_refl _) _⟩
 obtain⟨I,G,E,H⟩:=Zaw h3;rw[decide_eq_false h3] at hr;cases h1:inB k 1 8
 ·rw[h1,Bool.false_and] at hr;subst hr;have B:=qh h1;clear h1
  go_enter Tryz.func129, Tryz.ntmps129
  go_wp2_with fail;refine(Zbd _ _ _ _ _ B.o).mono ?_;rintro e w1 ⟨rfl,rfl⟩;go_wp2;go_ret;exact⟨rfl,(Below.refl _ _).alloc (Nat.le_refl _) _⟩
 rw[h1,Bool.true_and] at hr;have B:=qh h1;clear h1;have hr:decide (l=0)=r:=hr;subst hr
 go_enter Tryz.func129, Tryz.ntmps129
 go_wp2_with fail;refine(Zbd _ _ _ _ _ B.o).mono ?_;rintro e w1 ⟨rfl,rfl⟩;by_cases h0:l=0
 ·subst h0;go_wp2;go_ret;exact⟨rfl,(Below.refl _ _).alloc (Nat.le_refl _) _⟩
 obtain⟨F,D,L,J⟩:=Zaw h0;go_wp2;go_ret;exact⟨by rw[decide_eq_false h0];rfl,(Below.refl _ _).alloc (Nat.le_refl _) _⟩
theorem ZaN (k l:Int) (w:World) (r:Int) (hr:Zag (k,l)=r) (h0:0≤r) :
  Calls Tryz.prog 56 #[.agg #[.int .i64 k,.int .i64 l]] w fun e w'=>e = .returned (.int .i64 r)∧Below w.heap.size w w':=by
 have hok:=Ze8 (p:=(k,l)) (by rw[hr];exact h0);have hk:(k=1∨k=2∨k=3∨k=4∨k=5∨k=6∨k=7∨k=8):=by simp only[pOk,inB,Bool.and_eq_true,Bool.or_eq_true,decide_eq_true_eq] at hok;omega
 unfold Zag at hr;rw[if_pos hok] at hr;clear hok h0;rcases hk with rfl|rfl|rfl|rfl|rfl|rfl|rfl|rfl <;>
 ·simp at hr;subst hr
  go_enter Tryz.func56, Tryz.ntmps56
  go_wp2;go_ret;exact⟨rfl,(Below.refl _ _).alloc (Nat.le_refl _) _⟩
variable {P:Program}
theorem Zbu {w:World} {b:Nat} {cs cs':Array Value} {T:TypeId} (h:Bx w b cs T) (hn:cs'.size=cs.size) (h1:∀ v∈cs'.toList,v.oneCell'=true):(storeCells ⟨b,0,none⟩ cs'.toList 0).run P w = .ok () (w.setRow b cs'):=by have:=run_storeCells_from (P:=P) b T cs'.toList 0 cs w h (by simpa using hn) h1;simpa using this
theorem St.setAll {w0 w:World} {L:List Ent} (h:St w0 w L) (i:Nat) {b:Nat} {cs:Array Value} {T:TypeId} (hx:L[i]? = some (Ent.box b cs T)) (cs':Array Value):St w0 (w.setRow b cs') (L.set i (Ent.box b cs' T)):=by have hb:Bx w b cs T:=(h.has i _ hx).1;have B:Bx (w.setRow b cs') b cs' T:=setRow_heap w b cs cs' T (0,0) hb;exact h.turn i hx _ rfl rfl rfl (by simp[World.setRow]) (fun k _ hk=>setRow_other w b k cs' hk) B fun k hk=>by have hk:k=b:=hk;subst hk;exact⟨B.lt,Or.inl rfl⟩
theorem ZhX {ops:Array Oper} {rest:List Oper} {C:Oper} {a:Act} {w:World} {Q:Exit→Act→World→Prop} (D:C.guard=none) (B:TypeId) (x:Operand) (E:C.op = .load B x) (b:Nat) (hx:a.eval x = .pointer (some ⟨b,0,none⟩)) (T:TypeId) (cs:Array Value) (d:TypeDesc) (hb:Bx w b cs T)
  (hu:P.underlying B=some d) (hd:d.isRow=true) (hi:(P.info? B).map (·.size)=some cs.size) (h:wpList P ops Q rest (a.put C.dst (.agg cs)) w):wpList P ops Q (C::rest) a w:=by
 have hc:w.rangeAt b 0 cs.toList:=fun j v F=>by rw[Nat.zero_add,hb.cell j];simpa using F
 exact wpList_load_mid D B x E b 0 hx cs.toList d hc hu hd (by simpa using hi) (by simpa using h)
theorem ZgU {ops:Array Oper} {rest:List Oper} {B:Oper} {a:Act} {w:World} {Q:Exit→Act→World→Prop} (D:B.guard=none) (C:TypeId) (x y:Operand) (E:B.op = .store C x y) (b:Nat) (T:TypeId) (cs cs':Array Value) (hx:a.eval x = .pointer (some ⟨b,0,none⟩)) (hy:a.eval y = .agg cs')
  (hb:Bx w b cs T) (hi:(P.info? C).map (·.size)=some cs'.size) (hl:cs.size=cs'.size) (h1:∀ v∈cs'.toList,v.oneCell'=true) (h:wpList P ops Q rest (a.put B.dst undef) (w.setRow b cs')):wpList P ops Q (B::rest) a w :=
 wpList_plain D fun K G=>by have hr:=run_storeVar_row (P:=P) w b T C cs cs' hb hi hl (Array.all_eq_true_iff_forall_mem.2 fun v F=>h1 v (by simpa using F));unfold Oper.wp execOp;simp only[E,hx,hy,Instr.storeAt,Instr.sureAddr,Sem.run_bind,Sem.run_pure,Result.andThen_ok,hr];exact G _ _ h
theorem Zjd {fn:Func} {p:Tmp} {D:TypeId} (h:fn.results=#[.cell p D]) (B:Array Value) (P:Program) (w:World) :
  (results fn B).run P w=((asAddr (B.getD p undef)).run P w).andThen fun a C=>(loadVar D a).run P C:=by
 simp only[results,h];simp[Sem.run_bind,Result.andThen]
theorem Zb6 {fn:Func} {p:Tmp} {C:TypeId} (h:fn.results=#[.cell p C]) (B:Array Value) (P:Program) (w:World) (b:Nat) (T:TypeId) (cs:Array Value) (d:TypeDesc) (hp:B.getD p undef = .pointer (some ⟨b,0,none⟩)) (hb:Bx w b cs T) (hu:P.underlying C=some d) (hd:d.isRow=true) (hi:(P.info? C).map (·.size)=some cs.size) :
  (results fn B).run P w = .ok (.agg cs) w:=by
 rw[Zjd h,hp];have hl:(loadVar C ⟨b,0,none⟩).run P w = .ok (.agg cs) w:=run_loadVar_row w b T C cs (0,0) d hb hu (by cases d<;>simp_all [TypeDesc.isRow]) hi;simp[asAddr,Result.andThen,hl]
theorem Zlg {w:World} {B e size n cap m:Nat} {a:Option Addr} {cs:List Value} (h:w.ownsRow B e size (.slice a n cap) n cs) (hm:m≤n):w.ownsRow B e size (.slice a m cap) m (cs.take (m*size)):=by
 obtain⟨h1,h2⟩:=h;have hle:m*size≤n*size:=Nat.mul_le_mul_right size hm;refine⟨by rw[List.length_take,h1];omega,?_⟩;rcases h2 with⟨h3,h4⟩|⟨g,c,cur,h3,h4,h5,h6,h7,h8,C⟩
 ·simp only[Value.slice.injEq] at h3;obtain⟨rfl,rfl,rfl⟩:=h3;obtain rfl:m=0:=by omega
  exact .inl ⟨rfl,rfl⟩
 simp only[Value.slice.injEq] at h3;obtain⟨rfl,-,rfl⟩:=h3;refine .inr ⟨g,cap,cur,rfl,h4,h5,by omega,h7,h8,?_⟩;rw[← C,List.take_take,Nat.min_eq_left hle]
theorem St.cut {w0 w:World} {L:List Ent} (h:St w0 w L) (i:Nat) {e size n cap:Nat} {a:Option Addr} {cs:List Value} (hx:L[i]? = some (Ent.row e size (.slice a n cap) n cs)) (m:Nat) (hm:m≤n):St w0 w (L.set i (Ent.row e size (.slice a m cap) m (cs.take (m*size)))) :=
 h.same i hx _ (fun hb=>Zlg hb hm) fun k hk=>by
  cases a with
  | none=>cases hk
  | some a=>exact hk
theorem St.rangeR {w0 w:World} {L:List Ent} (h:St w0 w L) (i:Nat) {e size g n cap:Nat} {cs:List Value} (hx:L[i]? = some (Ent.row e size (.slice (some ⟨g,0,none⟩) n cap) n cs)) (o:Nat) (xs:List Value) (B:∀ k v,xs[k]? = some v→o+k<n*size∧cs[o+k]? = some v):w.rangeAt g o xs:=fun k v C=>h.rcell i (o+k) hx (B k v C).1 (B k v C).2
theorem St.rangeB {w0 w:World} {L:List Ent} (h:St w0 w L) (i:Nat) {b:Nat} {cs:Array Value} {T:TypeId} (hx:L[i]? = some (Ent.box b cs T)):w.rangeAt b 0 cs.toList:=fun k v B=>by rw[Nat.zero_add];exact h.cell i k hx (by simpa using B)
theorem Zp0 {C:Oper} {a:Act} {w:World} {K:Act→World→Prop} {Q:Exit→Act→World→Prop} (B:TypeId) (x:Operand) (D:C.op = .load B x) (b off:Nat) (hx:a.eval x = .pointer (some ⟨b,off,none⟩)) (cs:Array Value) (d:TypeDesc) (hc:w.rangeAt b off cs.toList)
  (hu:P.underlying B=some d) (hd:d.isRow=true) (hi:(P.info? B).map (·.size)=some cs.size) (h:K (a.put C.dst (.agg cs)) w):C.wp P a w K Q :=
 wp_load_mid B x D b off hx cs.toList d hc hu hd (by simpa using hi) (by simpa using h)
theorem ZfH {ops:Array Oper} {o:Oper} {a:Act} {w:World} {K:Act→World→Prop} {Q:Exit→Act→World→Prop} {E:Prop} (C:o.guard=none) (B:TypeId) (x:Operand) (D:o.op = .load B x) (b off:Nat) (hx:a.eval x = .pointer (some ⟨b,off,none⟩)) (cs:Array Value) (d:TypeDesc) (hc:w.rangeAt b off cs.toList)
  (hu:P.underlying B=some d) (hd:d.isRow=true) (hi:(P.info? B).map (·.size)=some cs.size) (h:K (a.put o.dst (.agg cs)) w):if Region.wanted o (yielded ops a.tmps)=true then Oper.wp P o a w K Q else E:=by
 have F:Region.wanted o (yielded ops a.tmps)=true:=by simp[Region.wanted,C]
 rw[if_pos F];exact wp_load_mid B x D b off hx cs.toList d hc hu hd (by simpa using hi) (by simpa using h)
theorem Zk2 {ops:Array Oper} {o:Oper} {a:Act} {w:World} {K:Act→World→Prop} {Q:Exit→Act→World→Prop} {E:Prop} (D:o.guard=none) (t e:TypeId) (x:Operand) (H:o.op = .buildSlice t 1 #[(0,x)]) (cs:Array Value) (hx:a.eval x = .agg cs) (B:TypeInfo) (z:Value) (s:Nat)
  (hu:P.underlying t=some (.slice e)) (F:P.info? e=some B) (hz:B.zero=some z) (hs:B.size=s) (C:cs.size=s) (h0:0<s) (I:s≤16777216) (h:K (a.put o.dst (.slice (some ⟨w.heap.size,0,none⟩) 1 1)) (w.alloc (.cells cs e))):if Region.wanted o (yielded ops a.tmps)=true then Oper.wp P o a w K Q else E:=by
 have J:Region.wanted o (yielded ops a.tmps)=true:=by simp[Region.wanted,D]
 rw[if_pos J];refine wp_buildSlice t e 1 _ H cs B z hu F hz (by rw[hs];omega) (by rw[hs];omega) ?_ h;rw[hs];have hf:=Great.fill_whole h0 [.agg cs] ((Array.range (1*s)).map (z.cells[· % z.cells.size]!)) (by intro v G;rw[List.mem_singleton] at G;subst G;exact C) (by simp);simpa [Value.cells,hx] using hf
theorem ZgY {ops:Array Oper} {o:Oper} {a:Act} {w:World} {K:Act→World→Prop} {Q:Exit→Act→World→Prop} {E:Prop} (C:o.guard=none) (B:TypeId) (x y:Operand) (D:o.op = .store B x y) (b:Nat) (T:TypeId) (cs cs':Array Value) (hx:a.eval x = .pointer (some ⟨b,0,none⟩)) (hy:a.eval y = .agg cs')
  (hb:Bx w b cs T) (hi:(P.info? B).map (·.size)=some cs'.size) (hl:cs.size=cs'.size) (h1:∀ v∈cs'.toList,v.oneCell'=true) (h:K (a.put o.dst undef) (w.setRow b cs')):if Region.wanted o (yielded ops a.tmps)=true then Oper.wp P o a w K Q else E:=by
 have G:Region.wanted o (yielded ops a.tmps)=true:=by simp[Region.wanted,C]
 rw[if_pos G];have hr:=run_storeVar_row (P:=P) w b T B cs cs' hb hi hl (Array.all_eq_true_iff_forall_mem.2 fun v F=>h1 v (by simpa using F));unfold Oper.wp execOp;simp only[D,hx,hy,Instr.storeAt,Instr.sureAddr,Sem.run_bind,Sem.run_pure,Result.andThen_ok,hr];exact h
def stkB (es:List (Int × Int)):Nat→List Nat
 | 0=>[]
 | k+1=>(stkB es k).take ((stkB es k).length-(Zag (es.getD k (0,0))).toNat)++[if (Zag (es.getD k (0,0))).toNat=0 then k else(stkB es k).getD ((stkB es k).length-(Zag (es.getD k (0,0))).toNat) 0]
def begB (es:List (Int × Int)) (k:Nat):Nat:=if (Zag (es.getD k (0,0))).toNat=0 then k else(stkB es k).getD ((stkB es k).length-(Zag (es.getD k (0,0))).toNat) 0
theorem Zdn (es:List (Int × Int)) (k:Nat):stkB es (k+1)=(stkB es k).take ((stkB es k).length-(Zag (es.getD k (0,0))).toNat)++[begB es k]:=rfl
theorem Zmo {es:List (Int × Int)} {k:Nat}:exAt es k=true↔0≤Zag (es.getD k (0,0))∧Zag (es.getD k (0,0))≤dep es k:=by simp only[exAt,Bool.and_eq_true,decide_eq_true_eq]
theorem ZlT {es:List (Int × Int)}:∀ k:Nat,(∀ j,j<k→exAt es j=true)→((stkB es k).length:Int)=dep es k
 | 0,_=>rfl
 | k+1,h=>by
  have B:=ZlT k fun j hj=>h j (by omega)
  have h1:=Zmo.1 (h k (by omega));rw[Zdn,List.length_append,List.length_take,List.length_singleton];show _=dep es k-Zag (es.getD k (0,0))+1;omega
def natC (l:List Nat):List Value:=intCells (l.map fun (x:Nat)=>((x:Nat):Int))
theorem ZrM {l:List Nat} {k:Nat} (hk:k<l.length):(natC l)[k]? = some (.int .i64 ((l.getD k 0:Nat):Int)):=by simp[natC,intCells,hk]
theorem Zow (l:List Nat) (m:Nat):(natC l).take (m*1)=natC (l.take m):=by simp[natC,intCells,List.map_take]
theorem Zkh (l:List Nat) (x:Nat):natC l++[.int .i64 ((x:Nat):Int)]=natC (l++[x]):=by simp[natC,intCells]
def RSt (es:List (Int × Int)) (n:Nat) (w:World) (e:Ending) (w':World):Prop :=
 ((∀ k,k<n→exAt es k=true)∧∃ g b,e = .returned (.tuple #[.slice (some ⟨g,0,none⟩) n n,.bool b])∧(b=true↔dep es n=1)∧St w w' [Ent.row 3 1 (.slice (some ⟨g,0,none⟩) n n) n (intCells (clsL n (begB es)))]) ∨
 ((¬ ∀ k,k<n→exAt es k=true)∧e = .returned (.tuple #[.slice none 0 0,.bool false])∧Below w.heap.size w w')
theorem Zdg (es:List (Int × Int)) (v:Value) (w:World) (hlen:es.length≤1000) (h:Pairs 0 w v es) :
  Calls Tryz.prog 90 #[v] w fun e w'=>RSt es es.length w e w':=by
 obtain⟨av,cv,rfl,bV,cD,bI⟩:=h.form;obtain⟨i0,hi,aG,bU,bT⟩:=info_parts Tryz.infoInt;obtain⟨n,hn⟩:=eI (es.length);rw[← hn] at bV hlen bI;rw[← hn];have bX:=qh bI;have bH:=qh hi;clear hi;replace aG:=qh aG;have X:=qh bU;clear bU;have V:=qh bT;clear bT;replace hn:=qh hn;clear h bI
 go_enter Tryz.func90, Tryz.ntmps90
 go_wp2_with (at_make;refine wpList_make_full _ rfl _ _ 38 rfl _ 3 i0 (.int .i64 0) 1 Tryz.underlying38 bH.o aG.o X.o .i64 .i64 _ _ n rfl rfl rfl rfl (by rw[V.o];omega) (by unfold maxLen;omega) (Nat.le_refl _) ?_;intro w1 aZ s;have bW:=qh ((St.start w).made ((Below.refl _ _).grown s (Nat.le_refl _) (fun _ h=>by cases h)) (Zhr (begB es) aZ));clear aZ s)
 go_loopw [5,13] (fun st i wr=>∃ (k m c:Nat) (a:Option Addr),i = .int .i64 (k:Int)∧st = .slice a m c∧k≤n∧(∀ j,j<k→exAt es j=true)∧(stkB es k).length=m∧St w wr [Ent.row 3 1 (.slice (some ⟨w.heap.size,0,none⟩) n n) n (intCells (padL n k (begB es))),Ent.row 3 1 (.slice a m c) m (natC (stkB es k))])
  (fun _ i _=>n-(intOf i).toNat)
 case atStart=>exact⟨0,0,0,none,rfl,rfl,Nat.zero_le _,fun j hj=>absurd hj (by omega),rfl,bW.o.nilRow 3 1⟩
 case round =>
  obtain⟨k,m,c,a,rfl,rfl,hk,hall,hm,hS⟩:=hrel;have Z:=ZlT k hall;have bD:=Zgm es k;by_cases hlt:k<n
  ·have hlt2:(k:Int)<n:=by omega
   obtain⟨b,o,rfl,-,bK,bL⟩:=bX.o (by omega);obtain⟨g1,g2⟩:=bL k hlt;have k1:=(bcell hS.bel b _ bK).trans g1;have k2:=(bcell hS.bel b _ bK).trans g2;obtain⟨p,hp⟩:=eI (es.getD k (0,0));have S:=Zmo (es:=es) (k:=k);have P:begB es k=if (Zag (es.getD k (0,0))).toNat=0 then k else(stkB es k).getD ((stkB es k).length-(Zag (es.getD k (0,0))).toNat) 0:=rfl;have d:=Zdn es k;rw[← hp] at k1 k2 S P d;obtain⟨L,M⟩:=p;simp only at k1 k2;have bY:=Zcu (L,M);obtain⟨r,hr⟩:=eJ (Zag (L,M));rw[hr] at S bY P d;rw[hm] at Z P d;have hmk:m≤2*k:=by omega
   have aM:m<r∨r≤m:=by omega
   have E:=qh hS;have aV:=qh hall;have U:=qh (hS.alloc _ rfl #[.int .i64 L,.int .i64 M] 62);replace S:=qh S;replace P:=qh P;have aX:=qh d;clear d;have cB:=qh hp;clear hp;have T:=qh Z;clear Z;have bZ:=qh bD;clear bD;have aN:=qh hm;clear hm;clear hS hall bL g1 g2;cases hpo:pOk (L,M)
   ·have aJ:r = -1:=by rw[← hr];unfold Zag;rw[if_neg (by rw[hpo];simp)]
    have Y:=qh hr;clear hr;have aC:=qh hpo;clear hpo;have H:¬ ∀ k,k<n→exAt es k=true:=fun h=>by have:=(S.o.1 (h k hlt)).1;omega
    replace H:=qh H;have e0:=U.o.cell (v:=.int .i64 L) 2 0 rfl rfl;have e1:=U.o.cell (v:=.int .i64 M) 2 1 rfl rfl;go_wp2_with fail;refine(Zdu L M _ _ aC.o).mono ?_;rintro e w2 ⟨rfl,hb2⟩;have z:=qh (U.o.call hb2);clear hb2;go_wp2
    go_ret2
    exact .inr ⟨H.o,rfl,z.o.bel⟩
   have aJ:0≤r:=by
    rw[← hr];unfold Zag;rw[if_pos hpo]
    split<;>(try split)<;>omega
   have Y:=qh hr;clear hr;have aC:=qh hpo;clear hpo;have e0:=U.o.cell (v:=.int .i64 L) 2 0 rfl rfl;have e1:=U.o.cell (v:=.int .i64 M) 2 1 rfl rfl;go_wp2_with fail;refine(Zdu L M _ _ aC.o).mono ?_;rintro e w2 ⟨rfl,hb2⟩;have z:=qh (U.o.call hb2);clear hb2 e0 e1;have e0:=z.o.cell (v:=.int .i64 L) 2 0 rfl rfl;have e1:=z.o.cell (v:=.int .i64 M) 2 1 rfl rfl;go_wp2_with fail;refine(ZaN L M _ _ Y.o aJ).mono ?_;rintro e w3 ⟨rfl,bS⟩;have aQ:=qh (z.o.call bS);clear bS e0 e1;rcases aM with aM|aM
   ·have H:¬ ∀ k,k<n→exAt es k=true:=fun h=>by have:=(S.o.1 (h k hlt)).2;have:=T.o;omega
    replace H:=qh H;have q1:((m:Int)<r)=True:=by simp[aM]
    go_wp2
    go_ret2
    exact .inr ⟨H.o,rfl,aQ.o.bel⟩
   have q1:((m:Int)<r)=False:=by simp;omega
   have aW:exAt es k=true:=S.o.2 ⟨aJ,by have:=T.o;omega⟩;have aH:=qh aW;clear aW;have bG:=aQ.o.store 0 rfl k (.int .i64 ((k:Nat):Int));rw[Zl9 (begB es) hlt,ZgJ] at bG;have bF:=qh bG;have f0:=aQ.o.rfr 0 k rfl;have k0:=aQ.o.rcell (v:=.int .i64 ((0:Nat):Int)) 0 k rfl (by omega) (by rw[Zl9 (begB es) hlt];exact ZdF _ _);have e0:=bF.o.cell (v:=.int .i64 L) 2 0 rfl rfl;have e1:=bF.o.cell (v:=.int .i64 M) 2 1 rfl rfl;clear bG;go_wp2_with fail;refine(ZaN L M _ _ Y.o aJ).mono ?_;rintro e w5 ⟨rfl,bQ⟩;have aE:=qh (bF.o.call bQ);clear bQ e0 e1 f0 k0;by_cases hr0:r=0
   ·subst hr0;have Q:begB es k=k:=by rw[P.o];rfl
    have aB:stkB es (k+1)=stkB es k++[k]:=by rw[aX.o,Q];congr 1;have:=aN.o;show(stkB es k).take (m-0)=_;rw[← this];exact List.take_length
    have aA:=qh Q;clear Q;have N:=qh aB;clear aB;have R:=qh (aE.o.alloc_ (.cells #[.int .i64 ((k:Nat):Int)] 3));have bB:=qh (R.o.row 1 rfl);have x1:=aE.o.rcell (v:=.int .i64 ((k:Nat):Int)) 0 k rfl (by omega) (ZdF _ _);go_wp2_with (at_builtin;refine wpList_append_lies _ rfl _ _ _ rfl _ 3 i0 (.int .i64 0) 1 8 Tryz.underlying38 bH.o aG.o X.o V.o rfl (by omega) _ m _ rfl bB.o ⟨w5.heap.size,0,none⟩ 1 1 [.int .i64 ((k:Nat):Int)] rfl rfl (World.news_of_block (heap_alloc_new w5 _)) ZbX (by omega) (by unfold maxLen;omega) (by omega) R.o.size _ rfl ?_;intro g6 c6 w6 I F O y;have bE:=qh (R.o.app 1 rfl I F O);clear I F O y);go_roundw
    case rel =>
     refine⟨k+1,m+1,c6,some ⟨g6,0,none⟩,by go_num,rfl,by omega,fun j hj => ?_,?_,?_⟩
     ·by_cases e:j=k
      ·rw[e];exact aH.o
      exact aV.o j (by omega)
     ·rw[N.o,List.length_append,List.length_singleton,aN.o]
     rw[N.o,← Zkh,← ZgK,aA.o];exact bE.o.pick [0,1] (by decide)
    case measure=>simp[intOf];omega
   have cI:0<r:=by omega
   clear hr0;obtain⟨q,rfl⟩:∃ q:Nat,r=((q:Nat):Int):=⟨r.toNat,by omega⟩;have cJ:0<q:=by omega
   obtain⟨t,cE⟩:∃ t:Nat,(m:Int)-(q:Int)=((t:Nat):Int):=⟨m-q,by omega⟩;obtain⟨g,c2,he⟩:=aE.o.rowform 1 rfl (by omega);simp only[Value.slice.injEq,true_and] at he;obtain⟨rfl,rfl⟩:=he;obtain⟨cL,cH⟩:=aE.o.rowcap 1 rfl;have cC:(0:Int)≤(t:Int):=by omega
   have cG:(t:Int)≤(c:Int):=by omega
   have cF:(t:Int)<(m:Int):=by omega
   have cK:IntKind.i64.wrap (t:Int)=(t:Int):=IntWalk.i64_in _ (by omega);obtain⟨B,aK⟩:=eI ((stkB es k).getD t 0);have hB:(natC (stkB es k))[t]? = some (.int .i64 ((B:Nat):Int)):=by rw[aK];exact ZrM (by rw[aN.o];omega)
   have bN:m-q=t:=by omega
   have Q:begB es k=B:=by rw[P.o,Int.toNat_natCast,if_neg (by omega),bN,aK]
   have aB:stkB es (k+1)=(stkB es k).take t++[B]:=by rw[aX.o,Int.toNat_natCast,bN,Q]
   have bP:((stkB es k).take t).length=t:=by rw[List.length_take,aN.o];omega
   have aA:=qh Q;clear Q;have N:=qh aB;clear aB;have bJ:=qh bP;clear bP;replace hB:=qh hB;have cA:=qh aK;clear aK;go_wp2;refine wp_region_any (by kernel_rfl) ?_
   refine Zay (fun A listed a w'=>∃ (l0 l1 l2 l3 l4 l5 l6 l7 l8 l9 u aI aR aP aL aO aS G aT aU:Bool) ,listed=#[l0,l1,l2,l3,l4,l5,l6,l7,l8,l9,u,aI,aR,aP,aL,aO,aS,G,aT,aU]∧(G=true→l2=true∧l3=true∧l9=true∧u=true) ∧
     a=⟨(((((((((((((((((((A.tmps.setIfInBounds 35 (if l0=true then .slice (some ⟨w.heap.size,0,none⟩) n n else A.tmps.getD 35 undef)).setIfInBounds 36 (if l1=true then .int .i64 ((k:Nat):Int) else A.tmps.getD 36 undef)).setIfInBounds 37 (if l2=true then .slice (some ⟨g,0,none⟩) m c else A.tmps.getD 37 undef)).setIfInBounds 38 (if l3=true then .slice (some ⟨g,0,none⟩) m c else A.tmps.getD 38 undef)).setIfInBounds 39 (if l4=true then .int .i64 (m:Int) else A.tmps.getD 39 undef)).setIfInBounds 40 (if l5=true then .agg #[.int .i64 L,.int .i64 M] else A.tmps.getD 40 undef)).setIfInBounds 41 (if l6=true then .int .i64 ((q:Nat):Int) else A.tmps.getD 41 undef)).setIfInBounds 42 (if l7=true then .int .i64 ((t:Nat):Int) else A.tmps.getD 42 undef)).setIfInBounds 43 (if l8=true then .slice (some ⟨g,0,none⟩) t c else A.tmps.getD 43 undef)).setIfInBounds 44 (if l9=true then .slice (some ⟨g,0,none⟩) m c else A.tmps.getD 44 undef)).setIfInBounds 45 (if u=true then .slice (some ⟨g,0,none⟩) m c else A.tmps.getD 45 undef)).setIfInBounds 46 (if aI=true then .int .i64 (m:Int) else A.tmps.getD 46 undef)).setIfInBounds 47 (if aR=true then .agg #[.int .i64 L,.int .i64 M] else A.tmps.getD 47 undef)).setIfInBounds 48 (if aP=true then .int .i64 ((q:Nat):Int) else A.tmps.getD 48 undef)).setIfInBounds 49 (if aL=true then .int .i64 ((t:Nat):Int) else A.tmps.getD 49 undef)).setIfInBounds 50 (if aO=true then .pointer (some ⟨g,t,none⟩) else A.tmps.getD 50 undef)).setIfInBounds 51 (if aS=true then .int .i64 ((B:Nat):Int) else A.tmps.getD 51 undef)).setIfInBounds 5 (if G=true then .slice (some ⟨g,0,none⟩) t c else A.tmps.getD 5 undef)).setIfInBounds 52 (if aT=true then .pointer (some ⟨w.heap.size,k,none⟩) else A.tmps.getD 52 undef)),A.defers⟩ ∧
     St w w' [(if aU=true then Ent.row 3 1 (.slice (some ⟨w.heap.size,0,none⟩) n n) n ((intCells (padT n k (begB es) k)).set (k) (.int .i64 ((B:Nat):Int))) else Ent.row 3 1 (.slice (some ⟨w.heap.size,0,none⟩) n n) n (intCells (padT n k (begB es) k))),Ent.row 3 1 (.slice (some ⟨g,0,none⟩) m c) m (natC (stkB es k)),Ent.box wr.heap.size #[.int .i64 L,.int .i64 M] 62]) ?_ ?_ ?_
   ·rintro listed a w' ⟨l0,l1,l2,l3,l4,l5,l6,l7,l8,l9,u,aI,aR,aP,aL,aO,aS,G,aT,aU,rfl,C,rfl,hS⟩ i hi;obtain⟨D,o,ho,hall⟩:=mem_ready.1 hi;have hlt:=(Array.getElem?_eq_some_iff.1 ho).1;refine wpOp_step ho (fun K J => ?_);clear hi;have E:=qh hS;clear hS;simp only[w_1,w_2,w_3,w_4,w_5,w_6,w_7,w_8];obtain h|h|h|h|h|h|h|h|h|h|h|h|h|h|h|h|h|h|h|h:i=0∨i=1∨i=2∨i=3∨i=4∨i=5∨i=6∨i=7∨i=8∨i=9∨i=10∨i=11∨i=12∨i=13∨i=14∨i=15∨i=16∨i=17∨i=18∨i=19:=by simp at hlt;omega
    all_goals subst h
    all_goals simp only[w_5,w_6,w_7,w_9] at ho
    all_goals subst ho
    all_goals simp[Region.binds] at D hall
    ·subst D;go_simp;exact J _ _ ⟨_,_,_,_,_,_,_,_,_,_,_,_,_,_,_,_,_,_,_,_,rfl,C,(by simp),E.o⟩
    ·subst D;go_simp;exact J _ _ ⟨_,_,_,_,_,_,_,_,_,_,_,_,_,_,_,_,_,_,_,_,rfl,C,(by simp),E.o⟩
    ·subst D;obtain rfl:G=false:=by cases G with|false=>rfl|true=>simpa using C rfl
     go_simp;exact J _ _ ⟨_,_,_,_,_,_,_,_,_,_,_,_,_,_,_,_,_,_,_,_,rfl,by simp,(by simp),E.o⟩
    ·subst D;obtain rfl:G=false:=by cases G with|false=>rfl|true=>simpa using C rfl
     go_simp;exact J _ _ ⟨_,_,_,_,_,_,_,_,_,_,_,_,_,_,_,_,_,_,_,_,rfl,by simp,(by simp),E.o⟩
    ·obtain rfl:=hall;subst D;go_simp;exact J _ _ ⟨_,_,_,_,_,_,_,_,_,_,_,_,_,_,_,_,_,_,_,_,rfl,C,(by simp),E.o⟩
    ·subst D;have e0:=E.o.cell (v:=.int .i64 L) 2 0 rfl rfl;have e1:=E.o.cell (v:=.int .i64 M) 2 1 rfl rfl;go_simp;exact J _ _ ⟨_,_,_,_,_,_,_,_,_,_,_,_,_,_,_,_,_,_,_,_,rfl,C,(by simp),E.o⟩
    ·obtain rfl:=hall;subst D;go_simp
     go_at_call 56
     refine(ZaN L M _ _ Y.o (by omega)).mono ?_;rintro e u1 ⟨rfl,hb⟩;have aD:=E.o.call hb;have l:=qh aD;clear aD;go_simp;exact J _ _ ⟨_,_,_,_,_,_,_,_,_,_,_,_,_,_,_,_,_,_,_,_,rfl,C,(by simp),l.o⟩
    ·obtain⟨rfl,rfl⟩:=hall;subst D;go_simp;exact J _ _ ⟨_,_,_,_,_,_,_,_,_,_,_,_,_,_,_,_,_,_,_,_,rfl,C,(by simp),E.o⟩
    ·obtain⟨rfl,rfl⟩:=hall;subst D;go_simp;exact J _ _ ⟨_,_,_,_,_,_,_,_,_,_,_,_,_,_,_,_,_,_,_,_,rfl,C,(by simp),E.o⟩
    ·subst D;obtain rfl:G=false:=by cases G with|false=>rfl|true=>simpa using C rfl
     go_simp;exact J _ _ ⟨_,_,_,_,_,_,_,_,_,_,_,_,_,_,_,_,_,_,_,_,rfl,by simp,(by simp),E.o⟩
    ·subst D;obtain rfl:G=false:=by cases G with|false=>rfl|true=>simpa using C rfl
     go_simp;exact J _ _ ⟨_,_,_,_,_,_,_,_,_,_,_,_,_,_,_,_,_,_,_,_,rfl,by simp,(by simp),E.o⟩
    ·obtain rfl:=hall;subst D;go_simp;exact J _ _ ⟨_,_,_,_,_,_,_,_,_,_,_,_,_,_,_,_,_,_,_,_,rfl,C,(by simp),E.o⟩
    ·subst D;have e0:=E.o.cell (v:=.int .i64 L) 2 0 rfl rfl;have e1:=E.o.cell (v:=.int .i64 M) 2 1 rfl rfl;go_simp;exact J _ _ ⟨_,_,_,_,_,_,_,_,_,_,_,_,_,_,_,_,_,_,_,_,rfl,C,(by simp),E.o⟩
    ·obtain⟨rfl,rfl⟩:=hall;subst D;go_simp
     go_at_call 56
     refine(ZaN L M _ _ Y.o (by omega)).mono ?_;rintro e u1 ⟨rfl,hb⟩;have aD:=E.o.call hb;have l:=qh aD;clear aD;go_simp;exact J _ _ ⟨_,_,_,_,_,_,_,_,_,_,_,_,_,_,_,_,_,_,_,_,rfl,C,(by simp),l.o⟩
    ·obtain⟨rfl,rfl⟩:=hall;subst D;go_simp;exact J _ _ ⟨_,_,_,_,_,_,_,_,_,_,_,_,_,_,_,_,_,_,_,_,rfl,C,(by simp),E.o⟩
    ·obtain⟨rfl,rfl⟩:=hall;subst D;go_simp;exact J _ _ ⟨_,_,_,_,_,_,_,_,_,_,_,_,_,_,_,_,_,_,_,_,rfl,C,(by simp),E.o⟩
    ·obtain rfl:=hall;subst D;have e0:=E.o.rcell (v:=.int .i64 ((B:Nat):Int)) 1 (t) rfl (by omega) hB.o;go_simp;exact J _ _ ⟨_,_,_,_,_,_,_,_,_,_,_,_,_,_,_,_,_,_,_,_,rfl,C,(by simp),E.o⟩
    ·obtain⟨rfl,rfl,rfl,rfl,rfl,rfl,rfl,rfl,-,rfl,rfl⟩:=hall;subst D;go_simp;exact J _ _ ⟨_,_,_,_,_,_,_,_,_,_,_,_,_,_,_,_,_,_,_,_,rfl,by simp,(by simp),E.o⟩
    ·obtain⟨rfl,rfl,-,-,rfl,rfl,rfl,rfl,rfl,rfl,rfl,rfl,rfl,rfl,rfl,rfl,rfl,rfl,rfl,rfl⟩:=hall;subst D;go_simp;exact J _ _ ⟨_,_,_,_,_,_,_,_,_,_,_,_,_,_,_,_,_,_,_,_,rfl,by simp,(by simp),E.o⟩
    obtain⟨rfl,rfl,rfl,rfl,rfl,rfl,rfl,rfl,rfl,rfl,rfl,rfl,rfl,rfl,rfl,rfl,rfl,rfl,rfl,-⟩:=hall;subst D;have f0:=E.o.rfr 0 (k) rfl;have k0:=E.o.rcell (v:=.int .i64 ((k:Nat):Int)) 0 (k) rfl (by omega) (ZdF _ _);go_simp;exact J _ _ ⟨_,_,_,_,_,_,_,_,_,_,_,_,_,_,_,_,_,_,_,_,rfl,by simp,(by simp),(E.o.store 0 rfl (k) (.int .i64 ((B:Nat):Int)))⟩
   ·rintro listed a w' ⟨l0,l1,l2,l3,l4,l5,l6,l7,l8,l9,u,aI,aR,aP,aL,aO,aS,G,aT,aU,rfl,C,rfl,hS⟩ hr;obtain⟨rfl,rfl,rfl,rfl,rfl,rfl,rfl,rfl,rfl,rfl,rfl,rfl,rfl,rfl,rfl,rfl,rfl,rfl,rfl,rfl,-⟩:=zA (Za1 (by kernel_rfl) rfl hr) rfl;clear hr C;simp only[↓reduceIte] at hS ⊢;simp only[w_1,w_2,w_3];have bC:=hS.cut 1 rfl t (by omega);rw[ZgJ,Zow] at bC;have bR:=qh bC;clear hS bC;have R:=qh (bR.o.alloc_ (.cells #[.int .i64 ((B:Nat):Int)] 3));have bB:=qh (R.o.row 1 rfl);have x1:=bR.o.rcell (v:=.int .i64 ((B:Nat):Int)) 0 k rfl (by omega) (ZdF _ _);go_wp2_with (at_builtin;refine wpList_append_lies _ rfl _ _ _ rfl _ 3 i0 (.int .i64 0) 1 8 Tryz.underlying38 bH.o aG.o X.o V.o rfl (by omega) _ t _ rfl bB.o ⟨w'.heap.size,0,none⟩ 1 1 [.int .i64 ((B:Nat):Int)] rfl rfl (World.news_of_block (heap_alloc_new w' _)) ZbX (by omega) (by unfold maxLen;omega) (by omega) R.o.size _ rfl ?_;intro g6 c6 w6 I F O y;have bE:=qh (R.o.app 1 rfl I F O);clear I F O y);go_roundw
    case rel =>
     refine⟨k+1,t+1,c6,some ⟨g6,0,none⟩,by go_num,rfl,by omega,fun j hj => ?_,?_,?_⟩
     ·by_cases e:j=k
      ·rw[e];exact aH.o
      exact aV.o j (by omega)
     ·rw[N.o,List.length_append,List.length_singleton,bJ.o]
     rw[N.o,← Zkh,← ZgK,aA.o];exact bE.o.pick [0,1] (by decide)
    case measure=>simp[intOf];omega
   refine⟨false,false,false,false,false,false,false,false,false,false,false,false,false,false,false,false,false,false,false,false,rfl,by simp,(by simp),?_⟩;exact aE.o.drew.pick [0,1,2] (by decide)
  obtain rfl:k=n:=by omega
  rw[Zji] at hS;have E:=qh hS;have bM:∀ j,j<k→exAt es j=true:=hall;have aY:=qh bM;clear bM;have T:=qh Z;clear Z;have bO:(m:Int)=dep es k:=by rw[← T.o,hm]
  have bA:=qh bO;clear bO;clear hS hall hm bD hlt;by_cases h1:m=1
  ·have aF:dep es k=1:=by have:=bA.o;omega
   subst h1;have x:=qh aF;clear aF;go_wp2
   go_ret2
   exact .inl ⟨aY.o,_,true,rfl,⟨fun _=>x.o,fun _=>rfl⟩,E.o.pick [0] (by decide)⟩
  have aF:¬ dep es k=1:=by have:=bA.o;omega
  obtain⟨q1,q2,q3,q4⟩:=Zaw (show ¬ (m:Int)=1 by omega);have x:=qh aF;clear aF;clear h1;go_wp2
  go_ret2
  exact .inl ⟨aY.o,_,false,rfl,⟨fun h=>(by cases h),fun h=>absurd h x.o⟩,E.o.pick [0] (by decide)⟩
theorem ZgQ {es:List (Int × Int)}:exOk es=true↔(∀ k,k<es.length→exAt es k=true)∧dep es es.length=1∧es.length≤60:=by simp only[exOk,Bool.and_eq_true,List.all_eq_true,List.mem_range,decide_eq_true_eq,and_assoc]
theorem Zcl (es:List (Int × Int)) (v:Value) (w:World) (h:Pairs 0 w v es) (r:Bool) (hr:exOk es=r) :
  Calls Tryz.prog 74 #[v] w fun e w'=>e = .returned (.bool r)∧Below w.heap.size w w':=by
 have H:=qh h;have Hr:=qh hr;obtain⟨J,cv,rfl,E,I,-⟩:=h.form;obtain⟨n,hn⟩:=eI (es.length);have C:=fun (hl:es.length≤1000)=>Zdg es (.slice J es.length cv) w hl H.o
 rw[← hn] at E C;rw[← hn];have F:=qh C;replace hn:=qh hn;clear C hr H;by_cases h60:n≤60
 ·have L:(60:Int)<n↔False:=by simp;omega
  go_enter Tryz.func74, Tryz.ntmps74
  go_wp2_with fail;refine(F.o (by omega)).mono ?_;rintro e w1 C;rcases C with⟨hall,g,b,rfl,hb,hS⟩|⟨D,rfl,hb1⟩
  ·have B:r=b:=by have h2:=ZgQ (es:=es);rw[Hr.o,← hn.o] at h2;rw[Bool.eq_iff_iff,h2,hb];exact⟨fun h=>h.2.1,fun h=>⟨hall,h,h60⟩⟩
   subst B;have M:=qh hS;clear hS hall hb;go_wp2;go_ret;exact⟨rfl,M.o.bel⟩
  have B:r=false:=by
   have h2:=ZgQ (es:=es);rw[Hr.o,← hn.o] at h2;cases r with
   | false=>rfl
   | true=>exact absurd (h2.1 rfl).1 D
  subst B;have G:=qh hb1;clear D hb1;go_wp2;go_ret;exact⟨rfl,G.o⟩
 have L:(60:Int)<n:=by omega
 have B:r=false:=by
  have h2:=ZgQ (es:=es);rw[Hr.o,← hn.o] at h2;cases r with
  | false=>rfl
  | true=>exact absurd (h2.1 rfl).2.2 h60
 subst B;clear h60
 go_enter Tryz.func74, Tryz.ntmps74
 go_wp2;go_ret;exact⟨rfl,Below.refl _ _⟩
theorem Zos {l:List Bool} {k:Nat} (hk:k<l.length) {y:Bool} (hy:(!l.getD k false)=y):boolCells ((l.take (k+1)).map (!·))=boolCells ((l.take k).map (!·))++[.bool y]:=by
 have e:l.getD k false=l[k]:=by simp[hk]
 rw[e] at hy;rw[List.take_succ_eq_append_getElem hk,List.map_append];show boolCells ((l.take k).map (!·)++[!l[k]])=_;rw[Zrh,hy]
theorem Zq6 (d:DfaD):flB true d=⟨d.next,d.ends.map (!·)⟩:=by unfold flB;congr 1;exact List.map_congr_left fun x _=>by cases x<;>rfl
theorem Zh8 (d:DfaD) (v1 v2:Value) (w:World) (hd:Zac d.next d.ends=true) (h:DfaR 0 w (.agg #[v1,v2]) d) :
  Calls Tryz.prog 58 #[.agg #[v1,v2]] w fun e w'=>∃ p,e = .returned (.agg #[v1,p])∧Bools w.heap.size w' p (flB true d).ends∧Below w.heap.size w w':=by
 rw[Zq6];obtain⟨L,D⟩:=eI (d.ends.length);have hl:=Zaf hd;have j:L≤40:=by omega
 obtain⟨_,_,q,Y,r⟩:=h;simp only[Value.agg.injEq,Array.mk.injEq,List.cons.injEq,and_true] at q;obtain⟨rfl,rfl⟩:=q;obtain⟨a1,c1,rfl,aB,aA,-⟩:=Y.formI;have E:=(((St.start w).alloc w.heap.size rfl #[.slice a1 d.next.length c1,v2] 44).alloc (w.heap.size+1) (by simp) #[.slice none 0 0,.slice none 0 0] 44).alloc (w.heap.size+1+1) (by simp) #[.slice a1 d.next.length c1,.slice none 0 0] 44;have P:=qh (E.nilRow 4 1);obtain⟨a2,c2,rfl,Z,u,I⟩:=r.form;rw[← D] at Z I;rw[← D] at P;obtain⟨i0,hi,V,X,U⟩:=info_parts Tryz.infoBool;have Hr:=qh I;have e0:=E.cell (v:=.slice a1 d.next.length c1) 0 0 rfl rfl;have e1:=E.cell (v:=.slice a2 d.ends.length c2) 0 1 rfl rfl;rw[← D] at e1;rw[← D];replace hi:=qh hi;have S:=qh V;clear V;have N:=qh X;clear X;have M:=qh U;clear U;replace D:=qh D;clear I Y r hl E
 go_enter Tryz.func58, Tryz.ntmps58
 go_wp2;clear e0 e1
 go_loopw [5,12] (fun _ i wr=>∃ (k c:Nat) (a:Option Addr),i = .int .i64 (k:Int)∧k≤L∧St w wr [Ent.box w.heap.size #[.slice a1 d.next.length c1,.slice a2 L c2] 44,Ent.box (w.heap.size+1) #[.slice none 0 0,.slice none 0 0] 44,Ent.box (w.heap.size+1+1) #[.slice a1 d.next.length c1,.slice a k c] 44,Ent.row 4 1 (.slice a k c) k (boolCells ((d.ends.take k).map (!·)))])
  (fun _ i _=>L-(intOf i).toNat)
 case atStart=>exact⟨0,0,none,rfl,Nat.zero_le _,P.o⟩
 case round =>
  obtain⟨k,c,a,rfl,hk,hS⟩:=hrel;by_cases hlt:k<L
  ·have hlt2:(k:Int)<L:=by omega
   obtain⟨b2,o2,rfl,-,hb2,Q⟩:=Hr.o (by omega);have k2:=(bcell hS.bel b2 _ hb2).trans (Q k hlt);obtain⟨x,hx⟩:=eJ (d.ends.getD k false);rw[hx] at k2;obtain⟨y,hy⟩:=eJ ((!x));have O:=Zos (l:=d.ends) (k:=k) (by rw[← D.o];exact hlt) (by rw[hx,hy]);have HS:=qh hS;have J:=qh (hS.alloc_ (.cells #[.bool y] 4));have b:=qh (J.o.row 3 rfl);have x1:=hS.cell (v:=.slice a k c) 2 1 rfl rfl;have s:=qh hx;clear hx;have T:=qh O;clear O;clear Q hS;go_wp2_with (at_builtin;refine wpList_append_lies _ rfl _ _ _ rfl _ 4 i0 (.bool false) 1 1 Tryz.underlying42 hi.o S.o N.o M.o rfl (by omega) _ k _ rfl b.o ⟨wr.heap.size,0,none⟩ 1 1 [.bool y] rfl rfl (World.news_of_block (heap_alloc_new wr _)) Zc3 (by omega) (by unfold maxLen;omega) (by omega) J.o.size _ rfl ?_;intro n m w6 C B G R;have H:=qh (J.o.app 3 rfl C B G);have y1:=H.o.cell (v:=.slice a k c) 2 1 rfl rfl;have y2:=H.o.fr 2 1 rfl;clear C B G R);go_roundw
   case rel =>refine⟨k+1,m,some ⟨n,0,none⟩,by go_num,by omega,?_⟩;rw[T.o];exact H.o.set 2 rfl 1 (.slice (some ⟨n,0,none⟩) (k+1) m)
   case measure=>simp[intOf];omega
  obtain rfl:k=L:=by omega
  have g:=qh hS;have t0:=hS.cell (v:=.slice a1 d.next.length c1) 2 0 rfl rfl;have t1:=hS.cell (v:=.slice a k c) 2 1 rfl rfl;have f0:=hS.fr 1 0 rfl;have f1:=hS.fr 1 1 rfl;have k0:=hS.cell (v:=.slice none 0 0) 1 0 rfl rfl;have k1:=hS.cell (v:=.slice none 0 0) 1 1 rfl rfl;clear hS;go_wp2;have hq:=(g.o.set 1 rfl 0 (.slice a1 d.next.length c1)).set 1 rfl 1 (.slice a k c);have q0:=hq.cell (v:=.slice a1 d.next.length c1) 1 0 rfl rfl;have Y:=hq.cell (v:=.slice a k c) 1 1 rfl rfl;refine bodyPost_ret (v:=.agg #[.slice a1 d.next.length c1,.slice a k c]) (by simp[results,Tryz.results58,go_sem,q0,Y]) rfl ?_;refine⟨.slice a k c,rfl,?_,hq.bel⟩;have F:=hq.row 3 rfl;have e:d.ends.take k=d.ends:=by rw[D.o];exact List.take_length
  rw[e] at F;have e2:k=(d.ends.map (!·)).length:=by rw[List.length_map];exact D.o
  exact(Zab F).sl (by omega) |> fun z=>by rw[e2] at z;exact e2 ▸ z
end Go.Proofs.YtncekbbhgipdlaaGreat
