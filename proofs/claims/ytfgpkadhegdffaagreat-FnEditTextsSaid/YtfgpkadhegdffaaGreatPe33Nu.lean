/-
  The language of an automaton with choices, plain: ways through it, and what joins, repeats, unites and turns languages.
  No condition: this text speaks of no program.
-/
import Derived.Test.YtfgpkadhegdffaaGreatPe28Cst
import Derived.Test.YtfgpkadhegdffaaGreatPe32Cv
set_option maxHeartbeats 4000000
set_option maxRecDepth 100000
namespace Go.Proofs.YtfgpkadhegdffaaGreat
open Go.RowKit
inductive Pth (ms:List (Int × Int × Int)):Int→List Nat→Int→Prop
 | here (s:Int):Pth ms s [] s
 | eps {s t u:Int} {w:List Nat}:(s,-1,t)∈ms→Pth ms t w u→Pth ms s w u
 | step {s t u:Int} {c:Nat} {w:List Nat}:(s,(c:Int),t)∈ms→Pth ms t w u→Pth ms s (c::w) u
theorem Pth.append {ms:List (Int × Int × Int)} {s t u:Int} {x y:List Nat} (h:Pth ms s x t) (h':Pth ms t y u):Pth ms s (x++y) u:=by
 induction h with
 | here s=>exact h'
 | eps hm _ ih=>exact .eps hm (ih h')
 | step hm _ ih=>exact .step hm (ih h')
theorem Pth.mono {ms ns:List (Int × Int × Int)} (hs:∀ m∈ms,m∈ns) {s t:Int} {x:List Nat} (h:Pth ms s x t):Pth ns s x t:=by
 induction h with
 | here s=>exact .here s
 | eps hm _ ih=>exact .eps (hs _ hm) ih
 | step hm _ ih=>exact .step (hs _ hm) ih
theorem Pth.map {ms ns:List (Int × Int × Int)} (f:Int→Int) (hs:∀ m∈ms,(f m.1,m.2.1,f m.2.2)∈ns∨(m.2.1 = -1∧f m.1=f m.2.2)) {s t:Int} {x:List Nat} (h:Pth ms s x t):Pth ns (f s) x (f t):=by
 induction h with
 | here s=>exact .here _
 | eps hm _ ih =>
  rcases hs _ hm with h|⟨_,h⟩
  ·exact .eps h ih
  exact h ▸ ih
 | step hm _ ih =>
  rcases hs _ hm with h|⟨h,_⟩
  ·exact .step h ih
  simp only at h;omega
theorem Pth.in {ms:List (Int × Int × Int)} {n:Nat} (hm:mvIn n ms) {s t:Int} {x:List Nat} (h:Pth ms s x t) (hs:0≤s∧s<(n:Int)):0≤t∧t<(n:Int):=by
 induction h with
 | here s=>exact hs
 | eps h _ ih=>exact ih (hm _ h).2
 | step h _ ih=>exact ih (hm _ h).2
def runS (n:NfaD) (cs:List Nat):Nat:=cs.foldl (fun v (c:Nat)=>stV 40 n.moves v (c:Int)) (clV 40 n.moves (setV n.firsts))
def accS (n:NfaD) (cs:List Nat):Bool:=n.ends.any fun s=>(runS n cs).testBit s.toNat
theorem ZnL (P:Nat→Prop):∀ n:Nat,∃ u:Nat,∀ t,u.testBit t=true↔t<n∧P t
 | 0=>⟨0,fun t=>by simp⟩
 | n+1=>by
  obtain⟨u,hu⟩:=ZnL P n;by_cases hp:P n
  ·refine⟨adj u n,fun t => ?_⟩;rw[Zcq,Bool.or_eq_true,hu,decide_eq_true_eq];constructor
   ·rintro(⟨h1,h2⟩|rfl)
    ·exact⟨by omega,h2⟩
    exact⟨by omega,hp⟩
   rintro⟨h1,h2⟩;by_cases h:n=t
   ·exact .inr h
   exact .inl ⟨by omega,h2⟩
  refine⟨u,fun t => ?_⟩;rw[hu];constructor
  ·rintro⟨h1,h2⟩;exact⟨by omega,h2⟩
  rintro⟨h1,h2⟩;by_cases h:t=n
  ·subst h;exact absurd h2 hp
  exact⟨by omega,h2⟩
theorem Pth.closed {ms:List (Int × Int × Int)} {u:Nat} (hu:Zb9 ms u) {s t:Int} {x:List Nat} (h:Pth ms s x t) (hx:x=[]) (hs:u.testBit s.toNat=true):u.testBit t.toNat=true:=by
 induction h with
 | here s=>exact hs
 | eps hm _ ih=>exact ih hx (hu _ hm rfl hs)
 | step hm _ ih=>cases hx
theorem ZoN {ms:List (Int × Int × Int)} (hm:mvIn 40 ms) {v t:Nat} (hv:v<2 ^ 40):(clV 40 ms v).testBit t=true↔∃ s:Nat,s<40∧v.testBit s=true∧Pth ms s [] t:=by
 constructor
 ·intro h;obtain⟨u,hu⟩:=ZnL (fun t=>∃ s:Nat,s<40∧v.testBit s=true∧Pth ms s [] t) 40
  have hc:Zb9 ms u:=by
   intro m hmm he hf;obtain⟨h1,s,hs,hvs,hp⟩:=(hu _).1 hf;have h2:=hm m hmm;refine(hu _).2 ⟨by omega,s,hs,hvs,?_⟩;have e1:((m.1.toNat:Nat):Int)=m.1:=by omega
   have e2:((m.2.2.toNat:Nat):Int)=m.2.2:=by omega
   rw[e1] at hp;rw[e2];refine hp.append (y:=[]) (.eps ?_ (.here _));rw[← he];exact hmm
  have hsub:subV v u:=by
   intro s hs
   have:s<40:=by
    by_cases h:s<40
    ·exact h
    rw[Nat.testBit_lt_two_pow (Nat.lt_of_lt_of_le hv (Nat.pow_le_pow_right (by omega) (by omega)))] at hs;cases hs
   exact(hu s).2 ⟨this,s,this,hs,.here _⟩
  exact((hu t).1 (ZoO hc hsub t h)).2
 rintro⟨s,hs,hvs,hp⟩;have:=hp.closed (ZcG hm v) rfl (by rw[Int.toNat_natCast];exact Zhl 40 ms v s hvs)
 rwa [Int.toNat_natCast] at this
theorem Zb7 {c:Int} {v:Nat}:∀ (l:List (Int × Int × Int)) (u t:Nat),(l.foldl (ZaS v c) u).testBit t=true↔u.testBit t=true∨∃ m∈l,m.2.1=c∧v.testBit m.1.toNat=true∧m.2.2.toNat=t
 | [],u,t=>by simp
 | m::l,u,t=>by
  rw[List.foldl_cons,Zb7 l,ZaS]
  split
  ·rename_i h;rw[Bool.and_eq_true,decide_eq_true_eq] at h;rw[Zcq,Bool.or_eq_true,decide_eq_true_eq];constructor
   ·rintro((h1|h1)|⟨x,hx,h1⟩)
    ·exact .inl h1
    ·exact .inr ⟨m,by simp,h.1,h.2,h1⟩
    exact .inr ⟨x,by simp[hx],h1⟩
   rintro(h1|⟨x,hx,h1⟩)
   ·exact .inl (.inl h1)
   rcases List.mem_cons.1 hx with rfl|hx
   ·exact .inl (.inr h1.2.2)
   exact .inr ⟨x,hx,h1⟩
  rename_i h;rw[Bool.and_eq_true,decide_eq_true_eq] at h;constructor
  ·rintro(h1|⟨x,hx,h1⟩)
   ·exact .inl h1
   exact .inr ⟨x,by simp[hx],h1⟩
  rintro(h1|⟨x,hx,h1⟩)
  ·exact .inl h1
  rcases List.mem_cons.1 hx with rfl|hx
  ·exact absurd ⟨h1.1,h1.2.1⟩ h
  exact .inr ⟨x,hx,h1⟩
theorem ZgX {v s n:Nat} (hv:v<2 ^ n) (hs:v.testBit s=true):s<n:=by
 by_cases h:s<n
 ·exact h
 rw[Nat.testBit_lt_two_pow (Nat.lt_of_lt_of_le hv (Nat.pow_le_pow_right (by omega) (by omega)))] at hs;cases hs
theorem Zm9 {ms:List (Int × Int × Int)} (hm:mvIn 40 ms) {v t:Nat} (c:Nat):(stV 40 ms v (c:Int)).testBit t=true↔∃ x,x∈ms∧x.2.1=(c:Int)∧v.testBit x.1.toNat=true∧Pth ms x.2.2 [] t:=by
 have hlt:ms.foldl (ZaS v c) 0<2 ^ 40:=Zb0 _ (fun u=>u<2 ^ 40) (fun _ _ hx hu=>ZcH hm hx hu) (by decide);unfold stV;rw[ZoN hm hlt];constructor
 ·rintro⟨s,hs,hb,hp⟩;rw[Zb7] at hb;rcases hb with hb|⟨m,hmm,h1,h2,h3⟩
  ·simp at hb
  refine⟨m,hmm,h1,h2,?_⟩;have e:m.2.2=(s:Int):=by have:=(hm m hmm).2;omega
  rw[e];exact hp
 rintro⟨x,hx,h1,h2,hp⟩;have h4:=(hm x hx).2;refine⟨x.2.2.toNat,by omega,?_,?_⟩
 ·rw[Zb7];exact .inr ⟨x,hx,h1,h2,rfl⟩
 have e:((x.2.2.toNat:Nat):Int)=x.2.2:=by omega
 rw[e];exact hp
theorem Pth.split {ms:List (Int × Int × Int)} {s u:Int} {x:List Nat} (h:Pth ms s x u):∀ {c:Nat} {w:List Nat},x=c::w→∃ m,m∈ms∧m.2.1=(c:Int)∧Pth ms s [] m.1∧Pth ms m.2.2 w u:=by
 induction h with
 | here s=>intro c w h;cases h
 | eps hm _ ih =>intro c w h;obtain⟨m,h1,h2,h3,h4⟩:=ih h;exact⟨m,h1,h2,.eps hm h3,h4⟩
 | step hm hp ih =>
  intro c w h
  injection h with h1 h2
  subst h1;subst h2;exact⟨_,hm,rfl,.here _,hp⟩
theorem Zl7 {ms:List (Int × Int × Int)} (hm:mvIn 40 ms) (v:Nat) (c:Int):Zb9 ms (stV 40 ms v c):=ZcG hm _
theorem ZjT {ms:List (Int × Int × Int)} (hm:mvIn 40 ms):∀ (cs:List Nat) (V:Nat),V<2 ^ 40→Zb9 ms V→∀ t,(cs.foldl (fun v (c:Nat)=>stV 40 ms v (c:Int)) V).testBit t=true↔∃ s:Nat,s<40∧V.testBit s=true∧Pth ms s cs t
 | [],V,hV,hc,t=>by
  rw[List.foldl_nil];constructor
  ·intro h;exact⟨t,ZgX hV h,h,.here _⟩
  rintro⟨s,hs,h1,h2⟩;have:=h2.closed hc rfl (by rwa [Int.toNat_natCast])
  rwa [Int.toNat_natCast] at this
 | c::cs,V,hV,hc,t=>by
  rw[List.foldl_cons,ZjT hm cs _ (Zna hm V c) (Zl7 hm V c)];constructor
  ·rintro⟨s,hs,h1,h2⟩;rw[Zm9 hm] at h1;obtain⟨x,hx,h3,h4,h5⟩:=h1;have h6:=(hm x hx).1;refine⟨x.1.toNat,by omega,h4,?_⟩;have e:((x.1.toNat:Nat):Int)=x.1:=by omega
   rw[e];refine .step (t:=x.2.2) ?_ (h5.append h2);rw[← h3];exact hx
  rintro⟨s,hs,h1,h2⟩;obtain⟨m,h3,h4,h5,h6⟩:=h2.split rfl;have h7:=(hm m h3).2;refine⟨m.2.2.toNat,by omega,?_,?_⟩
  ·rw[Zm9 hm];have:=h5.closed hc rfl (by rwa [Int.toNat_natCast]);refine⟨m,h3,h4,this,?_⟩;have e:((m.2.2.toNat:Nat):Int)=m.2.2:=by omega
   rw[e];exact .here _
  have e:((m.2.2.toNat:Nat):Int)=m.2.2:=by omega
  rw[e];exact h6
theorem Zqh {n:NfaD} (hn:ZiK n=true) (cs:List Nat):accS n cs=true↔∃ f∈n.firsts,∃ e∈n.ends,Pth n.moves f cs e:=by
 obtain⟨m,hm,hm40,hmv,-,hf,-,he,-⟩:=Zds hn;have hm4:=ZnO hmv hm40;have hfi:inN 40 n.firsts:=fun s hs=>by have:=hf s hs;omega
 have hlt:clV 40 n.moves (setV n.firsts)<2 ^ 40:=Zdw hm4 (Zdk hfi) 40;have hrun:=ZjT hm4 cs _ hlt (ZcG hm4 (setV n.firsts));unfold accS runS;rw[List.any_eq_true];constructor
 ·rintro⟨e,hee,hb⟩;obtain⟨s,hs,h1,h2⟩:=(hrun _).1 hb;rw[ZoN hm4 (Zdk hfi)] at h1;obtain⟨r,hr,h3,h4⟩:=h1;rw[Ziw,List.any_eq_true] at h3;obtain⟨f,hff,h5⟩:=h3;have h5:=of_decide_eq_true h5;have h6:=hf f hff;have h7:=he e hee;refine⟨f,hff,e,hee,?_⟩;have e1:(r:Int)=f:=by omega
  have e2:((e.toNat:Nat):Int)=e:=by omega
  rw[e1] at h4;rw[e2] at h2;exact h4.append h2
 rintro⟨f,hff,e,hee,hp⟩;have h6:=hf f hff;have h7:=he e hee;refine⟨e,hee,(hrun _).2 ⟨f.toNat,by omega,?_,?_⟩⟩
 ·exact Zhl 40 n.moves _ _ (Zli hff)
 have e1:((f.toNat:Nat):Int)=f:=by omega
 have e2:((e.toNat:Nat):Int)=e:=by omega
 rw[e1,e2];exact hp
theorem Pth.up {ms:List (Int × Int × Int)} (d:Int) {s t:Int} {x:List Nat} (h:Pth ms s x t):Pth (ms.map (shM d)) (s+d) x (t+d) :=
 h.map (·+d) fun m hm => .inl (List.mem_map.2 ⟨m,hm,rfl⟩)
theorem Pth.cross {p q:NfaD} {a b:Nat} (ha:p.states=(a:Int)) (hpm:mvIn a p.moves) (hqm:mvIn b q.moves) (hpe:inN a p.ends) (hqf:inN b q.firsts) {s t:Int} {x:List Nat} (h:Pth (ZdQ p q).moves s x t) (ht:p.states≤t):(s<p.states→∃ k,k≤x.length∧∃ e∈p.ends,∃ f∈q.firsts,Pth p.moves s (x.take k) e∧Pth q.moves f (x.drop k) (t-p.states))∧(p.states≤s→Pth q.moves (s-p.states) x (t-p.states)):=by
 induction h with
 | here s=>exact⟨fun h=>by omega,fun _ => .here _⟩
 | @eps s' t' u w hm _ ih =>
  obtain⟨i1,i2⟩:=ih ht;rcases List.mem_append.1 hm with hm|hm
  ·rcases List.mem_append.1 hm with hm|hm
   ·have h1:=hpm _ hm;simp only at h1;refine⟨fun h => ?_,fun h=>by omega⟩;obtain⟨k,hk,e,he,f,hf,h2,h3⟩:=i1 (by omega);exact⟨k,hk,e,he,f,hf,.eps hm h2,h3⟩
   obtain⟨y,hy,e⟩:=List.mem_map.1 (show _∈q.moves.map (shM p.states) from hm);have h1:=hqm _ hy
   injection e with e1 e2
   injection e2 with e2 e3
   refine⟨fun h=>by omega,fun h => .eps (t:=t'-p.states) ?_ (i2 (by omega))⟩;rw[← e1,← e3,show y.1+p.states-p.states=y.1 by omega,show y.2.2+p.states-p.states=y.2.2 by omega,← e2];exact hy
  obtain⟨y,hy,e⟩:=List.mem_flatMap.1 hm;obtain⟨z,hz,e⟩:=List.mem_map.1 e;obtain⟨z,hz',rfl⟩:=List.mem_map.1 (show z∈q.firsts.map (·+p.states) from hz)
  injection e with e1 e2
  injection e2 with e2 e3
  have h1:=hpe y hy;have h2:=hqf z hz';refine⟨fun h=>⟨0,Nat.zero_le _,y,hy,z,hz',?_,?_⟩,fun h=>by omega⟩
  ·rw[e1];exact .here _
  have:=i2 (by omega);rw[← e3,show z+p.states-p.states=z by omega] at this;exact this
 | @step s' t' u c w hm _ ih =>
  obtain⟨i1,i2⟩:=ih ht;rcases List.mem_append.1 hm with hm|hm
  ·rcases List.mem_append.1 hm with hm|hm
   ·have h1:=hpm _ hm;simp only at h1;refine⟨fun h => ?_,fun h=>by omega⟩;obtain⟨k,hk,e,he,f,hf,h2,h3⟩:=i1 (by omega);exact⟨k+1,by simp only[List.length_cons];omega,e,he,f,hf,.step hm h2,h3⟩
   obtain⟨y,hy,e⟩:=List.mem_map.1 (show _∈q.moves.map (shM p.states) from hm);have h1:=hqm _ hy
   injection e with e1 e2
   injection e2 with e2 e3
   refine⟨fun h=>by omega,fun h => .step (t:=t'-p.states) ?_ (i2 (by omega))⟩;rw[← e1,← e3,show y.1+p.states-p.states=y.1 by omega,show y.2.2+p.states-p.states=y.2.2 by omega,← e2];exact hy
  obtain⟨y,hy,e⟩:=List.mem_flatMap.1 hm;obtain⟨z,hz,e⟩:=List.mem_map.1 e
  injection e with e1 e2
  injection e2 with e2 e3
  omega
def lets (l:List Nat):List Nat:=l.map (·-97)
theorem Zrj {l:List Nat} {k:Nat} (h:okT l l.length=true) (hk:k<l.length):97≤l.getD k 0∧l.getD k 0≤99:=by unfold okT at h;have:=List.all_eq_true.1 h k (List.mem_range.2 hk);simp only[inB,Bool.and_eq_true,decide_eq_true_eq] at this;omega
theorem Zl6 {l:List Nat} (h:wdOk l=true):okT l l.length=true∧l.length≤8:=by unfold wdOk at h;simp only[Bool.and_eq_true,decide_eq_true_eq] at h;exact h
end Go.Proofs.YtfgpkadhegdffaaGreat
namespace Go.Proofs.YtfgpkadhegdffaaGreat
open Go.RowKit
theorem Zpa (l:List Nat) (k:Nat):(txB l).extract 0 k=txB (l.take k):=by apply ByteArray.ext;simp[txB,ByteArray.data_extract,List.map_take]
theorem Zpc (l:List Nat) (k:Nat):(txB l).extract k (txB l).size=txB (l.drop k):=by apply ByteArray.ext;rw[Zaw];simp only[txB,ByteArray.data_extract,List.map_drop,List.extract_toArray,List.extract_eq_take_drop];rw[List.take_of_length_le (by simp)]
theorem Zf7 {l:List Nat}:wdOk l=true↔(∀ b∈l,97≤b∧b≤99)∧l.length≤8:=by
 constructor
 ·intro h;obtain⟨h1,h2⟩:=Zl6 h;refine⟨fun b hb => ?_,h2⟩;obtain⟨k,hk,e⟩:=List.getElem_of_mem hb;have:=Zrj h1 hk;rw[Zbm hk,e] at this;exact this
 rintro⟨h1,h2⟩;unfold wdOk okT;rw[Bool.and_eq_true,List.all_eq_true,decide_eq_true_eq];refine⟨fun k hk => ?_,h2⟩;have hk:=List.mem_range.1 hk;have:=h1 _ (Zbl hk);simp only[inB,Bool.and_eq_true,decide_eq_true_eq];omega
theorem Zjl {l:List Nat} (h:wdOk l=true) (k:Nat):wdOk (l.take k)=true:=by rw[Zf7] at *;exact⟨fun b hb=>h.1 b (List.mem_of_mem_take hb),by rw[List.length_take];omega⟩
theorem Zjm {l:List Nat} (h:wdOk l=true) (k:Nat):wdOk (l.drop k)=true:=by rw[Zf7] at *;exact⟨fun b hb=>h.1 b (List.mem_of_mem_drop hb),by rw[List.length_drop];omega⟩
end Go.Proofs.YtfgpkadhegdffaaGreat
namespace Go.Proofs.YtfgpkadhegdffaaGreat
open Go.RowKit
theorem ZlA {l:List Nat} (h:wdOk l=true):isW (lets l):=fun c hc=>by obtain⟨b,hb,rfl⟩:=List.mem_map.1 hc;have:=(Zf7.1 h).1 b hb;omega
theorem Zpb {l:List Nat} (h:wdOk l=true):txB l=wdB (lets l):=by unfold txB wdB lets;rw[List.map_map];congr 2;apply List.map_congr_left;intro b hb;have:=(Zf7.1 h).1 b hb;show UInt8.ofNat b=UInt8.ofNat (97+(b-97));congr 1;omega
theorem ZqX {K:Nat} {n:NfaD} {D:DfaD} (h:detK K n=some D):ZiK n=true∧(metS n K).length≤K∧D=Zas (nxS n) (enS n) (metS n K):=by
 unfold detK at h
 split at h
 ·rename_i h1;exact⟨h1.1,h1.2,(Option.some.inj h).symm⟩
 cases h
theorem ZjU {n:NfaD}:∀ (w:List Nat) (v:Nat),w.foldl (nxS n) (((v:Nat):Int),0)=(((w.foldl (fun v (c:Nat)=>stV 40 n.moves v (c:Int)) v:Nat):Int),0)
 | [],_=>rfl
 | c::w,v=>by rw[List.foldl_cons,List.foldl_cons,← ZjU w];rfl
theorem Zqa {K:Nat} {n:NfaD} {D:DfaD} (h:detK K n=some D) {w:List Nat} (hw:isW w):accD D w=accS n w:=by obtain⟨-,h2,rfl⟩:=ZqX h;rw[Ze9 h2 hw,ZjU];rfl
theorem ZhJ (d:DfaD) (l:List Nat) (v:Value) (w:World) (ht:isT l) (hll:l.length≤1000) (h:DfaR 0 w v d) (hd:Zag d.next d.ends=true) (hwd:wdOk l=true) :
  Calls Tryz.prog 27 #[v,.string (txB l)] w fun e w'=>e = .returned (.bool (accD d (lets l)))∧Below w.heap.size w w':=by
 have H:=qh h;obtain⟨v1,v2,rfl,g1,g2⟩:=h;have hS0:=(St.start w).alloc _ rfl #[v1,v2] 25;have e0:=hS0.cell (v:=v1) 0 0 rfl rfl;have e1:=hS0.cell (v:=v2) 0 1 rfl rfl;obtain⟨q,hq⟩:=eJ (accD d (lets l));have hacc:=fun (u:World) (hu:Below w.heap.size w u)=>Zk8 d (lets l) (.agg #[v1,v2]) u hd (ZlA hwd) (by unfold lets;rw[List.length_map];omega) (H.out.below hu)
 rw[← Zpb hwd,hq] at hacc;rw[hq];have Hacc:=qh hacc;replace ht:=qh ht;replace hS0:=qh hS0;have Hhd:=qh hd;clear hd;have Hhwd:=qh hwd;clear hwd;have Hhq:=qh hq;clear hq;clear g1 g2 hacc
 go_enter Tryz.func27, Tryz.ntmps27
 go_wp2_with fail;refine(ZbD d _ _ (H.out.below hS0.out.bel) _ Hhd.out).mono ?_;rintro e w1 ⟨rfl,hb1⟩;have HS1:=qh (hS0.out.call hb1);clear hb1 e0 e1;have e0:=HS1.out.cell (v:=v1) 0 0 rfl rfl;have e1:=HS1.out.cell (v:=v2) 0 1 rfl rfl;go_wp2_with (go_at_call 63;refine(Zbt l _ ht.out (by omega) _ Hhwd.out).mono ?_;rintro e w' ⟨rfl,rfl⟩);refine(Hacc.out _ HS1.out.bel).mono ?_;rintro e w2 ⟨rfl,hb2⟩;go_wp2;go_ret;exact⟨rfl,(HS1.out.call hb2).bel⟩
end Go.Proofs.YtfgpkadhegdffaaGreat
namespace Go.Proofs.YtfgpkadhegdffaaGreat
open Go.RowKit
theorem Zlh {l:List Int} {m:Int} (h:∀ j,j<l.length→(0≤l.getD j 0∧l.getD j 0≤m-1)∧(0<j→l.getD (j-1) 0<l.getD j 0)):stOk l m=true:=by
 unfold stOk;rw[List.all_eq_true];intro j hj;obtain⟨h1,h2⟩:=h j (List.mem_range.1 hj);unfold okAt;rw[Bool.and_eq_true,Bool.or_eq_true];refine⟨by simp only[inB,Bool.and_eq_true,decide_eq_true_eq];exact h1,?_⟩;by_cases h0:j=0
 ·exact .inl (decide_eq_true h0)
 exact .inr (decide_eq_true (h2 (by omega)))
theorem ZdZ {s t:Nat}:(2 ^ s).testBit t=decide (s=t):=by rw[Nat.testBit_two_pow]
theorem Zeo {d:DfaD}:∀ {k:Nat} {m:Int × Int × Int},m∈mvs d k↔∃ s c:Nat,s<k∧c<3∧m=((s:Int),(c:Int),(d.next.getD s []).getD c 0)
 | 0,m=>by simp[mvs]
 | k+1,m=>by
  rw[show mvs d (k+1)=mvs d k++rowM d k from rfl,List.mem_append,Zeo];constructor
  ·rintro(⟨s,c,h1,h2,h3⟩|h)
   ·exact⟨s,c,by omega,h2,h3⟩
   obtain⟨c,hc,rfl⟩:=List.mem_map.1 h;exact⟨k,c,by omega,List.mem_range.1 hc,rfl⟩
  rintro⟨s,c,h1,h2,h3⟩;by_cases h:s=k
  ·subst h;exact .inr (List.mem_map.2 ⟨c,List.mem_range.2 h2,h3.symm⟩)
  exact .inl ⟨s,c,by omega,h2,h3⟩
theorem ZcQ {d:DfaD} (k u:Nat):Zb9 (mvs d k) u:=by intro m hm he;obtain⟨s,c,-,-,rfl⟩:=Zeo.1 hm;simp only at he;omega
theorem ZoY {a b:Nat} (h:∀ t,a.testBit t=true↔b.testBit t=true):a=b:=by apply Nat.eq_of_testBit_eq;intro t;rw[Bool.eq_iff_iff];exact h t
theorem Zqz {d:DfaD} (hd:Zag d.next d.ends=true) {s c:Nat} (hs:s<d.next.length) (hc:c<3):∃ q:Nat,q<d.next.length∧stV 40 (mvs d d.next.length) (2 ^ s) (c:Int)=2 ^ q:=by
 have hr:=(ZaM hd hs).2 c hc;obtain⟨q,hq⟩:=Int.eq_ofNat_of_zero_le hr.1;refine⟨q,by omega,?_⟩;unfold stV;rw[Zgp (ZcQ _ _)];apply ZoY;intro t;rw[Zb7,ZdZ,decide_eq_true_eq];constructor
 ·rintro(h|⟨m,hm,h1,h2,h3⟩)
  ·simp at h
  obtain⟨s',c',h4,h5,rfl⟩:=Zeo.1 hm;rw[ZdZ,decide_eq_true_eq] at h2;simp only[Int.toNat_natCast] at h2;subst h2;have:c'=c:=by simp only at h1;omega
  subst this;simp only[hq] at h3;omega
 rintro rfl;right;refine⟨_,Zeo.2 ⟨s,c,hs,hc,rfl⟩,rfl,?_,?_⟩
 ·rw[ZdZ];simp
 simp only[hq];omega
theorem ZqK {d:DfaD} (hd:Zag d.next d.ends=true) (K:Nat):(metS (ZaE d) K).length≤d.next.length:=by
 have hl:=Zaf hd;have hf:fstV (ZaE d)=2 ^ 0:=by unfold fstV;rw[show(ZaE d).moves=mvs d d.next.length from rfl,Zgp (ZcQ _ _)];rfl
 have hall:∀ x∈metS (ZaE d) K,∃ s:Nat,s<d.next.length∧x=(((2 ^ s:Nat):Int),0):=by refine Zca (Q:=fun x=>∃ s:Nat,s<d.next.length∧x=(((2 ^ s:Nat):Int),0)) ⟨0,by omega,by rw[hf]⟩ ?_ K;rintro x c hc ⟨s,hs,rfl⟩;obtain⟨q,hq,h⟩:=Zqz hd hs hc;refine⟨q,hq,?_⟩;unfold nxS;rw[show(ZaE d).moves=mvs d d.next.length from rfl];simp only[Int.toNat_natCast];rw[h]
 have:=ZeK (Zbu (nx:=nxS (ZaE d)) (a:=(((fstV (ZaE d):Nat):Int),0)) K).1 (m:=(List.range d.next.length).map fun s=>(((2 ^ s:Nat):Int),(0:Int))) fun x hx=>by obtain⟨s,hs,rfl⟩:=hall x hx;exact List.mem_map.2 ⟨s,List.mem_range.2 hs,rfl⟩
 simpa using this
theorem Zi2 (d:DfaD):∀ k,(eds d k).Pairwise (·<·)
 | 0=>List.Pairwise.nil
 | k+1=>by
  unfold eds
  split
  ·rw[List.pairwise_append];refine⟨Zi2 d k,List.pairwise_singleton _ _,fun x hx y hy => ?_⟩;rw[List.mem_singleton.1 hy];exact(ZfQ d k x hx).2
  exact Zi2 d k
theorem ZeL {d:DfaD} (hd:Zag d.next d.ends=true):ZiK (ZaE d)=true:=by
 have hl:=Zaf hd;unfold ZiK;simp only[Bool.and_eq_true,decide_eq_true_eq];refine⟨⟨⟨⟨?_,?_⟩,?_⟩,?_⟩,?_⟩
 ·show inB (d.next.length:Int) 0 40=true;simp only[inB,Bool.and_eq_true,decide_eq_true_eq];exact⟨by omega,by omega⟩
 ·show(mvs d d.next.length).length≤400;rw[Zco];omega
 ·refine Zlh fun j hj => ?_
  have hj:j<1:=hj;obtain rfl:j=0:=by omega
  refine⟨?_,fun h=>by omega⟩;simp only[ZaE,List.getD_cons_zero];omega
 ·refine Zlh fun j hj => ?_
  have hj:j<(eds d d.next.length).length:=hj;have h1:=ZfQ d _ _ (memD (d:=(0:Int)) hj);refine⟨?_,fun h => ?_⟩
  ·show 0≤(eds d d.next.length).getD j 0∧(eds d d.next.length).getD j 0≤(d.next.length:Int)-1;omega
  have:=List.pairwise_iff_getElem.1 (Zi2 d d.next.length) (j-1) j (by omega) hj (by omega);show(eds d d.next.length).getD (j-1) 0<(eds d d.next.length).getD j 0;rw[Zbm (by omega),Zbm hj];exact this
 rw[List.all_eq_true];intro m hm;obtain⟨s,c,h1,h2,rfl⟩:=Zeo.1 (show m∈mvs d d.next.length from hm);have hr:=(ZaM hd h1).2 c h2;show mvOk (d.next.length:Int) _=true;simp only[mvOk,inB,Bool.and_eq_true,decide_eq_true_eq];exact⟨⟨⟨by omega,by omega⟩,by omega,by omega⟩,by omega,by omega⟩
end Go.Proofs.YtfgpkadhegdffaaGreat
namespace Go.Proofs.YtfgpkadhegdffaaGreat
open Go.RowKit
theorem Zrf {d:DfaD} (hd:Zag d.next d.ends=true) {s c:Nat} (hs:s<d.next.length) (hc:c<3):stV 40 (mvs d d.next.length) (2 ^ s) (c:Int)=2 ^ nxD d s c:=by
 have hr:=(ZaM hd hs).2 c hc;unfold stV;rw[Zgp (ZcQ _ _)];apply ZoY;intro t;rw[Zb7,ZdZ,decide_eq_true_eq];constructor
 ·rintro(h|⟨m,hm,h1,h2,h3⟩)
  ·simp at h
  obtain⟨s',c',h4,h5,rfl⟩:=Zeo.1 hm;rw[ZdZ,decide_eq_true_eq] at h2;simp only[Int.toNat_natCast] at h2;subst h2;have:c'=c:=by simp only at h1;omega
  subst this;exact h3
 rintro rfl;right;refine⟨_,Zeo.2 ⟨s,c,hs,hc,rfl⟩,rfl,?_,rfl⟩;rw[ZdZ];simp
theorem Zon (d:DfaD):fstV (ZaE d)=2 ^ 0:=by unfold fstV;rw[show(ZaE d).moves=mvs d d.next.length from rfl,Zgp (ZcQ _ _)];rfl
theorem ZkY {d:DfaD}:∀ {k:Nat} {x:Int},x∈eds d k↔∃ s:Nat,x=(s:Int)∧s<k∧enD d s=true
 | 0,x=>by simp[eds]
 | k+1,x=>by
  have ih:=ZkY (d:=d) (k:=k) (x:=x);unfold eds;by_cases h:d.ends.getD k false=true
  ·rw[if_pos h,List.mem_append,ih,List.mem_singleton];constructor
   ·rintro(⟨s,h1,h2,h3⟩|rfl)
    ·exact⟨s,h1,by omega,h3⟩
    exact⟨k,rfl,by omega,h⟩
   rintro⟨s,h1,h2,h3⟩;by_cases hk:s=k
   ·subst hk;exact .inr h1
   exact .inl ⟨s,h1,by omega,h3⟩
  rw[if_neg h,ih];constructor
  ·rintro⟨s,h1,h2,h3⟩;exact⟨s,h1,by omega,h3⟩
  rintro⟨s,h1,h2,h3⟩;by_cases hk:s=k
  ·subst hk;exact absurd h3 h
  exact⟨s,h1,by omega,h3⟩
theorem ZoB {d:DfaD} (hd:Zag d.next d.ends=true) {K:Nat} (hK:d.next.length≤K):detK K (ZaE d)=some (Za6 d):=by
 have hl:=Zaf hd;have hf:=ZaL hd;unfold detK;rw[if_pos ⟨ZeL hd,Nat.le_trans (ZqK hd K) hK⟩];congr 1
 let f:Int→Int × Int:=fun x=>(((2 ^ x.toNat:Nat):Int),0)
 let Q:Int→Prop:=fun x=>∃ s:Nat,x=(s:Int)∧s<d.next.length
 have hm:=Zdr (nx:=dnx d) (nx':=nxS (ZaE d)) (a:=(0:Int)) (f:=f) (Q:=Q) (en:=den d) (en':=enS (ZaE d)) (K:=K) ⟨0,rfl,by omega⟩ (by
  rintro x c hc ⟨s,rfl,hs⟩;obtain⟨h3,h4⟩:=ZbO hf hs hc;exact⟨_,h4,h3⟩) (by
  rintro x y ⟨s,rfl,hs⟩ ⟨t,rfl,ht⟩ h;have h1:((2 ^ s:Nat):Int)=((2 ^ t:Nat):Int):=congrArg Prod.fst h;have:s=t:=(Nat.pow_right_inj (show 1<2 by omega)).1 (Int.ofNat_inj.1 h1);rw[this]) (by
  rintro x c hc ⟨s,rfl,hs⟩;obtain⟨h3,h4⟩:=ZbO hf hs hc;simp only[f,h4,nxS,Int.toNat_natCast];rw[show(ZaE d).moves=mvs d d.next.length from rfl,Zrf hd hs hc]) (by
  rintro x ⟨s,rfl,hs⟩;rw[Zbn];simp only[f,enS,Int.toNat_natCast];unfold endV;rw[show(ZaE d).ends=eds d d.next.length from rfl,Bool.eq_iff_iff,List.any_eq_true];constructor
  ·rintro⟨x,hx,hb⟩;obtain⟨t,rfl,ht,he⟩:=ZkY.1 hx;rw[ZdZ,decide_eq_true_eq] at hb;simp only[Int.toNat_natCast] at hb;rw[hb];exact he
  intro he;refine⟨(s:Int),ZkY.2 ⟨s,rfl,hs,he⟩,?_⟩;rw[ZdZ];simp)
 have h0:f 0=((((fstV (ZaE d):Nat):Int),0):Int × Int):=by rw[Zon];rfl
 rw[h0] at hm;refine hm.trans ?_;unfold Za6;rw[ZbI (Zby hf _).2 hK]
theorem ZnJ {d:DfaD} (hd:Zag d.next d.ends=true) {w:List Nat} (hw:isW w):accS (ZaE d) w=accD d w:=by rw[← Zqa (ZoB hd (Nat.le_refl _)) hw,Zpg (ZaL hd) hw]
end Go.Proofs.YtfgpkadhegdffaaGreat
