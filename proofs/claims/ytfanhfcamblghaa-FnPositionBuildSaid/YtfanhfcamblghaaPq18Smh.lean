/-
  Plain: the automaton of positions accepts the language.
  Condition: the expression has neither both nor not.
-/
import Derived.Test.YtfanhfcamblghaaPq16Pos
set_option maxHeartbeats 8000000
namespace Go.Proofs.Ytfanhfcamblghaa
open Go.RowKit
theorem ZkS {M:List (Int × Int × Int)} {F:List (Nat × Nat)} {fi P:List Nat} {L:Nat→Nat} {st:Nat→Int} (hinj:∀ p q,p∈P→q∈P→st p=st q→p=q) (h0:∀ p,p∈P→st p≠0) (hM:∀ x,x∈M↔∃ p,p∈P∧x.2.1=(L p:Int)∧x.2.2=st p∧((x.1=0∧p∈fi)∨∃ q,q∈P∧x.1=st q∧(q,p)∈F))
  {s e:Int} {w:List Nat} (h:Pth M s w e):(w=[]∧e=s)∨∃ p r z,(p::r).map L=w∧chn F (p::r)∧(p::r).getLast? = some z∧z∈P∧e=st z∧((s=0∧p∈fi)∨∃ q,q∈P∧s=st q∧(q,p)∈F):=by
 induction h with
 | here s=>exact .inl ⟨rfl,rfl⟩
 | eps hm _ _ =>obtain⟨p,-,h1,-⟩:=(hM _).1 hm;simp only at h1;omega
 | step hm _ ih =>
  obtain⟨p,hp,h1,h2,h3⟩:=(hM _).1 hm;simp only at h1 h2 h3;obtain rfl:=Int.ofNat.inj h1;rcases ih with⟨rfl,rfl⟩|⟨p2,r,z,rfl,g2,g3,g4,rfl,g6⟩
  ·exact .inr ⟨p,[],p,rfl,trivial,rfl,hp,h2,h3⟩
  refine .inr ⟨p,p2::r,z,rfl,⟨?_,g2⟩,by rw[List.getLast?_cons_cons];exact g3,g4,rfl,h3⟩;rcases g6 with⟨g6,-⟩|⟨q,hq,g6,g7⟩
  ·exact absurd (h2.symm.trans g6) (h0 p hp)
  rwa [hinj p q hp hq (h2.symm.trans g6)]
theorem ZmE {M:List (Int × Int × Int)} {F:List (Nat × Nat)} {fi P:List Nat} {L:Nat→Nat} {st:Nat→Int} (hF:∀ p q,(p,q)∈F→p∈P∧q∈P) (hM:∀ x,x∈M↔∃ p,p∈P∧x.2.1=(L p:Int)∧x.2.2=st p∧((x.1=0∧p∈fi)∨∃ q,q∈P∧x.1=st q∧(q,p)∈F)) :
  ∀ (r:List Nat) (p:Nat) (s:Int) (z:Nat),p∈P→chn F (p::r)→(p::r).getLast? = some z→((s=0∧p∈fi)∨∃ q,q∈P∧s=st q∧(q,p)∈F)→Pth M s ((p::r).map L) (st z)
 | [],p,s,z,hp,_,hz,hs=>by cases hz;exact .step ((hM _).2 ⟨p,hp,rfl,rfl,hs⟩) (.here _)
 | q::r,p,s,z,hp,hc,hz,hs=>by rw[List.getLast?_cons_cons] at hz;exact .step ((hM _).2 ⟨p,hp,rfl,rfl,hs⟩) (ZmE hF hM r q (st p) z (hF _ _ hc.1).2 hc.2 hz (.inr ⟨p,hp,rfl,hc.1⟩))
theorem Zm8 {t:Ex} {n:Nat} (hp:plnE t) {L:Nat→Nat} (hm:mtc L t n) {M:List (Int × Int × Int)} {P:List Nat} {E:List Int} {st:Nat→Int} (hinj:∀ p q,p∈P→q∈P→st p=st q→p=q) (h0:∀ p,p∈P→st p≠0)
  (hF:∀ p q,(p,q)∈flP t n→p∈P∧q∈P) (hfi:∀ p,p∈edP true t n→p∈P) (hla:∀ p,p∈edP false t n→p∈P)
  (hM:∀ x,x∈M↔∃ p,p∈P∧x.2.1=(L p:Int)∧x.2.2=st p∧((x.1=0∧p∈edP true t n)∨∃ q,q∈P∧x.1=st q∧(q,p)∈flP t n))
  (hE:∀ e,e∈E↔(e=0∧hasE t=true)∨∃ z,z∈edP false t n∧e=st z) (w:List Nat):(∃ e∈E,Pth M 0 w e)↔memE t w:=by
 by_cases hw:w=[]
 ·subst hw;rw[← Zc9];constructor
  ·rintro⟨e,he,h⟩;rcases ZkS hinj h0 hM h with⟨-,rfl⟩|⟨p,r,z,h1,-⟩
   ·rcases(hE _).1 he with⟨-,h⟩|⟨z,hz,h⟩
    ·exact h
    exact absurd h.symm (h0 z (hla z hz))
   cases h1
  intro h;exact⟨0,(hE 0).2 (.inl ⟨rfl,h⟩),.here 0⟩
 rw[Zl3 L t n hp hm w hw];constructor
 ·rintro⟨e,he,h⟩;rcases ZkS hinj h0 hM h with⟨rfl,-⟩|⟨p,r,z,h1,h2,h3,h4,rfl,h5⟩
  ·exact absurd rfl hw
  refine⟨p::r,h1,⟨p,rfl,?_⟩,⟨z,h3,?_⟩,h2⟩
  ·rcases h5 with⟨-,h⟩|⟨q,hq,h,-⟩
   ·exact h
   exact absurd h.symm (h0 q hq)
  rcases(hE _).1 he with⟨h,-⟩|⟨y,hy,h⟩
  ·exact absurd h (h0 z h4)
  rwa [hinj z y h4 (hla y hy) h]
 rintro⟨ps,rfl,⟨p,h1,h2⟩,⟨z,h3,h4⟩,h5⟩;cases ps with
 | nil=>cases h1
 | cons x r =>cases h1;exact⟨st z,(hE _).2 (.inr ⟨z,h4,rfl⟩),ZmE hF hM r p 0 z (hfi p h2) h5 h3 (.inl ⟨rfl,h2⟩)⟩
theorem Zky {es:List (Int × Int)} {P:List Nat} {T:Nat→Nat→Bool} {i:Nat} {x:Int × Int × Int}:∀ {m:Nat},x∈rwP es P T i m↔∃ j,j<m∧T i j=true∧x=((i:Int),ltP es P j,(j:Int))
 | 0=>by simp[rwP]
 | m+1=>by
  have ih:=Zky (es:=es) (P:=P) (T:=T) (i:=i) (x:=x) (m:=m);unfold rwP
  split
  ·rename_i h;rw[List.mem_append,ih,List.mem_singleton];constructor
   ·rintro(⟨j,h1,h2⟩|h1)
    ·exact⟨j,by omega,h2⟩
    exact⟨m,by omega,h,h1⟩
   rintro⟨j,h1,h2,h3⟩;by_cases hj:j=m
   ·subst hj;exact .inr h3
   exact .inl ⟨j,by omega,h2,h3⟩
  rename_i h;rw[ih];constructor
  ·rintro⟨j,h1,h2⟩;exact⟨j,by omega,h2⟩
  rintro⟨j,h1,h2,h3⟩;by_cases hj:j=m
  ·subst hj;exact absurd h2 h
  exact⟨j,by omega,h2,h3⟩
theorem ZgG {es:List (Int × Int)} {P:List Nat} {T:Nat→Nat→Bool} {S:Nat} {x:Int × Int × Int}:∀ {n:Nat},x∈sqP es P T S n↔∃ i j,i<n∧j<S∧T i j=true∧x=((i:Int),ltP es P j,(j:Int))
 | 0=>by simp[sqP]
 | n+1=>by
  have ih:=ZgG (es:=es) (P:=P) (T:=T) (S:=S) (x:=x) (n:=n);unfold sqP;rw[List.mem_append,ih,Zky];constructor
  ·rintro(⟨i,j,h1,h2⟩|⟨j,h1,h2⟩)
   ·exact⟨i,j,by omega,h2⟩
   exact⟨n,j,by omega,h1,h2⟩
  rintro⟨i,j,h1,h2⟩;by_cases hi:i=n
  ·subst hi;exact .inr ⟨j,h2⟩
  exact .inl ⟨i,j,by omega,h2⟩
theorem ZhO {P:List Nat} {p:Nat} (h:p∈P):sidx P p<P.length+1:=by have:=List.idxOf_lt_length_of_mem h;unfold sidx;omega
theorem ZhP {P:List Nat} {p:Nat} (h:p∈P):P.getD (sidx P p-1) 0=p:=by have h1:=List.idxOf_lt_length_of_mem h;unfold sidx;rw[Nat.add_sub_cancel,List.getD_eq_getElem?_getD,List.getElem?_eq_getElem h1];exact List.getElem_idxOf h1
theorem ZeF {P:List Nat} {p q:Nat} (hp:p∈P) (hq:q∈P) (h:sidx P p=sidx P q):p=q:=by rw[← ZhP hp,← ZhP hq,h]
theorem Zfp {es:List (Int × Int)} (hok:exOk es=true) {p:Nat} (hp:p<es.length) (h3:(es.getD p (0,0)).1=3):0≤(es.getD p (0,0)).2∧(es.getD p (0,0)).2≤2:=by have h1:=ZbI ((ZaF hok).1 p hp).1;unfold pOk at h1;rw[Bool.and_eq_true] at h1;have h2:=h1.2;rw[h3] at h2;simp at h2;exact ZdL h2
theorem ZdB {t:Ex} {P:List Nat} {i j:Nat}:posT t P i j=true↔(i=0∧∃ p,p∈edP true t 0∧sidx P p=j)∨∃ p q,(p,q)∈flP t 0∧sidx P p=i∧sidx P q=j:=by
 unfold posT tabP fstT;rw[Bool.or_eq_true,Bool.and_eq_true,decide_eq_true_eq,List.any_eq_true,List.any_eq_true];simp only[decide_eq_true_eq,Bool.and_eq_true];constructor
 ·rintro(⟨h1,h2⟩|⟨⟨p,q⟩,h1,h2⟩)
  ·exact .inl ⟨h1,h2⟩
  exact .inr ⟨p,q,h1,h2⟩
 rintro(⟨h1,h2⟩|⟨p,q,h1,h2⟩)
 ·exact .inl ⟨h1,h2⟩
 exact .inr ⟨(p,q),h1,h2⟩
theorem Ziv {t:Ex} (hp:plnE t) (h60:t.post.length≤60) (w:List Nat):(∃ f∈(posN t).firsts,∃ e∈(posN t).ends,Pth (posN t).moves f w e)↔memE t w:=by
 have hok:=Zal t h60;have hm:=ZlL t [] [];obtain⟨P,hP⟩:=eJ (lpF t.post t.post.length);have hPm:∀ p,p∈P→p<t.post.length∧(t.post.getD p (0,0)).1=3:=fun p h=>by rw[← hP] at h;exact Zb4.1 h
 have hfi:∀ p,p∈edP true t 0→p∈P:=fun p h=>hP ▸ ZcZ true t h
 have hla:∀ p,p∈edP false t 0→p∈P:=fun p h=>hP ▸ ZcZ false t h
 have hF:∀ p q,(p,q)∈flP t 0→p∈P∧q∈P:=fun p q h=>hP ▸ ZfA t h
 have hlt:∀ p,p∈P→ltP t.post P (sidx P p)=(((t.post.getD p (0,0)).2.toNat:Nat):Int):=fun p h=>by unfold ltP;rw[ZhP h];have:=Zfp hok (hPm p h).1 (hPm p h).2;omega
 simp only[List.nil_append,List.append_nil] at hm;have key:=Zm8 (t:=t) (n:=0) hp hm (M:=(posN t).moves) (P:=P) (E:=(posN t).ends) (st:=fun p=>(sidx P p:Int)) (fun p q h1 h2 h=>ZeF h1 h2 (by have h:(sidx P p:Int)=(sidx P q:Int):=h;omega)) (fun p _=>by show(sidx P p:Int)≠0;unfold sidx;omega) hF hfi hla (fun x => ?_) (fun e => ?_) w
 ·rw[← key];show(∃ f∈[(0:Int)],_)↔_;simp
 ·show x∈sqP t.post (lpF t.post t.post.length) (posT t (lpF t.post t.post.length)) _ _↔_;rw[hP,ZgG];constructor
  ·rintro⟨i,j,h1,h2,h3,rfl⟩;rcases ZdB.1 h3 with⟨rfl,p,h4,rfl⟩|⟨q,p,h4,rfl,rfl⟩
   ·exact⟨p,hfi p h4,hlt p (hfi p h4),rfl,.inl ⟨rfl,h4⟩⟩
   exact⟨p,(hF q p h4).2,hlt p (hF q p h4).2,rfl,.inr ⟨q,(hF q p h4).1,rfl,h4⟩⟩
  rintro⟨p,h1,h2,h3,h4⟩;obtain⟨x1,x2,x3⟩:=x;simp only at h2 h3 h4;rcases h4 with⟨h4,h5⟩|⟨q,h5,h6,h7⟩
  ·exact⟨0,sidx P p,by omega,ZhO h1,ZdB.2 (.inl ⟨rfl,p,h5,rfl⟩),by rw[hlt p h1,h2,h3,h4];rfl⟩
  exact⟨sidx P q,sidx P p,ZhO h5,ZhO h1,ZdB.2 (.inr ⟨q,p,h7,rfl,rfl⟩),by rw[hlt p h1,h2,h3,h6]⟩
 show e∈endL t (lpF t.post t.post.length)↔_;rw[hP];unfold endL;rw[List.mem_append,List.mem_map];constructor
 ·rintro(h|⟨z,h1,h2⟩)
  ·split at h
   ·rename_i h1;exact .inl ⟨List.mem_singleton.1 h,h1⟩
   cases h
  exact .inr ⟨z,h1,h2.symm⟩
 rintro(⟨h1,h2⟩|⟨z,h1,h2⟩)
 ·rw[if_pos h2];exact .inl (List.mem_singleton.2 h1)
 exact .inr ⟨z,h1,h2.symm⟩
def EmpS (t:Ex):Prop:=∀ (v:Value) (w:World),Pairs 0 w v t.post→∀ r,hasE t=r→Calls Try.prog 43 #[v] w fun e w'=>e = .returned (.bool r)∧Below w.heap.size w w'
theorem Zmm (ta tb:Ex) (h60:(Ex.join ta tb).post.length≤60) (hta:EmpS ta) (htb:EmpS tb):EmpS (Ex.join ta tb):=by
 intro v w h r hr;obtain⟨rta,hrta⟩:∃ r,hasE ta=r:=⟨_,rfl⟩;obtain⟨rtb,hrtb⟩:∃ r,hasE tb=r:=⟨_,rfl⟩;rw[show hasE (Ex.join ta tb)=(hasE ta&&hasE tb) from rfl,hrta,hrtb] at hr;have hok:=Zal _ h60;have Hh:=qh h;have hP:=h;rw[show(Ex.join ta tb).post=(ta.post++tb.post)++[(4,0)] from rfl] at hP;obtain⟨bb,off,cap,rfl,hc1,hc2,hbl,hcell⟩:=ZaS hP;obtain⟨m,hm⟩:=eI ((ta.post++tb.post).length);rw[← hm] at hc1 hcell Hh;rw[← hm];have hmI:m≤59:=by rw[hm];simp[Ex.post] at h60 ⊢;omega
 have Hcell:=qh hcell;have hw1:IntKind.i64.wrap ((m:Int)+1-1)=(m:Int):=by rw[IntWalk.i64_in _ (by omega)];omega
 have HTA:=qh (fun (v:Value) (w:World) (hp:Pairs 0 w v ta.post)=>hta v w hp rta hrta);have HTB:=qh (fun (v:Value) (w:World) (hp:Pairs 0 w v tb.post)=>htb v w hp rtb hrtb);replace hm:=qh hm;have Hhok:=qh hok;clear hok;clear h hP hcell hta hrta htb hrtb
 go_enter Try.func43, Try.ntmps43
 go_wp2_with fail;refine(ZaB _ _ _ Hhok.out Hh.out).mono ?_;rintro e w2 ⟨vx,vy,xs,ys,hsp,rfl,hx,hy,hb2⟩;obtain⟨rfl,rfl⟩:=ZbF (a:=ta) (b:=tb) (p:=(4,0)) Zcu hsp;have HX:=qh hx;have HY:=qh hy;have HB2:=qh hb2;obtain⟨k1,k2⟩:=Hcell.out _ hb2;clear hsp hx hy hb2;subst hr;cases rta
 ·go_wp2_with fail;refine(HTA.out _ _ (HX.out)).mono ?_;rintro e w3 ⟨rfl,hb3⟩;have HB3b:=qh hb3;have HB3:=qh (HB2.out.trans (hb3.mono HB2.out.size));clear hb3;go_wp2;go_ret;exact⟨rfl,HB3.out⟩
 go_wp2_with fail;refine(HTA.out _ _ (HX.out)).mono ?_;rintro e w3 ⟨rfl,hb3⟩;have HB3b:=qh hb3;have HB3:=qh (HB2.out.trans (hb3.mono HB2.out.size));clear hb3;cases rtb
 ·go_wp2_with fail;refine(HTB.out _ _ (HY.out.below HB3b.out)).mono ?_;rintro e w4 ⟨rfl,hb4⟩;have HB4b:=qh hb4;have HB4:=qh (HB3.out.trans (hb4.mono HB3.out.size));clear hb4;go_wp2;go_ret;exact⟨rfl,HB4.out⟩
 go_wp2_with fail;refine(HTB.out _ _ (HY.out.below HB3b.out)).mono ?_;rintro e w4 ⟨rfl,hb4⟩;have HB4b:=qh hb4;have HB4:=qh (HB3.out.trans (hb4.mono HB3.out.size));clear hb4;go_wp2;go_ret;exact⟨rfl,HB4.out⟩
theorem Zmn (ta tb:Ex) (h60:(Ex.both ta tb).post.length≤60) (hta:EmpS ta) (htb:EmpS tb):EmpS (Ex.both ta tb):=by
 intro v w h r hr;obtain⟨rta,hrta⟩:∃ r,hasE ta=r:=⟨_,rfl⟩;obtain⟨rtb,hrtb⟩:∃ r,hasE tb=r:=⟨_,rfl⟩;rw[show hasE (Ex.both ta tb)=(hasE ta&&hasE tb) from rfl,hrta,hrtb] at hr;have hok:=Zal _ h60;have Hh:=qh h;have hP:=h;rw[show(Ex.both ta tb).post=(ta.post++tb.post)++[(6,0)] from rfl] at hP;obtain⟨bb,off,cap,rfl,hc1,hc2,hbl,hcell⟩:=ZaS hP;obtain⟨m,hm⟩:=eI ((ta.post++tb.post).length);rw[← hm] at hc1 hcell Hh;rw[← hm];have hmI:m≤59:=by rw[hm];simp[Ex.post] at h60 ⊢;omega
 have Hcell:=qh hcell;have hw1:IntKind.i64.wrap ((m:Int)+1-1)=(m:Int):=by rw[IntWalk.i64_in _ (by omega)];omega
 have HTA:=qh (fun (v:Value) (w:World) (hp:Pairs 0 w v ta.post)=>hta v w hp rta hrta);have HTB:=qh (fun (v:Value) (w:World) (hp:Pairs 0 w v tb.post)=>htb v w hp rtb hrtb);replace hm:=qh hm;have Hhok:=qh hok;clear hok;clear h hP hcell hta hrta htb hrtb
 go_enter Try.func43, Try.ntmps43
 go_wp2_with fail;refine(ZaB _ _ _ Hhok.out Hh.out).mono ?_;rintro e w2 ⟨vx,vy,xs,ys,hsp,rfl,hx,hy,hb2⟩;obtain⟨rfl,rfl⟩:=ZbF (a:=ta) (b:=tb) (p:=(6,0)) Zfe hsp;have HX:=qh hx;have HY:=qh hy;have HB2:=qh hb2;obtain⟨k1,k2⟩:=Hcell.out _ hb2;clear hsp hx hy hb2;subst hr;cases rta
 ·go_wp2_with fail;refine(HTA.out _ _ (HX.out)).mono ?_;rintro e w3 ⟨rfl,hb3⟩;have HB3b:=qh hb3;have HB3:=qh (HB2.out.trans (hb3.mono HB2.out.size));clear hb3;go_wp2;go_ret;exact⟨rfl,HB3.out⟩
 go_wp2_with fail;refine(HTA.out _ _ (HX.out)).mono ?_;rintro e w3 ⟨rfl,hb3⟩;have HB3b:=qh hb3;have HB3:=qh (HB2.out.trans (hb3.mono HB2.out.size));clear hb3;cases rtb
 ·go_wp2_with fail;refine(HTB.out _ _ (HY.out.below HB3b.out)).mono ?_;rintro e w4 ⟨rfl,hb4⟩;have HB4b:=qh hb4;have HB4:=qh (HB3.out.trans (hb4.mono HB3.out.size));clear hb4;go_wp2;go_ret;exact⟨rfl,HB4.out⟩
 go_wp2_with fail;refine(HTB.out _ _ (HY.out.below HB3b.out)).mono ?_;rintro e w4 ⟨rfl,hb4⟩;have HB4b:=qh hb4;have HB4:=qh (HB3.out.trans (hb4.mono HB3.out.size));clear hb4;go_wp2;go_ret;exact⟨rfl,HB4.out⟩
theorem Zno (ta tb:Ex) (h60:(Ex.alt ta tb).post.length≤60) (hta:EmpS ta) (htb:EmpS tb):EmpS (Ex.alt ta tb):=by
 intro v w h r hr;obtain⟨rta,hrta⟩:∃ r,hasE ta=r:=⟨_,rfl⟩;obtain⟨rtb,hrtb⟩:∃ r,hasE tb=r:=⟨_,rfl⟩;rw[show hasE (Ex.alt ta tb)=(hasE ta||hasE tb) from rfl,hrta,hrtb] at hr;have hok:=Zal _ h60;have Hh:=qh h;have hP:=h;rw[show(Ex.alt ta tb).post=(ta.post++tb.post)++[(5,0)] from rfl] at hP;obtain⟨bb,off,cap,rfl,hc1,hc2,hbl,hcell⟩:=ZaS hP;obtain⟨m,hm⟩:=eI ((ta.post++tb.post).length);rw[← hm] at hc1 hcell Hh;rw[← hm];have hmI:m≤59:=by rw[hm];simp[Ex.post] at h60 ⊢;omega
 have Hcell:=qh hcell;have hw1:IntKind.i64.wrap ((m:Int)+1-1)=(m:Int):=by rw[IntWalk.i64_in _ (by omega)];omega
 have HTA:=qh (fun (v:Value) (w:World) (hp:Pairs 0 w v ta.post)=>hta v w hp rta hrta);have HTB:=qh (fun (v:Value) (w:World) (hp:Pairs 0 w v tb.post)=>htb v w hp rtb hrtb);replace hm:=qh hm;have Hhok:=qh hok;clear hok;clear h hP hcell hta hrta htb hrtb
 go_enter Try.func43, Try.ntmps43
 go_wp2_with fail;refine(ZaB _ _ _ Hhok.out Hh.out).mono ?_;rintro e w2 ⟨vx,vy,xs,ys,hsp,rfl,hx,hy,hb2⟩;obtain⟨rfl,rfl⟩:=ZbF (a:=ta) (b:=tb) (p:=(5,0)) ZdC hsp;have HX:=qh hx;have HY:=qh hy;have HB2:=qh hb2;obtain⟨k1,k2⟩:=Hcell.out _ hb2;clear hsp hx hy hb2;subst hr;cases rta
 ·go_wp2_with fail;refine(HTA.out _ _ (HX.out)).mono ?_;rintro e w3 ⟨rfl,hb3⟩;have HB3b:=qh hb3;have HB3:=qh (HB2.out.trans (hb3.mono HB2.out.size));clear hb3;cases rtb
  ·go_wp2_with fail;refine(HTB.out _ _ (HY.out.below HB3b.out)).mono ?_;rintro e w4 ⟨rfl,hb4⟩;have HB4b:=qh hb4;have HB4:=qh (HB3.out.trans (hb4.mono HB3.out.size));clear hb4;go_wp2;go_ret;exact⟨rfl,HB4.out⟩
  go_wp2_with fail;refine(HTB.out _ _ (HY.out.below HB3b.out)).mono ?_;rintro e w4 ⟨rfl,hb4⟩;have HB4b:=qh hb4;have HB4:=qh (HB3.out.trans (hb4.mono HB3.out.size));clear hb4;go_wp2;go_ret;exact⟨rfl,HB4.out⟩
 go_wp2_with fail;refine(HTA.out _ _ (HX.out)).mono ?_;rintro e w3 ⟨rfl,hb3⟩;have HB3b:=qh hb3;have HB3:=qh (HB2.out.trans (hb3.mono HB2.out.size));clear hb3;go_wp2;go_ret;exact⟨rfl,HB3.out⟩
theorem Znm (ta:Ex) (h60:(Ex.neg ta).post.length≤60) (hta:EmpS ta):EmpS (Ex.neg ta):=by
 intro v w h r hr;obtain⟨rta,hrta⟩:∃ r,hasE ta=r:=⟨_,rfl⟩;rw[show hasE (Ex.neg ta)=(!hasE ta) from rfl,hrta] at hr;have hok:=Zal _ h60;have Hh:=qh h;have hP:=h;rw[show(Ex.neg ta).post=(ta.post)++[(7,0)] from rfl] at hP;obtain⟨bb,off,cap,rfl,hc1,hc2,hbl,hcell⟩:=ZaS hP;obtain⟨m,hm⟩:=eI ((ta.post).length);rw[← hm] at hc1 hcell Hh;rw[← hm];have hmI:m≤59:=by rw[hm];simp[Ex.post] at h60 ⊢;omega
 have Hcell:=qh hcell;have hw1:IntKind.i64.wrap ((m:Int)+1-1)=(m:Int):=by rw[IntWalk.i64_in _ (by omega)];omega
 have HTA:=qh (fun (v:Value) (w:World) (hp:Pairs 0 w v ta.post)=>hta v w hp rta hrta);replace hm:=qh hm;have Hhok:=qh hok;clear hok;clear h hP hcell hta hrta
 go_enter Try.func43, Try.ntmps43
 go_wp2_with fail;refine(ZaB _ _ _ Hhok.out Hh.out).mono ?_;rintro e w2 ⟨vx,vy,xs,ys,hsp,rfl,hx,hy,hb2⟩;obtain⟨rfl,rfl⟩:=Zdv (a:=ta) (p:=(7,0)) Zg7 hsp;have HX:=qh hx;have HY:=qh hy;have HB2:=qh hb2;obtain⟨k1,k2⟩:=Hcell.out _ hb2;clear hsp hx hy hb2;subst hr;go_wp2_with fail;refine(HTA.out _ _ (HX.out)).mono ?_;rintro e w3 ⟨rfl,hb3⟩;have HB3b:=qh hb3;have HB3:=qh (HB2.out.trans (hb3.mono HB2.out.size));clear hb3;go_wp2;go_ret;exact⟨rfl,HB3.out⟩
theorem Zml (ta:Ex) (h60:(Ex.star ta).post.length≤60):EmpS (Ex.star ta):=by
 intro v w h r hr;rw[show hasE (Ex.star ta)=true from rfl] at hr;have hok:=Zal _ h60;have Hh:=qh h;have hP:=h;rw[show(Ex.star ta).post=(ta.post)++[(8,0)] from rfl] at hP;obtain⟨bb,off,cap,rfl,hc1,hc2,hbl,hcell⟩:=ZaS hP;obtain⟨m,hm⟩:=eI ((ta.post).length);rw[← hm] at hc1 hcell Hh;rw[← hm];have hmI:m≤59:=by rw[hm];simp[Ex.post] at h60 ⊢;omega
 have Hcell:=qh hcell;have hw1:IntKind.i64.wrap ((m:Int)+1-1)=(m:Int):=by rw[IntWalk.i64_in _ (by omega)];omega
 replace hm:=qh hm;have Hhok:=qh hok;clear hok;clear h hP hcell
 go_enter Try.func43, Try.ntmps43
 go_wp2_with fail;refine(ZaB _ _ _ Hhok.out Hh.out).mono ?_;rintro e w2 ⟨vx,vy,xs,ys,hsp,rfl,hx,hy,hb2⟩;obtain⟨rfl,rfl⟩:=Zdv (a:=ta) (p:=(8,0)) Zct hsp;have HX:=qh hx;have HY:=qh hy;have HB2:=qh hb2;obtain⟨k1,k2⟩:=Hcell.out _ hb2;clear hsp hx hy hb2;subst hr;go_wp2;go_ret;exact⟨rfl,HB2.out⟩
theorem Zmk:EmpS (Ex.zero):=by
 intro v w h r hr;rw[show hasE (Ex.zero)=false from rfl] at hr;have h60:(Ex.zero).post.length≤60:=by show 1≤60;decide
 have hok:=Zal _ h60;have Hh:=qh h;have hP:=h;rw[show(Ex.zero).post=(([]:List (Int × Int)))++[(1,0)] from rfl] at hP;obtain⟨bb,off,cap,rfl,hc1,hc2,hbl,hcell⟩:=ZaS hP;obtain⟨m,hm⟩:=eI ((([]:List (Int × Int))).length);rw[← hm] at hc1 hcell Hh;rw[← hm];have hmI:m≤59:=by rw[hm];simp[Ex.post] at h60 ⊢
 have Hcell:=qh hcell;have hw1:IntKind.i64.wrap ((m:Int)+1-1)=(m:Int):=by rw[IntWalk.i64_in _ (by omega)];omega
 replace hm:=qh hm;have Hhok:=qh hok;clear hok;clear h hP hcell
 go_enter Try.func43, Try.ntmps43
 go_wp2_with fail;refine(ZaB _ _ _ Hhok.out Hh.out).mono ?_;rintro e w2 ⟨vx,vy,xs,ys,hsp,rfl,hx,hy,hb2⟩;obtain⟨rfl,rfl⟩:=ZaV Zbx hsp;have HX:=qh hx;have HY:=qh hy;have HB2:=qh hb2;obtain⟨k1,k2⟩:=Hcell.out _ hb2;clear hsp hx hy hb2;subst hr;go_wp2;go_ret;exact⟨rfl,HB2.out⟩
theorem Znl:EmpS (Ex.one):=by
 intro v w h r hr;rw[show hasE (Ex.one)=true from rfl] at hr;have h60:(Ex.one).post.length≤60:=by show 1≤60;decide
 have hok:=Zal _ h60;have Hh:=qh h;have hP:=h;rw[show(Ex.one).post=(([]:List (Int × Int)))++[(2,0)] from rfl] at hP;obtain⟨bb,off,cap,rfl,hc1,hc2,hbl,hcell⟩:=ZaS hP;obtain⟨m,hm⟩:=eI ((([]:List (Int × Int))).length);rw[← hm] at hc1 hcell Hh;rw[← hm];have hmI:m≤59:=by rw[hm];simp[Ex.post] at h60 ⊢
 have Hcell:=qh hcell;have hw1:IntKind.i64.wrap ((m:Int)+1-1)=(m:Int):=by rw[IntWalk.i64_in _ (by omega)];omega
 replace hm:=qh hm;have Hhok:=qh hok;clear hok;clear h hP hcell
 go_enter Try.func43, Try.ntmps43
 go_wp2_with fail;refine(ZaB _ _ _ Hhok.out Hh.out).mono ?_;rintro e w2 ⟨vx,vy,xs,ys,hsp,rfl,hx,hy,hb2⟩;obtain⟨rfl,rfl⟩:=ZaV Zbw hsp;have HX:=qh hx;have HY:=qh hy;have HB2:=qh hb2;obtain⟨k1,k2⟩:=Hcell.out _ hb2;clear hsp hx hy hb2;subst hr;go_wp2;go_ret;exact⟨rfl,HB2.out⟩
theorem Znn (ch:Fin 3):EmpS (Ex.ltr ch):=by
 intro v w h r hr;rw[show hasE (Ex.ltr ch)=false from rfl] at hr;have h60:(Ex.ltr ch).post.length≤60:=by show 1≤60;decide
 have hok:=Zal _ h60;have Hh:=qh h;have hP:=h;rw[show(Ex.ltr ch).post=(([]:List (Int × Int)))++[(3,(ch.val:Int))] from rfl] at hP;obtain⟨bb,off,cap,rfl,hc1,hc2,hbl,hcell⟩:=ZaS hP;obtain⟨m,hm⟩:=eI ((([]:List (Int × Int))).length);rw[← hm] at hc1 hcell Hh;rw[← hm];have hmI:m≤59:=by rw[hm];simp[Ex.post] at h60 ⊢
 have Hcell:=qh hcell;have hw1:IntKind.i64.wrap ((m:Int)+1-1)=(m:Int):=by rw[IntWalk.i64_in _ (by omega)];omega
 replace hm:=qh hm;have Hhok:=qh hok;clear hok;clear h hP hcell
 go_enter Try.func43, Try.ntmps43
 go_wp2_with fail;refine(ZaB _ _ _ Hhok.out Hh.out).mono ?_;rintro e w2 ⟨vx,vy,xs,ys,hsp,rfl,hx,hy,hb2⟩;obtain⟨rfl,rfl⟩:=ZaV (Zbk ch) hsp;have HX:=qh hx;have HY:=qh hy;have HB2:=qh hb2;obtain⟨k1,k2⟩:=Hcell.out _ hb2;clear hsp hx hy hb2;subst hr;go_wp2;go_ret;exact⟨rfl,HB2.out⟩
theorem Zia:∀ t:Ex,t.post.length≤60→EmpS t:=by
 intro t
 induction t with
 | zero=>exact fun _=>Zmk
 | one=>exact fun _=>Znl
 | ltr c=>exact fun _=>Znn c
 | join a b ha hb=>exact fun h=>Zmm a b h (ha (by simp[Ex.post] at h;omega)) (hb (by simp[Ex.post] at h;omega))
 | alt a b ha hb=>exact fun h=>Zno a b h (ha (by simp[Ex.post] at h;omega)) (hb (by simp[Ex.post] at h;omega))
 | both a b ha hb=>exact fun h=>Zmn a b h (ha (by simp[Ex.post] at h;omega)) (hb (by simp[Ex.post] at h;omega))
 | neg a ha=>exact fun h=>Znm a h (ha (by simp[Ex.post] at h;omega))
 | star a ha=>exact fun h=>Zml a h
end Go.Proofs.Ytfanhfcamblghaa
