/-
  The walks over the program's CheckPairs and over the function behind it.
  Conditions: the arguments read as automata and as a list of pairs; for the function behind it, the automata are valid.
-/
import Derived.Test.YtehmjmjedopkkaaGreatPd35Wpl
import Derived.Test.YtehmjmjedopkkaaGreatPd36L16
namespace Go.Proofs.YtehmjmjedopkkaaGreat
open Go.RowKit Go.Maps
theorem ZmI (w:World):(zeroValue 4).run Tryz.prog w = .ok (.bool false) w:=by kernel_rfl
end Go.Proofs.YtehmjmjedopkkaaGreat
namespace Go.Proofs.YtehmjmjedopkkaaGreat
open Go.RowKit
theorem Zfe (d:DfaD) (s:Int):runD d s []=s:=rfl
theorem ZaN (d:DfaD) (s:Int) (c:Nat) (w:List Nat):runD d s (c::w)=runD d (dnx d s c) w:=rfl
theorem Zb8 {c:Nat} {w:List Nat} (h:isW (c::w)):c<3∧isW w:=⟨h c (by simp),fun b hb=>h b (by simp[hb])⟩
theorem Zl0:isW []:=fun c hc=>by simp at hc
theorem Zn3 {c:Nat} {w:List Nat} (hc:c<3) (h:isW w):isW (c::w):=fun b hb=>by
 rcases List.mem_cons.1 hb with rfl|hb
 ·exact hc
 exact h b hb
theorem Zbp {d:DfaD} (hd:fine d) {s c:Nat} (hs:s<d.next.length) (hc:c<3):nxD d s c<d.next.length∧dnx d (s:Int) c=((nxD d s c:Nat):Int):=Zcn hd hs hc
theorem ZdY {d:DfaD} (hd:fine d):∀ (w:List Nat) {s:Nat},isW w→s<d.next.length→∃ t:Nat,t<d.next.length∧runD d (s:Int) w=(t:Int)
 | [],s,_,hs=>⟨s,hs,rfl⟩
 | c::w,s,hw,hs=>by obtain⟨h1,h2⟩:=Zb8 hw;obtain⟨h3,h4⟩:=Zbp hd hs h1;rw[ZaN,h4];exact ZdY hd w h2 h3
theorem Za8 (d:DfaD) (s:Nat):den d (s:Int)=enD d s:=by simp[den,enD]
theorem Zn8 {d:DfaD} (hd:fine d):∀ (w:List Nat) {s t:Nat},isW w→s<d.next.length→t<d.next.length→clD d s=clD d t→den d (runD d (s:Int) w)=den d (runD d (t:Int) w)
 | [],s,t,_,hs,ht,h=>by rw[Zfe,Zfe,Za8,Za8];exact ZcT hs ht h
 | c::w,s,t,hw,hs,ht,h=>by obtain⟨h1,h2⟩:=Zb8 hw;obtain⟨h3,h4⟩:=Zbp hd hs h1;obtain⟨h5,h6⟩:=Zbp hd ht h1;rw[ZaN,ZaN,h4,h6];exact Zn8 hd w h2 h3 h5 (ZhS (fun s c hs hc=>(Zbp hd hs hc).1) hs ht h c h1)
theorem Zhh {d:DfaD} (hd:fine d):∀ (i:Nat) {s t:Nat},s<d.next.length→t<d.next.length→(∀ w,isW w→den d (runD d (s:Int) w)=den d (runD d (t:Int) w))→clAt d.next.length (nxD d) (enD d) i s=clAt d.next.length (nxD d) (enD d) i t
 | 0,s,t,hs,ht,h=>by
  refine(ZiM hs ht).2 ?_;have:=h [] Zl0
  rwa [Zfe,Zfe,Za8,Za8] at this
 | i+1,s,t,hs,ht,h=>by
  refine(ZcH hs ht).2 ((ZaA _).2 ⟨Zhh hd i hs ht h,fun c hc => ?_⟩);obtain⟨h3,h4⟩:=Zbp hd hs hc;obtain⟨h5,h6⟩:=Zbp hd ht hc;refine Zhh hd i h3 h5 fun w hw => ?_
  have:=h (c::w) (Zn3 hc hw)
  rwa [ZaN,ZaN,h4,h6] at this
theorem Zll {d:DfaD} (hd:fine d) {s t:Nat} (hs:s<d.next.length) (ht:t<d.next.length) (h:∀ w,isW w→den d (runD d (s:Int) w)=den d (runD d (t:Int) w)):clD d s=clD d t:=Zhh hd _ hs ht h
theorem Zc8 {d:DfaD} {s:Nat} (hs:s<d.next.length):clD d s<d.next.length:=by have:=(Zbh (d:=d) s hs).1;omega
theorem Zgi {d:DfaD} (hd:fine d) {s:Nat} (hs:s<d.next.length) {w:List Nat} (hw:isW w):den d (runD d ((clD d s:Nat):Int) w)=den d (runD d (s:Int) w) :=
 Zn8 hd w hw (Zc8 hs) hs (Zbh s hs).2
theorem Zcd {d:DfaD} (hf:fine d) (K:Nat):(∀ x∈(bat (nxM d) ((clD d 0:Nat):Int) K).met,∃ s:Nat,x=(s:Int)∧s<d.next.length∧clD d s=s)∧(bat (nxM d) ((clD d 0:Nat):Int) K).met.length≤d.next.length:=by
 have hl:1≤d.next.length:=hf.1
 have h1:∀ x∈(bat (nxM d) ((clD d 0:Nat):Int) K).met,∃ s:Nat,x=(s:Int)∧s<d.next.length∧clD d s=s:=by
  refine ZbJ (Q:=fun x=>∃ s:Nat,x=(s:Int)∧s<d.next.length∧clD d s=s) ?_ (fun x c hc hx => ?_) K
  ·exact⟨clD d 0,rfl,Zc8 (by omega),(Zbh 0 (by omega)).2⟩
  obtain⟨s,rfl,hs,-⟩:=hx;have h2:=(Zcn hf hs hc).1;exact⟨clD d (nxD d s c),by simp[nxM],Zc8 h2,(Zbh _ h2).2⟩
 refine⟨h1,?_⟩;have h2:=Zdw (Za5 (nx:=nxM d) (a:=((clD d 0:Nat):Int)) K).1 (m:=ZaW d.next.length) (fun x hx=>by obtain⟨s,rfl,hs,-⟩:=h1 x hx;rw[ZbG];exact hs);rw[ZbC] at h2;exact h2
theorem ZlR {d:DfaD} (hd:fine d) {K:Nat} (hK:d.next.length≤K):minD d=Zar (nxM d) (den d) (bat (nxM d) ((clD d 0:Nat):Int) K).met:=by unfold minD;rw[Zca (Zcd hd _).2 hK]
theorem Znx {d:DfaD} (hd:fine d):fine (minD d):=Zej (Zcd hd _).2 hd.2.1
theorem Zgc {d:DfaD} (hd:fine d):∀ (w:List Nat) {s:Nat},isW w→s<d.next.length→∃ t:Nat,t<d.next.length∧w.foldl (nxM d) ((clD d s:Nat):Int)=((clD d t:Nat):Int)∧runD d (s:Int) w=(t:Int)
 | [],s,_,hs=>⟨s,hs,rfl,rfl⟩
 | c::w,s,hw,hs=>by
  obtain⟨h1,h2⟩:=Zb8 hw;obtain⟨h3,h4⟩:=Zbp hd hs h1;obtain⟨t,ht,e1,e2⟩:=Zgc hd w h2 h3;refine⟨t,ht,?_,by rw[ZaN,h4];exact e2⟩;have e3:nxM d ((clD d s:Nat):Int) c=((clD d (nxD d s c):Nat):Int):=by unfold nxM;rw[Int.toNat_natCast];congr 1;exact ZhS (fun s c hs hc=>(Zbp hd hs hc).1) (Zc8 hs) hs (Zbh s hs).2 c h1
  rw[List.foldl_cons,e3];exact e1
theorem ZlQ {d:DfaD} (hd:fine d) {w:List Nat} (hw:isW w):accD (minD d) w=accD d w:=by unfold minD;rw[ZdC (Zcd hd _).2 hw];obtain⟨t,ht,e1,e2⟩:=Zgc hd w hw (show 0<d.next.length from hd.1);rw[e1,Za8];unfold accD;rw[show(0:Int)=((0:Nat):Int) from rfl,e2,Za8];exact ZcT (Zc8 ht) ht (Zbh t ht).2
theorem ZmM {d:DfaD} (hd:fine d) {w:List Nat} (hw:isW w):accD (Zbi d) w=accD d w:=by unfold Zbi;rw[ZdC (ZcK hd _).2 hw];rfl
theorem Zii {x y:DfaD} (hx:fine x) (hy:fine y) (h:∀ w,isW w→accD x w=accD y w):minD x=minD y:=by
 obtain⟨K,hK⟩:=eI (x.next.length+y.next.length);rw[ZlR hx (show x.next.length≤K by omega),ZlR hy (show y.next.length≤K by omega)];have lx:0<x.next.length:=hx.1;have ly:0<y.next.length:=hy.1
 let nq:Int × Int→Nat→Int × Int:=fun p c=>(nxM x p.1 c,nxM y p.2 c)
 let Q:Int × Int→Prop:=fun p=>∃ s t:Nat,p=((s:Int),(t:Int))∧s<x.next.length∧t<y.next.length∧clD x s=s∧clD y t=t∧∀ w,isW w→den x (runD x (s:Int) w)=den y (runD y (t:Int) w)
 let a:Int × Int:=(((clD x 0:Nat):Int),((clD y 0:Nat):Int))
 have h0:Q a:=⟨clD x 0,clD y 0,rfl,Zc8 lx,Zc8 ly,(Zbh 0 lx).2,(Zbh 0 ly).2,fun w hw=>by rw[Zgi hx lx hw,Zgi hy ly hw];exact h w hw⟩
 have hv:∀ p c,c<3→Q p→Q (nq p c):=by
  rintro p c hc ⟨s,t,rfl,hs,ht,-,-,hr⟩;obtain⟨h3,h4⟩:=Zbp hx hs hc;obtain⟨h5,h6⟩:=Zbp hy ht hc;refine⟨clD x (nxD x s c),clD y (nxD y t c),by simp[nq,nxM],Zc8 h3,Zc8 h5,(Zbh _ h3).2,(Zbh _ h5).2,fun w hw => ?_⟩;rw[Zgi hx h3 hw,Zgi hy h5 hw];have:=hr (c::w) (Zn3 hc hw)
  rwa [ZaN,ZaN,h4,h6] at this
 have f1:∀ p q,Q p→Q q→p.1=q.1→p=q:=by
  rintro p q ⟨s,t,rfl,hs,ht,-,e1,r1⟩ ⟨s',t',rfl,hs',ht',-,e2,r2⟩ he;simp only[Int.ofNat_inj] at he;subst he;have:=Zll hy ht ht' fun w hw=>(r1 w hw).symm.trans (r2 w hw)
  rw[e1,e2] at this;rw[this]
 have f2:∀ p q,Q p→Q q→p.2=q.2→p=q:=by
  rintro p q ⟨s,t,rfl,hs,ht,e1,-,r1⟩ ⟨s',t',rfl,hs',ht',e2,-,r2⟩ he;simp only[Int.ofNat_inj] at he;subst he;have:=Zll hx hs hs' fun w hw=>(r1 w hw).trans (r2 w hw).symm
  rw[e1,e2] at this;rw[this]
 have m1:=Zc1 (nx:=nq) (nx':=nxM x) (a:=a) (f:=Prod.fst) (Q:=Q) (en:=fun p=>den x p.1) (en':=den x) (K:=K) h0 hv f1 (fun _ _ _ _=>rfl) (fun _ _=>rfl);have m2:=Zc1 (nx:=nq) (nx':=nxM y) (a:=a) (f:=Prod.snd) (Q:=Q) (en:=fun p=>den x p.1) (en':=den y) (K:=K) h0 hv f2 (fun _ _ _ _=>rfl) (fun p hp=>by obtain⟨s,t,rfl,-,-,-,-,r⟩:=hp;exact(r [] Zl0).symm);exact m1.trans m2.symm
theorem Zos {d:DfaD} (hd:fine d):minD (minD d)=minD d:=Zii (Znx hd) hd fun _ hw=>ZlQ hd hw
theorem Znb {d:DfaD} (hd:fine d) (ht:Zbi d=d) (hr:∀ s t:Nat,s<d.next.length→t<d.next.length→(∀ w,isW w→den d (runD d (s:Int) w)=den d (runD d (t:Int) w))→s=t):minD d=d:=by
 have hc:∀ s,s<d.next.length→clD d s=s:=fun s hs=>hr _ _ (Zc8 hs) hs fun w hw=>Zgi hd hs hw
 have h0:0<d.next.length:=hd.1
 have hb:=Zgq (nx:=dnx d) (nx':=nxM d) (a:=(0:Int)) (Q:=fun x=>∃ s:Nat,x=(s:Int)∧s<d.next.length) ⟨0,rfl,h0⟩ (by
  rintro x c hc ⟨s,rfl,hs⟩;obtain⟨h3,h4⟩:=Zbp hd hs hc;exact⟨_,h4,h3⟩) (by
  rintro x c hc' ⟨s,rfl,hs⟩;obtain⟨h3,h4⟩:=Zbp hd hs hc';unfold nxM;rw[Int.toNat_natCast,hc _ h3,h4]) d.next.length
 refine Eq.trans ?_ ht;unfold minD Zbi;rw[hc 0 h0,show((0:Nat):Int)=0 from rfl,← hb];unfold Zar;congr 1;refine List.map_congr_left fun x hx => ?_
 unfold Zaf;refine List.map_congr_left fun c hc' => ?_
 obtain⟨h1,-⟩:=ZcK hd d.next.length;obtain⟨g1,g2⟩:=h1 x hx;obtain⟨s,rfl⟩:=Int.eq_ofNat_of_zero_le g1;obtain⟨h3,h4⟩:=Zbp hd (show s<d.next.length by omega) (List.mem_range.1 hc');unfold nxM;rw[Int.toNat_natCast,hc _ h3,h4]
theorem ZeU {α:Type} [DecidableEq α] {nx:α→Nat→α} {a:α} {en:α→Bool} {K:Nat} (hK:(bat nx a K).met.length≤K) {i:Nat} (hi:i<(bat nx a K).met.length) {w:List Nat} (hw:isW w) :
  den (Zar nx en (bat nx a K).met) (runD (Zar nx en (bat nx a K).met) (i:Int) w)=en (w.foldl nx ((bat nx a K).met.getD i a)):=by
 obtain⟨h1,h2⟩:=Zi4 (en:=en) hK w hw _ (memD (d:=a) hi);rw[Zfm hi (Za5 K).1] at h2;rw[h2,Zjr (Zbr h1)];congr 1;exact List.getElem_idxOf _
theorem Zje {d:DfaD} (hd:fine d) {s t:Nat} (hs:s<(minD d).next.length) (ht:t<(minD d).next.length) (h:∀ w,isW w→den (minD d) (runD (minD d) (s:Int) w)=den (minD d) (runD (minD d) (t:Int) w)):s=t:=by
 have hK:=(Zcd hd d.next.length).2;have hin:=(Zcd hd d.next.length).1;have hl:(minD d).next.length=(bat (nxM d) ((clD d 0:Nat):Int) d.next.length).met.length:=ZaK _ _ _;rw[hl] at hs ht;have h1:=hin _ (memD (d:=((clD d 0:Nat):Int)) hs);have h2:=hin _ (memD (d:=((clD d 0:Nat):Int)) ht);obtain⟨p,hp,hpl,hpc⟩:=h1;obtain⟨q,hq,hql,hqc⟩:=h2
 have key:p=q:=by
  rw[← hpc,← hqc];refine Zll hd hpl hql fun w hw => ?_
  have h3:=h w hw;unfold minD at h3;rw[ZeU hK hs hw,ZeU hK ht hw,hp,hq] at h3;have e:=fun (r:Nat) (hr:r<d.next.length) (hc:clD d r=r)=>Zgc hd w hw hr
  obtain⟨u,hu,u1,u2⟩:=e p hpl hpc;obtain⟨v,hv,v1,v2⟩:=e q hql hqc;rw[hpc] at u1;rw[hqc] at v1;rw[u1,v1,Za8,Za8] at h3;rw[u2,v2,Za8,Za8,← ZcT (Zc8 hu) hu (Zbh u hu).2,h3];exact ZcT (Zc8 hv) hv (Zbh v hv).2
 have e1:=Zfm hs (Za5 (nx:=nxM d) (a:=((clD d 0:Nat):Int)) d.next.length).1 ((clD d 0:Nat):Int);have e2:=Zfm ht (Za5 (nx:=nxM d) (a:=((clD d 0:Nat):Int)) d.next.length).1 ((clD d 0:Nat):Int);rw[hp] at e1;rw[hq,← key] at e2;exact e1.symm.trans e2
theorem Zna {d:DfaD} (hd:fine d):Zbi (minD d)=minD d:=ZmK (Zcd hd _).2
def vl (w:List Nat):Nat:=w.foldl (fun n c=>3*n+c+1) 0
section
variable {α:Type} [DecidableEq α] {nx:α→Nat→α} {a:α}
structure BI (s:Bs α) (B:Nat):Prop where
 len:s.words.length=s.met.length
 inc:∀ i j,i<j→j<s.met.length→vl (s.words.getD i [])<vl (s.words.getD j [])
 bnd:∀ j,j<s.met.length→vl (s.words.getD j [])≤B
omit [DecidableEq α] in
theorem BI.up {s:Bs α} {B B':Nat} (h:BI s B) (hB:B≤B'):BI s B':=⟨h.len,h.inc,fun j hj=>Nat.le_trans (h.bnd j hj) hB⟩
end
def Strs (B:Nat) (w:World) (v:Value) (ws:List (List Nat)):Prop:=Sl B w v ws.length 1 (wdCells ws)
theorem Strs.below {B:Nat} {w w':World} {v:Value} {ws:List (List Nat)} (h:Strs B w v ws) (he:Below w.heap.size w w'):Strs B w' v ws:=Sl.below h he
theorem Strs.form {B:Nat} {w:World} {v:Value} {ws:List (List Nat)} (h:Strs B w v ws):∃ a cap,v = .slice a ws.length cap∧ws.length≤cap∧cap≤9223372036854775807 ∧
  (0<ws.length→∃ b off,a=some ⟨b,off,none⟩∧b<w.heap.size∧∀ j,j<ws.length→w.cell? ⟨b,off+j,none⟩=some (.string (wdB (ws.getD j [])))):=by
 obtain⟨hl,a,cap,hv,h1,h2,h3⟩:=h;refine⟨a,cap,hv,h1,h2,fun hn => ?_⟩;obtain⟨b,off,ha,hb,hlt,hc⟩:=h3 hn;refine⟨b,off,ha,hlt,fun j hj => ?_⟩;rw[hc j (by omega)];simp[hj]
def okWs (ws:List (List Nat)):Prop:=∀ x∈ws,isW x∧x.length≤400000
def LOk (st:List (List Nat)):Prop:=(∀ x∈st,isW x)∧∀ i,i<st.length→(st.getD i []).length≤i
theorem LOk.visit {β:Type} [DecidableEq β] {key:List Nat→β} {s:List (List Nat)} (h:LOk s) {w:List Nat} (hw:isW w) (hl:w.length≤s.length):LOk (kvisit key s w):=by
 unfold kvisit
 split
 ·exact h
 refine⟨fun x hx => ?_,fun i hi => ?_⟩
 ·rcases List.mem_append.1 hx with hx|hx
  ·exact h.1 x hx
  simp only[List.mem_singleton] at hx;rw[hx];exact hw
 simp only[List.length_append,List.length_singleton] at hi;by_cases hin:i<s.length
 ·have:=h.2 i hin;simp only[List.getD_eq_getElem?_getD] at this ⊢;rw[List.getElem?_append_left hin];exact this
 obtain rfl:i=s.length:=by omega
 simpa using hl
theorem LOk.row {β:Type} [DecidableEq β] {key:List Nat→β} {s:List (List Nat)} (h:LOk s) {k:Nat} (hk:k<s.length):∀ n,n≤3→LOk (krow key s (s.getD k []) n)∧s.length≤(krow key s (s.getD k []) n).length
 | 0,_=>⟨h,Nat.le_refl _⟩
 | n+1,hn=>by obtain⟨h1,h2⟩:=h.row (key:=key) hk n (by omega);have h3:=(ZgO (key:=key) (krow key s (s.getD k []) n) (s.getD k []++[n])).length_le;refine⟨h1.visit (ZeG (h.1 _ (memD hk)) (Zjj (by omega))) ?_,Nat.le_trans h2 h3⟩;have:=h.2 k hk;rw[List.length_append,List.length_singleton];omega
theorem LOk.kat {β:Type} [DecidableEq β] {key:List Nat→β} {s:List (List Nat)} (h:LOk s):∀ k,LOk (kat key s k)
 | 0=>h
 | k+1=>by
  have ih:=LOk.kat (key:=key) h k;by_cases hk:k<(Go.Proofs.YtehmjmjedopkkaaGreat.kat key s k).length
  ·rw[Zea hk];exact(ih.row hk 3 (by omega)).1
  rw[Zeb (by omega)];exact ih
theorem LOk.okWs {st:List (List Nat)} (h:LOk st) (hl:st.length≤1000):∀ x∈st,isW x∧x.length≤399999:=fun x hx=>by refine⟨h.1 x hx,?_⟩;obtain⟨i,hi,e⟩:=List.getElem_of_mem hx;have:=h.2 i hi;rw[ZbA hi,e] at this;omega
def hitD (d:DfaD) (g:DfaD):Option (List Nat):=hitP d g
theorem Zl5 (d g:DfaD):hitD d g=hitK Zop d g:=rfl
theorem Zm9:Zop≤1600:=Nat.le_refl _
theorem Ziu {d g:DfaD} {w:List Nat} (h:hitD d g=some w):isW w∧accD d w≠accD g w:=by rw[Zl5] at h;exact Znr h
theorem Zl4 (d:DfaD):Zpj d (hitD d):=fun _ _ _ h=>Ziu h
theorem Zns {K:Nat} {a b:DfaD} {w:List Nat} (h:hitK K a b=some w):w.length≤K:=by have hg:=(Za5 (nx:=ZcB a b) (a:=((0,0):Int × Int)) K).2.1;obtain⟨i,hi,hw,-⟩:=Zei (d:=((0,0):Int × Int)) hg h;rw[← hw];exact Zkn (nx:=ZcB a b) (a:=((0,0):Int × Int)) K _ (memD (by omega))
theorem Znt {d g:DfaD} {w:List Nat} (h:hitD d g=some w):w.length≤1600:=by rw[Zl5] at h;have:=Zns h;have:=Zm9;omega
def preW (d:DfaD):Nat→List (List Nat)
 | 0=>[[]]
 | j+1=>(tabW d (hitD d) j).1
def resW (d:DfaD) (j:Nat):List (List Nat):=(tabW d (hitD d) j).2
def staW (d:DfaD) (j:Nat):List (List Nat):=(tabW d (hitD d) j).1
def gueW (d:DfaD) (j:Nat):DfaD:=gssW d (hitD d) j
theorem ZkG {α:Type} {l m:List α} (h:l <+: m) (hm:m.Nodup):l.Nodup:=by obtain⟨t,rfl⟩:=h;exact(List.nodup_append.1 hm).1
theorem Zly (d:DfaD) (j:Nat) {w:List Nat} (h:hitD d (gueW d j)=some w):resW d (j+1)=resW d j++[w.drop (cutW d (staW d j) (gueW d j) w+1)]:=by show(tabW d (hitD d) j).2++_=_;have h':hitD d (Zav d (tabW d (hitD d) j).1 (tabW d (hitD d) j).2)=some w:=h;simp only[h',Option.getD_some];rfl
structure LTab (d:DfaD) (j:Nat):Prop where
 pre:LOk (preW d j)
 nd:((preW d j).map (rowW d (resW d j))).Nodup
 re:okWs (resW d j)
 rl:(resW d j).length≤j+1
 inv:LInv d (staW d j) (resW d j)
 st:LOk (staW d j)
theorem LTab.at {d:DfaD} (hd:Zai d.next d.ends=true):∀ j,(∀ i,i<j→(hitD d (gueW d i)).isSome=true)→LTab d j
 | 0,hy=>by
  have hinv:=(ZiS hd (Zl4 d) 0 hy).1
  have h0:LOk [[]]:=⟨fun x hx=>by simp at hx;subst hx;intro c hc;simp at hc,fun i hi=>by
   obtain rfl:i=0:=by simpa using hi
   simp⟩
  exact⟨h0,by simp[preW],fun x hx=>by simp[resW,tabW] at hx;subst hx;exact⟨fun c hc=>by simp at hc,by simp⟩,by simp[resW,tabW],hinv,LOk.kat h0 _⟩
 | j+1,hy=>by
  have ih:=LTab.at hd j fun i hi=>hy i (by omega)
  have hinv:=(ZiS hd (Zl4 d) (j+1) hy).1;obtain⟨w,hw⟩:=Option.isSome_iff_exists.1 (hy j (by omega));have hr:=Zly d j hw;have hww:=(Ziu hw).1;have hpre:preW d (j+1) <+: staW d (j+1):=ZhC (key:=rowW d (resW d (j+1))) (s0:=preW d (j+1)) (Nat.zero_le (d.next.length+1));refine⟨ih.st,?_,fun x hx => ?_,?_,hinv,LOk.kat (s:=preW d (j+1)) ih.st _⟩
  ·obtain⟨t,ht⟩:=hpre;have h1:=hinv.nd;refine ZkG (m:=(staW d (j+1)).map (rowW d (resW d (j+1)))) ⟨t.map (rowW d (resW d (j+1))),?_⟩ h1;rw[← List.map_append,ht]
  ·rw[hr] at hx;rcases List.mem_append.1 hx with hx|hx
   ·exact ih.re x hx
   simp only[List.mem_singleton] at hx;subst hx;refine⟨Zj2 hww _,?_⟩;have:=Znt hw;rw[List.length_drop];omega
  rw[hr,List.length_append,List.length_singleton];have:=ih.rl;omega
/-! The guesses in memory. -/
def Ent.sub (X y:Ent):Prop:=(∀ w,X.holds w→y.holds w)∧∀ k,y.foot k→X.foot k
def GMem (X:Ent) (vals:List (Value × Value)) (gs:List DfaD):Prop:=vals.length=gs.length∧∀ i,i<gs.length →
 ∃ a1 c1 a2 c2 vs,vals.getD i (undef,undef)=(.slice a1 (gs.getD i ⟨[],[]⟩).next.length c1,.slice a2 (gs.getD i ⟨[],[]⟩).next.length c2) ∧
  Ent.sub X (Ent.rows 59 3 (.slice a1 (gs.getD i ⟨[],[]⟩).next.length c1) vs ((gs.getD i ⟨[],[]⟩).next.map intCells))∧Ent.sub X (Ent.row 4 1 (.slice a2 (gs.getD i ⟨[],[]⟩).next.length c2) (gs.getD i ⟨[],[]⟩).next.length (boolCells (gs.getD i ⟨[],[]⟩).ends))
theorem GMem.nil (X:Ent):GMem X [] []:=⟨rfl,fun i hi=>absurd hi (by simp)⟩
theorem Tryz.infoDfa:(Tryz.prog.info? 32).map (fun i=>(i.zero,i.size,i.bytes))=some (some (.agg #[.slice none 0 0,.slice none 0 0]),2,48):=by kernel_rfl
theorem GMem.own {w0 w:World} {L:List Ent} (h:St w0 w L) (i:Nat) {X:Ent} (hx:L[i]? = some X) {vals:List (Value × Value)} {gs:List DfaD} (hG:GMem X vals gs) {k:Nat} (hk:k<gs.length) :
  ∃ a1 c1 a2 c2,vals.getD k (undef,undef)=(.slice a1 (gs.getD k ⟨[],[]⟩).next.length c1,.slice a2 (gs.getD k ⟨[],[]⟩).next.length c2)∧(gs.getD k ⟨[],[]⟩).ends.length=(gs.getD k ⟨[],[]⟩).next.length ∧
   DfaO 59 3 4 w0.heap.size w.heap.size w (.agg #[.slice a1 (gs.getD k ⟨[],[]⟩).next.length c1,.slice a2 (gs.getD k ⟨[],[]⟩).next.length c2]) (gs.getD k ⟨[],[]⟩):=by
 obtain⟨a1,c1,a2,c2,vs,e,s1,s2⟩:=hG.2 k hk;have hil:i<L.length:=(List.getElem?_eq_some_iff.1 hx).1;have h1:=h.same i hx _ (s1.1 w) s1.2;have h2:=h.same i hx _ (s2.1 w) s2.2;have g1:=h1.intSS i (by rw[List.getElem?_set,if_pos rfl,if_pos hil]);have g2:=h2.row i (by rw[List.getElem?_set,if_pos rfl,if_pos hil]);have hl:(gs.getD k ⟨[],[]⟩).ends.length=(gs.getD k ⟨[],[]⟩).next.length:=by have:=g2.1;simp at this;simpa using this
 refine⟨a1,c1,a2,c2,e,hl,_,_,rfl,g1,?_⟩;unfold OBools;rw[hl];exact Zac g2
def xb (b x:Bool):Bool:=b != x
def flB (b:Bool) (g:DfaD):DfaD:=⟨g.next,g.ends.map (xb b)⟩
theorem Zjn (b:Bool) (g:DfaD) (s:Int) (w:List Nat):runD (flB b g) s w=runD g s w:=rfl
theorem Zn6 {b:Bool} {g:DfaD} (h:Zai g.next g.ends=true):Zai (flB b g).next (flB b g).ends=true:=by
 have hl:=Zag h;refine Zfp hl.1 hl.2.1 ?_ fun i hi=>ZaP h hi
 show(g.ends.map (xb b)).length=g.next.length;rw[List.length_map];exact hl.2.2
theorem ZoE {b:Bool} {g:DfaD} (h:Zai g.next g.ends=true) {w:List Nat} (hw:isW w):accD (flB b g) w=xb b (accD g w):=by have hl:=Zag h;obtain⟨t,ht,hr⟩:=ZdY (ZaB h) w (s:=0) hw (by omega);have hr:runD g 0 w=(t:Int):=hr;unfold accD;rw[Zjn,hr,Za8,Za8];show(g.ends.map (xb b)).getD t false=xb b (g.ends.getD t false);rw[List.getD_eq_getElem?_getD,List.getElem?_map,List.getD_eq_getElem?_getD,List.getElem?_eq_getElem (show t<g.ends.length by omega)];rfl
section
variable {key key':List Nat→List Bool} {f:List Bool→List Bool}
end
section
variable {b:Bool} {d M:DfaD}
end
def Zil (p:Int × Int):DfaD:=if p.1=1 then ZfS else if p.1=2 then oneD else minD ⟨[[2,2,2].set p.2.toNat 1,[2,2,2],[2,2,2]],[false,true,false]⟩
def oneQ (K:Nat) (k:Int) (a:DfaD):Option DfaD:=if k=8 then(Zfb 81 K (Zct (ZaY a))).map minD else some (flB true a)
def twoQ (K:Nat) (k:Int) (a b:DfaD):Option DfaD :=
 if k=4 then(Zfb 81 K (Zdk (ZaY a) (ZaY b))).map minD else if k=5 then(ZbX K (fun p q=>p||q) a b).map minD else(ZbX K (fun p q=>p&&q) a b).map minD
def Ze2 (K:Nat) (p:Int × Int) (st:List DfaD):Option (List DfaD) :=
 if Zab p=0 then some (Zil p::st)
 else if Zab p=1 then
  match st with
  | a::r=>(oneQ K p.1 a).map (·::r)
  | []=>none
 else
  match st with
  | b::a::r=>(twoQ K p.1 a b).map (·::r)
  | _=>none
def runC (K:Nat):List (Int × Int)→List DfaD→Option (List DfaD)
 | [],st=>some st
 | p::ps,st=>(Ze2 K p st).bind (runC K ps)
theorem ZmL {d:DfaD} (hd:fine d):Zbi (flB true d)=flB true (Zbi d):=by
 have hm:=(ZcK hd d.next.length).1;unfold Zbi Zar flB;show DfaD.mk _ _=DfaD.mk _ _;congr 1;rw[List.map_map];refine List.map_congr_left fun x hx => ?_
 obtain⟨h1,h2⟩:=hm x hx;have h3:=hd.2.2.1;have hlt:x.toNat<d.ends.length:=by omega
 simp[den,hlt]
theorem Zot {d:DfaD} (hd:Zai d.next d.ends=true) (hm:minD d=d):minD (flB true d)=flB true d:=by
 have hf:=ZaB hd;have hF:=ZaB (Zn6 (b:=true) hd);have ht:Zbi d=d:=by have:=Zna hf;rw[hm] at this;exact this
 refine Znb hF (by rw[ZmL hf,ht]) fun s t hs ht' h => ?_
 have hs:s<d.next.length:=hs;have ht':t<d.next.length:=ht';refine Zje hf (by rw[hm];exact hs) (by rw[hm];exact ht') fun w hw => ?_
 rw[hm];obtain⟨a,ha,hra⟩:=ZdY hf w hw hs;obtain⟨b,hb,hrb⟩:=ZdY hf w hw ht';have h1:=h w hw;rw[Zjn,Zjn,hra,hrb,Za8,Za8] at h1;rw[hra,hrb,Za8,Za8]
 have e:∀ i,i<d.next.length→enD (flB true d) i = !enD d i:=fun i hi=>by
  have h3:=(Zag hd).2.2;have hi2:i<d.ends.length:=by omega
  simp[enD,flB,hi2,xb]
 rw[e a ha,e b hb] at h1;simpa using h1
theorem ZhR {K:Nat} (hK:K=40) (t:Ex) {d:DfaD} (h:Zau K t=some d):minD d=d:=by
 have key:∀ {y:DfaD},Zai y.next y.ends=true→ZaE y=d→minD d=d:=fun {y} hy e=>by rw[← e,Zch (ZaB hy)];exact Zos (ZaB hy)
 cases t with
 | zero=>simp only[Zau,Option.some.injEq] at h;exact key Zfh h
 | one=>simp only[Zau,Option.some.injEq] at h;exact key Zhu h
 | ltr c=>simp only[Zau,Option.some.injEq] at h;exact key (ZeF c) h
 | join a b =>simp only[Zau,Option.bind_eq_some_iff,Option.map_eq_some_iff] at h;obtain⟨x,-,y,-,z,hz,e⟩:=h;exact key (Zdq hK hz) e
 | alt a b =>simp only[Zau,Option.bind_eq_some_iff,Option.map_eq_some_iff] at h;obtain⟨x,-,y,-,z,hz,e⟩:=h;exact key (ZbO hK hz) e
 | both a b =>simp only[Zau,Option.bind_eq_some_iff,Option.map_eq_some_iff] at h;obtain⟨x,-,y,-,z,hz,e⟩:=h;exact key (ZbO hK hz) e
 | neg a =>simp only[Zau,Option.map_eq_some_iff] at h;obtain⟨x,hx,e⟩:=h;exact key (Zhy (ZbV hK a hx)) e
 | star a =>simp only[Zau,Option.bind_eq_some_iff,Option.map_eq_some_iff] at h;obtain⟨x,-,z,hz,e⟩:=h;exact key (Zdq hK hz) e
theorem Zd7 {o:Option DfaD} (h:∀ d,o=some d→Zai d.next d.ends=true):o.map ZaE=o.map minD:=by
 cases o with
 | none=>rfl
 | some d=>exact congrArg some (Zch (ZaB (h d rfl)))
theorem ZlL (d:DfaD):negD d=flB true d:=by unfold negD flB;congr 1;exact List.map_congr_left fun x _=>by cases x<;>rfl
theorem ZlU:ZaE ZfS=ZfS:=by decide +kernel
theorem Zni:ZaE oneD=oneD:=by decide +kernel
theorem Zlo {K:Nat} (hK:K=40):∀ (t:Ex) (rest:List (Int × Int)) (st:List DfaD),runC K (t.post++rest) st=(Zau K t).bind fun d=>runC K rest (d::st):=by
 intro t
 induction t with
 | zero =>intro rest st;show(some (ZfS::st)).bind (runC K rest)=_;simp only[Zau,ZlU];rfl
 | one =>intro rest st;show(some (oneD::st)).bind (runC K rest)=_;simp only[Zau,Zni];rfl
 | ltr c =>
  intro rest st;have e:Ze2 K (3,(c.val:Int)) st=some (Zil (3,(c.val:Int))::st):=by unfold Ze2;rw[if_pos (ZbN c)]
  show(Ze2 K (3,(c.val:Int)) st).bind (runC K rest)=_;rw[e];simp only[Zau];rw[Zch (ZaB (ZeF c))];rfl
 | join a b ha hb =>
  intro rest st;show runC K ((a.post++b.post++[(4,0)])++rest) st=_;rw[List.append_assoc,List.append_assoc,ha];simp only[Zau];cases hx:Zau K a with
  | none=>rfl
  | some x =>
   show runC K (b.post++([(4,0)]++rest)) (x::st)=_;rw[hb];show _=((Zau K b).bind fun y=>(detM 81 K (ZdI x y)).map ZaE).bind _;cases hy:Zau K b with
   | none=>rfl
   | some y =>show((twoQ K 4 x y).map (·::st)).bind (runC K rest)=((detM 81 K (ZdI x y)).map ZaE).bind _;rw[show twoQ K 4 x y=(detM 81 K (ZdI x y)).map ZaE by rw[Zd7 fun d hd=>Zdq hK hd,← Zkd,← Zf4];rfl];cases (detM 81 K (ZdI x y)).map ZaE<;>rfl
 | alt a b ha hb =>
  intro rest st;show runC K ((a.post++b.post++[(5,0)])++rest) st=_;rw[List.append_assoc,List.append_assoc,ha];simp only[Zau];cases hx:Zau K a with
  | none=>rfl
  | some x =>
   show runC K (b.post++([(5,0)]++rest)) (x::st)=_;rw[hb];show _=((Zau K b).bind fun y=>(ZbX K (fun p q=>p||q) x y).map ZaE).bind _;cases hy:Zau K b with
   | none=>rfl
   | some y =>show((twoQ K 5 x y).map (·::st)).bind (runC K rest)=((ZbX K (fun p q=>p||q) x y).map ZaE).bind _;rw[show twoQ K 5 x y=(ZbX K (fun p q=>p||q) x y).map ZaE by rw[Zd7 fun d hd=>ZbO hK hd];rfl];cases (ZbX K (fun p q=>p||q) x y).map ZaE<;>rfl
 | both a b ha hb =>
  intro rest st;show runC K ((a.post++b.post++[(6,0)])++rest) st=_;rw[List.append_assoc,List.append_assoc,ha];simp only[Zau];cases hx:Zau K a with
  | none=>rfl
  | some x =>
   show runC K (b.post++([(6,0)]++rest)) (x::st)=_;rw[hb];show _=((Zau K b).bind fun y=>(ZbX K (fun p q=>p&&q) x y).map ZaE).bind _;cases hy:Zau K b with
   | none=>rfl
   | some y =>show((twoQ K 6 x y).map (·::st)).bind (runC K rest)=((ZbX K (fun p q=>p&&q) x y).map ZaE).bind _;rw[show twoQ K 6 x y=(ZbX K (fun p q=>p&&q) x y).map ZaE by rw[Zd7 fun d hd=>ZbO hK hd];rfl];cases (ZbX K (fun p q=>p&&q) x y).map ZaE<;>rfl
 | neg a ha =>
  intro rest st;show runC K ((a.post++[(7,0)])++rest) st=_;rw[List.append_assoc,ha];simp only[Zau];cases hx:Zau K a with
  | none=>rfl
  | some x =>have hok:=ZbV hK a hx;show runC K rest (flB true x::st)=runC K rest (ZaE (negD x)::st);rw[Zch (ZaB (Zhy hok)),ZlL,Zot hok (ZhR hK a hx)]
 | star a ha =>
  intro rest st;show runC K ((a.post++[(8,0)])++rest) st=_;rw[List.append_assoc,ha];simp only[Zau];cases hx:Zau K a with
  | none=>rfl
  | some x =>show((oneQ K 8 x).map (·::st)).bind (runC K rest)=((detM 81 K (Zet x)).map ZaE).bind _;rw[show oneQ K 8 x=(detM 81 K (Zet x)).map ZaE by rw[Zd7 fun d hd=>Zdq hK hd,← Zkd,← Zfx];rfl];cases (detM 81 K (Zet x)).map ZaE<;>rfl
theorem Zky {K:Nat} (hK:K=40) (t:Ex):runC K t.post []=(Zau K t).map fun d=>[d]:=by have h:=Zlo hK t [] [];rw[List.append_nil] at h;rw[h];cases Zau K t<;>rfl
theorem Znj {p:Int × Int} (h:pOk p=true) (hn:Zab p=0):Zai (Zil p).next (Zil p).ends=true:=by
 unfold Zil
 split
 ·exact Zfh
 split
 ·exact Zhu
 rename_i h1 h2
 have h3:p.1=3∧0≤p.2∧p.2≤2:=by
  unfold Zab at hn;rw[if_pos h] at hn;simp only[pOk,inB,Bool.and_eq_true,Bool.or_eq_true,decide_eq_true_eq,Bool.not_eq_true',decide_eq_false_iff_not] at h
  split at hn
  ·omega
  split at hn<;>omega
 obtain⟨c,hc⟩:∃ c:Fin 3,p.2.toNat=c.val:=⟨⟨p.2.toNat,by omega⟩,rfl⟩;rw[hc];have:=ZbM (ZeF c);rw[Zch (ZaB (ZeF c))] at this;exact this
theorem ZlP {d:DfaD} (h:Zai d.next d.ends=true):Zai (minD d).next (minD d).ends=true:=by rw[← Zch (ZaB h)];exact ZbM h
theorem ZjF {l:List Int} {m:Int} (h:∀ j,j<l.length→(0≤l.getD j 0∧l.getD j 0≤m-1)∧(0<j→l.getD (j-1) 0<l.getD j 0)):stOk l m=true:=by
 unfold stOk;rw[List.all_eq_true];intro j hj;obtain⟨h1,h2⟩:=h j (List.mem_range.1 hj);unfold okAt;rw[Bool.and_eq_true,Bool.or_eq_true];refine⟨by simp only[inB,Bool.and_eq_true,decide_eq_true_eq];exact h1,?_⟩;by_cases h0:j=0
 ·exact .inl (decide_eq_true h0)
 exact .inr (decide_eq_true (h2 (by omega)))
theorem Zdu {s t:Nat}:(2 ^ s).testBit t=decide (s=t):=by rw[Nat.testBit_two_pow]
theorem ZdN {d:DfaD}:∀ {k:Nat} {m:Int × Int × Int},m∈mvs d k↔∃ s c:Nat,s<k∧c<3∧m=((s:Int),(c:Int),(d.next.getD s []).getD c 0)
 | 0,m=>by simp[mvs]
 | k+1,m=>by
  rw[show mvs d (k+1)=mvs d k++rowM d k from rfl,List.mem_append,ZdN];constructor
  ·rintro(⟨s,c,h1,h2,h3⟩|h)
   ·exact⟨s,c,by omega,h2,h3⟩
   obtain⟨c,hc,rfl⟩:=List.mem_map.1 h;exact⟨k,c,by omega,List.mem_range.1 hc,rfl⟩
  rintro⟨s,c,h1,h2,h3⟩;by_cases h:s=k
  ·subst h;exact .inr (List.mem_map.2 ⟨c,List.mem_range.2 h2,h3.symm⟩)
  exact .inl ⟨s,c,by omega,h2,h3⟩
theorem Zcw {d:DfaD} (k u:Nat):ZbI (mvs d k) u:=by intro m hm he;obtain⟨s,c,-,-,rfl⟩:=ZdN.1 hm;simp only at he;omega
theorem ZmE {a b:Nat} (h:∀ t,a.testBit t=true↔b.testBit t=true):a=b:=by apply Nat.eq_of_testBit_eq;intro t;rw[Bool.eq_iff_iff];exact h t
theorem Zod {d:DfaD} (hd:Zai d.next d.ends=true) {s c:Nat} (hs:s<d.next.length) (hc:c<3):∃ q:Nat,q<d.next.length∧stV 40 (mvs d d.next.length) (2 ^ s) (c:Int)=2 ^ q:=by
 have hr:=(ZaP hd hs).2 c hc;obtain⟨q,hq⟩:=Int.eq_ofNat_of_zero_le hr.1;refine⟨q,by omega,?_⟩;unfold stV;rw[Zfq (Zcw _ _)];apply ZmE;intro t;rw[ZbD,Zdu,decide_eq_true_eq];constructor
 ·rintro(h|⟨m,hm,h1,h2,h3⟩)
  ·simp at h
  obtain⟨s',c',h4,h5,rfl⟩:=ZdN.1 hm;rw[Zdu,decide_eq_true_eq] at h2;simp only[Int.toNat_natCast] at h2;subst h2;have:c'=c:=by simp only at h1;omega
  subst this;simp only[hq] at h3;omega
 rintro rfl;right;refine⟨_,ZdN.2 ⟨s,c,hs,hc,rfl⟩,rfl,?_,?_⟩
 ·rw[Zdu];simp
 simp only[hq];omega
theorem Zou {d:DfaD} (hd:Zai d.next d.ends=true) (K:Nat):(metS (ZaY d) K).length≤d.next.length:=by
 have hl:=Zag hd;have hf:fstV (ZaY d)=2 ^ 0:=by unfold fstV;rw[show(ZaY d).moves=mvs d d.next.length from rfl,Zfq (Zcw _ _)];rfl
 have hall:∀ x∈metS (ZaY d) K,∃ s:Nat,s<d.next.length∧x=(((2 ^ s:Nat):Int),0):=by refine ZbJ (Q:=fun x=>∃ s:Nat,s<d.next.length∧x=(((2 ^ s:Nat):Int),0)) ⟨0,by omega,by rw[hf]⟩ ?_ K;rintro x c hc ⟨s,hs,rfl⟩;obtain⟨q,hq,h⟩:=Zod hd hs hc;refine⟨q,hq,?_⟩;unfold nxS;rw[show(ZaY d).moves=mvs d d.next.length from rfl];simp only[Int.toNat_natCast];rw[h]
 have:=Zdw (Za5 (nx:=nxS (ZaY d)) (a:=(((fstV (ZaY d):Nat):Int),0)) K).1 (m:=(List.range d.next.length).map fun s=>(((2 ^ s:Nat):Int),(0:Int))) fun x hx=>by obtain⟨s,hs,rfl⟩:=hall x hx;exact List.mem_map.2 ⟨s,List.mem_range.2 hs,rfl⟩
 simpa using this
theorem ZhN (d:DfaD):∀ k,(eds d k).Pairwise (·<·)
 | 0=>List.Pairwise.nil
 | k+1=>by
  unfold eds
  split
  ·rw[List.pairwise_append];refine⟨ZhN d k,List.pairwise_singleton _ _,fun x hx y hy => ?_⟩;rw[List.mem_singleton.1 hy];exact(Zgg d k x hx).2
  exact ZhN d k
theorem Zd3 {d:DfaD} (hd:Zai d.next d.ends=true):Zhw (ZaY d)=true:=by
 have hl:=Zag hd;unfold Zhw;simp only[Bool.and_eq_true,decide_eq_true_eq];refine⟨⟨⟨⟨?_,?_⟩,?_⟩,?_⟩,?_⟩
 ·show inB (d.next.length:Int) 0 40=true;simp only[inB,Bool.and_eq_true,decide_eq_true_eq];exact⟨by omega,by omega⟩
 ·show(mvs d d.next.length).length≤400;rw[ZdO];omega
 ·refine ZjF fun j hj => ?_
  have hj:j<1:=hj;obtain rfl:j=0:=by omega
  refine⟨?_,fun h=>by omega⟩;simp only[ZaY,List.getD_cons_zero];omega
 ·refine ZjF fun j hj => ?_
  have hj:j<(eds d d.next.length).length:=hj;have h1:=Zgg d _ _ (memD (d:=(0:Int)) hj);refine⟨?_,fun h => ?_⟩
  ·show 0≤(eds d d.next.length).getD j 0∧(eds d d.next.length).getD j 0≤(d.next.length:Int)-1;omega
  have:=List.pairwise_iff_getElem.1 (ZhN d d.next.length) (j-1) j (by omega) hj (by omega);show(eds d d.next.length).getD (j-1) 0<(eds d d.next.length).getD j 0;rw[ZbA (by omega),ZbA hj];exact this
 rw[List.all_eq_true];intro m hm;obtain⟨s,c,h1,h2,rfl⟩:=ZdN.1 (show m∈mvs d d.next.length from hm);have hr:=(ZaP hd h1).2 c h2;show mvOk (d.next.length:Int) _=true;simp only[mvOk,inB,Bool.and_eq_true,decide_eq_true_eq];exact⟨⟨⟨by omega,by omega⟩,by omega,by omega⟩,by omega,by omega⟩
end Go.Proofs.YtehmjmjedopkkaaGreat
namespace Go.Proofs.YtehmjmjedopkkaaGreat
open Go.RowKit
theorem Zpa {d:DfaD} (hd:Zai d.next d.ends=true) {s c:Nat} (hs:s<d.next.length) (hc:c<3):stV 40 (mvs d d.next.length) (2 ^ s) (c:Int)=2 ^ nxD d s c:=by
 have hr:=(ZaP hd hs).2 c hc;unfold stV;rw[Zfq (Zcw _ _)];apply ZmE;intro t;rw[ZbD,Zdu,decide_eq_true_eq];constructor
 ·rintro(h|⟨m,hm,h1,h2,h3⟩)
  ·simp at h
  obtain⟨s',c',h4,h5,rfl⟩:=ZdN.1 hm;rw[Zdu,decide_eq_true_eq] at h2;simp only[Int.toNat_natCast] at h2;subst h2;have:c'=c:=by simp only at h1;omega
  subst this;exact h3
 rintro rfl;right;refine⟨_,ZdN.2 ⟨s,c,hs,hc,rfl⟩,rfl,?_,rfl⟩;rw[Zdu];simp
theorem Zmd (d:DfaD):fstV (ZaY d)=2 ^ 0:=by unfold fstV;rw[show(ZaY d).moves=mvs d d.next.length from rfl,Zfq (Zcw _ _)];rfl
theorem Zjp {d:DfaD}:∀ {k:Nat} {x:Int},x∈eds d k↔∃ s:Nat,x=(s:Int)∧s<k∧enD d s=true
 | 0,x=>by simp[eds]
 | k+1,x=>by
  have ih:=Zjp (d:=d) (k:=k) (x:=x);unfold eds;by_cases h:d.ends.getD k false=true
  ·rw[if_pos h,List.mem_append,ih,List.mem_singleton];constructor
   ·rintro(⟨s,h1,h2,h3⟩|rfl)
    ·exact⟨s,h1,by omega,h3⟩
    exact⟨k,rfl,by omega,h⟩
   rintro⟨s,h1,h2,h3⟩;by_cases hk:s=k
   ·subst hk;exact .inr h1
   exact .inl ⟨s,h1,by omega,h3⟩
  rw[if_neg h,ih];constructor
  ·rintro⟨s,h1,h2,h3⟩;exact⟨s,h1,by omega,h3⟩
  rintro⟨s,h1,h2,h3⟩;by_cases hk:s=k
  ·subst hk;exact absurd h3 h
  exact⟨s,h1,by omega,h3⟩
theorem Zmj {d:DfaD} (hd:Zai d.next d.ends=true) {K:Nat} (hK:d.next.length≤K):detK K (ZaY d)=some (Zbi d):=by
 have hl:=Zag hd;have hf:=ZaB hd;unfold detK;rw[if_pos ⟨Zd3 hd,Nat.le_trans (Zou hd K) hK⟩];congr 1
 let f:Int→Int × Int:=fun x=>(((2 ^ x.toNat:Nat):Int),0)
 let Q:Int→Prop:=fun x=>∃ s:Nat,x=(s:Int)∧s<d.next.length
 have hm:=Zc1 (nx:=dnx d) (nx':=nxS (ZaY d)) (a:=(0:Int)) (f:=f) (Q:=Q) (en:=den d) (en':=enS (ZaY d)) (K:=K) ⟨0,rfl,by omega⟩ (by
  rintro x c hc ⟨s,rfl,hs⟩;obtain⟨h3,h4⟩:=Zbp hf hs hc;exact⟨_,h4,h3⟩) (by
  rintro x y ⟨s,rfl,hs⟩ ⟨t,rfl,ht⟩ h;have h1:((2 ^ s:Nat):Int)=((2 ^ t:Nat):Int):=congrArg Prod.fst h;have:s=t:=(Nat.pow_right_inj (show 1<2 by omega)).1 (Int.ofNat_inj.1 h1);rw[this]) (by
  rintro x c hc ⟨s,rfl,hs⟩;obtain⟨h3,h4⟩:=Zbp hf hs hc;simp only[f,h4,nxS,Int.toNat_natCast];rw[show(ZaY d).moves=mvs d d.next.length from rfl,Zpa hd hs hc]) (by
  rintro x ⟨s,rfl,hs⟩;rw[Za8];simp only[f,enS,Int.toNat_natCast];unfold endV;rw[show(ZaY d).ends=eds d d.next.length from rfl,Bool.eq_iff_iff,List.any_eq_true];constructor
  ·rintro⟨x,hx,hb⟩;obtain⟨t,rfl,ht,he⟩:=Zjp.1 hx;rw[Zdu,decide_eq_true_eq] at hb;simp only[Int.toNat_natCast] at hb;rw[hb];exact he
  intro he;refine⟨(s:Int),Zjp.2 ⟨s,rfl,hs,he⟩,?_⟩;rw[Zdu];simp)
 have h0:f 0=((((fstV (ZaY d):Nat):Int),0):Int × Int):=by rw[Zmd];rfl
 rw[h0] at hm;refine hm.trans ?_;unfold Zbi;rw[Zca (ZcK hf _).2 hK]
theorem ZlK {d:DfaD} (hd:Zai d.next d.ends=true) {w:List Nat} (hw:isW w):accS (ZaY d) w=accD d w:=by rw[← ZnP (Zmj hd (Nat.le_refl _)) hw,ZmM (ZaB hd) hw]
end Go.Proofs.YtehmjmjedopkkaaGreat
