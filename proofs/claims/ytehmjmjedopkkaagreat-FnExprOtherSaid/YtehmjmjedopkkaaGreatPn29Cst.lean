/-
  The walks over the program's CheckPairs and over the function behind it.
  Conditions: the arguments read as automata and as a list of pairs; for the function behind it, the automata are valid.
-/
import Derived.Test.YtehmjmjedopkkaaGreatPn27Wpl
import Derived.Test.YtehmjmjedopkkaaGreatPn28L16
namespace Go.Proofs.YtehmjmjedopkkaaGreat
open Go.RowKit Go.Maps
theorem ZnA (w:World):(zeroValue 4).run Tryz.prog w = .ok (.bool false) w:=by kernel_rfl
end Go.Proofs.YtehmjmjedopkkaaGreat
namespace Go.Proofs.YtehmjmjedopkkaaGreat
open Go.RowKit
section
variable {α:Type} [DecidableEq α] {nx:α→Nat→α} {a:α} {en:α→Bool} {K:Nat}
theorem Zk3 {F:List α} {x:α} (h:x∈F) (d:α):F.getD (Zai F x) d=x:=by have h1:=ZaN h;rw[Za4 h1];exact List.getElem_idxOf h1
theorem Zjp (hK:(bat nx a K).met.length≤K):∀ (w:List Nat),isW w→∀ x∈(bat nx a K).met,w.foldl nx x∈(bat nx a K).met∧runD (Zat nx en (bat nx a K).met) (Zai (bat nx a K).met x:Nat) w=(Zai (bat nx a K).met (w.foldl nx x):Nat)
 | [],_,x,hx=>⟨hx,rfl⟩
 | c::w,hw,x,hx=>by have hc:c<3:=hw c (by simp);have hx2:=ZdA hK hx hc;have h1:=ZaN hx;obtain⟨h2,h3⟩:=Zjp hK w (fun b hb=>hw b (by simp[hb])) (nx x c) hx2;refine⟨h2,?_⟩;unfold runD at *;rw[List.foldl_cons,List.foldl_cons,← h3,ZjP (a:=a) (by omega) (by omega) hc];unfold ZbB;rw[Int.toNat_natCast,Zk3 hx]
theorem Zeo (hK:(bat nx a K).met.length≤K) {w:List Nat} (hw:isW w):accD (Zat nx en (bat nx a K).met) w=en (w.foldl nx a):=by
 have h0:=Zh7 (nx:=nx) (a:=a) K;obtain⟨h1,h2⟩:=Zjp (en:=en) hK w hw a h0;have h3:Zai (bat nx a K).met a=0:=by have hp:=Zdq (nx:=nx) (a:=a) K;have hf:=Zgp (nx:=nx) (a:=a) K;have hn:=(Zbd (nx:=nx) (a:=a) K).1;rw[Za4 hp] at hf;have:=List.Nodup.idxOf_getElem hn 0 hp;rw[hf] at this;exact this
 rw[h3] at h2;unfold accD;rw[show((0:Nat):Int)=0 from rfl] at h2;rw[h2,ZjQ (ZaN h1)];congr 1;exact List.getElem_idxOf _
end
theorem Zdt (d:DfaD) (s:Int):runD d s []=s:=rfl
theorem ZaJ (d:DfaD) (s:Int) (c:Nat) (w:List Nat):runD d s (c::w)=runD d (dnx d s c) w:=rfl
theorem Zj6 (d:DfaD) (s:Int) (u w:List Nat):runD d s (u++w)=runD d (runD d s u) w:=by simp[runD]
theorem ZbQ {c:Nat} {w:List Nat} (h:isW (c::w)):c<3∧isW w:=⟨h c (by simp),fun b hb=>h b (by simp[hb])⟩
theorem ZjL:isW []:=fun c hc=>by simp at hc
theorem ZoF {c:Nat} {w:List Nat} (hc:c<3) (h:isW w):isW (c::w):=fun b hb=>by
 rcases List.mem_cons.1 hb with rfl|hb
 ·exact hc
 exact h b hb
theorem Zbu {d:DfaD} (hd:fine d) {s c:Nat} (hs:s<d.next.length) (hc:c<3):nxD d s c<d.next.length∧dnx d (s:Int) c=((nxD d s c:Nat):Int):=ZbI hd hs hc
theorem Zdu {d:DfaD} (hd:fine d):∀ (w:List Nat) {s:Nat},isW w→s<d.next.length→∃ t:Nat,t<d.next.length∧runD d (s:Int) w=(t:Int)
 | [],s,_,hs=>⟨s,hs,rfl⟩
 | c::w,s,hw,hs=>by obtain⟨h1,h2⟩:=ZbQ hw;obtain⟨h3,h4⟩:=Zbu hd hs h1;rw[ZaJ,h4];exact Zdu hd w h2 h3
theorem Za0 (d:DfaD) (s:Nat):den d (s:Int)=enD d s:=by simp[den,enD]
theorem ZoI {d:DfaD} (hd:fine d):∀ (w:List Nat) {s t:Nat},isW w→s<d.next.length→t<d.next.length→clD d s=clD d t→den d (runD d (s:Int) w)=den d (runD d (t:Int) w)
 | [],s,t,_,hs,ht,h=>by rw[Zdt,Zdt,Za0,Za0];exact ZcN hs ht h
 | c::w,s,t,hw,hs,ht,h=>by obtain⟨h1,h2⟩:=ZbQ hw;obtain⟨h3,h4⟩:=Zbu hd hs h1;obtain⟨h5,h6⟩:=Zbu hd ht h1;rw[ZaJ,ZaJ,h4,h6];exact ZoI hd w h2 h3 h5 (Zh2 (fun s c hs hc=>(Zbu hd hs hc).1) hs ht h c h1)
theorem Zhp {d:DfaD} (hd:fine d):∀ (i:Nat) {s t:Nat},s<d.next.length→t<d.next.length→(∀ w,isW w→den d (runD d (s:Int) w)=den d (runD d (t:Int) w))→clAt d.next.length (nxD d) (enD d) i s=clAt d.next.length (nxD d) (enD d) i t
 | 0,s,t,hs,ht,h=>by
  refine(Zg8 hs ht).2 ?_;have:=h [] ZjL
  rwa [Zdt,Zdt,Za0,Za0] at this
 | i+1,s,t,hs,ht,h=>by
  refine(Zbz hs ht).2 ((Zax _).2 ⟨Zhp hd i hs ht h,fun c hc => ?_⟩);obtain⟨h3,h4⟩:=Zbu hd hs hc;obtain⟨h5,h6⟩:=Zbu hd ht hc;refine Zhp hd i h3 h5 fun w hw => ?_
  have:=h (c::w) (ZoF hc hw)
  rwa [ZaJ,ZaJ,h4,h6] at this
theorem ZlZ {d:DfaD} (hd:fine d) {s t:Nat} (hs:s<d.next.length) (ht:t<d.next.length) (h:∀ w,isW w→den d (runD d (s:Int) w)=den d (runD d (t:Int) w)):clD d s=clD d t:=Zhp hd _ hs ht h
theorem Zc6 {d:DfaD} {s:Nat} (hs:s<d.next.length):clD d s<d.next.length:=by have:=(Zbe (d:=d) s hs).1;omega
theorem Zgj {d:DfaD} (hd:fine d) {s:Nat} (hs:s<d.next.length) {w:List Nat} (hw:isW w):den d (runD d ((clD d s:Nat):Int) w)=den d (runD d (s:Int) w) :=
 ZoI hd w hw (Zc6 hs) hs (Zbe s hs).2
theorem Zca {d:DfaD} (hf:fine d) (K:Nat):(∀ x∈(bat (nxM d) ((clD d 0:Nat):Int) K).met,∃ s:Nat,x=(s:Int)∧s<d.next.length∧clD d s=s)∧(bat (nxM d) ((clD d 0:Nat):Int) K).met.length≤d.next.length:=by
 have hl:1≤d.next.length:=hf.1
 have h1:∀ x∈(bat (nxM d) ((clD d 0:Nat):Int) K).met,∃ s:Nat,x=(s:Int)∧s<d.next.length∧clD d s=s:=by
  refine ZbN (Q:=fun x=>∃ s:Nat,x=(s:Int)∧s<d.next.length∧clD d s=s) ?_ (fun x c hc hx => ?_) K
  ·exact⟨clD d 0,rfl,Zc6 (by omega),(Zbe 0 (by omega)).2⟩
  obtain⟨s,rfl,hs,-⟩:=hx;have h2:=(ZbI hf hs hc).1;exact⟨clD d (nxD d s c),by simp[nxM],Zc6 h2,(Zbe _ h2).2⟩
 refine⟨h1,?_⟩;have h2:=Zdw (Zbd (nx:=nxM d) (a:=((clD d 0:Nat):Int)) K).1 (m:=ZaW d.next.length) (fun x hx=>by obtain⟨s,rfl,hs,-⟩:=h1 x hx;rw[Zcb];exact hs);rw[Zb8] at h2;exact h2
theorem Zmv {d:DfaD} (hd:fine d) {K:Nat} (hK:d.next.length≤K):minD d=Zat (nxM d) (den d) (bat (nxM d) ((clD d 0:Nat):Int) K).met:=by unfold minD;rw[Zbr (Zca hd _).2 hK]
theorem ZhT {d:DfaD} (hd:fine d):fine (minD d):=Zfl (Zca hd _).2 hd.2.1
theorem Zgc {d:DfaD} (hd:fine d):∀ (w:List Nat) {s:Nat},isW w→s<d.next.length→∃ t:Nat,t<d.next.length∧w.foldl (nxM d) ((clD d s:Nat):Int)=((clD d t:Nat):Int)∧runD d (s:Int) w=(t:Int)
 | [],s,_,hs=>⟨s,hs,rfl,rfl⟩
 | c::w,s,hw,hs=>by
  obtain⟨h1,h2⟩:=ZbQ hw;obtain⟨h3,h4⟩:=Zbu hd hs h1;obtain⟨t,ht,e1,e2⟩:=Zgc hd w h2 h3;refine⟨t,ht,?_,by rw[ZaJ,h4];exact e2⟩;have e3:nxM d ((clD d s:Nat):Int) c=((clD d (nxD d s c):Nat):Int):=by unfold nxM;rw[Int.toNat_natCast];congr 1;exact Zh2 (fun s c hs hc=>(Zbu hd hs hc).1) (Zc6 hs) hs (Zbe s hs).2 c h1
  rw[List.foldl_cons,e3];exact e1
theorem Zhz {d:DfaD} (hd:fine d) {w:List Nat} (hw:isW w):accD (minD d) w=accD d w:=by unfold minD;rw[Zeo (Zca hd _).2 hw];obtain⟨t,ht,e1,e2⟩:=Zgc hd w hw (show 0<d.next.length from hd.1);rw[e1,Za0];unfold accD;rw[show(0:Int)=((0:Nat):Int) from rfl,e2,Za0];exact ZcN (Zc6 ht) ht (Zbe t ht).2
theorem ZnG {d:DfaD} (hd:fine d) {w:List Nat} (hw:isW w):accD (ZaY d) w=accD d w:=by unfold ZaY;rw[Zeo (Zbi hd _).2 hw];rfl
theorem Ziw {x y:DfaD} (hx:fine x) (hy:fine y) (h:∀ w,isW w→accD x w=accD y w):minD x=minD y:=by
 obtain⟨K,hK⟩:=eI (x.next.length+y.next.length);rw[Zmv hx (show x.next.length≤K by omega),Zmv hy (show y.next.length≤K by omega)];have lx:0<x.next.length:=hx.1;have ly:0<y.next.length:=hy.1
 let nq:Int × Int→Nat→Int × Int:=fun p c=>(nxM x p.1 c,nxM y p.2 c)
 let Q:Int × Int→Prop:=fun p=>∃ s t:Nat,p=((s:Int),(t:Int))∧s<x.next.length∧t<y.next.length∧clD x s=s∧clD y t=t∧∀ w,isW w→den x (runD x (s:Int) w)=den y (runD y (t:Int) w)
 let a:Int × Int:=(((clD x 0:Nat):Int),((clD y 0:Nat):Int))
 have h0:Q a:=⟨clD x 0,clD y 0,rfl,Zc6 lx,Zc6 ly,(Zbe 0 lx).2,(Zbe 0 ly).2,fun w hw=>by rw[Zgj hx lx hw,Zgj hy ly hw];exact h w hw⟩
 have hv:∀ p c,c<3→Q p→Q (nq p c):=by
  rintro p c hc ⟨s,t,rfl,hs,ht,-,-,hr⟩;obtain⟨h3,h4⟩:=Zbu hx hs hc;obtain⟨h5,h6⟩:=Zbu hy ht hc;refine⟨clD x (nxD x s c),clD y (nxD y t c),by simp[nq,nxM],Zc6 h3,Zc6 h5,(Zbe _ h3).2,(Zbe _ h5).2,fun w hw => ?_⟩;rw[Zgj hx h3 hw,Zgj hy h5 hw];have:=hr (c::w) (ZoF hc hw)
  rwa [ZaJ,ZaJ,h4,h6] at this
 have f1:∀ p q,Q p→Q q→p.1=q.1→p=q:=by
  rintro p q ⟨s,t,rfl,hs,ht,-,e1,r1⟩ ⟨s',t',rfl,hs',ht',-,e2,r2⟩ he;simp only[Int.ofNat_inj] at he;subst he;have:=ZlZ hy ht ht' fun w hw=>(r1 w hw).symm.trans (r2 w hw)
  rw[e1,e2] at this;rw[this]
 have f2:∀ p q,Q p→Q q→p.2=q.2→p=q:=by
  rintro p q ⟨s,t,rfl,hs,ht,e1,-,r1⟩ ⟨s',t',rfl,hs',ht',e2,-,r2⟩ he;simp only[Int.ofNat_inj] at he;subst he;have:=ZlZ hx hs hs' fun w hw=>(r1 w hw).trans (r2 w hw).symm
  rw[e1,e2] at this;rw[this]
 have m1:=ZcZ (nx:=nq) (nx':=nxM x) (a:=a) (f:=Prod.fst) (Q:=Q) (en:=fun p=>den x p.1) (en':=den x) (K:=K) h0 hv f1 (fun _ _ _ _=>rfl) (fun _ _=>rfl);have m2:=ZcZ (nx:=nq) (nx':=nxM y) (a:=a) (f:=Prod.snd) (Q:=Q) (en:=fun p=>den x p.1) (en':=den y) (K:=K) h0 hv f2 (fun _ _ _ _=>rfl) (fun p hp=>by obtain⟨s,t,rfl,-,-,-,-,r⟩:=hp;exact(r [] ZjL).symm);exact m1.trans m2.symm
theorem Zmu {d:DfaD} (hd:fine d):minD (minD d)=minD d:=Ziw (ZhT hd) hd fun _ hw=>Zhz hd hw
theorem ZnT {d:DfaD} (hd:fine d) (ht:ZaY d=d) (hr:∀ s t:Nat,s<d.next.length→t<d.next.length→(∀ w,isW w→den d (runD d (s:Int) w)=den d (runD d (t:Int) w))→s=t):minD d=d:=by
 have hc:∀ s,s<d.next.length→clD d s=s:=fun s hs=>hr _ _ (Zc6 hs) hs fun w hw=>Zgj hd hs hw
 have h0:0<d.next.length:=hd.1
 have hb:=Zgq (nx:=dnx d) (nx':=nxM d) (a:=(0:Int)) (Q:=fun x=>∃ s:Nat,x=(s:Int)∧s<d.next.length) ⟨0,rfl,h0⟩ (by
  rintro x c hc ⟨s,rfl,hs⟩;obtain⟨h3,h4⟩:=Zbu hd hs hc;exact⟨_,h4,h3⟩) (by
  rintro x c hc' ⟨s,rfl,hs⟩;obtain⟨h3,h4⟩:=Zbu hd hs hc';unfold nxM;rw[Int.toNat_natCast,hc _ h3,h4]) d.next.length
 refine Eq.trans ?_ ht;unfold minD ZaY;rw[hc 0 h0,show((0:Nat):Int)=0 from rfl,← hb];unfold Zat;congr 1;refine List.map_congr_left fun x hx => ?_
 unfold Zae;refine List.map_congr_left fun c hc' => ?_
 obtain⟨h1,-⟩:=Zbi hd d.next.length;obtain⟨g1,g2⟩:=h1 x hx;obtain⟨s,rfl⟩:=Int.eq_ofNat_of_zero_le g1;obtain⟨h3,h4⟩:=Zbu hd (show s<d.next.length by omega) (List.mem_range.1 hc');unfold nxM;rw[Int.toNat_natCast,hc _ h3,h4]
theorem ZeQ {α:Type} [DecidableEq α] {nx:α→Nat→α} {a:α} {en:α→Bool} {K:Nat} (hK:(bat nx a K).met.length≤K) {i:Nat} (hi:i<(bat nx a K).met.length) {w:List Nat} (hw:isW w) :
  den (Zat nx en (bat nx a K).met) (runD (Zat nx en (bat nx a K).met) (i:Int) w)=en (w.foldl nx ((bat nx a K).met.getD i a)):=by
 obtain⟨h1,h2⟩:=Zjp (en:=en) hK w hw _ (memD (d:=a) hi);rw[Zd6 hi (Zbd K).1] at h2;rw[h2,ZjQ (ZaN h1)];congr 1;exact List.getElem_idxOf _
theorem ZjC {d:DfaD} (hd:fine d) {s t:Nat} (hs:s<(minD d).next.length) (ht:t<(minD d).next.length) (h:∀ w,isW w→den (minD d) (runD (minD d) (s:Int) w)=den (minD d) (runD (minD d) (t:Int) w)):s=t:=by
 have hK:=(Zca hd d.next.length).2;have hin:=(Zca hd d.next.length).1;have hl:(minD d).next.length=(bat (nxM d) ((clD d 0:Nat):Int) d.next.length).met.length:=ZaO _ _ _;rw[hl] at hs ht;have h1:=hin _ (memD (d:=((clD d 0:Nat):Int)) hs);have h2:=hin _ (memD (d:=((clD d 0:Nat):Int)) ht);obtain⟨p,hp,hpl,hpc⟩:=h1;obtain⟨q,hq,hql,hqc⟩:=h2
 have key:p=q:=by
  rw[← hpc,← hqc];refine ZlZ hd hpl hql fun w hw => ?_
  have h3:=h w hw;unfold minD at h3;rw[ZeQ hK hs hw,ZeQ hK ht hw,hp,hq] at h3;have e:=fun (r:Nat) (hr:r<d.next.length) (hc:clD d r=r)=>Zgc hd w hw hr
  obtain⟨u,hu,u1,u2⟩:=e p hpl hpc;obtain⟨v,hv,v1,v2⟩:=e q hql hqc;rw[hpc] at u1;rw[hqc] at v1;rw[u1,v1,Za0,Za0] at h3;rw[u2,v2,Za0,Za0,← ZcN (Zc6 hu) hu (Zbe u hu).2,h3];exact ZcN (Zc6 hv) hv (Zbe v hv).2
 have e1:=Zd6 hs (Zbd (nx:=nxM d) (a:=((clD d 0:Nat):Int)) d.next.length).1 ((clD d 0:Nat):Int);have e2:=Zd6 ht (Zbd (nx:=nxM d) (a:=((clD d 0:Nat):Int)) d.next.length).1 ((clD d 0:Nat):Int);rw[hp] at e1;rw[hq,← key] at e2;exact e1.symm.trans e2
theorem ZnS {d:DfaD} (hd:fine d):ZaY (minD d)=minD d:=ZnE (Zca hd _).2
def vl (w:List Nat):Nat:=w.foldl (fun n c=>3*n+c+1) 0
section
variable {α:Type} [DecidableEq α] {nx:α→Nat→α} {a:α}
structure BI (s:Bs α) (B:Nat):Prop where
 len:s.words.length=s.met.length
 inc:∀ i j,i<j→j<s.met.length→vl (s.words.getD i [])<vl (s.words.getD j [])
 bnd:∀ j,j<s.met.length→vl (s.words.getD j [])≤B
omit [DecidableEq α] in
theorem BI.up {s:Bs α} {B B':Nat} (h:BI s B) (hB:B≤B'):BI s B':=⟨h.len,h.inc,fun j hj=>Nat.le_trans (h.bnd j hj) hB⟩
end
def Strs (B:Nat) (w:World) (v:Value) (ws:List (List Nat)):Prop:=Sl B w v ws.length 1 (wdCells ws)
theorem Strs.below {B:Nat} {w w':World} {v:Value} {ws:List (List Nat)} (h:Strs B w v ws) (he:Below w.heap.size w w'):Strs B w' v ws:=Sl.below h he
theorem Strs.form {B:Nat} {w:World} {v:Value} {ws:List (List Nat)} (h:Strs B w v ws):∃ a cap,v = .slice a ws.length cap∧ws.length≤cap∧cap≤9223372036854775807 ∧
  (0<ws.length→∃ b off,a=some ⟨b,off,none⟩∧b<w.heap.size∧∀ j,j<ws.length→w.cell? ⟨b,off+j,none⟩=some (.string (wdB (ws.getD j [])))):=by
 obtain⟨hl,a,cap,hv,h1,h2,h3⟩:=h;refine⟨a,cap,hv,h1,h2,fun hn => ?_⟩;obtain⟨b,off,ha,hb,hlt,hc⟩:=h3 hn;refine⟨b,off,ha,hlt,fun j hj => ?_⟩;rw[hc j (by omega)];simp[hj]
def okWs (ws:List (List Nat)):Prop:=∀ x∈ws,isW x∧x.length≤400000
theorem one_sl {a:Option Addr} {l c:Nat}:∀ u∈[Value.slice a l c],u.oneCell'=true:=by intro u hu;simp only[List.mem_singleton] at hu;subst hu;rfl
def LOk (st:List (List Nat)):Prop:=(∀ x∈st,isW x)∧∀ i,i<st.length→(st.getD i []).length≤i
theorem LOk.visit {β:Type} [DecidableEq β] {key:List Nat→β} {s:List (List Nat)} (h:LOk s) {w:List Nat} (hw:isW w) (hl:w.length≤s.length):LOk (kvisit key s w):=by
 unfold kvisit
 split
 ·exact h
 refine⟨fun x hx => ?_,fun i hi => ?_⟩
 ·rcases List.mem_append.1 hx with hx|hx
  ·exact h.1 x hx
  simp only[List.mem_singleton] at hx;rw[hx];exact hw
 simp only[List.length_append,List.length_singleton] at hi;by_cases hin:i<s.length
 ·have:=h.2 i hin;simp only[List.getD_eq_getElem?_getD] at this ⊢;rw[List.getElem?_append_left hin];exact this
 obtain rfl:i=s.length:=by omega
 simpa using hl
theorem LOk.row {β:Type} [DecidableEq β] {key:List Nat→β} {s:List (List Nat)} (h:LOk s) {k:Nat} (hk:k<s.length):∀ n,n≤3→LOk (krow key s (s.getD k []) n)∧s.length≤(krow key s (s.getD k []) n).length
 | 0,_=>⟨h,Nat.le_refl _⟩
 | n+1,hn=>by obtain⟨h1,h2⟩:=h.row (key:=key) hk n (by omega);have h3:=(Zg0 (key:=key) (krow key s (s.getD k []) n) (s.getD k []++[n])).length_le;refine⟨h1.visit (Zdy (h.1 _ (memD hk)) (ZjK (by omega))) ?_,Nat.le_trans h2 h3⟩;have:=h.2 k hk;rw[List.length_append,List.length_singleton];omega
theorem LOk.kat {β:Type} [DecidableEq β] {key:List Nat→β} {s:List (List Nat)} (h:LOk s):∀ k,LOk (kat key s k)
 | 0=>h
 | k+1=>by
  have ih:=LOk.kat (key:=key) h k;by_cases hk:k<(Go.Proofs.YtehmjmjedopkkaaGreat.kat key s k).length
  ·rw[Zd1 hk];exact(ih.row hk 3 (by omega)).1
  rw[Zd2 (by omega)];exact ih
theorem LOk.okWs {st:List (List Nat)} (h:LOk st) (hl:st.length≤1000):∀ x∈st,isW x∧x.length≤399999:=fun x hx=>by refine⟨h.1 x hx,?_⟩;obtain⟨i,hi,e⟩:=List.getElem_of_mem hx;have:=h.2 i hi;rw[Za4 hi,e] at this;omega
def hitD (d:DfaD) (g:DfaD):Option (List Nat):=hitP d g
theorem ZmO (d g:DfaD):hitD d g=hitK ZoY d g:=rfl
theorem ZnQ:ZoY≤1600:=Nat.le_refl _
theorem ZiN {d g:DfaD} {w:List Nat} (h:hitD d g=some w):isW w∧accD d w≠accD g w:=by rw[ZmO] at h;exact Zoe h
theorem ZmN (d:DfaD):Zpt d (hitD d):=fun _ _ _ h=>ZiN h
theorem Zof {K:Nat} {a b:DfaD} {w:List Nat} (h:hitK K a b=some w):w.length≤K:=by have hg:=(Zbd (nx:=Zay a b) (a:=((0,0):Int × Int)) K).2.1;obtain⟨i,hi,hw,-⟩:=Zea (d:=((0,0):Int × Int)) hg h;rw[← hw];exact ZkN (nx:=Zay a b) (a:=((0,0):Int × Int)) K _ (memD (by omega))
theorem Zog {d g:DfaD} {w:List Nat} (h:hitD d g=some w):w.length≤1600:=by rw[ZmO] at h;have:=Zof h;have:=ZnQ;omega
def preW (d:DfaD):Nat→List (List Nat)
 | 0=>[[]]
 | j+1=>(tabW d (hitD d) j).1
def resW (d:DfaD) (j:Nat):List (List Nat):=(tabW d (hitD d) j).2
def staW (d:DfaD) (j:Nat):List (List Nat):=(tabW d (hitD d) j).1
def gueW (d:DfaD) (j:Nat):DfaD:=gssW d (hitD d) j
theorem Zk5 {α:Type} {l m:List α} (h:l <+: m) (hm:m.Nodup):l.Nodup:=by obtain⟨t,rfl⟩:=h;exact(List.nodup_append.1 hm).1
theorem Zl8 (d:DfaD) (j:Nat) {w:List Nat} (h:hitD d (gueW d j)=some w):resW d (j+1)=resW d j++[w.drop (cutW d (staW d j) (gueW d j) w+1)]:=by show(tabW d (hitD d) j).2++_=_;have h':hitD d (ZaA d (tabW d (hitD d) j).1 (tabW d (hitD d) j).2)=some w:=h;simp only[h',Option.getD_some];rfl
structure LTab (d:DfaD) (j:Nat):Prop where
 pre:LOk (preW d j)
 nd:((preW d j).map (rowW d (resW d j))).Nodup
 re:okWs (resW d j)
 rl:(resW d j).length≤j+1
 inv:LInv d (staW d j) (resW d j)
 st:LOk (staW d j)
theorem LTab.at {d:DfaD} (hd:Zaf d.next d.ends=true):∀ j,(∀ i,i<j→(hitD d (gueW d i)).isSome=true)→LTab d j
 | 0,hy=>by
  have hinv:=(Zjg hd (ZmN d) 0 hy).1
  have h0:LOk [[]]:=⟨fun x hx=>by simp at hx;subst hx;intro c hc;simp at hc,fun i hi=>by
   obtain rfl:i=0:=by simpa using hi
   simp⟩
  exact⟨h0,by simp[preW],fun x hx=>by simp[resW,tabW] at hx;subst hx;exact⟨fun c hc=>by simp at hc,by simp⟩,by simp[resW,tabW],hinv,LOk.kat h0 _⟩
 | j+1,hy=>by
  have ih:=LTab.at hd j fun i hi=>hy i (by omega)
  have hinv:=(Zjg hd (ZmN d) (j+1) hy).1;obtain⟨w,hw⟩:=Option.isSome_iff_exists.1 (hy j (by omega));have hr:=Zl8 d j hw;have hww:=(ZiN hw).1;have hpre:preW d (j+1) <+: staW d (j+1):=ZhE (key:=rowW d (resW d (j+1))) (s0:=preW d (j+1)) (Nat.zero_le (d.next.length+1));refine⟨ih.st,?_,fun x hx => ?_,?_,hinv,LOk.kat (s:=preW d (j+1)) ih.st _⟩
  ·obtain⟨t,ht⟩:=hpre;have h1:=hinv.nd;refine Zk5 (m:=(staW d (j+1)).map (rowW d (resW d (j+1)))) ⟨t.map (rowW d (resW d (j+1))),?_⟩ h1;rw[← List.map_append,ht]
  ·rw[hr] at hx;rcases List.mem_append.1 hx with hx|hx
   ·exact ih.re x hx
   simp only[List.mem_singleton] at hx;subst hx;refine⟨ZhG hww _,?_⟩;have:=Zog hw;rw[List.length_drop];omega
  rw[hr,List.length_append,List.length_singleton];have:=ih.rl;omega
/-! The guesses in memory. -/
def Ent.sub (X y:Ent):Prop:=(∀ w,X.holds w→y.holds w)∧∀ k,y.foot k→X.foot k
def GMem (X:Ent) (vals:List (Value × Value)) (gs:List DfaD):Prop:=vals.length=gs.length∧∀ i,i<gs.length →
 ∃ a1 c1 a2 c2 vs,vals.getD i (undef,undef)=(.slice a1 (gs.getD i ⟨[],[]⟩).next.length c1,.slice a2 (gs.getD i ⟨[],[]⟩).next.length c2) ∧
  Ent.sub X (Ent.rows 59 3 (.slice a1 (gs.getD i ⟨[],[]⟩).next.length c1) vs ((gs.getD i ⟨[],[]⟩).next.map intCells))∧Ent.sub X (Ent.row 4 1 (.slice a2 (gs.getD i ⟨[],[]⟩).next.length c2) (gs.getD i ⟨[],[]⟩).next.length (boolCells (gs.getD i ⟨[],[]⟩).ends))
theorem GMem.nil (X:Ent):GMem X [] []:=⟨rfl,fun i hi=>absurd hi (by simp)⟩
theorem GMem.snoc {X:Ent} {vals:List (Value × Value)} {gs:List DfaD} (h:GMem X vals gs) {g:DfaD} {a1 a2:Option Addr} {c1 c2:Nat} {vs:List Value} :
  GMem (Ent.all [X,Ent.rows 59 3 (.slice a1 g.next.length c1) vs (g.next.map intCells),Ent.row 4 1 (.slice a2 g.next.length c2) g.next.length (boolCells g.ends)]) (vals++[(.slice a1 g.next.length c1,.slice a2 g.next.length c2)]) (gs++[g]):=by
 refine⟨by simp[h.1],fun i hi => ?_⟩;simp only[List.length_append,List.length_singleton] at hi;by_cases hin:i<gs.length
 ·obtain⟨p1,q1,p2,q2,us,e,s1,s2⟩:=h.2 i hin;have e1:(gs++[g]).getD i ⟨[],[]⟩=gs.getD i ⟨[],[]⟩:=by simp only[List.getD_eq_getElem?_getD];rw[List.getElem?_append_left hin]
  have e2:(vals++[((Value.slice a1 g.next.length c1),(Value.slice a2 g.next.length c2))]).getD i (undef,undef)=vals.getD i (undef,undef):=by simp only[List.getD_eq_getElem?_getD];rw[List.getElem?_append_left (by rw[h.1];exact hin)]
  rw[e1,e2];exact⟨p1,q1,p2,q2,us,e,⟨fun w hw=>s1.1 w (hw X (by simp)),fun k hk=>⟨X,by simp,s1.2 k hk⟩⟩,⟨fun w hw=>s2.1 w (hw X (by simp)),fun k hk=>⟨X,by simp,s2.2 k hk⟩⟩⟩
 obtain rfl:i=gs.length:=by omega
 have e1:(gs++[g]).getD gs.length ⟨[],[]⟩=g:=by simp
 have e2:(vals++[((Value.slice a1 g.next.length c1),(Value.slice a2 g.next.length c2))]).getD gs.length (undef,undef)=((Value.slice a1 g.next.length c1),(Value.slice a2 g.next.length c2)):=by rw[← h.1];simp
 rw[e1,e2];exact⟨a1,c1,a2,c2,vs,rfl,⟨fun w hw=>hw _ (by simp),fun k hk=>⟨_,by simp,hk⟩⟩,⟨fun w hw=>hw _ (by simp),fun k hk=>⟨_,by simp,hk⟩⟩⟩
theorem Tryz.infoDfa:(Tryz.prog.info? 32).map (fun i=>(i.zero,i.size,i.bytes))=some (some (.agg #[.slice none 0 0,.slice none 0 0]),2,48):=by kernel_rfl
theorem GMem.own {w0 w:World} {L:List Ent} (h:St w0 w L) (i:Nat) {X:Ent} (hx:L[i]? = some X) {vals:List (Value × Value)} {gs:List DfaD} (hG:GMem X vals gs) {k:Nat} (hk:k<gs.length) :
  ∃ a1 c1 a2 c2,vals.getD k (undef,undef)=(.slice a1 (gs.getD k ⟨[],[]⟩).next.length c1,.slice a2 (gs.getD k ⟨[],[]⟩).next.length c2)∧(gs.getD k ⟨[],[]⟩).ends.length=(gs.getD k ⟨[],[]⟩).next.length ∧
   DfaO 59 3 4 w0.heap.size w.heap.size w (.agg #[.slice a1 (gs.getD k ⟨[],[]⟩).next.length c1,.slice a2 (gs.getD k ⟨[],[]⟩).next.length c2]) (gs.getD k ⟨[],[]⟩):=by
 obtain⟨a1,c1,a2,c2,vs,e,s1,s2⟩:=hG.2 k hk;have hil:i<L.length:=(List.getElem?_eq_some_iff.1 hx).1;have h1:=h.same i hx _ (s1.1 w) s1.2;have h2:=h.same i hx _ (s2.1 w) s2.2;have g1:=h1.intSS i (by rw[List.getElem?_set,if_pos rfl,if_pos hil]);have g2:=h2.row i (by rw[List.getElem?_set,if_pos rfl,if_pos hil]);have hl:(gs.getD k ⟨[],[]⟩).ends.length=(gs.getD k ⟨[],[]⟩).next.length:=by have:=g2.1;simp at this;simpa using this
 refine⟨a1,c1,a2,c2,e,hl,_,_,rfl,g1,?_⟩;unfold OBools;rw[hl];exact Zaa g2
def xb (b x:Bool):Bool:=b != x
def flB (b:Bool) (g:DfaD):DfaD:=⟨g.next,g.ends.map (xb b)⟩
theorem ZjN (b:Bool) (g:DfaD) (s:Int) (w:List Nat):runD (flB b g) s w=runD g s w:=rfl
theorem ZiW {b:Bool} {g:DfaD} (h:Zaf g.next g.ends=true):Zaf (flB b g).next (flB b g).ends=true:=by
 have hl:=Zad h;refine ZhZ hl.1 hl.2.1 ?_ fun i hi=>ZaG h hi
 show(g.ends.map (xb b)).length=g.next.length;rw[List.length_map];exact hl.2.2
theorem Zm0 {b:Bool} {g:DfaD} (h:Zaf g.next g.ends=true) {w:List Nat} (hw:isW w):accD (flB b g) w=xb b (accD g w):=by have hl:=Zad h;obtain⟨t,ht,hr⟩:=Zdu (Zaw h) w (s:=0) hw (by omega);have hr:runD g 0 w=(t:Int):=hr;unfold accD;rw[ZjN,hr,Za0,Za0];show(g.ends.map (xb b)).getD t false=xb b (g.ends.getD t false);rw[List.getD_eq_getElem?_getD,List.getElem?_map,List.getD_eq_getElem?_getD,List.getElem?_eq_getElem (show t<g.ends.length by omega)];rfl
section
variable {key key':List Nat→List Bool} {f:List Bool→List Bool}
end
section
variable {b:Bool} {d M:DfaD}
end
theorem ZnM {d:DfaD} (hd:Zaf d.next d.ends=true) (w:List Nat) (hw:isW w):accD (minD (flB true d)) w=xb true (accD d w):=by rw[Zhz (Zaw (ZiW hd)) hw,Zm0 hd hw]
def Ziz (p:Int × Int):DfaD:=if p.1=1 then ZdW else if p.1=2 then oneD else minD ⟨[[2,2,2].set p.2.toNat 1,[2,2,2],[2,2,2]],[false,true,false]⟩
def oneQ (K:Nat) (k:Int) (a:DfaD):Option DfaD:=if k=8 then(Zfb 81 K (Zco (ZaD a))).map minD else some (flB true a)
def twoQ (K:Nat) (k:Int) (a b:DfaD):Option DfaD :=
 if k=4 then(Zfb 81 K (Zdh (ZaD a) (ZaD b))).map minD else if k=5 then(Zbs K (fun p q=>p||q) a b).map minD else(Zbs K (fun p q=>p&&q) a b).map minD
def ZeZ (K:Nat) (p:Int × Int) (st:List DfaD):Option (List DfaD) :=
 if Zah p=0 then some (Ziz p::st)
 else if Zah p=1 then
  match st with
  | a::r=>(oneQ K p.1 a).map (·::r)
  | []=>none
 else
  match st with
  | b::a::r=>(twoQ K p.1 a b).map (·::r)
  | _=>none
def runC (K:Nat):List (Int × Int)→List DfaD→Option (List DfaD)
 | [],st=>some st
 | p::ps,st=>(ZeZ K p st).bind (runC K ps)
theorem ZnF {d:DfaD} (hd:fine d):ZaY (flB true d)=flB true (ZaY d):=by
 have hm:=(Zbi hd d.next.length).1;unfold ZaY Zat flB;show DfaD.mk _ _=DfaD.mk _ _;congr 1;rw[List.map_map];refine List.map_congr_left fun x hx => ?_
 obtain⟨h1,h2⟩:=hm x hx;have h3:=hd.2.2.1;have hlt:x.toNat<d.ends.length:=by omega
 simp[den,hlt]
theorem Zo0 {d:DfaD} (hd:Zaf d.next d.ends=true) (hm:minD d=d):minD (flB true d)=flB true d:=by
 have hf:=Zaw hd;have hF:=Zaw (ZiW (b:=true) hd);have ht:ZaY d=d:=by have:=ZnS hf;rw[hm] at this;exact this
 refine ZnT hF (by rw[ZnF hf,ht]) fun s t hs ht' h => ?_
 have hs:s<d.next.length:=hs;have ht':t<d.next.length:=ht';refine ZjC hf (by rw[hm];exact hs) (by rw[hm];exact ht') fun w hw => ?_
 rw[hm];obtain⟨a,ha,hra⟩:=Zdu hf w hw hs;obtain⟨b,hb,hrb⟩:=Zdu hf w hw ht';have h1:=h w hw;rw[ZjN,ZjN,hra,hrb,Za0,Za0] at h1;rw[hra,hrb,Za0,Za0]
 have e:∀ i,i<d.next.length→enD (flB true d) i = !enD d i:=fun i hi=>by
  have h3:=(Zad hd).2.2;have hi2:i<d.ends.length:=by omega
  simp[enD,flB,hi2,xb]
 rw[e a ha,e b hb] at h1;simpa using h1
theorem Zfn {K:Nat} (hK:K=40) (t:Ex) {d:DfaD} (h:Zao K t=some d):minD d=d:=by
 have key:∀ {y:DfaD},Zaf y.next y.ends=true→Zak y=d→minD d=d:=fun {y} hy e=>by rw[← e,ZbS (Zaw hy)];exact Zmu (Zaw hy)
 cases t with
 | zero=>simp only[Zao,Option.some.injEq] at h;exact key ZdV h
 | one=>simp only[Zao,Option.some.injEq] at h;exact key ZfJ h
 | ltr c=>simp only[Zao,Option.some.injEq] at h;exact key (ZdL c) h
 | join a b =>simp only[Zao,Option.bind_eq_some_iff,Option.map_eq_some_iff] at h;obtain⟨x,-,y,-,z,hz,e⟩:=h;exact key (ZcA hK hz) e
 | alt a b =>simp only[Zao,Option.bind_eq_some_iff,Option.map_eq_some_iff] at h;obtain⟨x,-,y,-,z,hz,e⟩:=h;exact key (Zbl hK hz) e
 | both a b =>simp only[Zao,Option.bind_eq_some_iff,Option.map_eq_some_iff] at h;obtain⟨x,-,y,-,z,hz,e⟩:=h;exact key (Zbl hK hz) e
 | neg a =>simp only[Zao,Option.map_eq_some_iff] at h;obtain⟨x,hx,e⟩:=h;exact key (ZfM (Zbc hK a hx)) e
 | star a =>simp only[Zao,Option.bind_eq_some_iff,Option.map_eq_some_iff] at h;obtain⟨x,-,z,hz,e⟩:=h;exact key (ZcA hK hz) e
theorem ZdZ {o:Option DfaD} (h:∀ d,o=some d→Zaf d.next d.ends=true):o.map Zak=o.map minD:=by
 cases o with
 | none=>rfl
 | some d=>exact congrArg some (ZbS (Zaw (h d rfl)))
theorem Zmp (d:DfaD):negD d=flB true d:=by unfold negD flB;congr 1;exact List.map_congr_left fun x _=>by cases x<;>rfl
theorem Zmy:Zak ZdW=ZdW:=by decide +kernel
theorem Zn0:Zak oneD=oneD:=by decide +kernel
theorem Zl1 {K:Nat} (hK:K=40):∀ (t:Ex) (rest:List (Int × Int)) (st:List DfaD),runC K (t.post++rest) st=(Zao K t).bind fun d=>runC K rest (d::st):=by
 intro t
 induction t with
 | zero =>intro rest st;show(some (ZdW::st)).bind (runC K rest)=_;simp only[Zao,Zmy];rfl
 | one =>intro rest st;show(some (oneD::st)).bind (runC K rest)=_;simp only[Zao,Zn0];rfl
 | ltr c =>
  intro rest st;have e:ZeZ K (3,(c.val:Int)) st=some (Ziz (3,(c.val:Int))::st):=by unfold ZeZ;rw[if_pos (Zhu c)]
  show(ZeZ K (3,(c.val:Int)) st).bind (runC K rest)=_;rw[e];simp only[Zao];rw[ZbS (Zaw (ZdL c))];rfl
 | join a b ha hb =>
  intro rest st;show runC K ((a.post++b.post++[(4,0)])++rest) st=_;rw[List.append_assoc,List.append_assoc,ha];simp only[Zao];cases hx:Zao K a with
  | none=>rfl
  | some x =>
   show runC K (b.post++([(4,0)]++rest)) (x::st)=_;rw[hb];show _=((Zao K b).bind fun y=>(detM 81 K (ZcR x y)).map Zak).bind _;cases hy:Zao K b with
   | none=>rfl
   | some y =>show((twoQ K 4 x y).map (·::st)).bind (runC K rest)=((detM 81 K (ZcR x y)).map Zak).bind _;rw[show twoQ K 4 x y=(detM 81 K (ZcR x y)).map Zak by rw[ZdZ fun d hd=>ZcA hK hd,← ZkA,← Zf2];rfl];cases (detM 81 K (ZcR x y)).map Zak<;>rfl
 | alt a b ha hb =>
  intro rest st;show runC K ((a.post++b.post++[(5,0)])++rest) st=_;rw[List.append_assoc,List.append_assoc,ha];simp only[Zao];cases hx:Zao K a with
  | none=>rfl
  | some x =>
   show runC K (b.post++([(5,0)]++rest)) (x::st)=_;rw[hb];show _=((Zao K b).bind fun y=>(Zbs K (fun p q=>p||q) x y).map Zak).bind _;cases hy:Zao K b with
   | none=>rfl
   | some y =>show((twoQ K 5 x y).map (·::st)).bind (runC K rest)=((Zbs K (fun p q=>p||q) x y).map Zak).bind _;rw[show twoQ K 5 x y=(Zbs K (fun p q=>p||q) x y).map Zak by rw[ZdZ fun d hd=>Zbl hK hd];rfl];cases (Zbs K (fun p q=>p||q) x y).map Zak<;>rfl
 | both a b ha hb =>
  intro rest st;show runC K ((a.post++b.post++[(6,0)])++rest) st=_;rw[List.append_assoc,List.append_assoc,ha];simp only[Zao];cases hx:Zao K a with
  | none=>rfl
  | some x =>
   show runC K (b.post++([(6,0)]++rest)) (x::st)=_;rw[hb];show _=((Zao K b).bind fun y=>(Zbs K (fun p q=>p&&q) x y).map Zak).bind _;cases hy:Zao K b with
   | none=>rfl
   | some y =>show((twoQ K 6 x y).map (·::st)).bind (runC K rest)=((Zbs K (fun p q=>p&&q) x y).map Zak).bind _;rw[show twoQ K 6 x y=(Zbs K (fun p q=>p&&q) x y).map Zak by rw[ZdZ fun d hd=>Zbl hK hd];rfl];cases (Zbs K (fun p q=>p&&q) x y).map Zak<;>rfl
 | neg a ha =>
  intro rest st;show runC K ((a.post++[(7,0)])++rest) st=_;rw[List.append_assoc,ha];simp only[Zao];cases hx:Zao K a with
  | none=>rfl
  | some x =>have hok:=Zbc hK a hx;show runC K rest (flB true x::st)=runC K rest (Zak (negD x)::st);rw[ZbS (Zaw (ZfM hok)),Zmp,Zo0 hok (Zfn hK a hx)]
 | star a ha =>
  intro rest st;show runC K ((a.post++[(8,0)])++rest) st=_;rw[List.append_assoc,ha];simp only[Zao];cases hx:Zao K a with
  | none=>rfl
  | some x =>show((oneQ K 8 x).map (·::st)).bind (runC K rest)=((detM 81 K (Zc8 x)).map Zak).bind _;rw[show oneQ K 8 x=(detM 81 K (Zc8 x)).map Zak by rw[ZdZ fun d hd=>ZcA hK hd,← ZkA,← Zfw];rfl];cases (detM 81 K (Zc8 x)).map Zak<;>rfl
theorem ZkX {K:Nat} (hK:K=40) (t:Ex):runC K t.post []=(Zao K t).map fun d=>[d]:=by have h:=Zl1 hK t [] [];rw[List.append_nil] at h;rw[h];cases Zao K t<;>rfl
theorem Zn1 {p:Int × Int} (h:pOk p=true) (hn:Zah p=0):Zaf (Ziz p).next (Ziz p).ends=true:=by
 unfold Ziz
 split
 ·exact ZdV
 split
 ·exact ZfJ
 rename_i h1 h2
 have h3:p.1=3∧0≤p.2∧p.2≤2:=by
  unfold Zah at hn;rw[if_pos h] at hn;simp only[pOk,inB,Bool.and_eq_true,Bool.or_eq_true,decide_eq_true_eq,Bool.not_eq_true',decide_eq_false_iff_not] at h
  split at hn
  ·omega
  split at hn<;>omega
 obtain⟨c,hc⟩:∃ c:Fin 3,p.2.toNat=c.val:=⟨⟨p.2.toNat,by omega⟩,rfl⟩;rw[hc];have:=ZbP (ZdL c);rw[ZbS (Zaw (ZdL c))] at this;exact this
theorem Ziv {d:DfaD} (h:Zaf d.next d.ends=true):Zaf (minD d).next (minD d).ends=true:=by rw[← ZbS (Zaw h)];exact ZbP h
end Go.Proofs.YtehmjmjedopkkaaGreat
