/-
  The walks over the reference's FirstDiffer, SameLanguage and MakePairs.
  Conditions: the automata read as such.
-/
import Derived.Test.YtfgpkadhegdffaaGreatPc17Wpl
import Derived.Test.YtfgpkadhegdffaaGreatPc18L16
set_option maxHeartbeats 1600000
namespace Go.Proofs.YtfgpkadhegdffaaGreat
open Go.RowKit Go.Maps
theorem ZiK (a b:DfaD) (v1 v2:Value) (w:World) (hda:Zae a.next a.ends=true) (hdb:Zae b.next b.ends=true) (h1:DfaR 0 w v1 a) (h2:DfaR 0 w v2 b) :
  Calls Tryz.prog 87 #[v1,v2,.int .i64 3] w fun e w'=>e=ZaH (hitP a b)∧Below w.heap.size w w':=ZhI ZiE rfl a b v1 v2 w hda hdb h1 h2
def fdO (a b:DfaD):Option (List Nat):=if (Zae a.next a.ends&&Zae b.next b.ends)=true then hitP a b else none
theorem ZdP (a b:DfaD) (v1 v2:Value) (w:World) (h1:DfaR 0 w v1 a) (h2:DfaR 0 w v2 b) (o:Option (List Nat)) (ho:fdO a b=o) :
  Calls Tryz.prog 46 #[v1,v2] w fun e w'=>e=ZaH o∧Below w.heap.size w w':=by
 obtain⟨u1,u2,rfl,g1,g2⟩:=h1;obtain⟨u3,u4,rfl,g3,g4⟩:=h2;have hb2:Below w.heap.size w ((w.alloc (.cells #[u1,u2] 25)).alloc (.cells #[u3,u4] 25)):=((Below.refl _ _).alloc (Nat.le_refl _) _).alloc (by simp) _;have H1:Hid (DfaR 0 ((w.alloc (.cells #[u1,u2] 25)).alloc (.cells #[u3,u4] 25)) (.agg #[u1,u2]) a):=qh ⟨_,_,rfl,g1.below hb2,g2.below hb2⟩;have H2:Hid (DfaR 0 ((w.alloc (.cells #[u1,u2] 25)).alloc (.cells #[u3,u4] 25)) (.agg #[u3,u4]) b):=qh ⟨_,_,rfl,g3.below hb2,g4.below hb2⟩;have x0:Bx ((w.alloc (.cells #[u1,u2] 25)).alloc (.cells #[u3,u4] 25)) w.heap.size #[u1,u2] 25:=(Bx.new w _ _).alloc _;have x1:Bx ((w.alloc (.cells #[u1,u2] 25)).alloc (.cells #[u3,u4] 25)) (w.heap.size+1) #[u3,u4] 25:=by simpa using Bx.new (w.alloc (.cells #[u1,u2] 25)) #[u3,u4] 25
 obtain⟨s,hs⟩:=ZaU (hitP a b);have Hhb2:=qh hb2;clear hb2;replace hs:=qh hs;replace ho:=qh ho;have Hx0:=qh x0;clear x0;have Hx1:=qh x1;clear x1;clear g1 g2 g3 g4;cases hda:Zae a.next a.ends
 all_goals
  replace hda:=qh hda
  go_enter Tryz.func46, Tryz.ntmps46
  go_wp2_with fail;refine(ZbW a _ _ H1.out _ hda.out).mono ?_;rintro e w1 ⟨rfl,hb1⟩;have y0:=Hx0.out.below hb1 Hx0.out.lt;have y1:=Hx1.out.below hb1 Hx1.out.lt;have c0:=y1.cell 0;have c1:=y1.cell 1;simp only[List.getElem?_toArray,List.getElem?_cons_zero,List.getElem?_cons_succ] at c0 c1;have hbw:=Hhb2.out.trans (hb1.mono Hhb2.out.size);have R1:=qh (H1.out.below hb1);have R2:=qh (H2.out.below hb1);replace hb1:=qh hb1;have Hhbw:=qh hbw;clear hbw;have Hy0:=qh y0;clear y0;have Hy1:=qh y1;clear y1
 ·go_wp2
  go_ret2
  exact⟨by rw[← ho.out,fdO,hda.out];rfl,Hhbw.out⟩
 cases hdb:Zae b.next b.ends
 all_goals
  have Hhdb:=qh hdb;clear hdb;go_wp2_with fail;refine(ZbW b _ _ R2.out _ Hhdb.out).mono ?_;rintro e w2 ⟨rfl,hb2⟩;have z0:=Hy0.out.below hb2 Hy0.out.lt;have z1:=Hy1.out.below hb2 Hy1.out.lt;have hbv:=Hhbw.out.trans (hb2.mono Hhbw.out.size);have Q1:=qh (R1.out.below hb2);have Q2:=qh (R2.out.below hb2);have e0:=z0.cell 0;have e1:=z0.cell 1;have e2:=z1.cell 0;have e3:=z1.cell 1;simp only[List.getElem?_toArray,List.getElem?_cons_zero,List.getElem?_cons_succ] at e0 e1 e2 e3;have Hhb2:=qh hb2;clear hb2;have Hhbv:=qh hbv;clear hbv;have Hz0:=qh z0;clear z0;have Hz1:=qh z1;clear z1;clear c0 c1
 ·go_wp2
  go_ret2
  exact⟨by rw[← ho.out,fdO,hda.out,Hhdb.out];rfl,Hhbv.out⟩
 go_wp2_with fail;refine(ZiK a b _ _ _ hda.out Hhdb.out Q1.out Q2.out).mono ?_;rintro e w3 ⟨he,hb3⟩;rw[hs.out] at he;subst he;have hbx:=Hhbv.out.trans (hb3.mono Hhbv.out.size);have Hhbx:=qh hbx;clear hbx;clear hb3;go_wp2
 go_ret2
 refine⟨?_,Hhbx.out⟩;rw[← ho.out,fdO,hda.out,Hhdb.out,if_pos (by rfl),hs.out];rfl
theorem ZmN (w:World):(zeroValue 4).run Tryz.prog w = .ok (.bool false) w:=by kernel_rfl
end Go.Proofs.YtfgpkadhegdffaaGreat
namespace Go.Proofs.YtfgpkadhegdffaaGreat
open Go.RowKit
section
variable {α:Type} [DecidableEq α] {nx:α→Nat→α} {a:α} {en:α→Bool} {K:Nat}
theorem ZkG {F:List α} {x:α} (h:x∈F) (d:α):F.getD (Zaj F x) d=x:=by have h1:=ZaM h;rw[Zba h1];exact List.getElem_idxOf h1
theorem Zjk (hK:(bat nx a K).met.length≤K):∀ (w:List Nat),isW w→∀ x∈(bat nx a K).met,w.foldl nx x∈(bat nx a K).met∧runD (Zan nx en (bat nx a K).met) (Zaj (bat nx a K).met x:Nat) w=(Zaj (bat nx a K).met (w.foldl nx x):Nat)
 | [],_,x,hx=>⟨hx,rfl⟩
 | c::w,hw,x,hx=>by have hc:c<3:=hw c (by simp);have hx2:=ZcW hK hx hc;have h1:=ZaM hx;obtain⟨h2,h3⟩:=Zjk hK w (fun b hb=>hw b (by simp[hb])) (nx x c) hx2;refine⟨h2,?_⟩;unfold runD at *;rw[List.foldl_cons,List.foldl_cons,← h3,Zh0 (a:=a) (by omega) (by omega) hc];unfold Zbg;rw[Int.toNat_natCast,ZkG hx]
theorem ZnH (hK:(bat nx a K).met.length≤K) {w:List Nat} (hw:isW w):accD (Zan nx en (bat nx a K).met) w=en (w.foldl nx a):=by
 have h0:=Zib (nx:=nx) (a:=a) K;obtain⟨h1,h2⟩:=Zjk (en:=en) hK w hw a h0;have h3:Zaj (bat nx a K).met a=0:=by have hp:=Zcv (nx:=nx) (a:=a) K;have hf:=Zgv (nx:=nx) (a:=a) K;have hn:=(ZaD (nx:=nx) (a:=a) K).1;rw[Zba hp] at hf;have:=List.Nodup.idxOf_getElem hn 0 hp;rw[hf] at this;exact this
 rw[h3] at h2;unfold accD;rw[show((0:Nat):Int)=0 from rfl] at h2;rw[h2,Zh3 (ZaM h1)];congr 1;exact List.getElem_idxOf _
end
theorem Zfp (d:DfaD) (s:Int):runD d s []=s:=rfl
theorem Zb1 (d:DfaD) (s:Int) (c:Nat) (w:List Nat):runD d s (c::w)=runD d (dnx d s c) w:=rfl
theorem ZhN {c:Nat} {w:List Nat} (h:isW (c::w)):c<3∧isW w:=⟨h c (by simp),fun b hb=>h b (by simp[hb])⟩
theorem Zl7:isW []:=fun c hc=>by simp at hc
theorem ZnP {c:Nat} {w:List Nat} (hc:c<3) (h:isW w):isW (c::w):=fun b hb=>by
 rcases List.mem_cons.1 hb with rfl|hb
 ·exact hc
 exact h b hb
theorem ZbU {d:DfaD} (hd:fine d) {s c:Nat} (hs:s<d.next.length) (hc:c<3):nxD d s c<d.next.length∧dnx d (s:Int) c=((nxD d s c:Nat):Int):=Zb2 hd hs hc
theorem Zhu {d:DfaD} (hd:fine d):∀ (w:List Nat) {s:Nat},isW w→s<d.next.length→∃ t:Nat,t<d.next.length∧runD d (s:Int) w=(t:Int)
 | [],s,_,hs=>⟨s,hs,rfl⟩
 | c::w,s,hw,hs=>by obtain⟨h1,h2⟩:=ZhN hw;obtain⟨h3,h4⟩:=ZbU hd hs h1;rw[Zb1,h4];exact Zhu hd w h2 h3
theorem ZbL (d:DfaD) (s:Nat):den d (s:Int)=enD d s:=by simp[den,enD]
theorem ZnU {d:DfaD} (hd:fine d):∀ (w:List Nat) {s t:Nat},isW w→s<d.next.length→t<d.next.length→clD d s=clD d t→den d (runD d (s:Int) w)=den d (runD d (t:Int) w)
 | [],s,t,_,hs,ht,h=>by rw[Zfp,Zfp,ZbL,ZbL];exact ZcU hs ht h
 | c::w,s,t,hw,hs,ht,h=>by obtain⟨h1,h2⟩:=ZhN hw;obtain⟨h3,h4⟩:=ZbU hd hs h1;obtain⟨h5,h6⟩:=ZbU hd ht h1;rw[Zb1,Zb1,h4,h6];exact ZnU hd w h2 h3 h5 (Zh6 (fun s c hs hc=>(ZbU hd hs hc).1) hs ht h c h1)
theorem Zhs {d:DfaD} (hd:fine d):∀ (i:Nat) {s t:Nat},s<d.next.length→t<d.next.length→(∀ w,isW w→den d (runD d (s:Int) w)=den d (runD d (t:Int) w))→clAt d.next.length (nxD d) (enD d) i s=clAt d.next.length (nxD d) (enD d) i t
 | 0,s,t,hs,ht,h=>by
  refine(Zhe hs ht).2 ?_;have:=h [] Zl7
  rwa [Zfp,Zfp,ZbL,ZbL] at this
 | i+1,s,t,hs,ht,h=>by
  refine(ZbG hs ht).2 ((Zav _).2 ⟨Zhs hd i hs ht h,fun c hc => ?_⟩);obtain⟨h3,h4⟩:=ZbU hd hs hc;obtain⟨h5,h6⟩:=ZbU hd ht hc;refine Zhs hd i h3 h5 fun w hw => ?_
  have:=h (c::w) (ZnP hc hw)
  rwa [Zb1,Zb1,h4,h6] at this
theorem Zlp {d:DfaD} (hd:fine d) {s t:Nat} (hs:s<d.next.length) (ht:t<d.next.length) (h:∀ w,isW w→den d (runD d (s:Int) w)=den d (runD d (t:Int) w)):clD d s=clD d t:=Zhs hd _ hs ht h
theorem Zdb {d:DfaD} {s:Nat} (hs:s<d.next.length):clD d s<d.next.length:=by have:=(Zbq (d:=d) s hs).1;omega
theorem Zgo {d:DfaD} (hd:fine d) {s:Nat} (hs:s<d.next.length) {w:List Nat} (hw:isW w):den d (runD d ((clD d s:Nat):Int) w)=den d (runD d (s:Int) w) :=
 ZnU hd w hw (Zdb hs) hs (Zbq s hs).2
theorem Zci {d:DfaD} (hf:fine d) (K:Nat):(∀ x∈(bat (nxM d) ((clD d 0:Nat):Int) K).met,∃ s:Nat,x=(s:Int)∧s<d.next.length∧clD d s=s)∧(bat (nxM d) ((clD d 0:Nat):Int) K).met.length≤d.next.length:=by
 have hl:1≤d.next.length:=hf.1
 have h1:∀ x∈(bat (nxM d) ((clD d 0:Nat):Int) K).met,∃ s:Nat,x=(s:Int)∧s<d.next.length∧clD d s=s:=by
  refine Zbr (Q:=fun x=>∃ s:Nat,x=(s:Int)∧s<d.next.length∧clD d s=s) ?_ (fun x c hc hx => ?_) K
  ·exact⟨clD d 0,rfl,Zdb (by omega),(Zbq 0 (by omega)).2⟩
  obtain⟨s,rfl,hs,-⟩:=hx;have h2:=(Zb2 hf hs hc).1;exact⟨clD d (nxD d s c),by simp[nxM],Zdb h2,(Zbq _ h2).2⟩
 refine⟨h1,?_⟩;have h2:=ZdA (ZaD (nx:=nxM d) (a:=((clD d 0:Nat):Int)) K).1 (m:=ZaQ d.next.length) (fun x hx=>by obtain⟨s,rfl,hs,-⟩:=h1 x hx;rw[ZbP];exact hs);rw[ZbN] at h2;exact h2
theorem ZlU {d:DfaD} (hd:fine d) {K:Nat} (hK:d.next.length≤K):minD d=Zan (nxM d) (den d) (bat (nxM d) ((clD d 0:Nat):Int) K).met:=by unfold minD;rw[Zbb (Zci hd _).2 hK]
theorem Znx {d:DfaD} (hd:fine d):fine (minD d):=ZdB (Zci hd _).2 hd.2.1
theorem Zgf {d:DfaD} (hd:fine d):∀ (w:List Nat) {s:Nat},isW w→s<d.next.length→∃ t:Nat,t<d.next.length∧w.foldl (nxM d) ((clD d s:Nat):Int)=((clD d t:Nat):Int)∧runD d (s:Int) w=(t:Int)
 | [],s,_,hs=>⟨s,hs,rfl,rfl⟩
 | c::w,s,hw,hs=>by
  obtain⟨h1,h2⟩:=ZhN hw;obtain⟨h3,h4⟩:=ZbU hd hs h1;obtain⟨t,ht,e1,e2⟩:=Zgf hd w h2 h3;refine⟨t,ht,?_,by rw[Zb1,h4];exact e2⟩;have e3:nxM d ((clD d s:Nat):Int) c=((clD d (nxD d s c):Nat):Int):=by unfold nxM;rw[Int.toNat_natCast];congr 1;exact Zh6 (fun s c hs hc=>(ZbU hd hs hc).1) (Zdb hs) hs (Zbq s hs).2 c h1
  rw[List.foldl_cons,e3];exact e1
theorem Zn4 {d:DfaD} (hd:fine d) {w:List Nat} (hw:isW w):accD (minD d) w=accD d w:=by unfold minD;rw[ZnH (Zci hd _).2 hw];obtain⟨t,ht,e1,e2⟩:=Zgf hd w hw (show 0<d.next.length from hd.1);rw[e1,ZbL];unfold accD;rw[show(0:Int)=((0:Nat):Int) from rfl,e2,ZbL];exact ZcU (Zdb ht) ht (Zbq t ht).2
theorem ZlT {x y:DfaD} (hx:fine x) (hy:fine y) (h:∀ w,isW w→accD x w=accD y w):minD x=minD y:=by
 obtain⟨K,hK⟩:=eI (x.next.length+y.next.length);rw[ZlU hx (show x.next.length≤K by omega),ZlU hy (show y.next.length≤K by omega)];have lx:0<x.next.length:=hx.1;have ly:0<y.next.length:=hy.1
 let nq:Int × Int→Nat→Int × Int:=fun p c=>(nxM x p.1 c,nxM y p.2 c)
 let Q:Int × Int→Prop:=fun p=>∃ s t:Nat,p=((s:Int),(t:Int))∧s<x.next.length∧t<y.next.length∧clD x s=s∧clD y t=t∧∀ w,isW w→den x (runD x (s:Int) w)=den y (runD y (t:Int) w)
 let a:Int × Int:=(((clD x 0:Nat):Int),((clD y 0:Nat):Int))
 have h0:Q a:=⟨clD x 0,clD y 0,rfl,Zdb lx,Zdb ly,(Zbq 0 lx).2,(Zbq 0 ly).2,fun w hw=>by rw[Zgo hx lx hw,Zgo hy ly hw];exact h w hw⟩
 have hv:∀ p c,c<3→Q p→Q (nq p c):=by
  rintro p c hc ⟨s,t,rfl,hs,ht,-,-,hr⟩;obtain⟨h3,h4⟩:=ZbU hx hs hc;obtain⟨h5,h6⟩:=ZbU hy ht hc;refine⟨clD x (nxD x s c),clD y (nxD y t c),by simp[nq,nxM],Zdb h3,Zdb h5,(Zbq _ h3).2,(Zbq _ h5).2,fun w hw => ?_⟩;rw[Zgo hx h3 hw,Zgo hy h5 hw];have:=hr (c::w) (ZnP hc hw)
  rwa [Zb1,Zb1,h4,h6] at this
 have f1:∀ p q,Q p→Q q→p.1=q.1→p=q:=by
  rintro p q ⟨s,t,rfl,hs,ht,-,e1,r1⟩ ⟨s',t',rfl,hs',ht',-,e2,r2⟩ he;simp only[Int.ofNat_inj] at he;subst he;have:=Zlp hy ht ht' fun w hw=>(r1 w hw).symm.trans (r2 w hw)
  rw[e1,e2] at this;rw[this]
 have f2:∀ p q,Q p→Q q→p.2=q.2→p=q:=by
  rintro p q ⟨s,t,rfl,hs,ht,e1,-,r1⟩ ⟨s',t',rfl,hs',ht',e2,-,r2⟩ he;simp only[Int.ofNat_inj] at he;subst he;have:=Zlp hx hs hs' fun w hw=>(r1 w hw).trans (r2 w hw).symm
  rw[e1,e2] at this;rw[this]
 have m1:=ZdS (nx:=nq) (nx':=nxM x) (a:=a) (f:=Prod.fst) (Q:=Q) (en:=fun p=>den x p.1) (en':=den x) (K:=K) h0 hv f1 (fun _ _ _ _=>rfl) (fun _ _=>rfl);have m2:=ZdS (nx:=nq) (nx':=nxM y) (a:=a) (f:=Prod.snd) (Q:=Q) (en:=fun p=>den x p.1) (en':=den y) (K:=K) h0 hv f2 (fun _ _ _ _=>rfl) (fun p hp=>by obtain⟨s,t,rfl,-,-,-,-,r⟩:=hp;exact(r [] Zl7).symm);exact m1.trans m2.symm
theorem Zn2 {d:DfaD} (hd:fine d):minD (minD d)=minD d:=ZlT (Znx hd) hd fun _ hw=>Zn4 hd hw
theorem Zm8 {d:DfaD} (hd:fine d) (ht:Zbj d=d) (hr:∀ s t:Nat,s<d.next.length→t<d.next.length→(∀ w,isW w→den d (runD d (s:Int) w)=den d (runD d (t:Int) w))→s=t):minD d=d:=by
 have hc:∀ s,s<d.next.length→clD d s=s:=fun s hs=>hr _ _ (Zdb hs) hs fun w hw=>Zgo hd hs hw
 have h0:0<d.next.length:=hd.1
 have hb:=Zes (nx:=dnx d) (nx':=nxM d) (a:=(0:Int)) (Q:=fun x=>∃ s:Nat,x=(s:Int)∧s<d.next.length) ⟨0,rfl,h0⟩ (by
  rintro x c hc ⟨s,rfl,hs⟩;obtain⟨h3,h4⟩:=ZbU hd hs hc;exact⟨_,h4,h3⟩) (by
  rintro x c hc' ⟨s,rfl,hs⟩;obtain⟨h3,h4⟩:=ZbU hd hs hc';unfold nxM;rw[Int.toNat_natCast,hc _ h3,h4]) d.next.length
 refine Eq.trans ?_ ht;unfold minD Zbj;rw[hc 0 h0,show((0:Nat):Int)=0 from rfl,← hb];unfold Zan;congr 1;refine List.map_congr_left fun x hx => ?_
 unfold Zag;refine List.map_congr_left fun c hc' => ?_
 obtain⟨h1,-⟩:=Zb3 hd d.next.length;obtain⟨g1,g2⟩:=h1 x hx;obtain⟨s,rfl⟩:=Int.eq_ofNat_of_zero_le g1;obtain⟨h3,h4⟩:=ZbU hd (show s<d.next.length by omega) (List.mem_range.1 hc');unfold nxM;rw[Int.toNat_natCast,hc _ h3,h4]
theorem ZeY {α:Type} [DecidableEq α] {nx:α→Nat→α} {a:α} {en:α→Bool} {K:Nat} (hK:(bat nx a K).met.length≤K) {i:Nat} (hi:i<(bat nx a K).met.length) {w:List Nat} (hw:isW w) :
  den (Zan nx en (bat nx a K).met) (runD (Zan nx en (bat nx a K).met) (i:Int) w)=en (w.foldl nx ((bat nx a K).met.getD i a)):=by
 obtain⟨h1,h2⟩:=Zjk (en:=en) hK w hw _ (memD (d:=a) hi);rw[Zee hi (ZaD K).1] at h2;rw[h2,Zh3 (ZaM h1)];congr 1;exact List.getElem_idxOf _
theorem Zju {d:DfaD} (hd:fine d) {s t:Nat} (hs:s<(minD d).next.length) (ht:t<(minD d).next.length) (h:∀ w,isW w→den (minD d) (runD (minD d) (s:Int) w)=den (minD d) (runD (minD d) (t:Int) w)):s=t:=by
 have hK:=(Zci hd d.next.length).2;have hin:=(Zci hd d.next.length).1;have hl:(minD d).next.length=(bat (nxM d) ((clD d 0:Nat):Int) d.next.length).met.length:=ZaN _ _ _;rw[hl] at hs ht;have h1:=hin _ (memD (d:=((clD d 0:Nat):Int)) hs);have h2:=hin _ (memD (d:=((clD d 0:Nat):Int)) ht);obtain⟨p,hp,hpl,hpc⟩:=h1;obtain⟨q,hq,hql,hqc⟩:=h2
 have key:p=q:=by
  rw[← hpc,← hqc];refine Zlp hd hpl hql fun w hw => ?_
  have h3:=h w hw;unfold minD at h3;rw[ZeY hK hs hw,ZeY hK ht hw,hp,hq] at h3;have e:=fun (r:Nat) (hr:r<d.next.length) (hc:clD d r=r)=>Zgf hd w hw hr
  obtain⟨u,hu,u1,u2⟩:=e p hpl hpc;obtain⟨v,hv,v1,v2⟩:=e q hql hqc;rw[hpc] at u1;rw[hqc] at v1;rw[u1,v1,ZbL,ZbL] at h3;rw[u2,v2,ZbL,ZbL,← ZcU (Zdb hu) hu (Zbq u hu).2,h3];exact ZcU (Zdb hv) hv (Zbq v hv).2
 have e1:=Zee hs (ZaD (nx:=nxM d) (a:=((clD d 0:Nat):Int)) d.next.length).1 ((clD d 0:Nat):Int);have e2:=Zee ht (ZaD (nx:=nxM d) (a:=((clD d 0:Nat):Int)) d.next.length).1 ((clD d 0:Nat):Int);rw[hp] at e1;rw[hq,← key] at e2;exact e1.symm.trans e2
theorem Zm7 {d:DfaD} (hd:fine d):Zbj (minD d)=minD d:=ZmP (Zci hd _).2
def Strs (B:Nat) (w:World) (v:Value) (ws:List (List Nat)):Prop:=Sl B w v ws.length 1 (wdCells ws)
theorem Strs.below {B:Nat} {w w':World} {v:Value} {ws:List (List Nat)} (h:Strs B w v ws) (he:Below w.heap.size w w'):Strs B w' v ws:=Sl.below h he
theorem Strs.form {B:Nat} {w:World} {v:Value} {ws:List (List Nat)} (h:Strs B w v ws):∃ a cap,v = .slice a ws.length cap∧ws.length≤cap∧cap≤9223372036854775807 ∧
  (0<ws.length→∃ b off,a=some ⟨b,off,none⟩∧b<w.heap.size∧∀ j,j<ws.length→w.cell? ⟨b,off+j,none⟩=some (.string (wdB (ws.getD j [])))):=by
 obtain⟨hl,a,cap,hv,h1,h2,h3⟩:=h;refine⟨a,cap,hv,h1,h2,fun hn => ?_⟩;obtain⟨b,off,ha,hb,hlt,hc⟩:=h3 hn;refine⟨b,off,ha,hlt,fun j hj => ?_⟩;rw[hc j (by omega)];simp[hj]
def okWs (ws:List (List Nat)):Prop:=∀ x∈ws,isW x∧x.length≤400000
def LOk (st:List (List Nat)):Prop:=(∀ x∈st,isW x)∧∀ i,i<st.length→(st.getD i []).length≤i
theorem LOk.visit {β:Type} [DecidableEq β] {key:List Nat→β} {s:List (List Nat)} (h:LOk s) {w:List Nat} (hw:isW w) (hl:w.length≤s.length):LOk (kvisit key s w):=by
 unfold kvisit
 split
 ·exact h
 refine⟨fun x hx => ?_,fun i hi => ?_⟩
 ·rcases List.mem_append.1 hx with hx|hx
  ·exact h.1 x hx
  simp only[List.mem_singleton] at hx;rw[hx];exact hw
 simp only[List.length_append,List.length_singleton] at hi;by_cases hin:i<s.length
 ·have:=h.2 i hin;simp only[List.getD_eq_getElem?_getD] at this ⊢;rw[List.getElem?_append_left hin];exact this
 obtain rfl:i=s.length:=by omega
 simpa using hl
theorem LOk.row {β:Type} [DecidableEq β] {key:List Nat→β} {s:List (List Nat)} (h:LOk s) {k:Nat} (hk:k<s.length):∀ n,n≤3→LOk (krow key s (s.getD k []) n)∧s.length≤(krow key s (s.getD k []) n).length
 | 0,_=>⟨h,Nat.le_refl _⟩
 | n+1,hn=>by obtain⟨h1,h2⟩:=h.row (key:=key) hk n (by omega);have h3:=(Zg6 (key:=key) (krow key s (s.getD k []) n) (s.getD k []++[n])).length_le;refine⟨h1.visit (ZeH (h.1 _ (memD hk)) (ZjF (by omega))) ?_,Nat.le_trans h2 h3⟩;have:=h.2 k hk;rw[List.length_append,List.length_singleton];omega
theorem LOk.kat {β:Type} [DecidableEq β] {key:List Nat→β} {s:List (List Nat)} (h:LOk s):∀ k,LOk (kat key s k)
 | 0=>h
 | k+1=>by
  have ih:=LOk.kat (key:=key) h k;by_cases hk:k<(Go.Proofs.YtfgpkadhegdffaaGreat.kat key s k).length
  ·rw[Zd9 hk];exact(ih.row hk 3 (by omega)).1
  rw[Zea (by omega)];exact ih
theorem LOk.okWs {st:List (List Nat)} (h:LOk st) (hl:st.length≤1000):∀ x∈st,isW x∧x.length≤399999:=fun x hx=>by refine⟨h.1 x hx,?_⟩;obtain⟨i,hi,e⟩:=List.getElem_of_mem hx;have:=h.2 i hi;rw[Zba hi,e] at this;omega
def hitD (d:DfaD) (g:DfaD):Option (List Nat):=hitP d g
theorem Zmc (d g:DfaD):hitD d g=hitK ZiE d g:=rfl
theorem Zm6:ZiE≤1600:=Nat.le_refl _
theorem ZiQ {d g:DfaD} {w:List Nat} (h:hitD d g=some w):isW w∧accD d w≠accD g w:=by rw[Zmc] at h;exact Znr h
theorem Zmb (d:DfaD):ZoB d (hitD d):=fun _ _ _ h=>ZiQ h
theorem Zns {K:Nat} {a b:DfaD} {w:List Nat} (h:hitK K a b=some w):w.length≤K:=by have hg:=(ZaD (nx:=Zal a b) (a:=((0,0):Int × Int)) K).2.1;obtain⟨i,hi,hw,-⟩:=Zeh (d:=((0,0):Int × Int)) hg h;rw[← hw];exact Zer (nx:=Zal a b) (a:=((0,0):Int × Int)) K _ (memD (by omega))
theorem Znt {d g:DfaD} {w:List Nat} (h:hitD d g=some w):w.length≤1600:=by rw[Zmc] at h;have:=Zns h;have:=Zm6;omega
def preW (d:DfaD):Nat→List (List Nat)
 | 0=>[[]]
 | j+1=>(tabW d (hitD d) j).1
def resW (d:DfaD) (j:Nat):List (List Nat):=(tabW d (hitD d) j).2
def staW (d:DfaD) (j:Nat):List (List Nat):=(tabW d (hitD d) j).1
def gueW (d:DfaD) (j:Nat):DfaD:=gssW d (hitD d) j
theorem ZkI {α:Type} {l m:List α} (h:l <+: m) (hm:m.Nodup):l.Nodup:=by obtain⟨t,rfl⟩:=h;exact(List.nodup_append.1 hm).1
theorem Zlx (d:DfaD) (j:Nat) {w:List Nat} (h:hitD d (gueW d j)=some w):resW d (j+1)=resW d j++[w.drop (cutW d (staW d j) (gueW d j) w+1)]:=by show(tabW d (hitD d) j).2++_=_;have h':hitD d (ZaA d (tabW d (hitD d) j).1 (tabW d (hitD d) j).2)=some w:=h;simp only[h',Option.getD_some];rfl
structure LTab (d:DfaD) (j:Nat):Prop where
 pre:LOk (preW d j)
 nd:((preW d j).map (rowW d (resW d j))).Nodup
 re:okWs (resW d j)
 rl:(resW d j).length≤j+1
 inv:LInv d (staW d j) (resW d j)
 st:LOk (staW d j)
theorem LTab.at {d:DfaD} (hd:Zae d.next d.ends=true):∀ j,(∀ i,i<j→(hitD d (gueW d i)).isSome=true)→LTab d j
 | 0,hy=>by
  have hinv:=(Zjc hd (Zmb d) 0 hy).1
  have h0:LOk [[]]:=⟨fun x hx=>by simp at hx;subst hx;intro c hc;simp at hc,fun i hi=>by
   obtain rfl:i=0:=by simpa using hi
   simp⟩
  exact⟨h0,by simp[preW],fun x hx=>by simp[resW,tabW] at hx;subst hx;exact⟨fun c hc=>by simp at hc,by simp⟩,by simp[resW,tabW],hinv,LOk.kat h0 _⟩
 | j+1,hy=>by
  have ih:=LTab.at hd j fun i hi=>hy i (by omega)
  have hinv:=(Zjc hd (Zmb d) (j+1) hy).1;obtain⟨w,hw⟩:=Option.isSome_iff_exists.1 (hy j (by omega));have hr:=Zlx d j hw;have hww:=(ZiQ hw).1;have hpre:preW d (j+1) <+: staW d (j+1):=ZhL (key:=rowW d (resW d (j+1))) (s0:=preW d (j+1)) (Nat.zero_le (d.next.length+1));refine⟨ih.st,?_,fun x hx => ?_,?_,hinv,LOk.kat (s:=preW d (j+1)) ih.st _⟩
  ·obtain⟨t,ht⟩:=hpre;have h1:=hinv.nd;refine ZkI (m:=(staW d (j+1)).map (rowW d (resW d (j+1)))) ⟨t.map (rowW d (resW d (j+1))),?_⟩ h1;rw[← List.map_append,ht]
  ·rw[hr] at hx;rcases List.mem_append.1 hx with hx|hx
   ·exact ih.re x hx
   simp only[List.mem_singleton] at hx;subst hx;refine⟨Zkb hww _,?_⟩;have:=Znt hw;rw[List.length_drop];omega
  rw[hr,List.length_append,List.length_singleton];have:=ih.rl;omega
/-! The guesses in memory. -/
def Ent.sub (X y:Ent):Prop:=(∀ w,X.holds w→y.holds w)∧∀ k,y.foot k→X.foot k
def GMem (X:Ent) (vals:List (Value × Value)) (gs:List DfaD):Prop:=vals.length=gs.length∧∀ i,i<gs.length →
 ∃ a1 c1 a2 c2 vs,vals.getD i (undef,undef)=(.slice a1 (gs.getD i ⟨[],[]⟩).next.length c1,.slice a2 (gs.getD i ⟨[],[]⟩).next.length c2) ∧
  Ent.sub X (Ent.rows 67 3 (.slice a1 (gs.getD i ⟨[],[]⟩).next.length c1) vs ((gs.getD i ⟨[],[]⟩).next.map intCells))∧Ent.sub X (Ent.row 4 1 (.slice a2 (gs.getD i ⟨[],[]⟩).next.length c2) (gs.getD i ⟨[],[]⟩).next.length (boolCells (gs.getD i ⟨[],[]⟩).ends))
theorem GMem.nil (X:Ent):GMem X [] []:=⟨rfl,fun i hi=>absurd hi (by simp)⟩
theorem Tryz.infoDfa:(Tryz.prog.info? 25).map (fun i=>(i.zero,i.size,i.bytes))=some (some (.agg #[.slice none 0 0,.slice none 0 0]),2,48):=by kernel_rfl
theorem GMem.own {w0 w:World} {L:List Ent} (h:St w0 w L) (i:Nat) {X:Ent} (hx:L[i]? = some X) {vals:List (Value × Value)} {gs:List DfaD} (hG:GMem X vals gs) {k:Nat} (hk:k<gs.length) :
  ∃ a1 c1 a2 c2,vals.getD k (undef,undef)=(.slice a1 (gs.getD k ⟨[],[]⟩).next.length c1,.slice a2 (gs.getD k ⟨[],[]⟩).next.length c2)∧(gs.getD k ⟨[],[]⟩).ends.length=(gs.getD k ⟨[],[]⟩).next.length ∧
   DfaO 67 3 4 w0.heap.size w.heap.size w (.agg #[.slice a1 (gs.getD k ⟨[],[]⟩).next.length c1,.slice a2 (gs.getD k ⟨[],[]⟩).next.length c2]) (gs.getD k ⟨[],[]⟩):=by
 obtain⟨a1,c1,a2,c2,vs,e,s1,s2⟩:=hG.2 k hk;have hil:i<L.length:=(List.getElem?_eq_some_iff.1 hx).1;have h1:=h.same i hx _ (s1.1 w) s1.2;have h2:=h.same i hx _ (s2.1 w) s2.2;have g1:=h1.intSS i (by rw[List.getElem?_set,if_pos rfl,if_pos hil]);have g2:=h2.row i (by rw[List.getElem?_set,if_pos rfl,if_pos hil]);have hl:(gs.getD k ⟨[],[]⟩).ends.length=(gs.getD k ⟨[],[]⟩).next.length:=by have:=g2.1;simp at this;simpa using this
 refine⟨a1,c1,a2,c2,e,hl,_,_,rfl,g1,?_⟩;unfold OBools;rw[hl];exact Zab g2
def xb (b x:Bool):Bool:=b != x
def flB (b:Bool) (g:DfaD):DfaD:=⟨g.next,g.ends.map (xb b)⟩
theorem Zmn (b:Bool) (g:DfaD) (s:Int) (w:List Nat):runD (flB b g) s w=runD g s w:=rfl
theorem ZnR {b:Bool} {g:DfaD} (h:Zae g.next g.ends=true):Zae (flB b g).next (flB b g).ends=true:=by
 have hl:=Zah h;refine Zh1 hl.1 hl.2.1 ?_ fun i hi=>ZaI h hi
 show(g.ends.map (xb b)).length=g.next.length;rw[List.length_map];exact hl.2.2
section
variable {key key':List Nat→List Bool} {f:List Bool→List Bool}
end
section
variable {b:Bool} {d M:DfaD}
end
def ZiH (p:Int × Int):DfaD:=if p.1=1 then Zf0 else if p.1=2 then oneD else minD ⟨[[2,2,2].set p.2.toNat 1,[2,2,2],[2,2,2]],[false,true,false]⟩
def oneQ (K:Nat) (k:Int) (a:DfaD):Option DfaD:=if k=8 then(Zfk 81 K (Zhq (Za5 a))).map minD else some (flB true a)
def twoQ (K:Nat) (k:Int) (a b:DfaD):Option DfaD :=
 if k=4 then(Zfk 81 K (ZhM (Za5 a) (Za5 b))).map minD else if k=5 then(ZbI K (fun p q=>p||q) a b).map minD else(ZbI K (fun p q=>p&&q) a b).map minD
def Zfb (K:Nat) (p:Int × Int) (st:List DfaD):Option (List DfaD) :=
 if Zai p=0 then some (ZiH p::st)
 else if Zai p=1 then
  match st with
  | a::r=>(oneQ K p.1 a).map (·::r)
  | []=>none
 else
  match st with
  | b::a::r=>(twoQ K p.1 a b).map (·::r)
  | _=>none
def runC (K:Nat):List (Int × Int)→List DfaD→Option (List DfaD)
 | [],st=>some st
 | p::ps,st=>(Zfb K p st).bind (runC K ps)
theorem ZmQ {d:DfaD} (hd:fine d):Zbj (flB true d)=flB true (Zbj d):=by
 have hm:=(Zb3 hd d.next.length).1;unfold Zbj Zan flB;show DfaD.mk _ _=DfaD.mk _ _;congr 1;rw[List.map_map];refine List.map_congr_left fun x hx => ?_
 obtain⟨h1,h2⟩:=hm x hx;have h3:=hd.2.2.1;have hlt:x.toNat<d.ends.length:=by omega
 simp[den,hlt]
theorem Zn3 {d:DfaD} (hd:Zae d.next d.ends=true) (hm:minD d=d):minD (flB true d)=flB true d:=by
 have hf:=Za3 hd;have hF:=Za3 (ZnR (b:=true) hd);have ht:Zbj d=d:=by have:=Zm7 hf;rw[hm] at this;exact this
 refine Zm8 hF (by rw[ZmQ hf,ht]) fun s t hs ht' h => ?_
 have hs:s<d.next.length:=hs;have ht':t<d.next.length:=ht';refine Zju hf (by rw[hm];exact hs) (by rw[hm];exact ht') fun w hw => ?_
 rw[hm];obtain⟨a,ha,hra⟩:=Zhu hf w hw hs;obtain⟨b,hb,hrb⟩:=Zhu hf w hw ht';have h1:=h w hw;rw[Zmn,Zmn,hra,hrb,ZbL,ZbL] at h1;rw[hra,hrb,ZbL,ZbL]
 have e:∀ i,i<d.next.length→enD (flB true d) i = !enD d i:=fun i hi=>by
  have h3:=(Zah hd).2.2;have hi2:i<d.ends.length:=by omega
  simp[enD,flB,hi2,xb]
 rw[e a ha,e b hb] at h1;simpa using h1
theorem Zh4 {K:Nat} (hK:K=40) (t:Ex) {d:DfaD} (h:Zaq K t=some d):minD d=d:=by
 have key:∀ {y:DfaD},Zae y.next y.ends=true→Zak y=d→minD d=d:=fun {y} hy e=>by rw[← e,ZcN (Za3 hy)];exact Zn2 (Za3 hy)
 cases t with
 | zero=>simp only[Zaq,Option.some.injEq] at h;exact key Zfv h
 | one=>simp only[Zaq,Option.some.injEq] at h;exact key ZhC h
 | ltr c=>simp only[Zaq,Option.some.injEq] at h;exact key (ZeG c) h
 | join a b =>simp only[Zaq,Option.bind_eq_some_iff,Option.map_eq_some_iff] at h;obtain⟨x,-,y,-,z,hz,e⟩:=h;exact key (Zdr hK hz) e
 | alt a b =>simp only[Zaq,Option.bind_eq_some_iff,Option.map_eq_some_iff] at h;obtain⟨x,-,y,-,z,hz,e⟩:=h;exact key (ZbY hK hz) e
 | both a b =>simp only[Zaq,Option.bind_eq_some_iff,Option.map_eq_some_iff] at h;obtain⟨x,-,y,-,z,hz,e⟩:=h;exact key (ZbY hK hz) e
 | neg a =>simp only[Zaq,Option.map_eq_some_iff] at h;obtain⟨x,hx,e⟩:=h;exact key (ZhF (ZcE hK a hx)) e
 | star a =>simp only[Zaq,Option.bind_eq_some_iff,Option.map_eq_some_iff] at h;obtain⟨x,-,z,hz,e⟩:=h;exact key (Zdr hK hz) e
theorem Zd8 {o:Option DfaD} (h:∀ d,o=some d→Zae d.next d.ends=true):o.map Zak=o.map minD:=by
 cases o with
 | none=>rfl
 | some d=>exact congrArg some (ZcN (Za3 (h d rfl)))
theorem ZnZ (d:DfaD):negD d=flB true d:=by unfold negD flB;congr 1;exact List.map_congr_left fun x _=>by cases x<;>rfl
theorem ZlY:Zak Zf0=Zf0:=by decide +kernel
theorem Zne:Zak oneD=oneD:=by decide +kernel
theorem Zlr {K:Nat} (hK:K=40):∀ (t:Ex) (rest:List (Int × Int)) (st:List DfaD),runC K (t.post++rest) st=(Zaq K t).bind fun d=>runC K rest (d::st):=by
 intro t
 induction t with
 | zero =>intro rest st;show(some (Zf0::st)).bind (runC K rest)=_;simp only[Zaq,ZlY];rfl
 | one =>intro rest st;show(some (oneD::st)).bind (runC K rest)=_;simp only[Zaq,Zne];rfl
 | ltr c =>
  intro rest st;have e:Zfb K (3,(c.val:Int)) st=some (ZiH (3,(c.val:Int))::st):=by unfold Zfb;rw[if_pos (Zfs c)]
  show(Zfb K (3,(c.val:Int)) st).bind (runC K rest)=_;rw[e];simp only[Zaq];rw[ZcN (Za3 (ZeG c))];rfl
 | join a b ha hb =>
  intro rest st;show runC K ((a.post++b.post++[(4,0)])++rest) st=_;rw[List.append_assoc,List.append_assoc,ha];simp only[Zaq];cases hx:Zaq K a with
  | none=>rfl
  | some x =>
   show runC K (b.post++([(4,0)]++rest)) (x::st)=_;rw[hb];show _=((Zaq K b).bind fun y=>(detM 81 K (ZdE x y)).map Zak).bind _;cases hy:Zaq K b with
   | none=>rfl
   | some y =>show((twoQ K 4 x y).map (·::st)).bind (runC K rest)=((detM 81 K (ZdE x y)).map Zak).bind _;rw[show twoQ K 4 x y=(detM 81 K (ZdE x y)).map Zak by rw[Zd8 fun d hd=>Zdr hK hd,← Zkj,← ZiO];rfl];cases (detM 81 K (ZdE x y)).map Zak<;>rfl
 | alt a b ha hb =>
  intro rest st;show runC K ((a.post++b.post++[(5,0)])++rest) st=_;rw[List.append_assoc,List.append_assoc,ha];simp only[Zaq];cases hx:Zaq K a with
  | none=>rfl
  | some x =>
   show runC K (b.post++([(5,0)]++rest)) (x::st)=_;rw[hb];show _=((Zaq K b).bind fun y=>(ZbI K (fun p q=>p||q) x y).map Zak).bind _;cases hy:Zaq K b with
   | none=>rfl
   | some y =>show((twoQ K 5 x y).map (·::st)).bind (runC K rest)=((ZbI K (fun p q=>p||q) x y).map Zak).bind _;rw[show twoQ K 5 x y=(ZbI K (fun p q=>p||q) x y).map Zak by rw[Zd8 fun d hd=>ZbY hK hd];rfl];cases (ZbI K (fun p q=>p||q) x y).map Zak<;>rfl
 | both a b ha hb =>
  intro rest st;show runC K ((a.post++b.post++[(6,0)])++rest) st=_;rw[List.append_assoc,List.append_assoc,ha];simp only[Zaq];cases hx:Zaq K a with
  | none=>rfl
  | some x =>
   show runC K (b.post++([(6,0)]++rest)) (x::st)=_;rw[hb];show _=((Zaq K b).bind fun y=>(ZbI K (fun p q=>p&&q) x y).map Zak).bind _;cases hy:Zaq K b with
   | none=>rfl
   | some y =>show((twoQ K 6 x y).map (·::st)).bind (runC K rest)=((ZbI K (fun p q=>p&&q) x y).map Zak).bind _;rw[show twoQ K 6 x y=(ZbI K (fun p q=>p&&q) x y).map Zak by rw[Zd8 fun d hd=>ZbY hK hd];rfl];cases (ZbI K (fun p q=>p&&q) x y).map Zak<;>rfl
 | neg a ha =>
  intro rest st;show runC K ((a.post++[(7,0)])++rest) st=_;rw[List.append_assoc,ha];simp only[Zaq];cases hx:Zaq K a with
  | none=>rfl
  | some x =>have hok:=ZcE hK a hx;show runC K rest (flB true x::st)=runC K rest (Zak (negD x)::st);rw[ZcN (Za3 (ZhF hok)),ZnZ,Zn3 hok (Zh4 hK a hx)]
 | star a ha =>
  intro rest st;show runC K ((a.post++[(8,0)])++rest) st=_;rw[List.append_assoc,ha];simp only[Zaq];cases hx:Zaq K a with
  | none=>rfl
  | some x =>show((oneQ K 8 x).map (·::st)).bind (runC K rest)=((detM 81 K (ZdY x)).map Zak).bind _;rw[show oneQ K 8 x=(detM 81 K (ZdY x)).map Zak by rw[Zd8 fun d hd=>Zdr hK hd,← Zkj,← Zil];rfl];cases (detM 81 K (ZdY x)).map Zak<;>rfl
theorem ZkA {K:Nat} (hK:K=40) (t:Ex):runC K t.post []=(Zaq K t).map fun d=>[d]:=by have h:=Zlr hK t [] [];rw[List.append_nil] at h;rw[h];cases Zaq K t<;>rfl
theorem Znf {p:Int × Int} (h:pOk p=true) (hn:Zai p=0):Zae (ZiH p).next (ZiH p).ends=true:=by
 unfold ZiH
 split
 ·exact Zfv
 split
 ·exact ZhC
 rename_i h1 h2
 have h3:p.1=3∧0≤p.2∧p.2≤2:=by
  unfold Zai at hn;rw[if_pos h] at hn;simp only[pOk,inB,Bool.and_eq_true,Bool.or_eq_true,decide_eq_true_eq,Bool.not_eq_true',decide_eq_false_iff_not] at h
  split at hn
  ·omega
  split at hn<;>omega
 obtain⟨c,hc⟩:∃ c:Fin 3,p.2.toNat=c.val:=⟨⟨p.2.toNat,by omega⟩,rfl⟩;rw[hc];have:=ZbX (ZeG c);rw[ZcN (Za3 (ZeG c))] at this;exact this
theorem ZlS {d:DfaD} (h:Zae d.next d.ends=true):Zae (minD d).next (minD d).ends=true:=by rw[← ZcN (Za3 h)];exact ZbX h
end Go.Proofs.YtfgpkadhegdffaaGreat
