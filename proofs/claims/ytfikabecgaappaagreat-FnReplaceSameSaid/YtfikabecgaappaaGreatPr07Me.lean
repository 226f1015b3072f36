/-
  An automaton's reachable part, plain; that of a numbered automaton is itself.
  No condition: this text speaks of no program.
-/
import Derived.Test.YtfikabecgaappaaGreatPr03KeysS
namespace Go.Proofs.YtfikabecgaappaaGreat
open Go.RowKit
def nxD (d:DfaD) (s c:Nat):Nat:=((d.next.getD s []).getD c 0).toNat
def enD (d:DfaD) (s:Nat):Bool:=d.ends.getD s false
def ZaU (d:DfaD):DfaD:=Zap (dnx d) (den d) (bat (dnx d) 0 d.next.length).met
theorem Zbz {d:DfaD} (hd:fine d) {s c:Nat} (hs:s<d.next.length) (hc:c<3):nxD d s c<d.next.length∧dnx d (s:Int) c=((nxD d s c:Nat):Int):=by obtain⟨-,-,-,h⟩:=hd;obtain⟨-,h2⟩:=h s hs;obtain⟨a,b⟩:=h2 c hc;unfold nxD dnx;rw[Int.toNat_natCast];omega
theorem Zbd {d:DfaD} (hd:fine d) (K:Nat):(∀ x∈(bat (dnx d) 0 K).met,0≤x∧x<(d.next.length:Int))∧(bat (dnx d) 0 K).met.length≤d.next.length:=by
 have h1:∀ x∈(bat (dnx d) 0 K).met,0≤x∧x<(d.next.length:Int):=by refine ZbF (Q:=fun x=>0≤x∧x<(d.next.length:Int)) ⟨by omega,by have:=hd.1;omega⟩ (fun x c hc hx => ?_) K;obtain⟨s,rfl⟩:=Int.eq_ofNat_of_zero_le hx.1;obtain⟨a,b⟩:=Zbz hd (s:=s) (by omega) hc;rw[b];omega
 refine⟨h1,?_⟩;have:=Zdn (Za9 (nx:=dnx d) (a:=0) K).1 (m:=ZaT d.next.length) fun x hx=>by obtain⟨a,b⟩:=h1 x hx;obtain⟨s,rfl⟩:=Int.eq_ofNat_of_zero_le a;exact Zb3.2 (by omega)
 rwa [Zb0] at this
theorem ZaB {d:DfaD} (h:Zae d.next d.ends=true):fine d:=by have:=Zac h;exact⟨by omega,by omega,by omega,fun i hi=>ZaD h hi⟩
theorem Zmw {α:Type} [DecidableEq α] {nx:α→Nat→α} {a:α} {en:α→Bool} {K:Nat} (hK:(bat nx a K).met.length≤K):ZaU (Zap nx en (bat nx a K).met)=Zap nx en (bat nx a K).met:=by
 unfold ZaU;rw[ZaL];obtain⟨m,hm⟩:=eI ((bat nx a K).met.length);have hle:(bat nx a m).met.length≤m:=by have:=(ZeK (nx:=nx) (a:=a) (show m≤K by omega)).1.length_le;omega
 have hd:bat nx a K=bat nx a m:=Zbj hle (by omega);have hp:=Zdg (nx:=nx) (a:=a) K;have hpl:∀ (s:Int) c,c<3→0≤s∧s<m→Zai (bat nx a K).met (nx ((bat nx a K).met.getD s.toNat a) c)<m:=fun s c hc hs=>by rw[hm];exact ZaK (Zdq hK (memD (d:=a) (show s.toNat<(bat nx a K).met.length by omega)) hc)
 have hlt:∀ (s:Int) c,c<3→0≤s∧s<m→0≤Zbt nx a (bat nx a K).met s c∧Zbt nx a (bat nx a K).met s c<m:=fun s c hc hs=>by have:=hpl s c hc hs;unfold Zbt;omega
 have e1:bat (Zbt nx a (bat nx a K).met) 0 m=bat (dnx (Zap nx en (bat nx a K).met)) 0 m :=
  Zf1 (Q:=fun s=>0≤s∧s<(m:Int)) (by omega) (fun s c hc hs=>hlt s c hc hs) (fun s c hc hs=>(ZiZ (by omega) (by omega) hc).symm) m
 have hmet:(bat (dnx (Zap nx en (bat nx a K).met)) 0 (bat nx a K).met.length).met=ZaT (bat nx a K).met.length:=by rw[← hm,← e1,Zlc nx a K m (by omega),← hd,hm]
 rw[hmet]
 have hr:(ZaT (bat nx a K).met.length).map (Zad (dnx (Zap nx en (bat nx a K).met)) (ZaT (bat nx a K).met.length))=(bat nx a K).met.map (Zad nx (bat nx a K).met):=by
  refine List.ext_getElem (by simp[ZaT]) fun i h1 h2 => ?_
  have hi:i<(bat nx a K).met.length:=by simpa using h2
  have hu:(ZaT (bat nx a K).met.length)[i]'(by simpa using h1)=(i:Int):=by simp[ZaT]
  simp only[List.getElem_map];rw[hu];unfold Zad;refine List.map_congr_left fun c hc => ?_
  have hc3:c<3:=List.mem_range.1 hc;rw[ZiZ (a:=a) (by omega) (by omega) hc3];unfold Zbt;have hp2:=hpl (i:Int) c hc3 (by omega);have e2:(bat nx a K).met.getD (i:Int).toNat a=(bat nx a K).met[i]:=by simp[hi]
  rw[e2] at hp2 ⊢;congr 1;obtain⟨q,hq⟩:=eJ (Zai (bat nx a K).met (nx ((bat nx a K).met[i]) c));rw[hq] at hp2 ⊢;have e3:=Zfc (n:=(bat nx a K).met.length) (k:=q) (by omega);have e4:=ZdW (l:=ZaT (bat nx a K).met.length) (k:=q) (by rw[Zb0];omega) (List.Pairwise.map _ (fun _ _ h e=>h (Int.ofNat.inj e)) List.nodup_range) (0:Int);rw[e3] at e4;exact e4
 have he:(ZaT (bat nx a K).met.length).map (den (Zap nx en (bat nx a K).met))=(bat nx a K).met.map en:=by
  refine List.ext_getElem (by simp[ZaT]) fun i h1 h2 => ?_
  have hi:i<(bat nx a K).met.length:=by simpa using h2
  have hu:(ZaT (bat nx a K).met.length)[i]'(by simpa using h1)=(i:Int):=by simp[ZaT]
  simp only[List.getElem_map];rw[hu];exact Zi0 hi
 exact congr (congrArg DfaD.mk hr) he
def isA (l:List Nat) (j:Nat):Bool:=decide (l.getD j 0=97)
def posA (l:List Nat) (f g:Nat):List Nat:=(List.range' f (g-f)).filter (isA l)
theorem Zcv (l:List Nat) {f g h:Nat} (h1:f≤g) (h2:g≤h):posA l f h=posA l f g++posA l g h:=by unfold posA;rw[← List.filter_append];congr 1;have:=List.range'_append (s:=f) (m:=g-f) (n:=h-g) (step:=1);rw[Nat.one_mul,show f+(g-f)=g by omega,show g-f+(h-g)=h-f by omega] at this;exact this.symm
theorem ZgZ {l:List Nat} {f g:Nat} (h:∀ q,f≤q→q<g→isA l q=false):posA l f g=[]:=by unfold posA;rw[List.filter_eq_nil_iff];intro q hq;rw[List.mem_range'_1] at hq;rw[h q hq.1 (by omega)];decide
theorem Zk1 {l:List Nat} {j:Nat} (h:isA l j=true):posA l j (j+1)=[j]:=by unfold posA;rw[show j+1-j=1 by omega,List.range'_one,List.filter_cons,if_pos h];rfl
theorem Zju (p:Nat→Bool):∀ (m f j:Nat) (rest:List Nat),(List.range' f m).filter p=j::rest→f≤j∧j<f+m∧p j=true∧∀ q,f≤q→q<j→p q=false
 | 0,f,j,rest,h=>by cases h
 | m+1,f,j,rest,h=>by
  rw[List.range'_succ,List.filter_cons] at h;by_cases hp:p f=true
  ·rw[if_pos hp] at h;obtain⟨rfl,-⟩:=List.cons.inj h;exact⟨Nat.le_refl _,by omega,hp,fun q h1 h2=>by omega⟩
  rw[if_neg hp] at h;obtain⟨h1,h2,h3,h4⟩:=Zju p m (f+1) j rest h;refine⟨by omega,by omega,h3,fun q h5 h6 => ?_⟩;by_cases hq:q=f
  ·subst hq;simpa using hp
  exact h4 q (by omega) h6
def rpA (wt l:List Nat):List Nat:=l.flatMap fun c=>if c=97 then wt else [c]
theorem ZiC (wt x y:List Nat):rpA wt (x++y)=rpA wt x++rpA wt y:=List.flatMap_append
theorem ZkS (wt:List Nat):∀ {x:List Nat},(∀ c∈x,c≠97)→rpA wt x=x
 | [],_=>rfl
 | c::x,h=>by show(if c=97 then wt else [c])++rpA wt x=c::x;rw[if_neg (h c (List.mem_cons_self ..)),ZkS wt fun d hd=>h d (List.mem_cons_of_mem _ hd)];rfl
theorem Zjf:∀ l:List Nat,rpA [97] l=l
 | []=>rfl
 | c::l=>by
  show(if c=97 then [97] else [c])++rpA [97] l=c::l;rw[Zjf l];by_cases h:c=97
  ·rw[if_pos h,h];rfl
  rw[if_neg h];rfl
theorem ZkT:∀ l:List Nat,(∀ c∈rpA [] l,c≠97∧c∈l)∧(rpA [] l).length≤l.length
 | []=>⟨fun c hc=>(by cases hc),Nat.le_refl _⟩
 | c::l=>by
  obtain⟨h1,h2⟩:=ZkT l;have e:rpA [] (c::l)=(if c=97 then [] else [c])++rpA [] l:=rfl;rw[e];by_cases h:c=97
  ·rw[if_pos h,List.nil_append];exact⟨fun x hx=>⟨(h1 x hx).1,List.mem_cons_of_mem _ (h1 x hx).2⟩,by rw[List.length_cons];omega⟩
  rw[if_neg h];refine⟨fun x hx => ?_,by rw[List.length_append,List.length_cons];simp;omega⟩;rcases List.mem_append.1 hx with hx|hx
  ·rw[List.mem_singleton] at hx;subst hx;exact⟨h,List.mem_cons_self ..⟩
  exact⟨(h1 x hx).1,List.mem_cons_of_mem _ (h1 x hx).2⟩
theorem Zjk {l:List Nat} {f g:Nat} (hg:g≤l.length) (h:∀ q,f≤q→q<g→isA l q=false):∀ c∈(l.take g).drop f,c≠97:=fun c hc=>by obtain⟨i,hi,rfl⟩:=List.mem_iff_getElem.1 hc;rw[List.length_drop,List.length_take] at hi;have hq:=h (f+i) (by omega) (by omega);rw[List.getElem_drop,List.getElem_take];unfold isA at hq;rw[List.getD_eq_getElem?_getD,List.getElem?_eq_getElem (by omega)] at hq;exact of_decide_eq_false hq
theorem Zgg {l:List Nat} {f g:Nat} (h:f≤g):l.take g=l.take f++(l.take g).drop f:=by
 have:=(List.take_append_drop f (l.take g)).symm
 rwa [List.take_take,Nat.min_eq_left h] at this
theorem ZmG {wt l:List Nat} {f j:Nat} (hf:f≤j) (hj:j<l.length) (hp:isA l j=true) (h:∀ q,f≤q→q<j→isA l q=false):rpA wt (l.take (j+1))=rpA wt (l.take f)++((l.take j).drop f++wt):=by
 have e:l.take (j+1)=l.take j++[97]:=by rw[List.take_succ_eq_append_getElem hj];have:=of_decide_eq_true hp;rw[List.getD_eq_getElem?_getD,List.getElem?_eq_getElem hj] at this;rw[show l[j]=97 from this]
 rw[e,Zgg hf,ZiC,ZiC,ZkS wt (Zjk (by omega) h),List.append_assoc];congr 1;have e2:rpA wt [97]=wt:=by show(if (97:Nat)=97 then wt else [97])++[]=wt;rw[if_pos rfl,List.append_nil]
 rw[e2];rw[← Zgg hf]
theorem ZnP {wt l:List Nat} {f:Nat} (hf:f≤l.length) (h:∀ q,f≤q→q<l.length→isA l q=false):rpA wt l=rpA wt (l.take f)++l.drop f:=by have e:l=l.take f++l.drop f:=(List.take_append_drop f l).symm;have hn:=Zjk (Nat.le_refl _) h;rw[List.take_length] at hn;rw[show rpA wt l=rpA wt (l.take f++l.drop f) by rw[← e],ZiC,ZkS wt hn]
structure DfaC (w:World) (d:DfaD) (b1 o1 cv b2 o2 cw:Nat):Prop where
 l1:1≤d.next.length
 l2:d.next.length≤40
 le:d.ends.length=d.next.length
 c1:d.next.length≤cv∧cv≤9223372036854775807
 c2:d.next.length≤cw∧cw≤9223372036854775807
 hb1:b1<w.heap.size
 hb2:b2<w.heap.size
 row:∀ i,i<d.next.length→∃ b3 o3 c3,b3<w.heap.size∧3≤c3∧c3≤9223372036854775807∧w.cell? ⟨b1,o1+i,none⟩=some (.slice (some ⟨b3,o3,none⟩) 3 c3)∧∀ c,c<3→w.cell? ⟨b3,o3+c,none⟩=some (.int .i64 (nxD d i c:Nat))
 en:∀ i,i<d.next.length→w.cell? ⟨b2,o2+i,none⟩=some (.bool (enD d i))
 lt:∀ i c,i<d.next.length→c<3→nxD d i c<d.next.length
 dx:∀ i c,i<d.next.length→c<3→dnx d (i:Int) c=(nxD d i c:Nat)
theorem Zbv {d:DfaD} {w:World} {v:Value} (hd:Zae d.next d.ends=true) (h:DfaR 0 w v d):∃ b1 o1 cv b2 o2 cw,v = .agg #[.slice (some ⟨b1,o1,none⟩) d.next.length cv,.slice (some ⟨b2,o2,none⟩) d.next.length cw]∧DfaC w d b1 o1 cv b2 o2 cw:=by obtain⟨v1,v2,rfl,q1,q2⟩:=h;have hf:=ZaB hd;obtain⟨hl1,hl2,hle⟩:=Zac hd;obtain⟨av,cv,rfl,hc1,hc2,hr1⟩:=q1.formI;obtain⟨b1,o1,rfl,-,hb1,hcs1⟩:=hr1 (by omega);obtain⟨av2,cw,rfl,hc3,hc4,hr2⟩:=q2.form;rw[hle] at hc3 hr2;obtain⟨b2,o2,rfl,-,hb2,hcs2⟩:=hr2 (by omega);rw[hle];refine⟨b1,o1,cv,b2,o2,cw,rfl,hl1,hl2,hle,⟨hc1,hc2⟩,⟨hc3,hc4⟩,hb1,hb2,fun i hi => ?_,fun i hi=>hcs2 i hi,fun i c hi hc=>(Zbz hf hi hc).1,fun i c hi hc=>(Zbz hf hi hc).2⟩;obtain⟨ax,cx,hks,p1,p2,hIs⟩:=hcs1 i hi;have hr3:=(ZaD hd hi).1;rw[hr3] at hks hIs p1;obtain⟨_,_,hform,-,-,hrs⟩:=hIs.form;rw[hr3] at hform hrs;simp only[Value.slice.injEq,true_and] at hform;obtain⟨rfl,rfl⟩:=hform;obtain⟨b3,o3,rfl,-,hb3,hcs3⟩:=hrs (by omega);refine⟨b3,o3,cx,hb3,p1,p2,hks,fun c hc => ?_⟩;rw[hcs3 c hc];have hyx:=(Zbz hf hi hc).2;unfold dnx at hyx;rw[Int.toNat_natCast] at hyx;rw[hyx]
def RD (D:DfaD) (w:World) (e:Ending) (w':World):Prop:=∃ a1 c1 a2 c2,e = .returned (.agg #[.slice a1 D.next.length c1,.slice a2 D.ends.length c2])∧DfaR w.heap.size w' (.agg #[.slice a1 D.next.length c1,.slice a2 D.ends.length c2]) D∧Below w.heap.size w w'
theorem DfaC.below {w w':World} {d:DfaD} {b1 o1 cv b2 o2 cw:Nat} (h:DfaC w d b1 o1 cv b2 o2 cw) (hb:Below w.heap.size w w'):DfaC w' d b1 o1 cv b2 o2 cw where
 l1:=h.l1
 l2:=h.l2
 le:=h.le
 c1:=h.c1
 c2:=h.c2
 hb1:=Nat.lt_of_lt_of_le h.hb1 hb.size
 hb2:=Nat.lt_of_lt_of_le h.hb2 hb.size
 row:=fun i hi=>by obtain⟨b3,o3,c3,p1,p2,p3,p4,p5⟩:=h.row i hi;exact⟨b3,o3,c3,Nat.lt_of_lt_of_le p1 hb.size,p2,p3,(bcell hb b1 _ h.hb1).trans p4,fun c hc=>(bcell hb b3 _ p1).trans (p5 c hc)⟩
 en:=fun i hi=>(bcell hb b2 _ h.hb2).trans (h.en i hi)
 lt:=h.lt
 dx:=h.dx
def RDo (D:DfaD) (w:World) (e:Ending) (w':World):Prop:=∃ a1 c1 a2 c2,e = .returned (.agg #[.slice a1 D.next.length c1,.slice a2 D.ends.length c2]) ∧
 DfaO 26 3 4 w.heap.size w'.heap.size w' (.agg #[.slice a1 D.next.length c1,.slice a2 D.ends.length c2]) D∧Below w.heap.size w w'
end Go.Proofs.YtfikabecgaappaaGreat
namespace Go.Proofs.YtfikabecgaappaaGreat
open Go.RowKit Go.Maps
def Ent.map {α:Type} (kt:Nat) (enc:α→Value) (b:Nat) (M:List (α × Value)):Ent:=⟨fun k=>k=b,fun w=>MapL Tryz.prog kt enc w b M,fun _ _ h hk=>h.kept (hk b rfl)⟩
section
variable {α:Type} {w0 w w':World} {L:List Ent} {kt:Nat} {enc:α→Value} {b:Nat} {M M':List (α × Value)}
theorem St.map (h:St w0 w L) (i:Nat) (hx:L[i]? = some (Ent.map kt enc b M)):MapL Tryz.prog kt enc w b M:=(h.has i _ hx).1
theorem St.mapset (h:St w0 w L) (i:Nat) (hx:L[i]? = some (Ent.map kt enc b M)) (hn:MapL Tryz.prog kt enc w' b M') (hg:w.grownBy w' (some b)):St w0 w' (L.set i (Ent.map kt enc b M')) :=
 h.turn i hx _ hg.os hg.tape hg.output hg.size (fun k hk hne=>hg.block k hk fun e=>hne (show k=b from Option.some.inj e)) hn fun k hk=>by have hk:k=b:=hk;subst hk;exact⟨hn.lt,Or.inl rfl⟩
end
def ZbU (x:Int):Value:=.int .i64 x
theorem Zb4:∀ x y:Int,ZbU x=ZbU y→x=y:=fun x y h=>by simp only[ZbU,Value.int.injEq,true_and] at h;exact h
theorem Tryz.lawInt:Keyed Tryz.prog 3:=int_keyed Tryz.underlying3
theorem Tryz.keyOfInt (x:Int) (hx:fitI x):∃ l,keyOf Tryz.prog 3 (ZbU x)=some l:=⟨_,keyOf_int_mk Tryz.underlying3 (Zjv hx)⟩
theorem ZeY (w:World):(zeroValue 3).run Tryz.prog w = .ok (.int .i64 0) w:=by kernel_rfl
end Go.Proofs.YtfikabecgaappaaGreat
