/-
  The walk over the reference's BuildNfa: it answers some small automaton.
  Conditions: the list of parts reads as such.
-/
import Derived.Test.YtfikabecgaappaaGreatPb07Nd
import Derived.Test.YtfikabecgaappaaGreatPb11Ev
namespace Go.Proofs.YtfikabecgaappaaGreat
open Go.RowKit
def ZdU (n:NfaD):Prop:=0≤n.states∧n.states≤40∧n.moves.length≤400∧n.firsts.length≤40∧n.ends.length≤40
theorem Zbb:ZdU zeN:=⟨by decide,by decide,by decide,by decide,by decide⟩
theorem ZfD (n:NfaD):ZdU (limN n).1:=by
 unfold limN
 split
 ·rename_i h;obtain⟨m,h1,h2,-,h3,-,h4,-,h5⟩:=Zai h;exact⟨by rw[h1];omega,by rw[h1];omega,h3,h4,h5⟩
 exact Zbb
theorem ZgV (n:NfaD):ZdU (Zbk n).1:=by
 unfold Zbk
 split
 ·exact ZfD _
 exact Zbb
theorem ZgW (a b:NfaD):ZdU (Zb4 a b).1:=by
 unfold Zb4
 split
 ·exact ZfD _
 exact Zbb
theorem ZgX (a b:NfaD):ZdU (Zbx a b).1:=by
 unfold Zbx
 split
 ·exact ZfD _
 exact Zbb
def nxD (d:DfaD) (s c:Nat):Nat:=((d.next.getD s []).getD c 0).toNat
def enD (d:DfaD) (s:Nat):Bool:=d.ends.getD s false
def Zbi (d:DfaD):DfaD:=Zau (dnx d) (den d) (bat (dnx d) 0 d.next.length).met
theorem Zco {d:DfaD} (hd:fine d) {s c:Nat} (hs:s<d.next.length) (hc:c<3):nxD d s c<d.next.length∧dnx d (s:Int) c=((nxD d s c:Nat):Int):=by obtain⟨-,-,-,h⟩:=hd;obtain⟨-,h2⟩:=h s hs;obtain⟨a,b⟩:=h2 c hc;unfold nxD dnx;rw[Int.toNat_natCast];omega
theorem ZcN {d:DfaD} (hd:fine d) (K:Nat):(∀ x∈(bat (dnx d) 0 K).met,0≤x∧x<(d.next.length:Int))∧(bat (dnx d) 0 K).met.length≤d.next.length:=by
 have h1:∀ x∈(bat (dnx d) 0 K).met,0≤x∧x<(d.next.length:Int):=by refine Zcs (Q:=fun x=>0≤x∧x<(d.next.length:Int)) ⟨by omega,by have:=hd.1;omega⟩ (fun x c hc hx => ?_) K;obtain⟨s,rfl⟩:=Int.eq_ofNat_of_zero_le hx.1;obtain⟨a,b⟩:=Zco hd (s:=s) (by omega) hc;rw[b];omega
 refine⟨h1,?_⟩;have:=ZdZ (Zbf (nx:=dnx d) (a:=0) K).1 (m:=ZaX d.next.length) fun x hx=>by obtain⟨a,b⟩:=h1 x hx;obtain⟨s,rfl⟩:=Int.eq_ofNat_of_zero_le a;exact Zcd.2 (by omega)
 rwa [Zb9] at this
theorem ZaP {d:DfaD} (h:Zak d.next d.ends=true):fine d:=by have:=Zaj h;exact⟨by omega,by omega,by omega,fun i hi=>ZaV h hi⟩
theorem Znb {α:Type} [DecidableEq α] {nx:α→Nat→α} {a:α} {en:α→Bool} {K:Nat} (hK:(bat nx a K).met.length≤K):Zbi (Zau nx en (bat nx a K).met)=Zau nx en (bat nx a K).met:=by
 unfold Zbi;rw[ZaM];obtain⟨m,hm⟩:=eI ((bat nx a K).met.length);have hle:(bat nx a m).met.length≤m:=by have:=(ZiZ (nx:=nx) (a:=a) (show m≤K by omega)).1.length_le;omega
 have hd:bat nx a K=bat nx a m:=ZcB hle (by omega);have hp:=ZeN (nx:=nx) (a:=a) K;have hpl:∀ (s:Int) c,c<3→0≤s∧s<m→Zao (bat nx a K).met (nx ((bat nx a K).met.getD s.toNat a) c)<m:=fun s c hc hs=>by rw[hm];exact Zbu (Zdz hK (memD (d:=a) (show s.toNat<(bat nx a K).met.length by omega)) hc)
 have hlt:∀ (s:Int) c,c<3→0≤s∧s<m→0≤ZbD nx a (bat nx a K).met s c∧ZbD nx a (bat nx a K).met s c<m:=fun s c hc hs=>by have:=hpl s c hc hs;unfold ZbD;omega
 have e1:bat (ZbD nx a (bat nx a K).met) 0 m=bat (dnx (Zau nx en (bat nx a K).met)) 0 m :=
  ZgA (Q:=fun s=>0≤s∧s<(m:Int)) (by omega) (fun s c hc hs=>hlt s c hc hs) (fun s c hc hs=>(ZjF (by omega) (by omega) hc).symm) m
 have hmet:(bat (dnx (Zau nx en (bat nx a K).met)) 0 (bat nx a K).met.length).met=ZaX (bat nx a K).met.length:=by rw[← hm,← e1,ZlX nx a K m (by omega),← hd,hm]
 rw[hmet]
 have hr:(ZaX (bat nx a K).met.length).map (Zan (dnx (Zau nx en (bat nx a K).met)) (ZaX (bat nx a K).met.length))=(bat nx a K).met.map (Zan nx (bat nx a K).met):=by
  refine List.ext_getElem (by simp[ZaX]) fun i h1 h2 => ?_
  have hi:i<(bat nx a K).met.length:=by simpa using h2
  have hu:(ZaX (bat nx a K).met.length)[i]'(by simpa using h1)=(i:Int):=by simp[ZaX]
  simp only[List.getElem_map];rw[hu];unfold Zan;refine List.map_congr_left fun c hc => ?_
  have hc3:c<3:=List.mem_range.1 hc;rw[ZjF (a:=a) (by omega) (by omega) hc3];unfold ZbD;have hp2:=hpl (i:Int) c hc3 (by omega);have e2:(bat nx a K).met.getD (i:Int).toNat a=(bat nx a K).met[i]:=by simp[hi]
  rw[e2] at hp2 ⊢;congr 1;obtain⟨q,hq⟩:=eJ (Zao (bat nx a K).met (nx ((bat nx a K).met[i]) c));rw[hq] at hp2 ⊢;have e3:=Zfv (n:=(bat nx a K).met.length) (k:=q) (by omega);have e4:=Zfo (l:=ZaX (bat nx a K).met.length) (k:=q) (by rw[Zb9];omega) (List.Pairwise.map _ (fun _ _ h e=>h (Int.ofNat.inj e)) List.nodup_range) (0:Int);rw[e3] at e4;exact e4
 have he:(ZaX (bat nx a K).met.length).map (den (Zau nx en (bat nx a K).met))=(bat nx a K).met.map en:=by
  refine List.ext_getElem (by simp[ZaX]) fun i h1 h2 => ?_
  have hi:i<(bat nx a K).met.length:=by simpa using h2
  have hu:(ZaX (bat nx a K).met.length)[i]'(by simpa using h1)=(i:Int):=by simp[ZaX]
  simp only[List.getElem_map];rw[hu];exact ZjG hi
 exact congr (congrArg DfaD.mk hr) he
structure DfaC (w:World) (d:DfaD) (b1 o1 cv b2 o2 cw:Nat):Prop where
 l1:1≤d.next.length
 l2:d.next.length≤40
 le:d.ends.length=d.next.length
 c1:d.next.length≤cv∧cv≤9223372036854775807
 c2:d.next.length≤cw∧cw≤9223372036854775807
 hb1:b1<w.heap.size
 hb2:b2<w.heap.size
 row:∀ i,i<d.next.length→∃ b3 o3 c3,b3<w.heap.size∧3≤c3∧c3≤9223372036854775807∧w.cell? ⟨b1,o1+i,none⟩=some (.slice (some ⟨b3,o3,none⟩) 3 c3)∧∀ c,c<3→w.cell? ⟨b3,o3+c,none⟩=some (.int .i64 (nxD d i c:Nat))
 en:∀ i,i<d.next.length→w.cell? ⟨b2,o2+i,none⟩=some (.bool (enD d i))
 lt:∀ i c,i<d.next.length→c<3→nxD d i c<d.next.length
 dx:∀ i c,i<d.next.length→c<3→dnx d (i:Int) c=(nxD d i c:Nat)
theorem Zkf {d:DfaD} {w:World} {v:Value} (hd:Zak d.next d.ends=true) (h:DfaR 0 w v d):∃ b1 o1 cv b2 o2 cw,v = .agg #[.slice (some ⟨b1,o1,none⟩) d.next.length cv,.slice (some ⟨b2,o2,none⟩) d.next.length cw]∧DfaC w d b1 o1 cv b2 o2 cw:=by obtain⟨v1,v2,rfl,q1,q2⟩:=h;have hf:=ZaP hd;obtain⟨hl1,hl2,hle⟩:=Zaj hd;obtain⟨av,cv,rfl,hc1,hc2,hr1⟩:=q1.formI;obtain⟨b1,o1,rfl,-,hb1,hcs1⟩:=hr1 (by omega);obtain⟨av2,cw,rfl,hc3,hc4,hr2⟩:=q2.form;rw[hle] at hc3 hr2;obtain⟨b2,o2,rfl,-,hb2,hcs2⟩:=hr2 (by omega);rw[hle];refine⟨b1,o1,cv,b2,o2,cw,rfl,hl1,hl2,hle,⟨hc1,hc2⟩,⟨hc3,hc4⟩,hb1,hb2,fun i hi => ?_,fun i hi=>hcs2 i hi,fun i c hi hc=>(Zco hf hi hc).1,fun i c hi hc=>(Zco hf hi hc).2⟩;obtain⟨ax,cx,hks,p1,p2,hIs⟩:=hcs1 i hi;have hr3:=(ZaV hd hi).1;rw[hr3] at hks hIs p1;obtain⟨_,_,hform,-,-,hrs⟩:=hIs.form;rw[hr3] at hform hrs;simp only[Value.slice.injEq,true_and] at hform;obtain⟨rfl,rfl⟩:=hform;obtain⟨b3,o3,rfl,-,hb3,hcs3⟩:=hrs (by omega);refine⟨b3,o3,cx,hb3,p1,p2,hks,fun c hc => ?_⟩;rw[hcs3 c hc];have hyx:=(Zco hf hi hc).2;unfold dnx at hyx;rw[Int.toNat_natCast] at hyx;rw[hyx]
theorem DfaC.below {w w':World} {d:DfaD} {b1 o1 cv b2 o2 cw:Nat} (h:DfaC w d b1 o1 cv b2 o2 cw) (hb:Below w.heap.size w w'):DfaC w' d b1 o1 cv b2 o2 cw where
 l1:=h.l1
 l2:=h.l2
 le:=h.le
 c1:=h.c1
 c2:=h.c2
 hb1:=Nat.lt_of_lt_of_le h.hb1 hb.size
 hb2:=Nat.lt_of_lt_of_le h.hb2 hb.size
 row:=fun i hi=>by obtain⟨b3,o3,c3,p1,p2,p3,p4,p5⟩:=h.row i hi;exact⟨b3,o3,c3,Nat.lt_of_lt_of_le p1 hb.size,p2,p3,(bcell hb b1 _ h.hb1).trans p4,fun c hc=>(bcell hb b3 _ p1).trans (p5 c hc)⟩
 en:=fun i hi=>(bcell hb b2 _ h.hb2).trans (h.en i hi)
 lt:=h.lt
 dx:=h.dx
def RDo (D:DfaD) (w:World) (e:Ending) (w':World):Prop:=∃ a1 c1 a2 c2,e = .returned (.agg #[.slice a1 D.next.length c1,.slice a2 D.ends.length c2]) ∧
 DfaO 26 3 4 w.heap.size w'.heap.size w' (.agg #[.slice a1 D.next.length c1,.slice a2 D.ends.length c2]) D∧Below w.heap.size w w'
end Go.Proofs.YtfikabecgaappaaGreat
namespace Go.Proofs.YtfikabecgaappaaGreat
open Go.RowKit Go.Maps
def Ent.map {α:Type} (kt:Nat) (enc:α→Value) (b:Nat) (M:List (α × Value)):Ent:=⟨fun k=>k=b,fun w=>MapL Tryz.prog kt enc w b M,fun _ _ h hk=>h.kept (hk b rfl)⟩
section
variable {α:Type} {w0 w w':World} {L:List Ent} {kt:Nat} {enc:α→Value} {b:Nat} {M M':List (α × Value)}
theorem St.map (h:St w0 w L) (i:Nat) (hx:L[i]? = some (Ent.map kt enc b M)):MapL Tryz.prog kt enc w b M:=(h.has i _ hx).1
theorem St.mapset (h:St w0 w L) (i:Nat) (hx:L[i]? = some (Ent.map kt enc b M)) (hn:MapL Tryz.prog kt enc w' b M') (hg:w.grownBy w' (some b)):St w0 w' (L.set i (Ent.map kt enc b M')) :=
 h.turn i hx _ hg.os hg.tape hg.output hg.size (fun k hk hne=>hg.block k hk fun e=>hne (show k=b from Option.some.inj e)) hn fun k hk=>by have hk:k=b:=hk;subst hk;exact⟨hn.lt,Or.inl rfl⟩
end
def Zb1 (x:Int):Value:=.int .i64 x
theorem Zce:∀ x y:Int,Zb1 x=Zb1 y→x=y:=fun x y h=>by simp only[Zb1,Value.int.injEq,true_and] at h;exact h
theorem Tryz.lawInt:Keyed Tryz.prog 3:=int_keyed Tryz.underlying3
theorem Tryz.keyOfInt (x:Int) (hx:fitI x):∃ l,keyOf Tryz.prog 3 (Zb1 x)=some l:=⟨_,keyOf_int_mk Tryz.underlying3 (Zkc hx)⟩
theorem Zff (w:World):(zeroValue 3).run Tryz.prog w = .ok (.int .i64 0) w:=by kernel_rfl
end Go.Proofs.YtfikabecgaappaaGreat
