/-
  An automaton's reachable part, plain; that of a numbered automaton is itself.
  No condition: this text speaks of no program.
-/
import Derived.Test.YtehmjmjedopkkaaGreatPn05Cp
set_option maxHeartbeats 8000000
set_option maxRecDepth 100000
namespace Go.Proofs.YtehmjmjedopkkaaGreat
open Go.RowKit
def nxD (d:DfaD) (s c:Nat):Nat:=((d.next.getD s []).getD c 0).toNat
def enD (d:DfaD) (s:Nat):Bool:=d.ends.getD s false
def ZaY (d:DfaD):DfaD:=Zat (dnx d) (den d) (bat (dnx d) 0 d.next.length).met
theorem ZbI {d:DfaD} (hd:fine d) {s c:Nat} (hs:s<d.next.length) (hc:c<3):nxD d s c<d.next.length∧dnx d (s:Int) c=((nxD d s c:Nat):Int):=by obtain⟨-,-,-,h⟩:=hd;obtain⟨-,h2⟩:=h s hs;obtain⟨a,b⟩:=h2 c hc;unfold nxD dnx;rw[Int.toNat_natCast];omega
theorem Zbi {d:DfaD} (hd:fine d) (K:Nat):(∀ x∈(bat (dnx d) 0 K).met,0≤x∧x<(d.next.length:Int))∧(bat (dnx d) 0 K).met.length≤d.next.length:=by
 have h1:∀ x∈(bat (dnx d) 0 K).met,0≤x∧x<(d.next.length:Int):=by refine ZbN (Q:=fun x=>0≤x∧x<(d.next.length:Int)) ⟨by omega,by have:=hd.1;omega⟩ (fun x c hc hx => ?_) K;obtain⟨s,rfl⟩:=Int.eq_ofNat_of_zero_le hx.1;obtain⟨a,b⟩:=ZbI hd (s:=s) (by omega) hc;rw[b];omega
 refine⟨h1,?_⟩;have:=Zdw (Zbd (nx:=dnx d) (a:=0) K).1 (m:=ZaW d.next.length) fun x hx=>by obtain⟨a,b⟩:=h1 x hx;obtain⟨s,rfl⟩:=Int.eq_ofNat_of_zero_le a;exact Zcb.2 (by omega)
 rwa [Zb8] at this
theorem Zaw {d:DfaD} (h:Zaf d.next d.ends=true):fine d:=by have:=Zad h;exact⟨by omega,by omega,by omega,fun i hi=>ZaG h hi⟩
theorem ZnE {α:Type} [DecidableEq α] {nx:α→Nat→α} {a:α} {en:α→Bool} {K:Nat} (hK:(bat nx a K).met.length≤K):ZaY (Zat nx en (bat nx a K).met)=Zat nx en (bat nx a K).met:=by
 unfold ZaY;rw[ZaO];obtain⟨m,hm⟩:=eI ((bat nx a K).met.length);have hle:(bat nx a m).met.length≤m:=by have:=(ZeY (nx:=nx) (a:=a) (show m≤K by omega)).1.length_le;omega
 have hd:bat nx a K=bat nx a m:=Zbr hle (by omega);have hp:=Zdq (nx:=nx) (a:=a) K;have hpl:∀ (s:Int) c,c<3→0≤s∧s<m→Zai (bat nx a K).met (nx ((bat nx a K).met.getD s.toNat a) c)<m:=fun s c hc hs=>by rw[hm];exact ZaN (ZdA hK (memD (d:=a) (show s.toNat<(bat nx a K).met.length by omega)) hc)
 have hlt:∀ (s:Int) c,c<3→0≤s∧s<m→0≤ZbB nx a (bat nx a K).met s c∧ZbB nx a (bat nx a K).met s c<m:=fun s c hc hs=>by have:=hpl s c hc hs;unfold ZbB;omega
 have e1:bat (ZbB nx a (bat nx a K).met) 0 m=bat (dnx (Zat nx en (bat nx a K).met)) 0 m :=
  Zgq (Q:=fun s=>0≤s∧s<(m:Int)) (by omega) (fun s c hc hs=>hlt s c hc hs) (fun s c hc hs=>(ZjP (by omega) (by omega) hc).symm) m
 have hmet:(bat (dnx (Zat nx en (bat nx a K).met)) 0 (bat nx a K).met.length).met=ZaW (bat nx a K).met.length:=by rw[← hm,← e1,Zml nx a K m (by omega),← hd,hm]
 rw[hmet]
 have hr:(ZaW (bat nx a K).met.length).map (Zae (dnx (Zat nx en (bat nx a K).met)) (ZaW (bat nx a K).met.length))=(bat nx a K).met.map (Zae nx (bat nx a K).met):=by
  refine List.ext_getElem (by simp[ZaW]) fun i h1 h2 => ?_
  have hi:i<(bat nx a K).met.length:=by simpa using h2
  have hu:(ZaW (bat nx a K).met.length)[i]'(by simpa using h1)=(i:Int):=by simp[ZaW]
  simp only[List.getElem_map];rw[hu];unfold Zae;refine List.map_congr_left fun c hc => ?_
  have hc3:c<3:=List.mem_range.1 hc;rw[ZjP (a:=a) (by omega) (by omega) hc3];unfold ZbB;have hp2:=hpl (i:Int) c hc3 (by omega);have e2:(bat nx a K).met.getD (i:Int).toNat a=(bat nx a K).met[i]:=by simp[hi]
  rw[e2] at hp2 ⊢;congr 1;obtain⟨q,hq⟩:=eJ (Zai (bat nx a K).met (nx ((bat nx a K).met[i]) c));rw[hq] at hp2 ⊢;have e3:=Zft (n:=(bat nx a K).met.length) (k:=q) (by omega);have e4:=Zd6 (l:=ZaW (bat nx a K).met.length) (k:=q) (by rw[Zb8];omega) (List.Pairwise.map _ (fun _ _ h e=>h (Int.ofNat.inj e)) List.nodup_range) (0:Int);rw[e3] at e4;exact e4
 have he:(ZaW (bat nx a K).met.length).map (den (Zat nx en (bat nx a K).met))=(bat nx a K).met.map en:=by
  refine List.ext_getElem (by simp[ZaW]) fun i h1 h2 => ?_
  have hi:i<(bat nx a K).met.length:=by simpa using h2
  have hu:(ZaW (bat nx a K).met.length)[i]'(by simpa using h1)=(i:Int):=by simp[ZaW]
  simp only[List.getElem_map];rw[hu];exact ZjQ hi
 exact congr (congrArg DfaD.mk hr) he
theorem Zkz {w:World} {v1:Value} {next:List (List Int)} {ends:List Bool} (h:IntSS 0 w v1 next) (hd:Zaf next ends=true) {i c:Nat} (hi:i<next.length) (hc:c<3) :
  ∃ q o cap z t s,v1 = .slice (some ⟨q,o,none⟩) next.length cap∧next.length≤cap∧cap≤9223372036854775807∧w.cell? ⟨q,o+i,none⟩=some (.slice (some ⟨z,t,none⟩) 3 s)∧3≤s∧s≤9223372036854775807 ∧
   w.cell? ⟨z,t+c,none⟩=some (.int .i64 ((next.getD i []).getD c 0))∧q<w.heap.size∧z<w.heap.size:=by
 obtain⟨a,cap,rfl,h1,h2,h3⟩:=h.form;obtain⟨q,o,rfl,_,hq,hr⟩:=h3 (by omega);obtain⟨a',s,e1,e2,e3,e4⟩:=hr i hi;obtain⟨hl,_⟩:=ZaG hd hi;rw[hl] at e1 e2 e4;obtain⟨z,t,rfl,_,hz,e5⟩:=e4 (by omega);exact⟨q,o,cap,z,t,s,rfl,h1,h2,e1,e2,e3,e5 c hc,hq,hz⟩
theorem Zem {w:World} {v1:Value} {xs:List Bool} (h:Bools 0 w v1 xs) {i:Nat} (hi:i<xs.length) :
  ∃ q o cap,v1 = .slice (some ⟨q,o,none⟩) xs.length cap∧xs.length≤cap∧cap≤9223372036854775807∧w.cell? ⟨q,o+i,none⟩=some (.bool (xs.getD i false))∧q<w.heap.size:=by
 obtain⟨a,cap,rfl,h1,h2,h3⟩:=h.form;obtain⟨q,o,rfl,_,hq,hr⟩:=h3 (by omega);exact⟨q,o,cap,rfl,h1,h2,hr i hi,hq⟩
theorem Zcd {a b:DfaD} {p:Int × Int} (h:Zb4 a b p=true):∃ i j:Nat,p=((i:Int),(j:Int))∧i<a.next.length∧j<b.next.length:=by unfold Zb4 at h;rw[Bool.and_eq_true] at h;obtain⟨x,y⟩:=p;obtain⟨h1,h2⟩:=Zd4 h.1;obtain⟨h3,h4⟩:=Zd4 h.2;simp only at h1 h2 h3 h4;obtain⟨i,rfl⟩:=Int.eq_ofNat_of_zero_le h1;obtain⟨j,rfl⟩:=Int.eq_ofNat_of_zero_le h3;exact⟨i,j,rfl,by omega,by omega⟩
def DfaAt (w:World) (b:Nat) (d:DfaD):Prop:=∃ v1 v2,Bx w b #[v1,v2] 32 ∧ IntSS 0 w v1 d.next∧Bools 0 w v2 d.ends
theorem DfaAt.below {w w':World} {b:Nat} {d:DfaD} (h:DfaAt w b d) (hb:Below w.heap.size w w'):DfaAt w' b d:=by obtain⟨v1,v2,h1,h2,h3⟩:=h;exact⟨v1,v2,h1.below hb h1.lt,h2.below hb,h3.below hb⟩
theorem Zil (a b:DfaD) (x:Int × Int) (c ba bb:Nat) (w:World) (hda:Zaf a.next a.ends=true) (hdb:Zaf b.next b.ends=true) (h1:DfaAt w ba a) (h2:DfaAt w bb b) (hx:Zb4 a b x=true) (hc:c<3) :
  Calls Tryz.prog 157 #[.agg #[.int .i64 x.1,.int .i64 x.2],.int .i64 c,.pointer (some ⟨ba,0,none⟩),.pointer (some ⟨bb,0,none⟩)] w fun e w'=>e = .returned (.agg #[.int .i64 (Zay a b x c).1,.int .i64 (Zay a b x c).2])∧Below w.heap.size w w':=by
 obtain⟨i,j,rfl,hi,hj⟩:=Zcd hx;obtain⟨u1,u2,hB1,g1,-⟩:=h1;obtain⟨u3,u4,hB2,g2,-⟩:=h2;obtain⟨q1,o1,c1,z1,t1,s1,rfl,hc1,hm1,e1,l1,m1,e2,d1,d2⟩:=Zkz g1 hda hi hc;obtain⟨q2,o2,c2,z2,t2,s2,rfl,hc2,hm2,e3,l2,m2,e4,d3,d4⟩:=Zkz g2 hdb hj hc;obtain⟨ta,hta⟩:=eI ((Zay a b ((i:Int),(j:Int)) c).1);obtain⟨tb,htb⟩:=eI ((Zay a b ((i:Int),(j:Int)) c).2);have e2':w.cell? ⟨z1,t1+c,none⟩=some (.int .i64 ta):=by rw[hta];exact e2
 have e4':w.cell? ⟨z2,t2+c,none⟩=some (.int .i64 tb):=by rw[htb];exact e4
 rw[← hta,← htb];have hla:=Zad hda;have hlb:=Zad hdb;have ca:=hB1.cell 0;have cb:=hB2.cell 0;simp only[List.getElem?_toArray,List.getElem?_cons_zero] at ca cb;have d5:=hB1.lt;have d6:=hB2.lt;have hci:(c:Int)<3:=by omega
 have hii:(i:Int)<a.next.length:=by omega
 have hjj:(j:Int)<b.next.length:=by omega
 clear g1 g2 hB1 hB2 hta htb e2 e4 hx hda hdb;obtain⟨h41,h42,-⟩:=hla;obtain⟨h43,h44,-⟩:=hlb
 go_enter Tryz.func157, Tryz.ntmps157
 go_wp2
 go_region_held3 (fun w'=>w'.cell? ⟨w.heap.size,0,none⟩=some (.int .i64 i)∧w'.cell? ⟨w.heap.size,1,none⟩=some (.int .i64 j)∧w'.cell? ⟨ba,0,none⟩=some (.slice (some ⟨q1,o1,none⟩) a.next.length c1)∧w'.cell? ⟨bb,0,none⟩=some (.slice (some ⟨q2,o2,none⟩) b.next.length c2)∧w'.cell? ⟨q1,o1+i,none⟩=some (.slice (some ⟨z1,t1,none⟩) 3 s1)∧w'.cell? ⟨q2,o2+j,none⟩=some (.slice (some ⟨z2,t2,none⟩) 3 s2)∧w'.cell? ⟨z1,t1+c,none⟩=some (.int .i64 ta)∧w'.cell? ⟨z2,t2+c,none⟩=some (.int .i64 tb))
  (first|go_keep) (fail)
 go_wp2;refine bodyPost_ret (v:=.agg #[.int .i64 ta,.int .i64 tb]) (by simp[results,Tryz.results157,go_sem]) rfl ⟨rfl,?_⟩;exact(((Below.refl _ _).alloc (Nat.le_refl _) _).alloc (by simp) _).drew
def ZbY (f:Bool→Bool→Bool) (a b:DfaD) (p:Int × Int):Bool:=f (a.ends.getD p.1.toNat false) (b.ends.getD p.2.toNat false)
structure DfaC (w:World) (d:DfaD) (b1 o1 cv b2 o2 cw:Nat):Prop where
 l1:1≤d.next.length
 l2:d.next.length≤40
 le:d.ends.length=d.next.length
 c1:d.next.length≤cv∧cv≤9223372036854775807
 c2:d.next.length≤cw∧cw≤9223372036854775807
 hb1:b1<w.heap.size
 hb2:b2<w.heap.size
 row:∀ i,i<d.next.length→∃ b3 o3 c3,b3<w.heap.size∧3≤c3∧c3≤9223372036854775807∧w.cell? ⟨b1,o1+i,none⟩=some (.slice (some ⟨b3,o3,none⟩) 3 c3)∧∀ c,c<3→w.cell? ⟨b3,o3+c,none⟩=some (.int .i64 (nxD d i c:Nat))
 en:∀ i,i<d.next.length→w.cell? ⟨b2,o2+i,none⟩=some (.bool (enD d i))
 lt:∀ i c,i<d.next.length→c<3→nxD d i c<d.next.length
 dx:∀ i c,i<d.next.length→c<3→dnx d (i:Int) c=(nxD d i c:Nat)
theorem ZbE {d:DfaD} {w:World} {v:Value} (hd:Zaf d.next d.ends=true) (h:DfaR 0 w v d):∃ b1 o1 cv b2 o2 cw,v = .agg #[.slice (some ⟨b1,o1,none⟩) d.next.length cv,.slice (some ⟨b2,o2,none⟩) d.next.length cw]∧DfaC w d b1 o1 cv b2 o2 cw:=by obtain⟨v1,v2,rfl,q1,q2⟩:=h;have hf:=Zaw hd;obtain⟨hl1,hl2,hle⟩:=Zad hd;obtain⟨av,cv,rfl,hc1,hc2,hr1⟩:=q1.formI;obtain⟨b1,o1,rfl,-,hb1,hcs1⟩:=hr1 (by omega);obtain⟨av2,cw,rfl,hc3,hc4,hr2⟩:=q2.form;rw[hle] at hc3 hr2;obtain⟨b2,o2,rfl,-,hb2,hcs2⟩:=hr2 (by omega);rw[hle];refine⟨b1,o1,cv,b2,o2,cw,rfl,hl1,hl2,hle,⟨hc1,hc2⟩,⟨hc3,hc4⟩,hb1,hb2,fun i hi => ?_,fun i hi=>hcs2 i hi,fun i c hi hc=>(ZbI hf hi hc).1,fun i c hi hc=>(ZbI hf hi hc).2⟩;obtain⟨ax,cx,hks,p1,p2,hIs⟩:=hcs1 i hi;have hr3:=(ZaG hd hi).1;rw[hr3] at hks hIs p1;obtain⟨_,_,hform,-,-,hrs⟩:=hIs.form;rw[hr3] at hform hrs;simp only[Value.slice.injEq,true_and] at hform;obtain⟨rfl,rfl⟩:=hform;obtain⟨b3,o3,rfl,-,hb3,hcs3⟩:=hrs (by omega);refine⟨b3,o3,cx,hb3,p1,p2,hks,fun c hc => ?_⟩;rw[hcs3 c hc];have hyx:=(ZbI hf hi hc).2;unfold dnx at hyx;rw[Int.toNat_natCast] at hyx;rw[hyx]
def RD (D:DfaD) (w:World) (e:Ending) (w':World):Prop:=∃ a1 c1 a2 c2,e = .returned (.agg #[.slice a1 D.next.length c1,.slice a2 D.ends.length c2])∧DfaR w.heap.size w' (.agg #[.slice a1 D.next.length c1,.slice a2 D.ends.length c2]) D∧Below w.heap.size w w'
theorem DfaC.below {w w':World} {d:DfaD} {b1 o1 cv b2 o2 cw:Nat} (h:DfaC w d b1 o1 cv b2 o2 cw) (hb:Below w.heap.size w w'):DfaC w' d b1 o1 cv b2 o2 cw where
 l1:=h.l1
 l2:=h.l2
 le:=h.le
 c1:=h.c1
 c2:=h.c2
 hb1:=Nat.lt_of_lt_of_le h.hb1 hb.size
 hb2:=Nat.lt_of_lt_of_le h.hb2 hb.size
 row:=fun i hi=>by obtain⟨b3,o3,c3,p1,p2,p3,p4,p5⟩:=h.row i hi;exact⟨b3,o3,c3,Nat.lt_of_lt_of_le p1 hb.size,p2,p3,(bcell hb b1 _ h.hb1).trans p4,fun c hc=>(bcell hb b3 _ p1).trans (p5 c hc)⟩
 en:=fun i hi=>(bcell hb b2 _ h.hb2).trans (h.en i hi)
 lt:=h.lt
 dx:=h.dx
def RDo (D:DfaD) (w:World) (e:Ending) (w':World):Prop:=∃ a1 c1 a2 c2,e = .returned (.agg #[.slice a1 D.next.length c1,.slice a2 D.ends.length c2]) ∧
 DfaO 59 3 4 w.heap.size w'.heap.size w' (.agg #[.slice a1 D.next.length c1,.slice a2 D.ends.length c2]) D∧Below w.heap.size w w'
end Go.Proofs.YtehmjmjedopkkaaGreat
namespace Go.Proofs.YtehmjmjedopkkaaGreat
open Go.RowKit Go.Maps
def Ent.map {α:Type} (kt:Nat) (enc:α→Value) (b:Nat) (M:List (α × Value)):Ent:=⟨fun k=>k=b,fun w=>MapL Tryz.prog kt enc w b M,fun _ _ h hk=>h.kept (hk b rfl)⟩
section
variable {α:Type} {w0 w w':World} {L:List Ent} {kt:Nat} {enc:α→Value} {b:Nat} {M M':List (α × Value)}
theorem St.map (h:St w0 w L) (i:Nat) (hx:L[i]? = some (Ent.map kt enc b M)):MapL Tryz.prog kt enc w b M:=(h.has i _ hx).1
theorem St.mapset (h:St w0 w L) (i:Nat) (hx:L[i]? = some (Ent.map kt enc b M)) (hn:MapL Tryz.prog kt enc w' b M') (hg:w.grownBy w' (some b)):St w0 w' (L.set i (Ent.map kt enc b M')) :=
 h.turn i hx _ hg.os hg.tape hg.output hg.size (fun k hk hne=>hg.block k hk fun e=>hne (show k=b from Option.some.inj e)) hn fun k hk=>by have hk:k=b:=hk;subst hk;exact⟨hn.lt,Or.inl rfl⟩
end
def Zb3 (x:Int):Value:=.int .i64 x
theorem Zcc:∀ x y:Int,Zb3 x=Zb3 y→x=y:=fun x y h=>by simp only[Zb3,Value.int.injEq,true_and] at h;exact h
theorem Tryz.lawInt:Keyed Tryz.prog 3:=int_keyed Tryz.underlying3
theorem Tryz.keyOfInt (x:Int) (hx:fitI x):∃ l,keyOf Tryz.prog 3 (Zb3 x)=some l:=⟨_,keyOf_int_mk Tryz.underlying3 (Zku hx)⟩
theorem Zfd (w:World):(zeroValue 3).run Tryz.prog w = .ok (.int .i64 0) w:=by kernel_rfl
theorem ZhV (a0:Int) (bc bd:Nat) (nx:Int→Nat→Int) (en:Int→Bool) (Q:Int→Prop) (most:Nat) (w:World) (h0:Q a0) (hQ:∀ x c,c<3→Q x→Q (nx x c)) (hfit:∀ x,Q x→fitI x) (hm0:0<most) (hm1:most≤100000) (hroom:(bat nx a0 most).met.length≤most)
  (hN:∀ x c w',Q x→c<3→Below w.heap.size w w'→Calls Tryz.prog 78 #[.int .i64 x,.int .i64 (c:Nat),.pointer (some ⟨bc,0,none⟩),.pointer (some ⟨bd,0,none⟩)] w' fun e w2=>e = .returned (.int .i64 (nx x c))∧Below w'.heap.size w' w2)
  (hE:∀ x w',Q x→Below w.heap.size w w'→Calls Tryz.prog 79 #[.int .i64 x,.pointer (some ⟨bd,0,none⟩)] w' fun e w2=>e = .returned (.bool (en x))∧Below w'.heap.size w' w2) :
  Calls Tryz.prog 74 #[.int .i64 a0,.int .i64 most,.func (.func 78) #[] #[.pointer (some ⟨bc,0,none⟩),.pointer (some ⟨bd,0,none⟩)],.func (.func 79) #[] #[.pointer (some ⟨bd,0,none⟩)]] w
   fun e w'=>∃ a1 c1 a2 c2 a3 c3 vs,e = .returned (.tuple #[.agg #[.slice a1 (bat nx a0 most).met.length c1,.slice a2 (bat nx a0 most).met.length c2],.slice a3 (bat nx a0 most).met.length c3,.bool true]) ∧
    St w w' [Ent.rows 59 3 (.slice a1 (bat nx a0 most).met.length c1) vs (((bat nx a0 most).met.map (Zae nx (bat nx a0 most).met)).map intCells),Ent.row 4 1 (.slice a2 (bat nx a0 most).met.length c2) (bat nx a0 most).met.length (boolCells ((bat nx a0 most).met.map en)),
     Ent.row 3 1 (.slice a3 (bat nx a0 most).met.length c3) (bat nx a0 most).met.length (intCells (bat nx a0 most).met)]:=by
 have hmm:=@run_makeMap Tryz.prog;obtain⟨l0,hl0⟩:=Tryz.keyOfInt a0 (hfit _ h0);obtain⟨i0,hi,hz0,hz1,hz2⟩:=info_parts Tryz.infoInt;obtain⟨j0,hj,hy0,hy1,hy2⟩:=info_parts Tryz.infoInts;obtain⟨b0,hbi0,hx0,hx1,hx2⟩:=info_parts Tryz.infoBool;have hSa:=(St.start w).alloc _ rfl #[.slice none 0 0,.slice none 0 0] 32;have HM:MapL Tryz.prog 3 Zb3 ((w.alloc (.cells #[.slice none 0 0,.slice none 0 0] 32)).alloc (.map #[] 0)) (w.heap.size+1) ([]:List (Int × Value)):=by simpa using MapL.made (P:=Tryz.prog) (kt:=3) (enc:=Zb3) (w.alloc (.cells #[.slice none 0 0,.slice none 0 0] 32))
 have hSb:=hSa.add ((Below.refl _ _).alloc (Nat.le_refl _) (.map #[] 0)) (Ent.map 3 Zb3 (w.heap.size+1) ([]:List (Int × Value))) HM fun k hk=>by have hk:k=w.heap.size+1:=hk;subst hk;simp
 obtain⟨w1,hrun,hm1',hg1⟩:=HM.store Tryz.lawInt Zcc Tryz.underlying129 hl0 (.int .i64 0);simp only[Zb3] at hrun;have hSc:=hSb.mapset 1 rfl hm1' hg1;have hSd:=(((((hSc.alloc _ rfl #[.int .i64 a0] 3).boxrow 2 1 1 [.int .i64 a0] rfl rfl (by unfold maxLen;omega)).alloc (w1.heap.size+1) (by simp) #[.slice none 0 0,.slice none 0 0] 32).nilRow 59 1).norows 4 rfl 3).nilRow 4 1;obtain⟨F,hF⟩:=eI ((bat nx a0 most).met);have hbel:∀ k,k≤most→(bat nx a0 k).met.length≤most:=fun k hk=>by have:=(ZeY (nx:=nx) (a:=a0) hk).1.length_le;omega
 rw[← hF] at hroom;rw[← hF];have HN:=qh hN;have HE:=qh hE;have HQ:=qh hQ;have Hfit:=qh hfit;have Hh0:=qh h0;have Hbel:=qh hbel;replace hF:=qh hF;have HhSd:=qh hSd;clear hSd;have Hhl0:=qh hl0;clear hl0;have Hhi:=qh hi;clear hi;have Hhz0:=qh hz0;clear hz0;have Hhz1:=qh hz1;clear hz1;have Hhz2:=qh hz2;clear hz2;have Hhj:=qh hj;clear hj;have Hhy0:=qh hy0;clear hy0;have Hhy1:=qh hy1;clear hy1;have Hhy2:=qh hy2;clear hy2;have Hhbi0:=qh hbi0;clear hbi0;have Hhx0:=qh hx0;clear hx0;have Hhx1:=qh hx1;clear hx1;have Hhx2:=qh hx2;clear hx2;clear hSa hSb hSc HM hm1' hg1 hN hE hQ hfit h0 hbel
 go_enter Tryz.func74, Tryz.ntmps74
 go_wp2;clear hrun hmm
 go_loopw [9,10,12,14] (fun r1 r2 vm i wr=>∃ (k g3 c3:Nat) (a1 a2:Option Addr) (c1 c2:Nat) (vs:List Value),i = .int .i64 k∧vm = .slice (some ⟨g3,0,none⟩) (bat nx a0 k).met.length c3∧k≤(bat nx a0 k).met.length∧k≤most ∧
   St w wr [Ent.box w.heap.size #[.slice none 0 0,.slice none 0 0] 32,Ent.map 3 Zb3 (w.heap.size+1) (numbered (bat nx a0 k).met),Ent.row 3 1 (.slice (some ⟨g3,0,none⟩) (bat nx a0 k).met.length c3) (bat nx a0 k).met.length (intCells (bat nx a0 k).met),
    Ent.box (w1.heap.size+1) #[.slice a1 k c1,.slice a2 k c2] 32,Ent.rows 59 3 (.slice a1 k c1) vs ((((bat nx a0 k).met.take k).map (Zae nx F)).map intCells),Ent.row 4 1 (.slice a2 k c2) k (boolCells (((bat nx a0 k).met.take k).map en))])
  (fun _ _ _ i _=>most+1-(intOf i).toNat)
 case atStart=>exact⟨0,_,_,none,none,0,0,[],rfl,rfl,Nat.zero_le _,Nat.zero_le _,HhSd.out⟩
 case round =>
  obtain⟨k,g3,c3,a1,a2,c1,c2,vs,rfl,rfl,hk,hkm,hS⟩:=hrel;obtain⟨wo,hwo⟩:∃ wo:World,wo=wr:=⟨_,rfl⟩;subst hwo;obtain⟨M,hM⟩:=eI ((bat nx a0 k).met);have hMl:=Hbel.out k hkm;rw[← hM] at hS hk hMl;rw[← hM];by_cases hlt:k<M.length
  ·have hlt2:(k:Int)<M.length:=by omega
   have HF:∀ n,n≤3→(bpart nx a0 k n).met <+: F:=fun n hn=>by rw[hF.out];exact(ZaE (by rw[← hM];exact hlt) hn (by omega)).1
   have HT:∀ n,n≤3→(bpart nx a0 k n).met.length≤most:=fun n hn=>Nat.le_trans (HF n hn).length_le hroom
   obtain⟨x,hxx⟩:=eI (M.getD k a0);have hQx:Q x:=by rw[hxx,hM];exact ZbN Hh0.out HQ.out k _ (Zcs (by rw[← hM];exact hlt))
   have Hhxx:=qh hxx;clear hxx;replace HF:=qh HF;have HHT:=qh HT;clear HT;have HhQx:=qh hQx;clear hQx;have HhM:=qh hM;clear hM;have HhS:=qh hS;clear hS;go_wp2_with (at_make;refine wpList_make_full _ rfl _ _ 59 rfl wo.heap.size 3 i0 (.int .i64 0) 1 Tryz.underlying59 Hhi.out Hhz0.out Hhz1.out .i64 .i64 _ _ 3 rfl rfl rfl rfl (by rw[Hhz2.out];omega) (by unfold maxLen;omega) (Nat.le_refl _) ?_;intro w2 hown hgrow;have HS2:=qh (HhS.out.made ((Below.refl _ _).grown hgrow (Nat.le_refl _) (fun _ h=>by cases h)) hown);have hcl:=qh hown.1;clear hown hgrow)
   go_loopw [9,10,12,32] (fun r1 r2 vm i wi=>∃ (n g4 c4:Nat) (cs:List Value),i = .int .i64 n∧vm = .slice (some ⟨g4,0,none⟩) (bpart nx a0 k n).met.length c4∧n≤3∧cs.length=3∧cs.take n=(intCells (Zae nx F x)).take n ∧
     St w wi [Ent.box w.heap.size #[.slice none 0 0,.slice none 0 0] 32,Ent.map 3 Zb3 (w.heap.size+1) (numbered (bpart nx a0 k n).met),Ent.row 3 1 (.slice (some ⟨g4,0,none⟩) (bpart nx a0 k n).met.length c4) (bpart nx a0 k n).met.length (intCells (bpart nx a0 k n).met),
      Ent.box (w1.heap.size+1) #[.slice a1 k c1,.slice a2 k c2] 32,Ent.rows 59 3 (.slice a1 k c1) vs (((M.take k).map (Zae nx F)).map intCells),Ent.row 4 1 (.slice a2 k c2) k (boolCells ((M.take k).map en)),Ent.row 3 1 (.slice (some ⟨wo.heap.size,0,none⟩) 3 3) 3 cs])
    (fun _ _ _ i _=>3-(intOf i).toNat)
   case atStart =>refine⟨0,g3,c3,(madeCells (Value.int .i64 0).cells (3*1)).toList,rfl,by rw[Zau,← HhM.out],by omega,by simpa using hcl.out,rfl,?_⟩;rw[Zau,← HhM.out];exact HS2.out
   case round =>
    obtain⟨n,g4,c4,cs,rfl,rfl,hn,hcs,htk,hSi⟩:=hrel;have hMS:M <+: (bpart nx a0 k n).met:=by rw[HhM.out,← Zau];exact(ZbG (Nat.zero_le n)).1
    have hSl:M.length≤(bpart nx a0 k n).met.length:=hMS.length_le;by_cases hn3:n<3
    ·have hnd:(bpart nx a0 k n).met.Nodup:=(Zdz (by rw[← HhM.out];exact hlt) hn).1;have hSF:=HF.out n hn;have hSF1:=HF.out (n+1) (by omega);have hT0:=HHT.out n hn;have hT1:=HHT.out (n+1) (by omega);have hold:nx x n∈(bpart nx a0 k n).met→(bpart nx a0 k (n+1)).met=(bpart nx a0 k n).met:=fun h=>by rw[ZbF (by rw[← HhM.out,← Hhxx.out];exact h)]
     have hnew:nx x n ∉ (bpart nx a0 k n).met→(bpart nx a0 k (n+1)).met=(bpart nx a0 k n).met++[nx x n]:=fun h=>by rw[Zbj (by rw[← HhM.out,← Hhxx.out];exact h),← HhM.out,← Hhxx.out]
     have hQy:Q (nx x n):=HQ.out x n hn3 HhQx.out;have hf:=Hfit.out _ hQy;have hNx:=fun w' (h:Below w.heap.size w w')=>HN.out x n w' HhQx.out hn3 h
     have hrowy:(intCells (Zae nx F x))[n]? = some (.int .i64 (Zai F (nx x n):Int)):=by simp[Zae,hn3]
     obtain⟨S1,hS1⟩:=eI ((bpart nx a0 k (n+1)).met);obtain⟨S,hSS⟩:=eI ((bpart nx a0 k n).met);obtain⟨y,hy⟩:=eI (nx x n);rw[← hSS] at hSi hMS hSl hnd hold hnew hSF hT0;rw[← hS1] at hold hnew hSF1 hT1;rw[← hy] at hQy hf hNx hold hnew hrowy;rw[← hSS];have hxS:S.getD k a0=x:=by rw[Hhxx.out];exact ZaB hMS hlt _
     have hkS:(k:Int)<S.length:=by omega
     have e1:=hSi.rcell (v:=.int .i64 x) 2 k rfl (by omega) (by rw[← hxS];simp[intCells,show k<S.length by omega]);obtain⟨ly,hly⟩:=Tryz.keyOfInt y hf;have hNx':=qh (hNx _ hSi.bel);have HhSS:=qh hSS;clear hSS;have HhS1:=qh hS1;clear hS1;have Hhy:=qh hy;clear hy;have Hhnd:=qh hnd;clear hnd;have Hhold:=qh hold;clear hold;have Hhnew:=qh hnew;clear hnew;have HhSF:=qh hSF;clear hSF;have HhSF1:=qh hSF1;clear hSF1;have Hhrowy:=qh hrowy;clear hrowy;have Hhcs:=qh hcs;clear hcs;have Hhtk:=qh htk;clear htk;have HhSi:=qh hSi;clear hSi;have HhMS:=qh hMS;clear hMS;have HhQy:=qh hQy;clear hQy;have Hhf:=qh hf;clear hf;have HhxS:=qh hxS;clear hxS;have Hhly:=qh hly;clear hly;clear hNx;go_wp2_with fail;refine hNx'.out.mono ?_;rintro e w3 ⟨rfl,hb3⟩;have hS3:=HhSi.out.call hb3;clear hb3 e1;by_cases hmem:y∈S
     ·have hlk1:=(hS3.map 1 rfl).lookupOk Tryz.lawInt Zcc Tryz.underlying129 (Zfd _) Hhly.out;have hlk2:=(hS3.map 1 rfl).lookup Tryz.lawInt Zcc Tryz.underlying129 (Zfd _) Hhly.out;have hpl:Zai S y=Zai F y:=(ZaU HhSF.out hmem).symm;rw[Zba Hhnd.out hmem,hpl] at hlk1 hlk2;simp only[Option.getD_some,Option.isSome_some,Zb3] at hlk1 hlk2;obtain⟨q,hq⟩:=eI (Zai F y);rw[← hq] at hlk1 hlk2;obtain⟨u0,hu0⟩:=ZcW (hS3.row 6 rfl) n (by omega);have hfr:=hS3.rfr 6 n rfl;have Hhq:=qh hq;clear hq;have Hhpl:=qh hpl;clear hpl;have HhS3:=qh hS3;clear hS3;have Hhmem:=qh hmem;clear hmem;go_wp2;go_roundw
      case rel =>refine⟨n+1,g4,c4,cs.set n (.int .i64 (q:Int)),by go_num,by rw[← HhS1.out,Hhold.out Hhmem.out],by omega,by simpa using Hhcs.out,ZcO (n:=3) Hhcs.out (by simp[Zae]) hn3 Hhtk.out (by rw[Hhrowy.out,← Hhq.out]),?_⟩;rw[← HhS1.out,Hhold.out Hhmem.out];exact HhS3.out.store 6 rfl n (.int .i64 (q:Int))
      case measure=>simp[intOf];omega
     have hlk1:=(hS3.map 1 rfl).lookupOk Tryz.lawInt Zcc Tryz.underlying129 (Zfd _) Hhly.out;rw[Zcn hmem] at hlk1;simp only[Option.getD_none,Option.isSome_none,Zb3] at hlk1;have hnw:=Hhnew.out hmem;have hfull:S.length<most:=by rw[hnw] at hT1;simp at hT1;omega
     have hq1:((S.length:Int)==(most:Int))=false:=by simp;omega
     have hq2:¬ (S.length:Int)=(most:Int):=by omega
     obtain⟨w5,hrun5,hm5,hg5⟩:=(hS3.map 1 rfl).store Tryz.lawInt Zcc Tryz.underlying129 Hhly.out (.int .i64 (S.length:Int));rw[Zcw hmem] at hm5;simp only[Zb3] at hrun5;have hS5:=hS3.mapset 1 rfl hm5 hg5;have hSa:=hS5.alloc_ (.cells #[.int .i64 y] 3);have hR:=hSa.row 2 rfl;obtain⟨q,hq⟩:=eI (Zai F y);have hA:∀ w7,MapL Tryz.prog 3 Zb3 w7 (w.heap.size+1) (numbered (S++[y]))→(Instr.lookup 129 (.map (some (w.heap.size+1))) (.int .i64 y) false).run Tryz.prog w7 = .ok (.int .i64 (q:Int)) w7:=fun w7 h7=>by have hlk7:=h7.lookup Tryz.lawInt Zcc Tryz.underlying129 (Zfd _) Hhly.out;have hpl:Zai (S++[y]) y=Zai F y:=(ZaU (by rw[← hnw];exact HhSF1.out) (by simp)).symm;rw[Zba (ZcF Hhnd.out hmem) (by simp),hpl,← hq] at hlk7;exact hlk7
     have hsb:(S.length+1)*8≤140737488355328:=by omega
     have hs63:S.length+1≤maxLen:=by unfold maxLen;omega
     have Hhq:=qh hq;clear hq;have HhA:=qh hA;clear hA;have HhS3:=qh hS3;clear hS3;have HhS5:=qh hS5;clear hS5;have HhSa:=qh hSa;clear hSa;have HhR:=qh hR;clear hR;have Hhm5:=qh hm5;clear hm5;have Hhg5:=qh hg5;clear hg5;have Hhmem:=qh hmem;clear hmem;have Hhnw:=qh hnw;clear hnw;go_wp2_with (at_builtin;refine wpList_append_lies _ rfl _ _ _ rfl _ 3 i0 (.int .i64 0) 1 8 Tryz.underlying59 Hhi.out Hhz0.out Hhz1.out Hhz2.out rfl (by omega) _ S.length _ rfl HhR.out ⟨w5.heap.size,0,none⟩ 1 1 [.int .i64 y] rfl rfl (World.news_of_block (heap_alloc_new w5 _)) Zbf (by omega) hs63 hsb HhSa.out.size _ rfl ?_;intro g7 c7 w7 hown7 hgrow7 hat7 hlt7;have HS7:=qh (HhSa.out.app 2 rfl hown7 hgrow7 hat7);have hlk7:=HhA.out w7 (HS7.out.map 1 rfl);obtain⟨u0,hu0⟩:=ZcW (HS7.out.row 6 rfl) n (by omega);have hfr7:=HS7.out.rfr 6 n rfl;clear hown7 hgrow7 hat7);go_roundw
     case rel =>refine⟨n+1,g7,c7,cs.set n (.int .i64 (q:Int)),by go_num,by rw[← HhS1.out,Hhnw.out,List.length_append];rfl,by omega,by simpa using Hhcs.out,ZcO (n:=3) Hhcs.out (by simp[Zae]) hn3 Hhtk.out (by rw[Hhrowy.out,← Hhq.out]),?_⟩;rw[← HhS1.out,Hhnw.out,List.length_append,Zav];exact HS7.out.store 6 rfl n (.int .i64 (q:Int))
     case measure=>simp[intOf];omega
    obtain rfl:n=3:=by omega
    have hbs:(bat nx a0 (k+1)).met=(bpart nx a0 k 3).met:=congrArg Bs.met (ZaK (by rw[← HhM.out];exact hlt));have hxS:(bpart nx a0 k 3).met.getD k a0=x:=by rw[Hhxx.out];exact ZaB hMS hlt _
    have htake:(bpart nx a0 k 3).met.take (k+1)=M.take k++[x]:=by obtain⟨t,ht⟩:=hMS;rw[← ht,List.take_append_of_le_length (by omega),List.take_succ_eq_append_getElem hlt,Hhxx.out];simp[hlt]
    obtain⟨S,hSS⟩:=eI ((bpart nx a0 k 3).met);rw[← hSS] at hSi hxS htake hSl hbs;rw[← hSS];have hkS:k<S.length:=by omega
    have hkSI:(k:Int)<S.length:=by omega
    have hce:cs=intCells (Zae nx F x):=by rwa [List.take_of_length_le (by omega),List.take_of_length_le (by simp[Zae])] at htk
    subst hce;have hlm:(((M.take k).map (Zae nx F)).map intCells).length=k:=by rw[Zb6,List.length_take];omega
    have hSa:=hSi.alloc_ (.cells #[.slice (some ⟨wo.heap.size,0,none⟩) 3 3] 59);have hRw:=(hSa.rows 4 rfl).1;rw[hlm] at hRw;have e0:=hSi.cell (v:=.slice a1 k c1) 3 0 rfl rfl;have hsx:(intCells S)[k]? = some (.int .i64 x):=by rw[← hxS];simp[intCells,hkS]
    have htk1:(S.take (k+1)).map (Zae nx F)=(M.take k).map (Zae nx F)++[Zae nx F x]:=by rw[htake,List.map_append];rfl
    have htk2:(S.take (k+1)).map en=(M.take k).map en++[en x]:=by rw[htake,List.map_append];rfl
    have hEn:=fun w' (h:Below w.heap.size w w')=>HE.out x w' HhQx.out h
    obtain⟨r,hr⟩:=eI (en x);rw[← hr] at hEn htk2;have HEn:=qh hEn;have Hhlm:=qh hlm;clear hlm;have HhSi:=qh hSi;clear hSi;have HhSa:=qh hSa;clear hSa;have HhRw:=qh hRw;clear hRw;have Hhbs:=qh hbs;clear hbs;have HhSS:=qh hSS;clear hSS;have Hhtake:=qh htake;clear htake;have Hhsx:=qh hsx;clear hsx;have HhxS:=qh hxS;clear hxS;have Hhtk1:=qh htk1;clear htk1;have Hhtk2:=qh htk2;clear htk2;have HhMS:=qh hMS;clear hMS;have Hhcs:=qh hcs;clear hcs;have Hhtk:=qh htk;clear htk;have Hhr:=qh hr;clear hr;clear hEn;go_wp2_with (at_builtin;refine wpList_append_lies _ rfl _ _ _ rfl _ 59 j0 (.slice none 0 0) 1 24 Tryz.underlying29 Hhj.out Hhy0.out Hhy1.out Hhy2.out rfl (by omega) _ k _ rfl HhRw.out ⟨wr.heap.size,0,none⟩ 1 1 [.slice (some ⟨wo.heap.size,0,none⟩) 3 3] rfl rfl (World.news_of_block (heap_alloc_new wr _)) ZbU (by omega) (by unfold maxLen;omega) (by omega) HhSa.out.size _ rfl ?_;intro g6 c6 w6 hown6 hgrow6 hat6 hlt6;have HS6:=qh (HhSa.out.snoc 4 6 (by decide) rfl rfl (by decide) hgrow6 (by rw[Hhlm.out];exact hown6) (Zd7 hat6));have y1:=HS6.out.cell (v:=.slice a1 k c1) 3 0 rfl rfl;have y2:=HS6.out.fr 3 0 rfl;clear hown6 hgrow6 hat6 hlt6);have hSq:=(HS6.out.set 3 rfl 0 (.slice (some ⟨g6,0,none⟩) (k+1) c6)).pick [0,1,2,3,4,5] (by decide);obtain⟨wq,hwq⟩:=eI (w6.setCell ⟨w1.heap.size+1,0,none⟩ (.slice (some ⟨g6,0,none⟩) (k+1) c6));rw[← hwq] at hSq
    have hSq':St w wq [Ent.box w.heap.size #[.slice none 0 0,.slice none 0 0] 32,Ent.map 3 Zb3 (w.heap.size+1) (numbered S),Ent.row 3 1 (.slice (some ⟨g4,0,none⟩) S.length c4) S.length (intCells S),
      Ent.box (w1.heap.size+1) #[.slice (some ⟨g6,0,none⟩) (k+1) c6,.slice a2 k c2] 32,
      Ent.rows 59 3 (.slice (some ⟨g6,0,none⟩) (k+1) c6) (vs++[.slice (some ⟨wo.heap.size,0,none⟩) 3 3]) (((S.take (k+1)).map (Zae nx F)).map intCells),Ent.row 4 1 (.slice a2 k c2) k (boolCells ((M.take k).map en))]:=by
     rw[Hhtk1.out,List.map_append];exact hSq
    rw[← hwq];have HSq:=qh hSq';have Hhwq:=qh hwq;clear hwq;clear hSq hSq' y1 y2 e0 HS6;refine wp_region_any (by kernel_rfl) ?_
    refine Zap (fun A listed a w'=>∃ (l0 l1 l2 l3 l4 l5 l6 l7 l8 l9 l10 l11:Bool) (g7:Nat) (c7:Nat) (bn:Nat),listed=#[l0,l1,l2,l3,l4,l5,l6,l7,l8,l9,l10,l11]∧(l9=true→l1=true∧l8=true)∧(l11=true→l9=true∧l1=true) ∧
      a=⟨(((((((((((A.tmps.setIfInBounds 76 (if l0=true then .pointer (some ⟨w1.heap.size+1,1,none⟩) else A.tmps.getD 76 undef)).setIfInBounds 77 (if l1=true then .slice a2 k c2 else A.tmps.getD 77 undef)).setIfInBounds 78 (if l2=true then .func (.func 79) #[] #[.pointer (some ⟨bd,0,none⟩)] else A.tmps.getD 78 undef)).setIfInBounds 79 (if l3=true then .slice (some ⟨g4,0,none⟩) S.length c4 else A.tmps.getD 79 undef)).setIfInBounds 80 (if l4=true then .int .i64 (k:Int) else A.tmps.getD 80 undef)).setIfInBounds 81 (if l5=true then .pointer (some ⟨g4,k,none⟩) else A.tmps.getD 81 undef)).setIfInBounds 82 (if l6=true then .int .i64 x else A.tmps.getD 82 undef)).setIfInBounds 83 (if l7=true then .bool r else A.tmps.getD 83 undef)).setIfInBounds 84 (if l8=true then .slice (some ⟨bn,0,none⟩) 1 1 else A.tmps.getD 84 undef)).setIfInBounds 85 (if l9=true then .slice (some ⟨g7,0,none⟩) (k+1) c7 else A.tmps.getD 85 undef)).setIfInBounds 86 (if l10=true then .pointer (some ⟨w1.heap.size+1,1,none⟩) else A.tmps.getD 86 undef)),A.defers⟩ ∧
      St w w' [Ent.box w.heap.size #[.slice none 0 0,.slice none 0 0] 32,Ent.map 3 Zb3 (w.heap.size+1) (numbered S),Ent.row 3 1 (.slice (some ⟨g4,0,none⟩) S.length c4) S.length (intCells S),Ent.box (w1.heap.size+1) #[.slice (some ⟨g6,0,none⟩) (k+1) c6,(if l11=true then .slice (some ⟨g7,0,none⟩) (k+1) c7 else .slice a2 k c2)] 32,Ent.rows 59 3 (.slice (some ⟨g6,0,none⟩) (k+1) c6) (vs++[.slice (some ⟨wo.heap.size,0,none⟩) 3 3]) (((S.take (k+1)).map (Zae nx F)).map intCells),(if l9=true then Ent.row 4 1 (.slice (some ⟨g7,0,none⟩) (k+1) c7) (k+1) ((boolCells ((M.take k).map en))++[.bool r]) else Ent.row 4 1 (.slice a2 k c2) k (boolCells ((M.take k).map en))),(if l8=true then Ent.box bn #[.bool r] 4 else Ent.nil)]) ?_ ?_ ?_
    ·rintro listed a w' ⟨l0,l1,l2,l3,l4,l5,l6,l7,l8,l9,l10,l11,g7,c7,bn,rfl,hd9,hd11,rfl,hS⟩ i hi;obtain⟨hun,o,ho,hall⟩:=mem_ready.1 hi;have hlt:=(Array.getElem?_eq_some_iff.1 ho).1;refine wpOp_step ho (fun K hK => ?_);clear hi;have HS:=qh hS;clear hS;simp only[List.setIfInBounds_toArray,List.set_cons_zero,List.set_cons_succ,Array.getD_eq_getD_getElem?,List.getElem?_toArray,List.getElem?_cons_zero,List.getElem?_cons_succ,Option.getD_some];obtain h|h|h|h|h|h|h|h|h|h|h|h:i=0∨i=1∨i=2∨i=3∨i=4∨i=5∨i=6∨i=7∨i=8∨i=9∨i=10∨i=11:=by simp at hlt;omega
     all_goals subst h
     all_goals simp only[List.getElem?_toArray,List.getElem?_cons_zero,List.getElem?_cons_succ,Option.some.injEq] at ho
     all_goals subst ho
     all_goals simp[Region.binds] at hun hall
     ·subst hun;go_simp;exact hK _ _ ⟨true,l1,l2,l3,l4,l5,l6,l7,l8,l9,l10,l11,g7,c7,bn,rfl,hd9,hd11,(by simp),HS.out⟩
     ·obtain rfl:=hall;subst hun;obtain rfl:l9=false:=offL hd9 rfl;obtain rfl:l11=false:=offL hd11 rfl;have e0:=HS.out.cell (v:=.slice a2 k c2) 3 1 rfl rfl;go_simp;exact hK _ _ ⟨true,true,l2,l3,l4,l5,l6,l7,l8,false,l10,false,g7,c7,bn,rfl,by simp,by simp,(by simp),HS.out⟩
     ·subst hun;go_simp;exact hK _ _ ⟨l0,l1,true,l3,l4,l5,l6,l7,l8,l9,l10,l11,g7,c7,bn,rfl,hd9,hd11,(by simp),HS.out⟩
     ·subst hun;go_simp;exact hK _ _ ⟨l0,l1,l2,true,l4,l5,l6,l7,l8,l9,l10,l11,g7,c7,bn,rfl,hd9,hd11,(by simp),HS.out⟩
     ·subst hun;go_simp;exact hK _ _ ⟨l0,l1,l2,l3,true,l5,l6,l7,l8,l9,l10,l11,g7,c7,bn,rfl,hd9,hd11,(by simp),HS.out⟩
     ·obtain⟨rfl,rfl⟩:=hall;subst hun;go_simp;exact hK _ _ ⟨l0,l1,l2,true,true,true,l6,l7,l8,l9,l10,l11,g7,c7,bn,rfl,hd9,hd11,(by simp),HS.out⟩
     ·obtain rfl:=hall;subst hun;have e0:=HS.out.rcell (v:=.int .i64 x) 2 k rfl (by omega) Hhsx.out;go_simp;exact hK _ _ ⟨l0,l1,l2,l3,l4,true,true,l7,l8,l9,l10,l11,g7,c7,bn,rfl,hd9,hd11,(by simp),HS.out⟩
     ·obtain⟨rfl,rfl⟩:=hall;subst hun;go_simp
      go_at_call 79
      refine(HEn.out _ HS.out.bel).mono ?_;rintro e u1 ⟨rfl,hbx⟩;have hS2:=HS.out.call hbx;have HhS2:=qh hS2;clear hS2;go_simp;exact hK _ _ ⟨l0,l1,true,l3,l4,l5,true,true,l8,l9,l10,l11,g7,c7,bn,rfl,hd9,hd11,(by simp),HhS2.out⟩
     ·obtain rfl:=hall;subst hun;obtain rfl:l9=false:=offR hd9 rfl;obtain rfl:l11=false:=offL hd11 rfl;have hS2:=(HS.out.alloc _ rfl #[.bool r] 4).pick [0,1,2,3,4,5,7] (by decide);have HhS2:=qh hS2;clear hS2;go_simp;exact hK _ _ ⟨l0,l1,l2,l3,l4,l5,l6,true,true,false,l10,false,g7,c7,_,rfl,by simp,by simp,(by simp),HhS2.out⟩
     ·obtain⟨rfl,rfl,rfl⟩:=hall;subst hun;obtain rfl:l11=false:=offL hd11 rfl;refine step_append_lies (a:=⟨_,_⟩) _ (by rfl) _ _ _ (by rfl) w.heap.size 4 b0 (.bool false) 1 1 Tryz.underlying30 Hhbi0.out Hhx0.out Hhx1.out Hhx2.out (by rfl) (by omega) (.slice a2 k c2) k (boolCells ((M.take k).map en)) (by rfl) (HS.out.row 5 rfl) ⟨bn,0,none⟩ 1 1 [.bool r] (by rfl) (by rfl) (World.news_of_block (HS.out.box 6 rfl)) ZaZ (by omega) (by unfold maxLen;omega) (by omega) HS.out.size _ rfl ?_;intro g8 c8 w8 hown8 hgrow8 hat8 hlt8;have HS8:=qh (HS.out.app 5 rfl hown8 hgrow8 hat8);clear hown8 hgrow8 hat8;go_simp;exact hK _ _ ⟨l0,true,l2,l3,l4,l5,l6,true,true,true,l10,false,g8,c8,bn,rfl,by simp,by simp,(by simp),HS8.out⟩
     ·obtain⟨rfl,rfl,rfl,rfl,rfl,rfl,rfl,rfl,rfl,rfl⟩:=hall;subst hun;go_simp;exact hK _ _ ⟨true,true,true,true,true,true,true,true,true,true,true,l11,g7,c7,bn,rfl,by simp,hd11,(by simp only[↓reduceIte,List.setIfInBounds_toArray,List.set_cons_zero,List.set_cons_succ]),HS.out⟩
     obtain⟨rfl,rfl,rfl,rfl,rfl,rfl,rfl,rfl,rfl,rfl,rfl,-⟩:=hall;subst hun;have f0:=HS.out.fr 3 1 rfl;have k0:=HS.out.cell (v:=.slice a2 k c2) 3 1 rfl rfl;go_simp;exact hK _ _ ⟨true,true,true,true,true,true,true,true,true,true,true,true,g7,c7,bn,rfl,by simp,by simp,(by simp only[↓reduceIte,List.setIfInBounds_toArray,List.set_cons_zero,List.set_cons_succ]),(HS.out.set 3 rfl 1 (.slice (some ⟨g7,0,none⟩) (k+1) c7))⟩
    ·rintro listed a w' ⟨l0,l1,l2,l3,l4,l5,l6,l7,l8,l9,l10,l11,g7,c7,bn,rfl,hd9,hd11,rfl,hS⟩ hr;have hall:=ZaT (by kernel_rfl) rfl hr;obtain rfl:l0=true:=by simpa using hall 0 (by simp)
     obtain rfl:l1=true:=by simpa using hall 1 (by simp)
     obtain rfl:l2=true:=by simpa using hall 2 (by simp)
     obtain rfl:l3=true:=by simpa using hall 3 (by simp)
     obtain rfl:l4=true:=by simpa using hall 4 (by simp)
     obtain rfl:l5=true:=by simpa using hall 5 (by simp)
     obtain rfl:l6=true:=by simpa using hall 6 (by simp)
     obtain rfl:l7=true:=by simpa using hall 7 (by simp)
     obtain rfl:l8=true:=by simpa using hall 8 (by simp)
     obtain rfl:l9=true:=by simpa using hall 9 (by simp)
     obtain rfl:l10=true:=by simpa using hall 10 (by simp)
     obtain rfl:l11=true:=by simpa using hall 11 (by simp)
     clear hall hr hd9 hd11;simp only[↓reduceIte] at hS ⊢;simp only[List.setIfInBounds_toArray,List.set_cons_zero,List.set_cons_succ];have hS9:=hS.pick [0,1,2,3,4,5] (by decide);have HhS9:=qh hS9;clear hS9;clear hS;go_wp2;go_roundw
     case rel =>refine⟨k+1,g4,c4,some ⟨g6,0,none⟩,some ⟨g7,0,none⟩,c6,c7,vs++[.slice (some ⟨wo.heap.size,0,none⟩) 3 3],by go_num,by rw[Hhbs.out],by rw[Hhbs.out];omega,by omega,?_⟩;rw[Hhbs.out,Hhtk2.out,Za3];exact HhS9.out
     case measure=>simp[intOf];omega
    refine⟨false,false,false,false,false,false,false,false,false,false,false,false,0,0,0,rfl,by simp,by simp,(by simp),?_⟩;exact HSq.out.drew.pick [0,1,2,3,4,5,6] (by decide)
  have hMF:M=F:=by rw[hF.out,hM];exact(congrArg Bs.met (Zbr (by rw[← hM];omega) (by omega))).symm
  obtain rfl:k=M.length:=by omega
  subst hMF;rw[List.take_length] at hS;have d0:=hS.cell (v:=.slice a1 M.length c1) 3 0 rfl rfl;have d1:=hS.cell (v:=.slice a2 M.length c2) 3 1 rfl rfl;have f0:=hS.fr 0 0 rfl;have f1:=hS.fr 0 1 rfl;have k0:=hS.cell (v:=.slice none 0 0) 0 0 rfl rfl;have k1:=hS.cell (v:=.slice none 0 0) 0 1 rfl rfl;have HhS:=qh hS;clear hS;have HhM:=qh hM;clear hM;clear hk hMl;go_wp2;have hq:=(HhS.out.set 0 rfl 0 (.slice a1 M.length c1)).set 0 rfl 1 (.slice a2 M.length c2);have q0:=hq.cell (v:=.slice a1 M.length c1) 0 0 rfl rfl;have q1:=hq.cell (v:=.slice a2 M.length c2) 0 1 rfl rfl;refine bodyPost_ret (v:=.tuple #[.agg #[.slice a1 M.length c1,.slice a2 M.length c2],.slice (some ⟨g3,0,none⟩) M.length c3,.bool true]) (by simp[results,Tryz.results74,go_sem,q0,q1]) rfl ?_;exact⟨a1,c1,a2,c2,_,c3,vs,rfl,hq.pick [4,5,2] (by decide)⟩
end Go.Proofs.YtehmjmjedopkkaaGreat
namespace Go.Proofs.YtehmjmjedopkkaaGreat
section
variable (n:Nat) (nx:Nat→Nat→Nat)
def Zbw (cl:Nat→Nat) (t s:Nat):Bool:=decide (cl t=cl s)&&(List.range 3).all fun c=>decide (cl (nx t c)=cl (nx s c))
theorem Zax {cl:Nat→Nat} {t s:Nat}:Zbw nx cl t s=true↔cl t=cl s∧∀ c,c<3→cl (nx t c)=cl (nx s c):=by simp[Zbw]
theorem Zjo (cl:Nat→Nat) (s:Nat):Zbw nx cl s s=true:=(Zax nx).2 ⟨rfl,fun _ _=>rfl⟩
theorem ZfB {cl:Nat→Nat} {t s:Nat} (h:Zbw nx cl t s=true):Zbw nx cl s t=true:=by obtain⟨h1,h2⟩:=(Zax nx).1 h;exact(Zax nx).2 ⟨h1.symm,fun c hc=>(h2 c hc).symm⟩
theorem Zdc {cl:Nat→Nat} {t s r:Nat} (h:Zbw nx cl t s=true) (h':Zbw nx cl s r=true):Zbw nx cl t r=true:=by obtain⟨h1,h2⟩:=(Zax nx).1 h;obtain⟨h3,h4⟩:=(Zax nx).1 h';exact(Zax nx).2 ⟨h1.trans h3,fun c hc=>(h2 c hc).trans (h4 c hc)⟩
def Za2 (p:Nat→Bool):Nat→Nat
 | 0=>0
 | k+1=>if p (Za2 p k)&&decide (Za2 p k<k) then Za2 p k else if p k then k else k+1
end
theorem ZgX (p:Nat→Bool):∀ k,(Za2 p k<k∧p (Za2 p k)=true∧∀ j,j<Za2 p k→p j=false)∨(Za2 p k=k∧∀ j,j<k→p j=false)
 | 0=>Or.inr ⟨rfl,fun j hj=>absurd hj (by omega)⟩
 | k+1=>by
  rcases ZgX p k with⟨h1,h2,h3⟩|⟨h1,h2⟩
  ·left;have e:Za2 p (k+1)=Za2 p k:=by simp[Za2,h1,h2]
   rw[e];exact⟨by omega,h2,h3⟩
  by_cases hp:p k=true
  ·left;have e:Za2 p (k+1)=k:=by simp[Za2,h1,hp]
   rw[e];exact⟨by omega,hp,h2⟩
  right;have e:Za2 p (k+1)=k+1:=by simp[Za2,h1,hp]
  refine⟨e,fun j hj => ?_⟩;by_cases hjk:j=k
  ·subst hjk;simpa using hp
  exact h2 j (by omega)
theorem Zkm {p:Nat→Bool} {k s:Nat} (hs:s<k) (hp:p s=true):Za2 p k≤s∧p (Za2 p k)=true∧∀ j,j<Za2 p k→p j=false:=by
 rcases ZgX p k with⟨h1,h2,h3⟩|⟨h1,h2⟩
 ·refine⟨?_,h2,h3⟩;rcases Nat.lt_or_ge s (Za2 p k) with h|h
  ·rw[h3 s h] at hp;cases hp
  exact h
 rw[h2 s hs] at hp;cases hp
section
variable {n:Nat} {nx:Nat→Nat→Nat}
structure GoodC (n:Nat) (cl:Nat→Nat):Prop where
 le:∀ s,s<n→cl s≤s
 id:∀ s,s<n→cl (cl s)=cl s
def Zar (n:Nat) (nx:Nat→Nat→Nat) (cl:Nat→Nat) (s:Nat):Nat:=Za2 (fun t=>Zbw nx cl t s) n
theorem ZaQ {cl:Nat→Nat} {s:Nat} (hs:s<n):Zar n nx cl s≤s∧Zbw nx cl (Zar n nx cl s) s=true∧∀ j,j<Zar n nx cl s→Zbw nx cl j s=false :=
 Zkm hs (Zjo nx cl s)
theorem Zbz {cl:Nat→Nat} {s t:Nat} (hs:s<n) (ht:t<n):Zar n nx cl s=Zar n nx cl t↔Zbw nx cl s t=true:=by
 obtain⟨a1,a2,a3⟩:=ZaQ (nx:=nx) (cl:=cl) hs;obtain⟨b1,b2,b3⟩:=ZaQ (nx:=nx) (cl:=cl) ht;constructor
 ·intro h;rw[h] at a2;exact Zdc nx (ZfB nx a2) b2
 intro h;have h1:¬ Zar n nx cl s<Zar n nx cl t:=fun hlt=>by have:=b3 _ hlt;rw[Zdc nx a2 h] at this;cases this
 have h2:¬ Zar n nx cl t<Zar n nx cl s:=fun hlt=>by have:=a3 _ hlt;rw[Zdc nx b2 (ZfB nx h)] at this;cases this
 omega
theorem ZdJ {cl:Nat→Nat}:GoodC n (Zar n nx cl):=by refine⟨fun s hs=>(ZaQ hs).1,fun s hs => ?_⟩;obtain⟨a1,a2,a3⟩:=ZaQ (nx:=nx) (cl:=cl) hs;exact(Zbz (by omega) hs).2 a2
theorem ZkZ {cl:Nat→Nat} (hg:GoodC n cl) {s:Nat} (hs:s<n) (h:cl s=s):Zar n nx cl s=s:=by obtain⟨a1,a2,a3⟩:=ZaQ (nx:=nx) (cl:=cl) hs;have e:=((Zax nx).1 a2).1;have:=hg.le (Zar n nx cl s) (by omega);omega
def reps (n:Nat) (cl:Nat→Nat):Nat:=((List.range n).filter fun s=>decide (cl s=s)).length
theorem ZfD {cl:Nat→Nat} (hg:GoodC n cl) {s:Nat} (hs:s<n) (hne:Zar n nx cl s≠cl s):reps n cl<reps n (Zar n nx cl):=by
 obtain⟨a1,a2,a3⟩:=ZaQ (nx:=nx) (cl:=cl) hs;have e:=((Zax nx).1 a2).1;have hr:Zar n nx cl s<n:=by omega
 refine Zdk (a:=Zar n nx cl s) ?_ ?_ (List.mem_range.2 hr) fun x hx h => ?_
 ·have:cl (Zar n nx cl s)≠Zar n nx cl s:=by rw[e];exact fun h=>hne h.symm
  simpa using this
 ·simpa using ZdJ.id s hs
 simp only[decide_eq_true_eq] at h ⊢;exact ZkZ hg (List.mem_range.1 hx) h
theorem Zjt (n:Nat) (cl:Nat→Nat):reps n cl≤n:=by have:=List.length_filter_le (fun s=>decide (cl s=s)) (List.range n);simpa [reps] using this
def clAt (n:Nat) (nx:Nat→Nat→Nat) (en:Nat→Bool):Nat→Nat→Nat
 | 0=>fun s=>Za2 (fun t=>en t==en s) n
 | i+1=>Zar n nx (clAt n nx en i)
theorem Zdn {en:Nat→Bool} {s:Nat} (hs:s<n):clAt n nx en 0 s≤s∧en (clAt n nx en 0 s)=en s∧∀ j,j<clAt n nx en 0 s→en j≠en s:=by
 obtain⟨a,b,c⟩:=Zkm (p:=fun t=>en t==en s) hs (by simp);have b':en (Za2 (fun t=>en t==en s) n)=en s:=by simpa using b
 exact⟨a,b',fun j hj=>by simpa using c j hj⟩
theorem Zg8 {en:Nat→Bool} {s t:Nat} (hs:s<n) (ht:t<n):clAt n nx en 0 s=clAt n nx en 0 t↔en s=en t:=by
 obtain⟨a1,a2,a3⟩:=Zdn (nx:=nx) (en:=en) hs;obtain⟨b1,b2,b3⟩:=Zdn (nx:=nx) (en:=en) ht;constructor
 ·intro h;rw[← a2,← b2,h]
 intro h;have h1:¬ clAt n nx en 0 s<clAt n nx en 0 t:=fun hlt=>b3 _ hlt (a2.trans h)
 have h2:¬ clAt n nx en 0 t<clAt n nx en 0 s:=fun hlt=>a3 _ hlt (b2.trans h.symm)
 omega
theorem Zdm (en:Nat→Bool):∀ i,GoodC n (clAt n nx en i)
 | 0=>⟨fun s hs=>(Zdn hs).1,fun s hs=>by obtain⟨a1,a2,a3⟩:=Zdn (nx:=nx) (en:=en) hs;exact(Zg8 (by omega) hs).2 a2⟩
 | _+1=>ZdJ
def stays (n:Nat) (nx:Nat→Nat→Nat) (en:Nat→Bool) (i:Nat):Prop:=∀ s,s<n→clAt n nx en (i+1) s=clAt n nx en i s
theorem Zhk (en:Nat→Bool):∃ i,i≤n∧stays n nx en i∧∀ j,j<i→¬ stays n nx en j:=by
 have key:∀ k,(∀ j,j<k→¬ stays n nx en j)→k≤reps n (clAt n nx en k):=by
  intro k
  induction k with
  | zero=>intro _;exact Nat.zero_le _
  | succ k ih =>
   intro h;have h1:=ih fun j hj=>h j (by omega)
   have h2:=h k (by omega);have h3:∃ s,s<n∧clAt n nx en (k+1) s≠clAt n nx en k s:=Classical.byContradiction fun hn=>h2 fun s hs=>Classical.byContradiction fun hne=>hn ⟨s,hs,hne⟩
   obtain⟨s,hs,hne⟩:=h3;have:=ZfD (nx:=nx) (Zdm (nx:=nx) en k) hs hne;show k+1≤reps n (Zar n nx (clAt n nx en k));omega
 have hex:∃ i,i≤n∧stays n nx en i:=Classical.byContradiction fun hn=>by
  have:=key (n+1) fun j hj hs=>hn ⟨j,by omega,hs⟩
  have:=Zjt n (clAt n nx en (n+1));omega
 obtain⟨i,hi,hs⟩:=hex
 have key2:∀ k,(∃ j,j<k∧stays n nx en j)→∃ i,i<k∧stays n nx en i∧∀ j,j<i→¬ stays n nx en j:=by
  intro k
  induction k with
  | zero=>rintro⟨j,hj,-⟩;omega
  | succ k ih =>
   rintro⟨j,hj,hs⟩;by_cases h:∃ j,j<k∧stays n nx en j
   ·obtain⟨i,h1,h2⟩:=ih h;exact⟨i,by omega,h2⟩
   have:j=k:=Classical.byContradiction fun hne=>h ⟨j,by omega,hs⟩
   subst this;exact⟨j,by omega,hs,fun i hi hs'=>h ⟨i,hi,hs'⟩⟩
 obtain⟨i',h1,h2⟩:=key2 (n+1) ⟨i,by omega,hs⟩;exact⟨i',by omega,h2⟩
theorem Zdg {p q:Nat→Bool}:∀ {k:Nat},(∀ t,t<k→p t=q t)→Za2 p k=Za2 q k
 | 0,_=>rfl
 | k+1,h=>by
  have ih:=Zdg (k:=k) fun t ht=>h t (by omega)
  have hk:=h k (by omega);unfold Za2;rw[← ih,← hk];by_cases hl:Za2 p k<k
  ·rw[h _ (by omega)]
  simp[hl]
theorem Zij (hnx:∀ s c,s<n→c<3→nx s c<n) {cl cl':Nat→Nat} (h:∀ s,s<n→cl s=cl' s) {s:Nat} (hs:s<n):Zar n nx cl s=Zar n nx cl' s:=by
 unfold Zar;refine Zdg fun t ht => ?_
 rw[Bool.eq_iff_iff,Zax,Zax,h t ht,h s hs];constructor
 ·rintro⟨h1,h2⟩;exact⟨h1,fun c hc=>by rw[← h _ (hnx t c ht hc),← h _ (hnx s c hs hc)];exact h2 c hc⟩
 rintro⟨h1,h2⟩;exact⟨h1,fun c hc=>by rw[h _ (hnx t c ht hc),h _ (hnx s c hs hc)];exact h2 c hc⟩
theorem Zda (hnx:∀ s c,s<n→c<3→nx s c<n) {en:Nat→Bool} {i:Nat} (h:stays n nx en i):∀ j,i≤j→∀ s,s<n→clAt n nx en j s=clAt n nx en i s:=by
 intro j
 induction j with
 | zero =>
  intro hj s _;obtain rfl:i=0:=by omega
  rfl
 | succ j ih =>
  intro hj s hs;by_cases hij:i=j+1
  ·subst hij;rfl
  have e:clAt n nx en (j+1) s=Zar n nx (clAt n nx en j) s:=rfl;rw[e,Zij hnx (ih (by omega)) hs];exact h s hs
def Zej (n:Nat) (nx:Nat→Nat→Nat) (en:Nat→Bool):Nat→Nat:=clAt n nx en n
theorem ZkH (hnx:∀ s c,s<n→c<3→nx s c<n) {en:Nat→Bool} {i:Nat} (hi:i≤n) (h:stays n nx en i) {s:Nat} (hs:s<n):Zej n nx en s=clAt n nx en i s:=Zda hnx h n hi s hs
theorem Zgm (hnx:∀ s c,s<n→c<3→nx s c<n) (en:Nat→Bool):stays n nx en n:=by obtain⟨i,hi,hs,-⟩:=Zhk (n:=n) (nx:=nx) en;intro s hsn;rw[Zda hnx hs (n+1) (by omega) s hsn,Zda hnx hs n hi s hsn]
theorem Zh2 (hnx:∀ s c,s<n→c<3→nx s c<n) {en:Nat→Bool} {s t:Nat} (hs:s<n) (ht:t<n):Zej n nx en s=Zej n nx en t→∀ c,c<3→Zej n nx en (nx s c)=Zej n nx en (nx t c):=by
 intro h;have h1:=Zgm hnx en;have h2:Zar n nx (Zej n nx en) s=Zar n nx (Zej n nx en) t:=by have a:=h1 s hs;have b:=h1 t ht;exact a.trans (h.trans b.symm)
 exact((Zax nx).1 ((Zbz hs ht).1 h2)).2
theorem Zi5 {en:Nat→Bool}:∀ (i:Nat) {s t:Nat},s<n→t<n→clAt n nx en i s=clAt n nx en i t→en s=en t
 | 0,_,_,hs,ht,h=>(Zg8 hs ht).1 h
 | i+1,_,_,hs,ht,h=>Zi5 i hs ht ((Zax nx).1 ((Zbz hs ht).1 h)).1
theorem ZcN {en:Nat→Bool} {s t:Nat} (hs:s<n) (ht:t<n) (h:Zej n nx en s=Zej n nx en t):en s=en t:=Zi5 n hs ht h
end
end Go.Proofs.YtehmjmjedopkkaaGreat
