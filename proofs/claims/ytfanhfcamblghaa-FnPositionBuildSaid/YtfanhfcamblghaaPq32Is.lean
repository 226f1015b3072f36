/-
  The walk over the reference's list of sets of states that are met: l9Subsets.
  Conditions: there are m states, at most 40; moves, first and last states lie below; the automaton reads as such.
-/
import Derived.Test.YtfanhfcamblghaaPq10Lp
import Derived.Test.YtfanhfcamblghaaPq31Det
set_option maxHeartbeats 8000000
set_option maxRecDepth 100000
namespace Go.Proofs.Ytfanhfcamblghaa
open Go.RowKit Go.Maps
theorem ZlR {α β γ:Type} (f:α→β) (g:β→γ) (l:List α):((l.map f).map g).length=l.length:=by simp
end Go.Proofs.Ytfanhfcamblghaa
namespace Go.Proofs.Ytfanhfcamblghaa
open Go.RowKit
theorem ZiM {d:DfaD} {w:World} {v:Value} (hd:Za2 d.next d.ends=true) (h:DfaR 0 w v d):∃ b1 o1 cv b2 o2 cw,v = .agg #[.slice (some ⟨b1,o1,none⟩) d.next.length cv,.slice (some ⟨b2,o2,none⟩) d.next.length cw]∧DfaC w d b1 o1 cv b2 o2 cw:=by obtain⟨v1,v2,rfl,q1,q2⟩:=h;have hf:=Zec hd;obtain⟨hl1,hl2,hle⟩:=Zcn hd;obtain⟨av,cv,rfl,hc1,hc2,hr1⟩:=q1.formI;obtain⟨b1,o1,rfl,-,hb1,hcs1⟩:=hr1 (by omega);obtain⟨av2,cw,rfl,hc3,hc4,hr2⟩:=q2.form;rw[hle] at hc3 hr2;obtain⟨b2,o2,rfl,-,hb2,hcs2⟩:=hr2 (by omega);rw[hle];refine⟨b1,o1,cv,b2,o2,cw,rfl,hl1,hl2,hle,⟨hc1,hc2⟩,⟨hc3,hc4⟩,hb1,hb2,fun i hi => ?_,fun i hi=>hcs2 i hi,fun i c hi hc=>(Zen hf hi hc).1,fun i c hi hc=>(Zen hf hi hc).2⟩;obtain⟨ax,cx,hks,p1,p2,hIs⟩:=hcs1 i hi;have hr3:=(ZdR hd hi).1;rw[hr3] at hks hIs p1;obtain⟨_,_,hform,-,-,hrs⟩:=hIs.form;rw[hr3] at hform hrs;simp only[Value.slice.injEq,true_and] at hform;obtain⟨rfl,rfl⟩:=hform;obtain⟨b3,o3,rfl,-,hb3,hcs3⟩:=hrs (by omega);refine⟨b3,o3,cx,hb3,p1,p2,hks,fun c hc => ?_⟩;rw[hcs3 c hc];have hyx:=(Zen hf hi hc).2;unfold dnx at hyx;rw[Int.toNat_natCast] at hyx;rw[hyx]
def RDo (D:DfaD) (w:World) (e:Ending) (w':World):Prop:=∃ a1 c1 a2 c2,e = .returned (.agg #[.slice a1 D.next.length c1,.slice a2 D.ends.length c2]) ∧
 DfaO 26 3 4 w.heap.size w'.heap.size w' (.agg #[.slice a1 D.next.length c1,.slice a2 D.ends.length c2]) D∧Below w.heap.size w w'
end Go.Proofs.Ytfanhfcamblghaa
namespace Go.Proofs.Ytfanhfcamblghaa
open Go.RowKit Go.Maps
theorem ZlG {x:Bool}:∀ u∈[Value.bool x],u.oneCell'=true:=by intro u hu;simp only[List.mem_singleton] at hu;subst hu;rfl
theorem ZfW (l:List Bool) (x:Bool):boolCells (l++[x])=boolCells l++[.bool x]:=by simp[boolCells]
end Go.Proofs.Ytfanhfcamblghaa
namespace Go.Proofs.Ytfanhfcamblghaa
open Go.RowKit Go.Maps
def detK (K:Nat) (n:NfaD):Option DfaD:=if Zaq n=true∧(metS n K).length≤K then some (ZaM (nxS n) (enS n) (metS n K)) else none
def ZiX:DfaD:=⟨[],[]⟩
def Zn9 (D:DfaD) (fb:Bool) (B:Nat) (e:Ending) (w':World):Prop:=∃ a1 c1 a2 c2,e = .returned (.tuple #[.agg #[.slice a1 D.next.length c1,.slice a2 D.ends.length c2],.bool fb])∧DfaO 26 3 4 B w'.heap.size w' (.agg #[.slice a1 D.next.length c1,.slice a2 D.ends.length c2]) D
theorem Zff (w:World) (B e size:Nat):w.ownsRow B e size (.slice none 0 0) 0 []:=⟨by simp,Or.inl ⟨rfl,rfl⟩⟩
theorem ZeU (w:World) (B tS tI tB:Nat):DfaO tS tI tB B w.heap.size w (.agg #[.slice none 0 0,.slice none 0 0]) ZiX :=
 ⟨_,_,rfl,⟨[],Zae (Zff w B tS 1),fun i hi=>absurd hi (by simp[ZiX]),fun i j k _ hj=>absurd hj (by simp[ZiX])⟩,Zae (Zff w B tB 1)⟩
theorem Zeu (K:Nat) (hK:K=40) (n:NfaD) (D:DfaD) (fb:Bool) (hD:(detK K n).getD ZiX=D) (hfb:(detK K n).isSome=fb) (v:Value) (w:World) (h:NfaR 0 w v n) :
  Calls Try.prog 18 #[v] w fun e w'=>Zn9 D fb w.heap.size e w'∧Below w.heap.size w w':=by
 have H:=qh h;obtain⟨v1,v2,v3,rfl,g1,g2,g3,-,-⟩:=h;have hS0:=((St.start w).alloc _ rfl #[.int .i64 n.states,v1,v2,v3] 28).alloc (w.heap.size+1) (by simp) #[.slice none 0 0,.slice none 0 0] 45;cases hok:Zaq n
 ·have hn:detK K n=none:=by unfold detK;rw[if_neg];rintro⟨h1,-⟩;rw[hok] at h1;cases h1
  rw[hn] at hD hfb;subst hD;subst hfb;have Hhok:=qh hok;clear hok;replace hS0:=qh hS0;clear g1 g2 g3
  go_enter Try.func18, Try.ntmps18
  go_wp2_with fail;refine(Zac n _ _ (H.out.below hS0.out.bel) _ Hhok.out).mono ?_;rintro e w1 ⟨rfl,hb1⟩;have hS1:=hS0.out.call hb1;have f0:=hS1.fr 1 0 rfl;have f1:=hS1.fr 1 1 rfl;have k0:=hS1.cell (v:=.slice none 0 0) 1 0 rfl rfl;have k1:=hS1.cell (v:=.slice none 0 0) 1 1 rfl rfl;have HhS1:=qh hS1;clear hS1;clear hb1;go_wp2;have hq:=(HhS1.out.set 1 rfl 0 (.slice none 0 0)).set 1 rfl 1 (.slice none 0 0);have q0:=hq.cell (v:=.slice none 0 0) 1 0 rfl rfl;have q1:=hq.cell (v:=.slice none 0 0) 1 1 rfl rfl;refine bodyPost_ret (v:=.tuple #[.agg #[.slice none 0 0,.slice none 0 0],.bool false]) (by simp[results,Try.results18,go_sem,q0,q1]) rfl ⟨?_,hq.bel⟩;exact⟨none,0,none,0,rfl,ZeU _ _ _ _ _⟩
 obtain⟨m,hm,hm40,hmv,hml,hf,hfl,he,hel⟩:=Zao hok;have hmv40:=Zd8 hmv hm40;have hf40:inN 40 n.firsts:=fun s hs=>by have:=hf s hs;omega
 have he40:inN 40 n.ends:=fun s hs=>by have:=he s hs;omega
 have hdet:=fun (w':World) (hb:Below w.heap.size w w')=>ZfD n K hK v1 v2 v3 w' hmv40 (by omega) hf40 (by omega) he40 (g1.below hb) (g2.below hb) (g3.below hb)
 have Hhok:=qh hok;clear hok;replace hS0:=qh hS0;have Hdet:=qh hdet;clear g1 g2 g3 hdet hm
 go_enter Try.func18, Try.ntmps18
 go_wp2_with fail;refine(Zac n _ _ (H.out.below hS0.out.bel) _ Hhok.out).mono ?_;rintro e w1 ⟨rfl,hb1⟩;have hS1:=hS0.out.call hb1;have e0:=hS1.cell (v:=.int .i64 n.states) 0 0 rfl rfl;have e1:=hS1.cell (v:=v1) 0 1 rfl rfl;have e2:=hS1.cell (v:=v2) 0 2 rfl rfl;have e3:=hS1.cell (v:=v3) 0 3 rfl rfl;have HhS1:=qh hS1;clear hS1;clear hb1;go_wp2_with fail;refine(Hdet.out _ HhS1.out.bel).mono ?_;rintro e w2 ⟨hr,hb2⟩;unfold RDet at hr;by_cases hle:(metS n K).length≤K
 ·rw[if_pos hle] at hr;obtain⟨an,cn,ae,ce,rfl,hown⟩:=hr;have hn:detK K n=some (ZaM (nxS n) (enS n) (metS n K)):=by unfold detK;rw[if_pos ⟨Hhok.out,hle⟩]
  rw[hn] at hD hfb;obtain⟨L,hL⟩:=eI ((metS n K).length);have hl1:D.next.length=L:=by rw[← hD,hL];exact ZbC _ _ _
  have hl2:D.ends.length=L:=by rw[← hD,hL];simp[ZaM]
  rw[show ZaM (nxS n) (enS n) (metS n K)=D from hD] at hown;rw[← hL] at hown;rw[← hL];have hL40:(L:Int)≤40:=by omega
  have hfb':fb=true:=hfb.symm;subst hfb';have hS2:=(HhS1.out.call hb2).alloc _ rfl #[.slice an L cn,.slice ae L ce] 45;have f0:=hS2.fr 1 0 rfl;have f1:=hS2.fr 1 1 rfl;have k0:=hS2.cell (v:=.slice none 0 0) 1 0 rfl rfl;have k1:=hS2.cell (v:=.slice none 0 0) 1 1 rfl rfl;have d0:=hS2.cell (v:=.slice an L cn) 2 0 rfl rfl;have d1:=hS2.cell (v:=.slice ae L ce) 2 1 rfl rfl;have hDM:=DMem.of hown HhS1.out.size;have hD2:=(hDM.alloc (.cells #[.slice an L cn,.slice ae L ce] 45));have hb0:=hS2.box 1 rfl;have HhS2:=qh hS2;clear hS2;replace hD2:=qh hD2;have Hhl1:=qh hl1;clear hl1;have Hhl2:=qh hl2;clear hl2;have Hhb0:=qh hb0;clear hb0;clear hown hDM hb2 hL hD hfb hn;go_wp2;have hq:=(HhS2.out.set 1 rfl 0 (.slice an L cn)).set 1 rfl 1 (.slice ae L ce);have q0:=hq.cell (v:=.slice an L cn) 1 0 rfl rfl;have q1:=hq.cell (v:=.slice ae L ce) 1 1 rfl rfl;refine bodyPost_ret (v:=.tuple #[.agg #[.slice an L cn,.slice ae L ce],.bool true]) (by simp[results,Try.results18,go_sem,q0,q1]) rfl ⟨?_,hq.bel⟩;have hm:=(hD2.out.set Hhb0.out 0 (.slice an L cn)).set (Hhb0.out.set 0 _) 1 (.slice ae L ce);refine⟨an,cn,ae,ce,by rw[Hhl1.out,Hhl2.out],?_⟩;rw[Hhl1.out,Hhl2.out];exact⟨_,_,rfl,hm.1,hm.2⟩
 rw[if_neg hle] at hr;subst hr;have hn:detK K n=none:=by unfold detK;rw[if_neg];rintro⟨-,h2⟩;exact hle h2
 rw[hn] at hD hfb;subst hD;subst hfb;have hS2:=(HhS1.out.call hb2).alloc _ rfl #[.slice none 0 0,.slice none 0 0] 45;have f0:=hS2.fr 1 0 rfl;have f1:=hS2.fr 1 1 rfl;have k0:=hS2.cell (v:=.slice none 0 0) 1 0 rfl rfl;have k1:=hS2.cell (v:=.slice none 0 0) 1 1 rfl rfl;have d0:=hS2.cell (v:=.slice none 0 0) 2 0 rfl rfl;have d1:=hS2.cell (v:=.slice none 0 0) 2 1 rfl rfl;have HhS2:=qh hS2;clear hS2;clear hb2;go_wp2;have hq:=(HhS2.out.set 1 rfl 0 (.slice none 0 0)).set 1 rfl 1 (.slice none 0 0);have q0:=hq.cell (v:=.slice none 0 0) 1 0 rfl rfl;have q1:=hq.cell (v:=.slice none 0 0) 1 1 rfl rfl;refine bodyPost_ret (v:=.tuple #[.agg #[.slice none 0 0,.slice none 0 0],.bool false]) (by simp[results,Try.results18,go_sem,q0,q1]) rfl ⟨?_,hq.bel⟩;exact⟨none,0,none,0,rfl,ZeU _ _ _ _ _⟩
end Go.Proofs.Ytfanhfcamblghaa
namespace Go.Proofs.Ytfanhfcamblghaa
open Go.RowKit
def ZnW (K:Nat) (n:NfaD):Option DfaD:=if (metS n K).length≤K then some (ZaM (nxS n) (enS n) (metS n K)) else none
theorem ZiP {K:Nat} (hK:K=40) {n:NfaD} {d:DfaD} (h:ZnW K n=some d):Za2 d.next d.ends=true:=by
 unfold ZnW at h
 split at h
 ·rename_i hle;simp only[Option.some.injEq] at h;subst h;obtain⟨h1,h2,h3,h4⟩:=Zme (en:=enS n) (nx:=nxS n) (a:=(((fstV n:Nat):Int),0)) hle (by omega);refine ZiN h1 (by rw[ZbC];omega) h3 fun i hi => ?_
  exact h4 i hi
 cases h
end Go.Proofs.Ytfanhfcamblghaa
namespace Go.Proofs.Ytfanhfcamblghaa
open Go.RowKit
theorem Zms {n:Nat} {a b:Nat→Nat}:clsL n a=clsL n b↔∀ s,s<n→a s=b s:=by
 constructor
 ·intro h s hs;have:=congrArg (fun l=>l.getD s 0) h;simp only[Zid a hs,Zid b hs] at this;omega
 exact Zgc
theorem St.intsC {w0 w:World} {L:List Ent} (h:St w0 w L) (i:Nat) {v:Value} {n:Nat} {cl:Nat→Nat} (hx:L[i]? = some (Ent.row 3 1 v n (intCells (clsL n cl)))):Ints 0 w v (clsL n cl) :=
 Zah (B:=w0.heap.size) (e:=3) (by rw[Zb0];exact h.row i hx)
def shM (d:Int) (m:Int × Int × Int):Int × Int × Int:=(m.1+d,m.2.1,m.2.2+d)
def shN (n:NfaD) (d:Int):NfaD:=⟨n.states+d,n.moves.map (shM d),n.firsts.map (·+d),n.ends.map (·+d)⟩
theorem Za8 {α β:Type} (f:α→β) {l:List α} {k:Nat} {d x:α} (hk:k<l.length) (hx:x=l.getD k d):(l.take (k+1)).map f=(l.take k).map f++[f x]:=by rw[List.take_succ_eq_append_getElem hk,List.map_append,hx];simp[hk]
def limN (n:NfaD):NfaD × Bool:=if Zaq n=true then(n,true) else(zeN,false)
def ZbO (n:NfaD):NfaD:=⟨n.states+1,n.moves++(n.firsts.map fun t=>(n.states,-1,t))++(n.ends.map fun s=>(s,-1,n.states)),[n.states],[n.states]⟩
def ZbP (n:NfaD):NfaD × Bool:=if Zaq n=true then limN (ZbO n) else(zeN,false)
theorem Zk5 (xs:List Int) (v:Value) (w:World) (hl:xs.length≤1000000) (h:Ints 0 w v xs) :
  Calls Try.prog 143 #[v] w fun e w'=>∃ a c,e = .returned (.slice a xs.length c)∧St w w' [Ent.row 3 1 (.slice a xs.length c) xs.length (intCells xs)]:=by
 have hx:=h;obtain⟨a,cap,rfl,hc1,hc2,hr⟩:=h.form;obtain⟨j0,hj,hy0,hy1,hy2⟩:=info_parts Try.infoInt;cases a with
 | none =>
  have h0:xs=[]:=by
   rcases Nat.eq_zero_or_pos xs.length with h0|h0
   ·exact List.eq_nil_of_length_eq_zero h0
   obtain⟨b,off,hb,-⟩:=hr h0;cases hb
  subst h0;have qT:=fun (w':World)=>Lib.run_eql_slice_nil (P:=Try.prog) w' 26 3 none 0 cap 0 0 Try.underlying26
  simp only[Option.isNone] at qT
  go_enter Try.func143, Try.ntmps143
  go_wp2;go_ret;exact⟨none,0,rfl,(St.start w).nilRow 3 1⟩
 | some ad =>
  have hS0:=((St.start w).alloc _ rfl #[] 3).boxrow 0 0 1 [] rfl rfl (Nat.zero_le _);have hRw:=hS0.row 0 rfl;have hX:=hx.below hS0.bel;replace hS0:=qh hS0;replace hRw:=qh hRw;have HhX:=qh hX;clear hX;have Hhx:=qh hx;clear hx;clear hr;have qT:=fun (w':World)=>Lib.run_eql_slice_nil (P:=Try.prog) w' 26 3 (some ad) xs.length cap 0 0 Try.underlying26
  simp only[Option.isNone] at qT
  go_enter Try.func143, Try.ntmps143
  go_wp2_with (at_builtin;refine Zay _ rfl _ _ _ rfl _ 3 j0 (.int .i64 0) 1 8 Try.underlying26 hj hy0 hy1 hy2 rfl (by omega) _ 0 _ rfl hRw.out _ xs.length (intCells xs) rfl HhX.out ZmX (by unfold maxLen;omega) (by omega) hS0.out.size ?_;intro a6 c6 w6 hown6 hgrow6 hat6;have HS6:=qh (hS0.out.appS 0 rfl hown6 hgrow6 hat6);clear hown6 hgrow6 hat6);go_ret;have hq:St w w6 [Ent.row 3 1 (.slice a6 (0+xs.length) c6) (0+xs.length) (intCells xs)]:=HS6.out;rw[Nat.zero_add] at hq;exact⟨a6,c6,rfl,hq⟩
theorem ZfF (xs:List (Int × Int × Int)) (v:Value) (w:World) (hl:xs.length≤1000000) (h:Moves 0 w v xs) :
  Calls Try.prog 144 #[v] w fun e w'=>∃ a c,e = .returned (.slice a xs.length c)∧St w w' [Ent.row 34 3 (.slice a xs.length c) xs.length (xs.flatMap Zab)]:=by
 have hx:=h;obtain⟨a,cap,rfl,hc1,hc2,hr⟩:=h.form;obtain⟨j0,hj,hy0,hy1,hy2⟩:=info_parts Try.infoMv;cases a with
 | none =>
  have h0:xs=[]:=by
   rcases Nat.eq_zero_or_pos xs.length with h0|h0
   ·exact List.eq_nil_of_length_eq_zero h0
   obtain⟨b,off,hb,-⟩:=hr h0;cases hb
  subst h0;have qT:=fun (w':World)=>Lib.run_eql_slice_nil (P:=Try.prog) w' 25 34 none 0 cap 0 0 Try.underlying25
  simp only[Option.isNone] at qT
  go_enter Try.func144, Try.ntmps144
  go_wp2;go_ret;exact⟨none,0,rfl,(St.start w).nilRow 34 3⟩
 | some ad =>
  have hS0:=((St.start w).alloc _ rfl #[] 34).boxrow 0 0 3 [] rfl rfl (Nat.zero_le _);have hRw:=hS0.row 0 rfl;have hX:=hx.below hS0.bel;replace hS0:=qh hS0;replace hRw:=qh hRw;have HhX:=qh hX;clear hX;have Hhx:=qh hx;clear hx;clear hr;have qT:=fun (w':World)=>Lib.run_eql_slice_nil (P:=Try.prog) w' 25 34 (some ad) xs.length cap 0 0 Try.underlying25
  simp only[Option.isNone] at qT
  go_enter Try.func144, Try.ntmps144
  go_wp2_with (at_builtin;refine Zay _ rfl _ _ _ rfl _ 34 j0 (.agg #[.int .i64 0,.int .i64 0,.int .i64 0]) 3 24 Try.underlying25 hj hy0 hy1 hy2 rfl (by omega) _ 0 _ rfl hRw.out _ xs.length (xs.flatMap Zab) rfl HhX.out ZnO (by unfold maxLen;omega) (by omega) hS0.out.size ?_;intro a6 c6 w6 hown6 hgrow6 hat6;have HS6:=qh (hS0.out.appS 0 rfl hown6 hgrow6 hat6);clear hown6 hgrow6 hat6);go_ret;have hq:St w w6 [Ent.row 34 3 (.slice a6 (0+xs.length) c6) (0+xs.length) (xs.flatMap Zab)]:=HS6.out;rw[Nat.zero_add] at hq;exact⟨a6,c6,rfl,hq⟩
theorem Zbj (n:NfaD) (v1 v2 v3:Value) (w:World) (r:Bool) (hr:Zaq n=r) (h:NfaR 0 w (.agg #[.int .i64 n.states,v1,v2,v3]) n) :
  Calls Try.prog 103 #[.agg #[.int .i64 n.states,v1,v2,v3]] w fun e w'=>e = .returned (.tuple #[(if r=true then .agg #[.int .i64 n.states,v1,v2,v3] else .agg #[.int .i64 0,.slice none 0 0,.slice none 0 0,.slice none 0 0]),.bool r])∧Below w.heap.size w w':=by
 have hf:(∃ x l c,v1 = .slice x l c)∧(∃ x l c,v2 = .slice x l c)∧∃ x l c,v3 = .slice x l c:=by obtain⟨u1,u2,u3,hv,g1,g2,g3,-,-⟩:=h;simp only[Value.agg.injEq,Array.mk.injEq,List.cons.injEq,true_and,and_true] at hv;obtain⟨rfl,rfl,rfl⟩:=hv;obtain⟨a1,c1,e1,-⟩:=g1.form;obtain⟨a2,c2,e2,-⟩:=g2.form;obtain⟨a3,c3,e3,-⟩:=g3.form;exact⟨⟨_,_,_,e1⟩,⟨_,_,_,e2⟩,⟨_,_,_,e3⟩⟩
 obtain⟨⟨x1,l1,c1,rfl⟩,⟨x2,l2,c2,rfl⟩,⟨x3,l3,c3,rfl⟩⟩:=hf;have hS0:=((St.start w).alloc _ rfl #[.int .i64 n.states,.slice x1 l1 c1,.slice x2 l2 c2,.slice x3 l3 c3] 28).alloc (w.heap.size+1) (by simp) #[.int .i64 0,.slice none 0 0,.slice none 0 0,.slice none 0 0] 28;have H:=qh h;have Hr:=qh hr;have e0:=hS0.cell (v:=.int .i64 n.states) 0 0 rfl rfl;have e1:=hS0.cell (v:=.slice x1 l1 c1) 0 1 rfl rfl;have e2:=hS0.cell (v:=.slice x2 l2 c2) 0 2 rfl rfl;have e3:=hS0.cell (v:=.slice x3 l3 c3) 0 3 rfl rfl;replace hS0:=qh hS0;clear h hr
 go_enter Try.func103, Try.ntmps103
 go_wp2_with fail;refine(Zac n _ _ (H.out.below hS0.out.bel) r Hr.out).mono ?_;rintro e w1 ⟨rfl,hb1⟩;have hS1:=hS0.out.call hb1;have d0:=hS1.cell (v:=.int .i64 n.states) 0 0 rfl rfl;have d1:=hS1.cell (v:=.slice x1 l1 c1) 0 1 rfl rfl;have d2:=hS1.cell (v:=.slice x2 l2 c2) 0 2 rfl rfl;have d3:=hS1.cell (v:=.slice x3 l3 c3) 0 3 rfl rfl;have f0:=hS1.fr 1 0 rfl;have f1:=hS1.fr 1 1 rfl;have f2:=hS1.fr 1 2 rfl;have f3:=hS1.fr 1 3 rfl;have k0:=hS1.cell (v:=.int .i64 0) 1 0 rfl rfl;have k1:=hS1.cell (v:=.slice none 0 0) 1 1 rfl rfl;have k2:=hS1.cell (v:=.slice none 0 0) 1 2 rfl rfl;have k3:=hS1.cell (v:=.slice none 0 0) 1 3 rfl rfl;have HS1:=qh hS1;clear hS1 hb1 e0 e1 e2 e3;cases r
 ·go_wp2;have hq:=(((HS1.out.set 1 rfl 0 (.int .i64 0)).set 1 rfl 1 (.slice none 0 0)).set 1 rfl 2 (.slice none 0 0)).set 1 rfl 3 (.slice none 0 0);have q0:=hq.cell (v:=.int .i64 0) 1 0 rfl rfl;have q1:=hq.cell (v:=.slice none 0 0) 1 1 rfl rfl;have q2:=hq.cell (v:=.slice none 0 0) 1 2 rfl rfl;have q3:=hq.cell (v:=.slice none 0 0) 1 3 rfl rfl;refine bodyPost_ret (v:=.tuple #[.agg #[.int .i64 0,.slice none 0 0,.slice none 0 0,.slice none 0 0],.bool false]) (by simp[results,Try.results103,go_sem,q0,q1,q2,q3]) rfl ?_;exact⟨rfl,hq.bel⟩
 go_wp2;have hq:=(((HS1.out.set 1 rfl 0 (.int .i64 n.states)).set 1 rfl 1 (.slice x1 l1 c1)).set 1 rfl 2 (.slice x2 l2 c2)).set 1 rfl 3 (.slice x3 l3 c3);have q0:=hq.cell (v:=.int .i64 n.states) 1 0 rfl rfl;have q1:=hq.cell (v:=.slice x1 l1 c1) 1 1 rfl rfl;have q2:=hq.cell (v:=.slice x2 l2 c2) 1 2 rfl rfl;have q3:=hq.cell (v:=.slice x3 l3 c3) 1 3 rfl rfl;refine bodyPost_ret (v:=.tuple #[.agg #[.int .i64 n.states,.slice x1 l1 c1,.slice x2 l2 c2,.slice x3 l3 c3],.bool true]) (by simp[results,Try.results103,go_sem,q0,q1,q2,q3]) rfl ?_;exact⟨rfl,hq.bel⟩
theorem ZhK (n:NfaD) (m:Nat) (v1 v2 v3:Value) (w:World) (hm:n.states=(m:Int)) (hm40:m≤1000) (hml:n.moves.length≤1000) (hfl:n.firsts.length≤1000) (hel:n.ends.length≤1000) (h1:Moves 0 w v1 n.moves) (h2:Ints 0 w v2 n.firsts) (h3:Ints 0 w v3 n.ends) :
  Calls Try.prog 106 #[.agg #[.int .i64 n.states,v1,v2,v3]] w fun e w'=>RNfaS (ZbO n) w e w':=by
 have hcl:=fun (u:World) (hu:Below w.heap.size w u)=>ZfF n.moves v1 u (by omega) (h1.below hu)
 obtain⟨av,cv,rfl,hc1,hm1,hr1⟩:=h1.form;obtain⟨af,cf,rfl,hc2,hm2,hr2⟩:=h2.form;obtain⟨ae,ce,rfl,hc3,hm3,hr3⟩:=h3.form;obtain⟨i0,hi,hz0,hz1,hz2⟩:=info_parts Try.infoMv;obtain⟨L1,hL1⟩:∃ L,L=n.moves.length:=⟨_,rfl⟩;obtain⟨L2,hL2⟩:∃ L,L=n.firsts.length:=⟨_,rfl⟩;obtain⟨L3,hL3⟩:∃ L,L=n.ends.length:=⟨_,rfl⟩;have hS0:=((St.start w).alloc _ rfl #[.int .i64 n.states,.slice av n.moves.length cv,.slice af n.firsts.length cf,.slice ae n.ends.length ce] 28).alloc (w.heap.size+1) (by simp) #[.int .i64 0,.slice none 0 0,.slice none 0 0,.slice none 0 0] 28;rw[hm,← hL1,← hL2,← hL3] at hS0;rw[hm,← hL1,← hL2,← hL3];rw[← hL1] at hml hc1 hcl;rw[← hL2] at hfl hc2 hr2;rw[← hL3] at hel hc3 hr3;have hS1:=hS0.call (Below.refl _ _);have HS0:Hid (St w _ [Ent.box w.heap.size #[.int .i64 (m:Int),.slice av L1 cv,.slice af L2 cf,.slice ae L3 ce] 28,Ent.box (w.heap.size+1) #[.int .i64 0,.slice none 0 0,.slice none 0 0,.slice none 0 0] 28,Ent.nil,Ent.nil,Ent.nil,Ent.nil]):=qh (hS1.pick [0,1,2,3,4,5] (by decide));have Hcl:=qh hcl;have Hr2:=qh hr2;have Hr3:=qh hr3;replace hL1:=qh hL1;have HhL2:=qh hL2;clear hL2;have HhL3:=qh hL3;clear hL3;have Hhm:=qh hm;clear hm;have Hhi:=qh hi;clear hi;have Hhz0:=qh hz0;clear hz0;have Hhz1:=qh hz1;clear hz1;have Hhz2:=qh hz2;clear hz2;clear h1 h2 h3 hr1 hr2 hr3 hcl hS0 hS1
 go_enter Try.func106, Try.ntmps106
 go_wp2_with fail;refine wp_region_any (by kernel_rfl) ?_
 refine Zaf (fun A listed a w'=>∃ (l0 l1 l2 l3 l4 l5 l6 l7 l8 l9 l10 l11 l12 l13 l14:Bool) (am:Option Addr) (cm:Nat) (b5:Nat) (b6:Nat) (bo:Nat),listed=#[l0,l1,l2,l3,l4,l5,l6,l7,l8,l9,l10,l11,l12,l13,l14]∧(l12=true→l2=true∧l5=true∧l8=true∧l11=true)∧(l14=true→l13=true∧l12=true) ∧
   a=⟨((((((((((((((A.tmps.setIfInBounds 8 (if l0=true then .pointer (some ⟨w.heap.size,0,none⟩) else A.tmps.getD 8 undef)).setIfInBounds 9 (if l1=true then .int .i64 (m:Int) else A.tmps.getD 9 undef)).setIfInBounds 10 (if l2=true then .int .i64 ((m:Int)+1) else A.tmps.getD 10 undef)).setIfInBounds 11 (if l3=true then .pointer (some ⟨w.heap.size,1,none⟩) else A.tmps.getD 11 undef)).setIfInBounds 12 (if l4=true then .slice av L1 cv else A.tmps.getD 12 undef)).setIfInBounds 13 (if l5=true then .slice am L1 cm else A.tmps.getD 13 undef)).setIfInBounds 14 (if l6=true then .pointer (some ⟨w.heap.size,0,none⟩) else A.tmps.getD 14 undef)).setIfInBounds 15 (if l7=true then .int .i64 (m:Int) else A.tmps.getD 15 undef)).setIfInBounds 16 (if l8=true then .slice (some ⟨b5,0,none⟩) 1 1 else A.tmps.getD 16 undef)).setIfInBounds 17 (if l9=true then .pointer (some ⟨w.heap.size,0,none⟩) else A.tmps.getD 17 undef)).setIfInBounds 18 (if l10=true then .int .i64 (m:Int) else A.tmps.getD 18 undef)).setIfInBounds 19 (if l11=true then .slice (some ⟨b6,0,none⟩) 1 1 else A.tmps.getD 19 undef)).setIfInBounds 20 (if l12=true then .agg #[.int .i64 ((m:Int)+1),.slice am L1 cm,.slice (some ⟨b5,0,none⟩) 1 1,.slice (some ⟨b6,0,none⟩) 1 1] else A.tmps.getD 20 undef)).setIfInBounds 3 (if l13=true then .pointer (some ⟨bo,0,none⟩) else A.tmps.getD 3 undef)),A.defers⟩ ∧
   St w w' [Ent.box w.heap.size #[.int .i64 (m:Int),.slice av L1 cv,.slice af L2 cf,.slice ae L3 ce] 28,Ent.box (w.heap.size+1) #[.int .i64 0,.slice none 0 0,.slice none 0 0,.slice none 0 0] 28,(if l13=true then Ent.box bo #[(if l14=true then .int .i64 ((m:Int)+1) else .int .i64 0),(if l14=true then .slice am L1 cm else .slice none 0 0),(if l14=true then .slice (some ⟨b5,0,none⟩) 1 1 else .slice none 0 0),(if l14=true then .slice (some ⟨b6,0,none⟩) 1 1 else .slice none 0 0)] 28 else Ent.nil),(if l5=true then Ent.row 34 3 (.slice am L1 cm) L1 (n.moves.flatMap Zab) else Ent.nil),(if l8=true then Ent.row 3 1 (.slice (some ⟨b5,0,none⟩) 1 1) 1 [.int .i64 (m:Int)] else Ent.nil),(if l11=true then Ent.row 3 1 (.slice (some ⟨b6,0,none⟩) 1 1) 1 [.int .i64 (m:Int)] else Ent.nil)]) ?_ ?_ ?_
 ·rintro listed a w' ⟨l0,l1,l2,l3,l4,l5,l6,l7,l8,l9,l10,l11,l12,l13,l14,am,cm,b5,b6,bo,rfl,hd12,hd14,rfl,hS⟩ i hi;obtain⟨hun,o,ho,hall⟩:=mem_ready.1 hi;have hlt:=(Array.getElem?_eq_some_iff.1 ho).1;refine wpOp_step ho (fun K hK => ?_);clear hi;have HS:=qh hS;clear hS;simp only[List.setIfInBounds_toArray,List.set_cons_zero,List.set_cons_succ,Array.getD_eq_getD_getElem?,List.getElem?_toArray,List.getElem?_cons_zero,List.getElem?_cons_succ,Option.getD_some];obtain h|h|h|h|h|h|h|h|h|h|h|h|h|h|h:i=0∨i=1∨i=2∨i=3∨i=4∨i=5∨i=6∨i=7∨i=8∨i=9∨i=10∨i=11∨i=12∨i=13∨i=14:=by simp at hlt;omega
  all_goals subst h
  all_goals simp only[List.getElem?_toArray,List.getElem?_cons_zero,List.getElem?_cons_succ,Option.some.injEq] at ho
  all_goals subst ho
  all_goals simp[Region.binds] at hun hall
  ·subst hun;go_simp;exact hK _ _ ⟨true,l1,l2,l3,l4,l5,l6,l7,l8,l9,l10,l11,l12,l13,l14,am,cm,b5,b6,bo,rfl,hd12,hd14,(by simp),HS.out⟩
  ·obtain rfl:=hall;subst hun;have e0:=HS.out.cell (v:=.int .i64 (m:Int)) 0 0 rfl rfl;go_simp;exact hK _ _ ⟨true,true,l2,l3,l4,l5,l6,l7,l8,l9,l10,l11,l12,l13,l14,am,cm,b5,b6,bo,rfl,hd12,hd14,(by simp),HS.out⟩
  ·obtain rfl:=hall;subst hun;obtain rfl:l12=false:=by cases l12 with|false=>rfl|true=>simpa using hd12 rfl
   obtain rfl:l14=false:=offR hd14 rfl;have hw:IntKind.i64.wrap ((m:Int)+1)=(m:Int)+1:=IntWalk.i64_in _ (by omega);go_simp;exact hK _ _ ⟨l0,true,true,l3,l4,l5,l6,l7,l8,l9,l10,l11,false,l13,false,am,cm,b5,b6,bo,rfl,by simp,by simp,(by simp),HS.out⟩
  ·subst hun;go_simp;exact hK _ _ ⟨l0,l1,l2,true,l4,l5,l6,l7,l8,l9,l10,l11,l12,l13,l14,am,cm,b5,b6,bo,rfl,hd12,hd14,(by simp),HS.out⟩
  ·obtain rfl:=hall;subst hun;have e1:=HS.out.cell (v:=.slice av L1 cv) 0 1 rfl rfl;go_simp;exact hK _ _ ⟨l0,l1,l2,true,true,l5,l6,l7,l8,l9,l10,l11,l12,l13,l14,am,cm,b5,b6,bo,rfl,hd12,hd14,(by simp),HS.out⟩
  ·obtain rfl:=hall;subst hun;obtain rfl:l12=false:=by cases l12 with|false=>rfl|true=>simpa using hd12 rfl
   obtain rfl:l14=false:=offR hd14 rfl;go_simp
   go_at_call 144
   refine(Hcl.out _ HS.out.bel).mono ?_;rintro e u1 ⟨x1,d1,rfl,hb⟩;have hS2:=(HS.out.cat hb).pick [0,1,2,6,4,5] (by decide);have HhS2:=qh hS2;clear hS2;go_simp;exact hK _ _ ⟨l0,l1,l2,l3,true,true,l6,l7,l8,l9,l10,l11,false,l13,false,x1,d1,b5,b6,bo,rfl,by simp,by simp,(by simp),HhS2.out⟩
  ·subst hun;go_simp;exact hK _ _ ⟨l0,l1,l2,l3,l4,l5,true,l7,l8,l9,l10,l11,l12,l13,l14,am,cm,b5,b6,bo,rfl,hd12,hd14,(by simp),HS.out⟩
  ·obtain rfl:=hall;subst hun;have e0:=HS.out.cell (v:=.int .i64 (m:Int)) 0 0 rfl rfl;go_simp;exact hK _ _ ⟨l0,l1,l2,l3,l4,l5,true,true,l8,l9,l10,l11,l12,l13,l14,am,cm,b5,b6,bo,rfl,hd12,hd14,(by simp),HS.out⟩
  ·obtain rfl:=hall;subst hun;obtain rfl:l12=false:=by cases l12 with|false=>rfl|true=>simpa using hd12 rfl
   obtain rfl:l14=false:=offR hd14 rfl;have hS2:=((HS.out.alloc _ rfl #[.int .i64 (m:Int)] 3).boxrow 6 1 1 [.int .i64 (m:Int)] rfl rfl (by decide)).pick [0,1,2,3,6,5] (by decide);have HhS2:=qh hS2;clear hS2;go_simp;exact hK _ _ ⟨l0,l1,l2,l3,l4,l5,l6,true,true,l9,l10,l11,false,l13,false,am,cm,w'.heap.size,b6,bo,rfl,by simp,by simp,(by simp),HhS2.out⟩
  ·subst hun;go_simp;exact hK _ _ ⟨l0,l1,l2,l3,l4,l5,l6,l7,l8,true,l10,l11,l12,l13,l14,am,cm,b5,b6,bo,rfl,hd12,hd14,(by simp),HS.out⟩
  ·obtain rfl:=hall;subst hun;have e0:=HS.out.cell (v:=.int .i64 (m:Int)) 0 0 rfl rfl;go_simp;exact hK _ _ ⟨l0,l1,l2,l3,l4,l5,l6,l7,l8,true,true,l11,l12,l13,l14,am,cm,b5,b6,bo,rfl,hd12,hd14,(by simp),HS.out⟩
  ·obtain rfl:=hall;subst hun;obtain rfl:l12=false:=by cases l12 with|false=>rfl|true=>simpa using hd12 rfl
   obtain rfl:l14=false:=offR hd14 rfl;have hS2:=((HS.out.alloc _ rfl #[.int .i64 (m:Int)] 3).boxrow 6 1 1 [.int .i64 (m:Int)] rfl rfl (by decide)).pick [0,1,2,3,4,6] (by decide);have HhS2:=qh hS2;clear hS2;go_simp;exact hK _ _ ⟨l0,l1,l2,l3,l4,l5,l6,l7,l8,l9,true,true,false,l13,false,am,cm,b5,w'.heap.size,bo,rfl,by simp,by simp,(by simp),HhS2.out⟩
  ·obtain⟨rfl,rfl,rfl,rfl⟩:=hall;subst hun;obtain rfl:l14=false:=offR hd14 rfl;go_simp;exact hK _ _ ⟨l0,l1,true,l3,l4,true,l6,l7,true,l9,l10,true,true,l13,false,am,cm,b5,b6,bo,rfl,by simp,by simp,(by simp),HS.out⟩
  ·subst hun;obtain rfl:l14=false:=offL hd14 rfl;have hS2:=(HS.out.alloc _ rfl #[.int .i64 0,.slice none 0 0,.slice none 0 0,.slice none 0 0] 28).pick [0,1,6,3,4,5] (by decide);have HhS2:=qh hS2;clear hS2;go_simp;exact hK _ _ ⟨l0,l1,l2,l3,l4,l5,l6,l7,l8,l9,l10,l11,l12,true,false,am,cm,b5,b6,w'.heap.size,rfl,hd12,by simp,(by simp),HhS2.out⟩
  obtain⟨rfl,rfl,rfl,rfl,rfl,rfl,rfl,rfl,-,rfl,rfl,rfl,rfl,rfl,rfl,-,-⟩:=hall;subst hun;have f0:=HS.out.fr 2 0 rfl;have k0:=HS.out.cell (v:=.int .i64 0) 2 0 rfl rfl;have f1:=HS.out.fr 2 1 rfl;have k1:=HS.out.cell (v:=.slice none 0 0) 2 1 rfl rfl;have f2:=HS.out.fr 2 2 rfl;have k2:=HS.out.cell (v:=.slice none 0 0) 2 2 rfl rfl;have f3:=HS.out.fr 2 3 rfl;have k3:=HS.out.cell (v:=.slice none 0 0) 2 3 rfl rfl;go_simp;exact hK _ _ ⟨true,true,true,true,true,true,true,true,true,true,true,true,true,true,true,am,cm,b5,b6,bo,rfl,by simp,by simp,(by simp only[↓reduceIte,List.setIfInBounds_toArray,List.set_cons_zero,List.set_cons_succ]),((((HS.out.set 2 rfl 0 (.int .i64 ((m:Int)+1))).set 2 rfl 1 (.slice am L1 cm)).set 2 rfl 2 (.slice (some ⟨b5,0,none⟩) 1 1)).set 2 rfl 3 (.slice (some ⟨b6,0,none⟩) 1 1))⟩
 ·rintro listed a w' ⟨l0,l1,l2,l3,l4,l5,l6,l7,l8,l9,l10,l11,l12,l13,l14,am,cm,b5,b6,bo,rfl,hd12,hd14,rfl,hS⟩ hr;have hall:=Zag (by kernel_rfl) rfl hr;obtain rfl:l0=true:=by simpa using hall 0 (by simp)
  obtain rfl:l1=true:=by simpa using hall 1 (by simp)
  obtain rfl:l2=true:=by simpa using hall 2 (by simp)
  obtain rfl:l3=true:=by simpa using hall 3 (by simp)
  obtain rfl:l4=true:=by simpa using hall 4 (by simp)
  obtain rfl:l5=true:=by simpa using hall 5 (by simp)
  obtain rfl:l6=true:=by simpa using hall 6 (by simp)
  obtain rfl:l7=true:=by simpa using hall 7 (by simp)
  obtain rfl:l8=true:=by simpa using hall 8 (by simp)
  obtain rfl:l9=true:=by simpa using hall 9 (by simp)
  obtain rfl:l10=true:=by simpa using hall 10 (by simp)
  obtain rfl:l11=true:=by simpa using hall 11 (by simp)
  obtain rfl:l12=true:=by simpa using hall 12 (by simp)
  obtain rfl:l13=true:=by simpa using hall 13 (by simp)
  obtain rfl:l14=true:=by simpa using hall 14 (by simp)
  clear hall hr hd12 hd14;simp only[↓reduceIte] at hS ⊢;simp only[List.setIfInBounds_toArray,List.set_cons_zero,List.set_cons_succ];have HS1:=qh (hS.pick [0,1,2,3,4,5] (by decide));clear hS;have e9:=HS1.out.cell (v:=.slice af L2 cf) 0 2 rfl rfl;go_wp2
  go_loopw [24] (fun i wr=>∃ (k:Nat) (a1:Option Addr) (c1:Nat),i = .int .i64 k∧k≤L2∧St w wr [Ent.box w.heap.size #[.int .i64 (m:Int),.slice av L1 cv,.slice af L2 cf,.slice ae L3 ce] 28,Ent.box (w.heap.size+1) #[.int .i64 0,.slice none 0 0,.slice none 0 0,.slice none 0 0] 28,Ent.box bo #[.int .i64 ((m:Int)+1),.slice a1 (L1+k) c1,.slice (some ⟨b5,0,none⟩) 1 1,.slice (some ⟨b6,0,none⟩) 1 1] 28,Ent.row 34 3 (.slice a1 (L1+k) c1) (L1+k) ((n.moves++(n.firsts.take k).map fun t=>((m:Int),(-1:Int),t)).flatMap Zab),Ent.row 3 1 (.slice (some ⟨b5,0,none⟩) 1 1) 1 [.int .i64 (m:Int)],Ent.row 3 1 (.slice (some ⟨b6,0,none⟩) 1 1) 1 [.int .i64 (m:Int)]]) (fun i _=>L2-(intOf i).toNat)
  case atStart =>refine⟨0,am,cm,rfl,Nat.zero_le _,?_⟩;have h:=HS1.out;rw[List.take_zero,List.map_nil,List.append_nil];exact h
  case round =>
   obtain⟨k,a1,c1,rfl,hk,hS⟩:=hrel;by_cases hlt:k<L2
   ·have hlt2:(k:Int)<L2:=by omega
    have hkn:k<n.firsts.length:=by have:=HhL2.out;omega
    obtain⟨b1,o1,rfl,-,hb1,hcs⟩:=Hr2.out (by omega);have m0:=hcs k hlt;have hsn:=Za8 (fun t=>((m:Int),(-1:Int),t)) (d:=0) hkn rfl;obtain⟨p0,hp⟩:∃ p,p=n.firsts.getD k 0:=⟨_,rfl⟩;rw[← hp] at m0 hsn;have m1:=(bcell hS.bel b1 _ hb1).trans m0;have e0:=hS.cell (v:=.int .i64 (m:Int)) 0 0 rfl rfl;have y0:=hS.cell (v:=.slice a1 (L1+k) c1) 2 1 rfl rfl;have hSa:=hS.alloc_ (.cells #[.int .i64 (m:Int),.int .i64 (-1),.int .i64 p0] 34);have HSa:=qh hSa;have HRa:=qh (hSa.row 3 rfl);have Hhp:=qh hp;clear hp;have Hhsn:=qh hsn;clear hsn;clear hS hSa hcs m0;go_wp2_with (at_builtin;refine wpList_append_lies _ rfl _ _ _ rfl _ 34 i0 (.agg #[.int .i64 0,.int .i64 0,.int .i64 0]) 3 24 Try.underlying25 Hhi.out Hhz0.out Hhz1.out Hhz2.out rfl (by omega) _ (L1+k) _ rfl HRa.out ⟨wr.heap.size,0,none⟩ 1 1 [.int .i64 (m:Int),.int .i64 (-1),.int .i64 p0] rfl rfl (World.news_of_block (heap_alloc_new wr _)) Zf4 (by omega) (by unfold maxLen;omega) (by omega) HSa.out.size _ rfl ?_;intro g6 c6 w6 hown6 hgrow6 hat6 hlt6;have HS6:=qh (HSa.out.app 3 rfl hown6 hgrow6 hat6);have y1:=HS6.out.cell (v:=.slice a1 (L1+k) c1) 2 1 rfl rfl;have y2:=HS6.out.fr 2 1 rfl;clear hown6 hgrow6 hat6 hlt6);go_roundw
    case rel =>refine⟨k+1,some ⟨g6,0,none⟩,c6,by go_num,by omega,?_⟩;rw[Hhsn.out,← List.append_assoc,List.flatMap_append (xs:=_++_)];exact HS6.out.set 2 rfl 1 (.slice (some ⟨g6,0,none⟩) (L1+k+1) c6)
    case measure=>simp[intOf];omega
   obtain rfl:L2=k:=by omega
   rw[show(n.firsts.take L2)=n.firsts from List.take_of_length_le (by have:=HhL2.out;omega)] at hS;have HSe:=qh hS;clear hS;have e9:=HSe.out.cell (v:=.slice ae L3 ce) 0 3 rfl rfl;have HSe1:=HSe;clear HSe;go_wp2
   go_loopw [41] (fun i wr=>∃ (k:Nat) (a1:Option Addr) (c1:Nat),i = .int .i64 k∧k≤L3∧St w wr [Ent.box w.heap.size #[.int .i64 (m:Int),.slice av L1 cv,.slice af L2 cf,.slice ae L3 ce] 28,Ent.box (w.heap.size+1) #[.int .i64 0,.slice none 0 0,.slice none 0 0,.slice none 0 0] 28,Ent.box bo #[.int .i64 ((m:Int)+1),.slice a1 (L1+L2+k) c1,.slice (some ⟨b5,0,none⟩) 1 1,.slice (some ⟨b6,0,none⟩) 1 1] 28,Ent.row 34 3 (.slice a1 (L1+L2+k) c1) (L1+L2+k) ((n.moves++(n.firsts.map fun t=>((m:Int),(-1:Int),t))++(n.ends.take k).map fun s=>(s,(-1:Int),(m:Int))).flatMap Zab),Ent.row 3 1 (.slice (some ⟨b5,0,none⟩) 1 1) 1 [.int .i64 (m:Int)],Ent.row 3 1 (.slice (some ⟨b6,0,none⟩) 1 1) 1 [.int .i64 (m:Int)]]) (fun i _=>L3-(intOf i).toNat)
   case atStart =>refine⟨0,a1,c1,rfl,Nat.zero_le _,?_⟩;have h:=HSe1.out;rw[List.take_zero,List.map_nil,List.append_nil];exact h
   case round =>
    obtain⟨k,a1,c1,rfl,hk,hS⟩:=hrel;by_cases hlt:k<L3
    ·have hlt2:(k:Int)<L3:=by omega
     have hkn:k<n.ends.length:=by have:=HhL3.out;omega
     obtain⟨b1,o1,rfl,-,hb1,hcs⟩:=Hr3.out (by omega);have m0:=hcs k hlt;have hsn:=Za8 (fun s=>(s,(-1:Int),(m:Int))) (d:=0) hkn rfl;obtain⟨p0,hp⟩:∃ p,p=n.ends.getD k 0:=⟨_,rfl⟩;rw[← hp] at m0 hsn;have m1:=(bcell hS.bel b1 _ hb1).trans m0;have e0:=hS.cell (v:=.int .i64 (m:Int)) 0 0 rfl rfl;have y0:=hS.cell (v:=.slice a1 (L1+L2+k) c1) 2 1 rfl rfl;have hSa:=hS.alloc_ (.cells #[.int .i64 p0,.int .i64 (-1),.int .i64 (m:Int)] 34);have HSa:=qh hSa;have HRa:=qh (hSa.row 3 rfl);have Hhp:=qh hp;clear hp;have Hhsn:=qh hsn;clear hsn;clear hS hSa hcs m0;go_wp2_with (at_builtin;refine wpList_append_lies _ rfl _ _ _ rfl _ 34 i0 (.agg #[.int .i64 0,.int .i64 0,.int .i64 0]) 3 24 Try.underlying25 Hhi.out Hhz0.out Hhz1.out Hhz2.out rfl (by omega) _ (L1+L2+k) _ rfl HRa.out ⟨wr.heap.size,0,none⟩ 1 1 [.int .i64 p0,.int .i64 (-1),.int .i64 (m:Int)] rfl rfl (World.news_of_block (heap_alloc_new wr _)) Zf4 (by omega) (by unfold maxLen;omega) (by omega) HSa.out.size _ rfl ?_;intro g6 c6 w6 hown6 hgrow6 hat6 hlt6;have HS6:=qh (HSa.out.app 3 rfl hown6 hgrow6 hat6);have y1:=HS6.out.cell (v:=.slice a1 (L1+L2+k) c1) 2 1 rfl rfl;have y2:=HS6.out.fr 2 1 rfl;clear hown6 hgrow6 hat6 hlt6);go_roundw
     case rel =>refine⟨k+1,some ⟨g6,0,none⟩,c6,by go_num,by omega,?_⟩;rw[Hhsn.out,← List.append_assoc,List.flatMap_append (xs:=_++_)];exact HS6.out.set 2 rfl 1 (.slice (some ⟨g6,0,none⟩) (L1+L2+k+1) c6)
     case measure=>simp[intOf];omega
    obtain rfl:L3=k:=by omega
    rw[show(n.ends.take L3)=n.ends from List.take_of_length_le (by have:=HhL3.out;omega)] at hS;have HSe:=qh hS;clear hS;have e0:=HSe.out.cell (v:=.int .i64 ((m:Int)+1)) 2 0 rfl rfl;have e1:=HSe.out.cell (v:=.slice a1 (L1+L2+L3) c1) 2 1 rfl rfl;have e2:=HSe.out.cell (v:=.slice (some ⟨b5,0,none⟩) 1 1) 2 2 rfl rfl;have e3:=HSe.out.cell (v:=.slice (some ⟨b6,0,none⟩) 1 1) 2 3 rfl rfl;have f0:=HSe.out.fr 1 0 rfl;have k0:=HSe.out.cell (v:=.int .i64 0) 1 0 rfl rfl;have f1:=HSe.out.fr 1 1 rfl;have k1:=HSe.out.cell (v:=.slice none 0 0) 1 1 rfl rfl;have f2:=HSe.out.fr 1 2 rfl;have k2:=HSe.out.cell (v:=.slice none 0 0) 1 2 rfl rfl;have f3:=HSe.out.fr 1 3 rfl;have k3:=HSe.out.cell (v:=.slice none 0 0) 1 3 rfl rfl;have HSr:=qh ((((HSe.out.set 1 rfl 0 (.int .i64 ((m:Int)+1))).set 1 rfl 1 (.slice a1 (L1+L2+L3) c1)).set 1 rfl 2 (.slice (some ⟨b5,0,none⟩) 1 1)).set 1 rfl 3 (.slice (some ⟨b6,0,none⟩) 1 1));have q0:=HSr.out.cell (v:=.int .i64 ((m:Int)+1)) 1 0 rfl rfl;have q1:=HSr.out.cell (v:=.slice a1 (L1+L2+L3) c1) 1 1 rfl rfl;have q2:=HSr.out.cell (v:=.slice (some ⟨b5,0,none⟩) 1 1) 1 2 rfl rfl;have q3:=HSr.out.cell (v:=.slice (some ⟨b6,0,none⟩) 1 1) 1 3 rfl rfl;go_wp2;refine bodyPost_ret (v:=.agg #[.int .i64 ((m:Int)+1),.slice a1 (L1+L2+L3) c1,.slice (some ⟨b5,0,none⟩) 1 1,.slice (some ⟨b6,0,none⟩) 1 1]) (by simp[results,Try.results106,go_sem,q0,q1,q2,q3]) rfl ?_;have hNm:n.moves.length+n.firsts.length+n.ends.length=L1+L2+L3:=by rw[hL1.out,HhL2.out,HhL3.out]
    have hst:ZbO n=⟨(m:Int)+1,n.moves++(n.firsts.map fun t=>((m:Int),-1,t))++(n.ends.map fun s=>(s,-1,(m:Int))),[(m:Int)],[(m:Int)]⟩:=by unfold ZbO;rw[Hhm.out]
    rw[hst];refine⟨a1,c1,some ⟨b5,0,none⟩,1,some ⟨b6,0,none⟩,1,?_,?_⟩
    ·simp only[List.length_append,List.length_map,hNm];rfl
    simp only[List.length_append,List.length_map,hNm];exact HSr.out.pick [3,4,5] (by decide)
 refine⟨false,false,false,false,false,false,false,false,false,false,false,false,false,false,false,none,0,0,0,0,rfl,by simp,by simp,(by simp),?_⟩;exact HS0.out.drew.pick [0,1,2,3,4,5] (by decide)
theorem Zhl (n:NfaD) (v1 v2 v3:Value) (w:World) (h1:Moves 0 w v1 n.moves) (h2:Ints 0 w v2 n.firsts) (h3:Ints 0 w v3 n.ends) (hs0:-9223372036854775808≤n.states) (hs1:n.states≤9223372036854775807) :
  Calls Try.prog 60 #[.agg #[.int .i64 n.states,v1,v2,v3]] w fun e w'=>RNt (ZbP n).1 (ZbP n).2 w e w':=by
 have H:=qh (Za1 h1 h2 h3 hs0 hs1);have hS0:=((St.start w).alloc _ rfl #[.int .i64 n.states,v1,v2,v3] 28).alloc (w.heap.size+1) (by simp) #[.int .i64 0,.slice none 0 0,.slice none 0 0,.slice none 0 0] 28;have e0:=hS0.cell (v:=.int .i64 n.states) 0 0 rfl rfl;have e1:=hS0.cell (v:=v1) 0 1 rfl rfl;have e2:=hS0.cell (v:=v2) 0 2 rfl rfl;have e3:=hS0.cell (v:=v3) 0 3 rfl rfl;cases hok:Zaq n
 ·have hst:ZbP n=(zeN,false):=if_neg (by rw[hok];simp);rw[hst];have Hhok:=qh hok;clear hok;replace hS0:=qh hS0;clear h1 h2 h3 hst
  go_enter Try.func60, Try.ntmps60
  go_wp2_with fail;refine(Zac n _ _ (H.out.below hS0.out.bel) false Hhok.out).mono ?_;rintro e w1 ⟨rfl,hb1⟩;have hS1:=hS0.out.call hb1;have f0:=hS1.fr 1 0 rfl;have f1:=hS1.fr 1 1 rfl;have f2:=hS1.fr 1 2 rfl;have f3:=hS1.fr 1 3 rfl;have k0:=hS1.cell (v:=.int .i64 0) 1 0 rfl rfl;have k1:=hS1.cell (v:=.slice none 0 0) 1 1 rfl rfl;have k2:=hS1.cell (v:=.slice none 0 0) 1 2 rfl rfl;have k3:=hS1.cell (v:=.slice none 0 0) 1 3 rfl rfl;have HS1:=qh hS1;clear hS1 hb1 e0 e1 e2 e3;go_wp2;have hq:=(((HS1.out.set 1 rfl 0 (.int .i64 0)).set 1 rfl 1 (.slice none 0 0)).set 1 rfl 2 (.slice none 0 0)).set 1 rfl 3 (.slice none 0 0);have q0:=hq.cell (v:=.int .i64 0) 1 0 rfl rfl;have q1:=hq.cell (v:=.slice none 0 0) 1 1 rfl rfl;have q2:=hq.cell (v:=.slice none 0 0) 1 2 rfl rfl;have q3:=hq.cell (v:=.slice none 0 0) 1 3 rfl rfl;refine bodyPost_ret (v:=.tuple #[.agg #[.int .i64 0,.slice none 0 0,.slice none 0 0,.slice none 0 0],.bool false]) (by simp[results,Try.results60,go_sem,q0,q1,q2,q3]) rfl ?_;exact ZaJ hq.bel
 have hst:ZbP n=limN (ZbO n):=if_pos hok;rw[hst];obtain⟨m,hstm,hm40,hmv,hml,hf,hfl,he,hel⟩:=Zao hok;have Hst:=qh (fun (u:World) (hu:Below w.heap.size w u)=>ZhK n m v1 v2 v3 u hstm (by omega) (by omega) (by omega) (by omega) (h1.below hu) (h2.below hu) (h3.below hu));obtain⟨N,hN⟩:=eI (ZbO n);have hNs:-9223372036854775808≤N.states∧N.states≤9223372036854775807:=by rw[hN];simp only[ZbO];omega
 obtain⟨hNs0,hNs1⟩:=hNs;rw[← hN] at Hst;rw[← hN];have Hhok:=qh hok;clear hok;replace hS0:=qh hS0;replace hN:=qh hN;clear h1 h2 h3 hst hstm hmv hf he;cases hNk:Zaq N
 ·have hlm:limN N=(zeN,false):=if_neg (by rw[hNk];simp);rw[hlm];clear hlm;have HhNk:=qh hNk;clear hNk
  go_enter Try.func60, Try.ntmps60
  go_wp2_with fail;refine(Zac n _ _ (H.out.below hS0.out.bel) true Hhok.out).mono ?_;rintro e w1 ⟨rfl,hb1⟩;have HS1:=qh (hS0.out.call hb1);clear hb1 e0 e1 e2 e3;have e0:=HS1.out.cell (v:=.int .i64 n.states) 0 0 rfl rfl;have e1:=HS1.out.cell (v:=v1) 0 1 rfl rfl;have e2:=HS1.out.cell (v:=v2) 0 2 rfl rfl;have e3:=HS1.out.cell (v:=v3) 0 3 rfl rfl;go_wp2_with fail;refine(Hst.out _ HS1.out.bel).mono ?_;rintro e w2 ⟨a1,c1,a2,c2,a3,c3,rfl,hS'⟩;have HS2:=qh (HS1.out.cat hS');clear hS' e0 e1 e2 e3;have HN:=qh (Za1 (Zau (HS2.out.row 2 rfl)) (Zah (HS2.out.row 3 rfl)) (Zah (HS2.out.row 4 rfl)) hNs0 hNs1);go_wp2_with fail;refine(Zbj N _ _ _ _ false HhNk.out HN.out).mono ?_;rintro e w3 ⟨rfl,hb3⟩;have HS3:=qh (HS2.out.call hb3);clear hb3;have f0:=HS3.out.fr 1 0 rfl;have k0:=HS3.out.cell (v:=.int .i64 0) 1 0 rfl rfl;have f1:=HS3.out.fr 1 1 rfl;have k1:=HS3.out.cell (v:=.slice none 0 0) 1 1 rfl rfl;have f2:=HS3.out.fr 1 2 rfl;have k2:=HS3.out.cell (v:=.slice none 0 0) 1 2 rfl rfl;have f3:=HS3.out.fr 1 3 rfl;have k3:=HS3.out.cell (v:=.slice none 0 0) 1 3 rfl rfl;have hq:=(((HS3.out.set 1 rfl 0 (.int .i64 0)).set 1 rfl 1 (.slice none 0 0)).set 1 rfl 2 (.slice none 0 0)).set 1 rfl 3 (.slice none 0 0);have Hq:=qh hq;have q0:=hq.cell (v:=.int .i64 0) 1 0 rfl rfl;have q1:=hq.cell (v:=.slice none 0 0) 1 1 rfl rfl;have q2:=hq.cell (v:=.slice none 0 0) 1 2 rfl rfl;have q3:=hq.cell (v:=.slice none 0 0) 1 3 rfl rfl;clear hq;simp only[↓reduceIte,Bool.false_eq_true];go_wp2
  refine bodyPost_ret (v:=.tuple #[.agg #[.int .i64 0,.slice none 0 0,.slice none 0 0,.slice none 0 0],.bool false]) (by simp[results,Try.results60,go_sem,q0,q1,q2,q3]) rfl ?_;exact ZaJ Hq.out.bel
 have hlm:limN N=(N,true):=if_pos hNk;rw[hlm];clear hlm;have HhNk:=qh hNk;clear hNk
 go_enter Try.func60, Try.ntmps60
 go_wp2_with fail;refine(Zac n _ _ (H.out.below hS0.out.bel) true Hhok.out).mono ?_;rintro e w1 ⟨rfl,hb1⟩;have HS1:=qh (hS0.out.call hb1);clear hb1 e0 e1 e2 e3;have e0:=HS1.out.cell (v:=.int .i64 n.states) 0 0 rfl rfl;have e1:=HS1.out.cell (v:=v1) 0 1 rfl rfl;have e2:=HS1.out.cell (v:=v2) 0 2 rfl rfl;have e3:=HS1.out.cell (v:=v3) 0 3 rfl rfl;go_wp2_with fail;refine(Hst.out _ HS1.out.bel).mono ?_;rintro e w2 ⟨a1,c1,a2,c2,a3,c3,rfl,hS'⟩;have HS2:=qh (HS1.out.cat hS');clear hS' e0 e1 e2 e3;have HN:=qh (Za1 (Zau (HS2.out.row 2 rfl)) (Zah (HS2.out.row 3 rfl)) (Zah (HS2.out.row 4 rfl)) hNs0 hNs1);go_wp2_with fail;refine(Zbj N _ _ _ _ true HhNk.out HN.out).mono ?_;rintro e w3 ⟨rfl,hb3⟩;have HS3:=qh (HS2.out.call hb3);clear hb3;have f0:=HS3.out.fr 1 0 rfl;have k0:=HS3.out.cell (v:=.int .i64 0) 1 0 rfl rfl;have f1:=HS3.out.fr 1 1 rfl;have k1:=HS3.out.cell (v:=.slice none 0 0) 1 1 rfl rfl;have f2:=HS3.out.fr 1 2 rfl;have k2:=HS3.out.cell (v:=.slice none 0 0) 1 2 rfl rfl;have f3:=HS3.out.fr 1 3 rfl;have k3:=HS3.out.cell (v:=.slice none 0 0) 1 3 rfl rfl;have hq:=(((HS3.out.set 1 rfl 0 (.int .i64 N.states)).set 1 rfl 1 (.slice a1 N.moves.length c1)).set 1 rfl 2 (.slice a2 N.firsts.length c2)).set 1 rfl 3 (.slice a3 N.ends.length c3);have Hq:=qh hq;have q0:=hq.cell (v:=.int .i64 N.states) 1 0 rfl rfl;have q1:=hq.cell (v:=.slice a1 N.moves.length c1) 1 1 rfl rfl;have q2:=hq.cell (v:=.slice a2 N.firsts.length c2) 1 2 rfl rfl;have q3:=hq.cell (v:=.slice a3 N.ends.length c3) 1 3 rfl rfl
 clear hq;simp only[↓reduceIte];go_wp2;refine bodyPost_ret (v:=.tuple #[.agg #[.int .i64 N.states,.slice a1 N.moves.length c1,.slice a2 N.firsts.length c2,.slice a3 N.ends.length c3],.bool true]) (by simp[results,Try.results60,go_sem,q0,q1,q2,q3]) rfl ?_;exact⟨a1,c1,a2,c2,a3,c3,rfl,Hq.out.pick [2,3,4] (by decide)⟩
end Go.Proofs.Ytfanhfcamblghaa
