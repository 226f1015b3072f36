/-
  The walk over the program's combine.
  Conditions: the kind is that of an operation with two operands; the automata read as such and are valid.
-/
import Derived.Test.YtehmjmjedopkkaaGreatPn31Nu
set_option maxHeartbeats 8000000
set_option maxRecDepth 100000
namespace Go.Proofs.YtehmjmjedopkkaaGreat
open Go.RowKit
def NfaT (n:NfaD) (v1 v2 v3:Value):Ent:=Ent.all [Ent.row 122 3 v1 n.moves.length (n.moves.flatMap Zac),Ent.row 3 1 v2 n.firsts.length (intCells n.firsts),Ent.row 3 1 v3 n.ends.length (intCells n.ends)]
def Zot (n:NfaD) (w:World) (e:Ending) (w':World):Prop:=∃ a1 c1 a2 c2 a3 c3,e = .returned (.agg #[.int .i64 n.states,.slice a1 n.moves.length c1,.slice a2 n.firsts.length c2,.slice a3 n.ends.length c3]) ∧
 St w w' [NfaT n (.slice a1 n.moves.length c1) (.slice a2 n.firsts.length c2) (.slice a3 n.ends.length c3)]
theorem RNfaS.t {n:NfaD} {w:World} {e:Ending} {w':World} (h:RNfaS n w e w'):Zot n w e w':=by obtain⟨a1,c1,a2,c2,a3,c3,rfl,hS⟩:=h;exact⟨a1,c1,a2,c2,a3,c3,rfl,St.pack (A:=[]) hS⟩
theorem St.nfaT {w0 w:World} {L:List Ent} (h:St w0 w L) (i:Nat) {n:NfaD} {v1 v2 v3:Value} (hx:L[i]? = some (NfaT n v1 v2 v3)):Moves 0 w v1 n.moves∧Ints 0 w v2 n.firsts∧Ints 0 w v3 n.ends:=by have hE:=(h.has i _ hx).1;have h1:(Ent.row 122 3 v1 n.moves.length (n.moves.flatMap Zac)).holds w:=hE _ (by simp);have h2:(Ent.row 3 1 v2 n.firsts.length (intCells n.firsts)).holds w:=hE _ (by simp);have h3:(Ent.row 3 1 v3 n.ends.length (intCells n.ends)).holds w:=hE _ (by simp);exact⟨Zcr h1,Zdi h2,Zdi h3⟩
def DfaX (B0 B H:Nat) (v1 v2:Value) (D:DfaD):Ent:=⟨(DfaV B H v1 v2 D).foot,fun u=>B0≤B∧(DfaV B H v1 v2 D).holds u,fun a b h hk=>⟨h.1,(DfaV B H v1 v2 D).stable a b h.2 hk⟩⟩
theorem St.dfaX {w0 w w':World} {L:List Ent} (h:St w0 w L) (hb:Below w.heap.size w w') {v1 v2:Value} {D:DfaD} (hr:DfaR w.heap.size w' (.agg #[v1,v2]) D):St w0 w' (L++[DfaX w0.heap.size w.heap.size w'.heap.size v1 v2 D]) :=
 h.add hb _ ⟨h.size,w',rfl,hr,fun _ _ _=>rfl⟩ fun _ hk=>hk
theorem St.dfaXr {w0 w:World} {L:List Ent} (h:St w0 w L) (i:Nat) {B0 B H:Nat} {v1 v2:Value} {D:DfaD} (hx:L[i]? = some (DfaX B0 B H v1 v2 D)):DfaR B0 w (.agg #[v1,v2]) D:=by
 have hE:=h.has i _ hx;obtain⟨⟨hB,w',h1,⟨x1,x2,hv,⟨vs,h2,h3⟩,h4⟩,h5⟩,hf⟩:=hE;simp only[Value.agg.injEq,Array.mk.injEq,List.cons.injEq,and_true] at hv;obtain⟨rfl,rfl⟩:=hv;by_cases hlt:B<H
 ·have hs:w'.heap.size≤w.heap.size:=by have:H-1<w.heap.size:=(hf (H-1) (show B≤H-1∧H-1<H by omega)).2;omega
  have hk:∀ k,B≤k→k<w'.heap.size→w.heap[k]? = w'.heap[k]?:=fun k p q=>h5 k p (by omega)
  exact⟨_,_,rfl,⟨vs,h2.keptJ hB hs hk,fun i hi=>Sl.keptJ (h3 i hi) hB hs hk⟩,Sl.keptJ h4 hB hs hk⟩
 have hno:∀ {v:Value} {n size:Nat} {cs:List Value},Sl B w' v n size cs→0<size→Sl B0 w v n size cs:=fun {v n size cs} hs hz=>by obtain⟨g1,a,cap,g2,g3,g4,g5⟩:=hs;refine⟨g1,a,cap,g2,g3,g4,fun hn => ?_⟩;obtain⟨b,off,-,p,q,-⟩:=g5 hn;omega
 exact⟨_,_,rfl,⟨vs,hno h2 (by omega),fun i hi=>hno (h3 i hi) (by omega)⟩,hno h4 (by omega)⟩
def RTs (D:DfaD) (fb:Bool) (w:World) (e:Ending) (w':World):Prop:=∃ a1 c1 a2 c2,e = .returned (.tuple #[.agg #[.slice a1 D.next.length c1,.slice a2 D.ends.length c2],.bool fb])∧DfaR w.heap.size w' (.agg #[.slice a1 D.next.length c1,.slice a2 D.ends.length c2]) D∧Below w.heap.size w w'
theorem RTt.s {D:DfaD} {fb:Bool} {w:World} {e:Ending} {w':World} (h:RTt D fb w.heap.size e w'∧Below w.heap.size w w'):RTs D fb w e w':=by obtain⟨⟨a1,c1,a2,c2,rfl,h1⟩,h2⟩:=h;exact⟨a1,c1,a2,c2,rfl,h1.r,h2⟩
theorem Zoa {a b:DfaD} (ha:Zaf a.next a.ends=true) (hb:Zaf b.next b.ends=true):DetOkW 81 (Zdh (ZaD a) (ZaD b)):=by
 have hla:=Zad ha;have hlb:=Zad hb;have h1:=Zb1 a a.next.length;have h2:=Zb1 b b.next.length;have h3:(eds a a.next.length).length≤40:=Nat.le_trans (Zcz a _) hla.2.1;have h4:(eds b b.next.length).length≤40:=Nat.le_trans (Zcz b _) hlb.2.1;rw[Zf2];refine⟨ZfN (Zhg ha hb) (by omega),?_,fun s hs=>by have:=Zc9 (b:=b) ha s hs;omega,by simp[ZcR],fun s hs=>by have:=Zep s hs;omega,?_⟩
 ·simp only[ZcR,List.length_append,List.length_map];omega
 simp only[ZcR,List.length_map];omega
theorem Ze6 (K:Nat) (hK:K=40) (a b:DfaD) (D:DfaD) (fb:Bool) (hD:(twoQ K 4 a b).getD zeD=D) (hfb:(twoQ K 4 a b).isSome=fb) (v1 v2:Value) (w:World) (hda:Zaf a.next a.ends=true) (hdb:Zaf b.next b.ends=true) (h1:DfaR 0 w v1 a) (h2:DfaR 0 w v2 b) :
  Calls Tryz.prog 70 #[.int .i64 4,v1,v2] w fun e w'=>RTs D fb w e w':=by
 have H1:=h1;have H2:=h2;obtain⟨x1,x2,rfl,-,-⟩:=h1;obtain⟨x3,x4,rfl,-,-⟩:=h2;have hS0:=(((St.start w).alloc _ rfl #[x1,x2] 32).alloc (w.heap.size+1) (by simp) #[x3,x4] 32).alloc (w.heap.size+1+1) (by simp) #[.slice none 0 0,.slice none 0 0] 32;obtain⟨P,hP⟩:=eI (ZaD a);obtain⟨Q,hQ⟩:=eI (ZaD b);obtain⟨J,hJ⟩:=eI (Zdh P Q);have HnA:=qh (show ∀ W:World,Below w.heap.size w W→Calls Tryz.prog 68 #[.agg #[x1,x2]] W fun e w'=>Zot P W e w' from fun W hb=>by rw[hP];exact(ZdM a _ W hda (H1.below hb)).mono fun e w' h=>h.t);have HnB:=qh (show ∀ W:World,Below w.heap.size w W→Calls Tryz.prog 68 #[.agg #[x3,x4]] W fun e w'=>Zot Q W e w' from fun W hb=>by rw[hQ];exact(ZdM b _ W hdb (H2.below hb)).mono fun e w' h=>h.t);have HnJ:=qh (show ∀ (W:World) (v1 v2 v3 u1 u2 u3:Value),(Moves 0 W v1 P.moves∧Ints 0 W v2 P.firsts∧Ints 0 W v3 P.ends)→(Moves 0 W u1 Q.moves∧Ints 0 W u2 Q.firsts∧Ints 0 W u3 Q.ends)→Calls Tryz.prog 107 #[.agg #[.int .i64 P.states,v1,v2,v3],.agg #[.int .i64 Q.states,u1,u2,u3]] W fun e w'=>Zot J W e w' from fun W v1 v2 v3 u1 u2 u3 h g=>by rw[hJ];exact(ZjJ P Q v1 v2 v3 u1 u2 u3 W (by rw[hP];exact ZdX hda) (by rw[hQ];exact ZdX hdb) h.1 h.2.1 h.2.2 g.1 g.2.1 g.2.2).mono fun e w' h=>h.t);have hdet:DetOkW 81 J:=by rw[hJ,hP,hQ];exact Zoa hda hdb
 have htw:twoQ K 4 a b=(Zfb 81 K J).map minD:=by rw[hJ,hP,hQ];rfl
 rw[htw] at hD hfb
 have HnS:=qh (show ∀ (W:World) (v1 v2 v3:Value),(Moves 0 W v1 J.moves∧Ints 0 W v2 J.firsts∧Ints 0 W v3 J.ends)→Calls Tryz.prog 69 #[.agg #[.int .i64 J.states,v1,v2,v3]] W fun e w'=>RTs D fb W e w' from fun W v1 v2 v3 h =>
  (ZdE 81 (by omega) J K hK D fb hD hfb v1 v2 v3 W hdet h.1 h.2.1 h.2.2).mono fun e w' h=>RTt.s h)
 replace hS0:=qh hS0;replace hP:=qh hP;have HhQ:=qh hQ;clear hQ;replace hJ:=qh hJ;clear hD hfb H1 H2 hda hdb hdet htw hK
 go_enter Tryz.func70, Tryz.ntmps70
 go_wp2;refine wp_region_any (by kernel_rfl) ?_
 refine Zap (fun A listed a w'=>∃ (l0 l1 l2 l3 l4 l5 l6 l7 l8 l9:Bool) (p1:Option Addr) (p2:Nat) (p3:Option Addr) (p4:Nat) (p5:Option Addr) (p6:Nat) (q1:Option Addr) (q2:Nat) (q3:Option Addr) (q4:Nat) (q5:Option Addr) (q6:Nat) (j1:Option Addr) (j2:Nat) (j3:Option Addr) (j4:Nat) (j5:Option Addr) (j6:Nat) (d1:Option Addr) (d2:Nat) (d3:Option Addr) (d4:Nat) (B:Nat) (H:Nat),listed=#[l0,l1,l2,l3,l4,l5,l6,l7,l8,l9]∧(l6=true→l5=true)∧(l8=true→l5=true) ∧
   a=⟨(((((((((A.tmps.setIfInBounds 11 (if l0=true then .agg #[x1,x2] else A.tmps.getD 11 undef)).setIfInBounds 12 (if l1=true then .agg #[.int .i64 P.states,.slice p1 P.moves.length p2,.slice p3 P.firsts.length p4,.slice p5 P.ends.length p6] else A.tmps.getD 12 undef)).setIfInBounds 13 (if l2=true then .agg #[x3,x4] else A.tmps.getD 13 undef)).setIfInBounds 14 (if l3=true then .agg #[.int .i64 Q.states,.slice q1 Q.moves.length q2,.slice q3 Q.firsts.length q4,.slice q5 Q.ends.length q6] else A.tmps.getD 14 undef)).setIfInBounds 15 (if l4=true then .agg #[.int .i64 J.states,.slice j1 J.moves.length j2,.slice j3 J.firsts.length j4,.slice j5 J.ends.length j6] else A.tmps.getD 15 undef)).setIfInBounds 16 (if l5=true then .tuple #[.agg #[.slice d1 D.next.length d2,.slice d3 D.ends.length d4],.bool fb] else A.tmps.getD 16 undef)).setIfInBounds 17 (if l6=true then .agg #[.slice d1 D.next.length d2,.slice d3 D.ends.length d4] else A.tmps.getD 17 undef)).setIfInBounds 18 (if l7=true then .bool fb else A.tmps.getD 18 undef)).setIfInBounds 7 (if l9=true then .bool fb else A.tmps.getD 7 undef)),A.defers⟩ ∧
   St w w' [Ent.box w.heap.size #[x1,x2] 32,Ent.box (w.heap.size+1) #[x3,x4] 32,(if l8=true then Ent.box (w.heap.size+1+1) #[.slice d1 D.next.length d2,.slice d3 D.ends.length d4] 32 else Ent.box (w.heap.size+1+1) #[.slice none 0 0,.slice none 0 0] 32),(if l1=true then NfaT P (.slice p1 P.moves.length p2) (.slice p3 P.firsts.length p4) (.slice p5 P.ends.length p6) else Ent.nil),(if l3=true then NfaT Q (.slice q1 Q.moves.length q2) (.slice q3 Q.firsts.length q4) (.slice q5 Q.ends.length q6) else Ent.nil),(if l4=true then NfaT J (.slice j1 J.moves.length j2) (.slice j3 J.firsts.length j4) (.slice j5 J.ends.length j6) else Ent.nil),(if l5=true then DfaX w.heap.size B H (.slice d1 D.next.length d2) (.slice d3 D.ends.length d4) D else Ent.nil)]) ?_ ?_ ?_
 ·rintro listed a w' ⟨l0,l1,l2,l3,l4,l5,l6,l7,l8,l9,p1,p2,p3,p4,p5,p6,q1,q2,q3,q4,q5,q6,j1,j2,j3,j4,j5,j6,d1,d2,d3,d4,B,H,rfl,hd6,hd8,rfl,hS⟩ i hi;obtain⟨hun,o,ho,hall⟩:=mem_ready.1 hi;have hlt:=(Array.getElem?_eq_some_iff.1 ho).1;refine wpOp_step ho (fun K hK => ?_);clear hi;have HS:=qh hS;clear hS;simp only[List.setIfInBounds_toArray,List.set_cons_zero,List.set_cons_succ,Array.getD_eq_getD_getElem?,List.getElem?_toArray,List.getElem?_cons_zero,List.getElem?_cons_succ,Option.getD_some];obtain h|h|h|h|h|h|h|h|h|h:i=0∨i=1∨i=2∨i=3∨i=4∨i=5∨i=6∨i=7∨i=8∨i=9:=by simp at hlt;omega
  all_goals subst h
  all_goals simp only[List.getElem?_toArray,List.getElem?_cons_zero,List.getElem?_cons_succ,Option.some.injEq] at ho
  all_goals subst ho
  all_goals simp[Region.binds] at hun hall
  ·subst hun;have e0:=HS.out.cell (v:=x1) 0 0 rfl rfl;have e1:=HS.out.cell (v:=x2) 0 1 rfl rfl;go_simp;exact hK _ _ ⟨true,l1,l2,l3,l4,l5,l6,l7,l8,l9,p1,p2,p3,p4,p5,p6,q1,q2,q3,q4,q5,q6,j1,j2,j3,j4,j5,j6,d1,d2,d3,d4,B,H,rfl,hd6,hd8,(by simp),HS.out⟩
  ·obtain rfl:=hall;subst hun;go_simp
   go_at_call 68
   refine(HnA.out _ HS.out.bel).mono ?_;rintro e u1 ⟨pz1,pz2,pz3,pz4,pz5,pz6,rfl,hSx⟩;have hS2:=(HS.out.cat hSx).pick [0,1,2,7,4,5,6] (by decide);have HhS2:=qh hS2;clear hS2;go_simp;exact hK _ _ ⟨true,true,l2,l3,l4,l5,l6,l7,l8,l9,pz1,pz2,pz3,pz4,pz5,pz6,q1,q2,q3,q4,q5,q6,j1,j2,j3,j4,j5,j6,d1,d2,d3,d4,B,H,rfl,hd6,hd8,(by simp),HhS2.out⟩
  ·subst hun;have e0:=HS.out.cell (v:=x3) 1 0 rfl rfl;have e1:=HS.out.cell (v:=x4) 1 1 rfl rfl;go_simp;exact hK _ _ ⟨l0,l1,true,l3,l4,l5,l6,l7,l8,l9,p1,p2,p3,p4,p5,p6,q1,q2,q3,q4,q5,q6,j1,j2,j3,j4,j5,j6,d1,d2,d3,d4,B,H,rfl,hd6,hd8,(by simp),HS.out⟩
  ·obtain⟨rfl,rfl⟩:=hall;subst hun;go_simp
   go_at_call 68
   refine(HnB.out _ HS.out.bel).mono ?_;rintro e u1 ⟨qz1,qz2,qz3,qz4,qz5,qz6,rfl,hSx⟩;have hS2:=(HS.out.cat hSx).pick [0,1,2,3,7,5,6] (by decide);have HhS2:=qh hS2;clear hS2;go_simp;exact hK _ _ ⟨l0,true,true,true,l4,l5,l6,l7,l8,l9,p1,p2,p3,p4,p5,p6,qz1,qz2,qz3,qz4,qz5,qz6,j1,j2,j3,j4,j5,j6,d1,d2,d3,d4,B,H,rfl,hd6,hd8,(by simp),HhS2.out⟩
  ·obtain⟨rfl,rfl⟩:=hall;subst hun;go_simp
   go_at_call 107
   refine(HnJ.out _ _ _ _ _ _ _ (HS.out.nfaT 3 rfl) (HS.out.nfaT 4 rfl)).mono ?_;rintro e u1 ⟨jz1,jz2,jz3,jz4,jz5,jz6,rfl,hSx⟩;have hS2:=(HS.out.cat hSx).pick [0,1,2,3,4,7,6] (by decide);have HhS2:=qh hS2;clear hS2;go_simp;exact hK _ _ ⟨l0,true,l2,true,true,l5,l6,l7,l8,l9,p1,p2,p3,p4,p5,p6,q1,q2,q3,q4,q5,q6,jz1,jz2,jz3,jz4,jz5,jz6,d1,d2,d3,d4,B,H,rfl,hd6,hd8,(by simp),HhS2.out⟩
  ·obtain rfl:=hall;subst hun;obtain rfl:l6=false:=by cases l6 with|false=>rfl|true=>simpa using hd6 rfl
   obtain rfl:l8=false:=by cases l8 with|false=>rfl|true=>simpa using hd8 rfl
   go_simp
   go_at_call 69
   refine(HnS.out _ _ _ _ (HS.out.nfaT 5 rfl)).mono ?_;rintro e u1 ⟨dz1,dz2,dz3,dz4,rfl,hr,hb⟩;have hS2:=(HS.out.dfaX hb hr).pick [0,1,2,3,4,5,7] (by decide);have HhS2:=qh hS2;clear hS2;go_simp;exact hK _ _ ⟨l0,l1,l2,l3,true,true,false,l7,false,l9,p1,p2,p3,p4,p5,p6,q1,q2,q3,q4,q5,q6,j1,j2,j3,j4,j5,j6,dz1,dz2,dz3,dz4,_,_,rfl,by simp,by simp,(by simp),HhS2.out⟩
  ·obtain rfl:=hall;subst hun;go_simp;exact hK _ _ ⟨l0,l1,l2,l3,l4,true,true,l7,l8,l9,p1,p2,p3,p4,p5,p6,q1,q2,q3,q4,q5,q6,j1,j2,j3,j4,j5,j6,d1,d2,d3,d4,B,H,rfl,by simp,hd8,(by simp),HS.out⟩
  ·obtain rfl:=hall;subst hun;go_simp;exact hK _ _ ⟨l0,l1,l2,l3,l4,true,l6,true,l8,l9,p1,p2,p3,p4,p5,p6,q1,q2,q3,q4,q5,q6,j1,j2,j3,j4,j5,j6,d1,d2,d3,d4,B,H,rfl,hd6,hd8,(by simp),HS.out⟩
  ·obtain⟨rfl,rfl,rfl,rfl,rfl,rfl,rfl,-,-,rfl⟩:=hall;subst hun;have f0:=HS.out.fr 2 0 rfl;have k0:=HS.out.cell (v:=.slice none 0 0) 2 0 rfl rfl;have f1:=HS.out.fr 2 1 rfl;have k1:=HS.out.cell (v:=.slice none 0 0) 2 1 rfl rfl;go_simp;exact hK _ _ ⟨true,true,true,true,true,true,true,true,true,l9,p1,p2,p3,p4,p5,p6,q1,q2,q3,q4,q5,q6,j1,j2,j3,j4,j5,j6,d1,d2,d3,d4,B,H,rfl,by simp,by simp,(by simp),((HS.out.set 2 rfl 0 (.slice d1 D.next.length d2)).set 2 rfl 1 (.slice d3 D.ends.length d4))⟩
  obtain⟨rfl,rfl,rfl,rfl,rfl,rfl,rfl,rfl,rfl,-⟩:=hall;subst hun;go_simp;exact hK _ _ ⟨true,true,true,true,true,true,true,true,true,true,p1,p2,p3,p4,p5,p6,q1,q2,q3,q4,q5,q6,j1,j2,j3,j4,j5,j6,d1,d2,d3,d4,B,H,rfl,by simp,by simp,(by simp),HS.out⟩
 ·rintro listed a w' ⟨l0,l1,l2,l3,l4,l5,l6,l7,l8,l9,p1,p2,p3,p4,p5,p6,q1,q2,q3,q4,q5,q6,j1,j2,j3,j4,j5,j6,d1,d2,d3,d4,B,H,rfl,hd6,hd8,rfl,hS⟩ hr;have hall:=ZaH (by kernel_rfl) rfl hr;obtain rfl:l0=true:=by simpa using hall 0 (by simp)
  obtain rfl:l1=true:=by simpa using hall 1 (by simp)
  obtain rfl:l2=true:=by simpa using hall 2 (by simp)
  obtain rfl:l3=true:=by simpa using hall 3 (by simp)
  obtain rfl:l4=true:=by simpa using hall 4 (by simp)
  obtain rfl:l5=true:=by simpa using hall 5 (by simp)
  obtain rfl:l6=true:=by simpa using hall 6 (by simp)
  obtain rfl:l7=true:=by simpa using hall 7 (by simp)
  obtain rfl:l8=true:=by simpa using hall 8 (by simp)
  obtain rfl:l9=true:=by simpa using hall 9 (by simp)
  clear hall hr hd6 hd8;simp only[↓reduceIte] at hS ⊢;simp only[List.setIfInBounds_toArray,List.set_cons_zero,List.set_cons_succ];have HS9:=qh hS;clear hS;have q0:=HS9.out.cell (v:=.slice d1 D.next.length d2) 2 0 rfl rfl;have q1:=HS9.out.cell (v:=.slice d3 D.ends.length d4) 2 1 rfl rfl;go_wp2;refine bodyPost_ret (v:=.tuple #[.agg #[.slice d1 D.next.length d2,.slice d3 D.ends.length d4],.bool fb]) (by simp[results,Tryz.results70,go_sem,q0,q1]) rfl ?_;exact⟨_,_,_,_,rfl,HS9.out.dfaXr 6 rfl,HS9.out.bel⟩
 refine⟨false,false,false,false,false,false,false,false,false,false,none,0,none,0,none,0,none,0,none,0,none,0,none,0,none,0,none,0,none,0,none,0,0,0,rfl,by simp,by simp,(by simp),?_⟩;exact hS0.out.drew.pick [0,1,2,3,4,5,6] (by decide)
theorem Zpn (K:Nat) (a b:DfaD):twoQ K 5 a b=(Zbs K (fun p q=>p||q) a b).map minD:=rfl
theorem Zpm (K:Nat) (a b:DfaD):twoQ K 6 a b=(Zbs K (fun p q=>p&&q) a b).map minD:=rfl
theorem Ze8 (K:Nat) (hK:K=40) (a b:DfaD) (D:DfaD) (fb:Bool) (hD:(twoQ K 5 a b).getD zeD=D) (hfb:(twoQ K 5 a b).isSome=fb) (v1 v2:Value) (w:World) (hda:Zaf a.next a.ends=true) (hdb:Zaf b.next b.ends=true) (h1:DfaR 0 w v1 a) (h2:DfaR 0 w v2 b) :
  Calls Tryz.prog 70 #[.int .i64 5,v1,v2] w fun e w'=>RTs D fb w e w':=by
 have H1:=h1;have H2:=h2;obtain⟨x1,x2,rfl,-,-⟩:=h1;obtain⟨x3,x4,rfl,-,-⟩:=h2;have hS0:=(((St.start w).alloc _ rfl #[x1,x2] 32).alloc (w.heap.size+1) (by simp) #[x3,x4] 32).alloc (w.heap.size+1+1) (by simp) #[.slice none 0 0,.slice none 0 0] 32;rw[Zpn] at hD hfb;have Hsd:=qh (show ∀ W:World,Below w.heap.size w W→Calls Tryz.prog 108 #[.agg #[x1,x2],.agg #[x3,x4],.func (.func 109) #[] #[]] W fun e w'=>RTs D fb W e w' from fun W hb=>(ZhJ K hK a b D fb hD hfb _ _ W hda hdb (H1.below hb) (H2.below hb)).mono fun e w' h=>RTt.s h);replace hS0:=qh hS0;clear hD hfb H1 H2 hda hdb hK
 go_enter Tryz.func70, Tryz.ntmps70
 have e0:=hS0.out.cell (v:=x1) 0 0 rfl rfl;have e1:=hS0.out.cell (v:=x2) 0 1 rfl rfl;have e2:=hS0.out.cell (v:=x3) 1 0 rfl rfl;have e3:=hS0.out.cell (v:=x4) 1 1 rfl rfl;go_wp2_with fail;refine(Hsd.out _ hS0.out.bel).mono ?_;rintro e w5 ⟨a1,c1,a2,c2,rfl,hr,hb5⟩;have HS5:=qh (hS0.out.call hb5);have HDr:=qh hr;have hB1:=(hS0.out.boxlt 2 rfl).2;have hsz:=hS0.out.size;have f0:=HS5.out.fr 2 0 rfl;have f1:=HS5.out.fr 2 1 rfl;have k0:=HS5.out.cell (v:=.slice none 0 0) 2 0 rfl rfl;have k1:=HS5.out.cell (v:=.slice none 0 0) 2 1 rfl rfl;clear hr hb5 e0 e1 e2 e3;go_wp2;have hq:=(HS5.out.set 2 rfl 0 (.slice a1 D.next.length c1)).set 2 rfl 1 (.slice a2 D.ends.length c2);have q0:=hq.cell (v:=.slice a1 D.next.length c1) 2 0 rfl rfl;have q1:=hq.cell (v:=.slice a2 D.ends.length c2) 2 1 rfl rfl;refine bodyPost_ret (v:=.tuple #[.agg #[.slice a1 D.next.length c1,.slice a2 D.ends.length c2],.bool fb]) (by simp[results,Tryz.results70,go_sem,q0,q1]) rfl ?_;exact⟨a1,c1,a2,c2,rfl,((HDr.out.far hB1 0 _).far hB1 1 _).mono hsz,hq.bel⟩
theorem Ze7 (K:Nat) (hK:K=40) (a b:DfaD) (D:DfaD) (fb:Bool) (hD:(twoQ K 6 a b).getD zeD=D) (hfb:(twoQ K 6 a b).isSome=fb) (v1 v2:Value) (w:World) (hda:Zaf a.next a.ends=true) (hdb:Zaf b.next b.ends=true) (h1:DfaR 0 w v1 a) (h2:DfaR 0 w v2 b) :
  Calls Tryz.prog 70 #[.int .i64 6,v1,v2] w fun e w'=>RTs D fb w e w':=by
 have H1:=h1;have H2:=h2;obtain⟨x1,x2,rfl,-,-⟩:=h1;obtain⟨x3,x4,rfl,-,-⟩:=h2;have hS0:=(((St.start w).alloc _ rfl #[x1,x2] 32).alloc (w.heap.size+1) (by simp) #[x3,x4] 32).alloc (w.heap.size+1+1) (by simp) #[.slice none 0 0,.slice none 0 0] 32;rw[Zpm] at hD hfb;have Hsd:=qh (show ∀ W:World,Below w.heap.size w W→Calls Tryz.prog 108 #[.agg #[x1,x2],.agg #[x3,x4],.func (.func 110) #[] #[]] W fun e w'=>RTs D fb W e w' from fun W hb=>(ZhK K hK a b D fb hD hfb _ _ W hda hdb (H1.below hb) (H2.below hb)).mono fun e w' h=>RTt.s h);replace hS0:=qh hS0;clear hD hfb H1 H2 hda hdb hK
 go_enter Tryz.func70, Tryz.ntmps70
 have e0:=hS0.out.cell (v:=x1) 0 0 rfl rfl;have e1:=hS0.out.cell (v:=x2) 0 1 rfl rfl;have e2:=hS0.out.cell (v:=x3) 1 0 rfl rfl;have e3:=hS0.out.cell (v:=x4) 1 1 rfl rfl;go_wp2_with fail;refine(Hsd.out _ hS0.out.bel).mono ?_;rintro e w5 ⟨a1,c1,a2,c2,rfl,hr,hb5⟩;have HS5:=qh (hS0.out.call hb5);have HDr:=qh hr;have hB1:=(hS0.out.boxlt 2 rfl).2;have hsz:=hS0.out.size;have f0:=HS5.out.fr 2 0 rfl;have f1:=HS5.out.fr 2 1 rfl;have k0:=HS5.out.cell (v:=.slice none 0 0) 2 0 rfl rfl;have k1:=HS5.out.cell (v:=.slice none 0 0) 2 1 rfl rfl;clear hr hb5 e0 e1 e2 e3;go_wp2;have hq:=(HS5.out.set 2 rfl 0 (.slice a1 D.next.length c1)).set 2 rfl 1 (.slice a2 D.ends.length c2);have q0:=hq.cell (v:=.slice a1 D.next.length c1) 2 0 rfl rfl;have q1:=hq.cell (v:=.slice a2 D.ends.length c2) 2 1 rfl rfl;refine bodyPost_ret (v:=.tuple #[.agg #[.slice a1 D.next.length c1,.slice a2 D.ends.length c2],.bool fb]) (by simp[results,Tryz.results70,go_sem,q0,q1]) rfl ?_;exact⟨a1,c1,a2,c2,rfl,((HDr.out.far hB1 0 _).far hB1 1 _).mono hsz,hq.bel⟩
theorem Zf7 (K:Nat) (hK:K=40) (k:Int) (hk:k=4∨k=5∨k=6) (a b:DfaD) (D:DfaD) (fb:Bool) (hD:(twoQ K k a b).getD zeD=D) (hfb:(twoQ K k a b).isSome=fb) (v1 v2:Value) (w:World) (hda:Zaf a.next a.ends=true) (hdb:Zaf b.next b.ends=true) (h1:DfaR 0 w v1 a) (h2:DfaR 0 w v2 b) :
  Calls Tryz.prog 70 #[.int .i64 k,v1,v2] w fun e w'=>RTs D fb w e w':=by
 rcases hk with rfl|rfl|rfl
 ·exact Ze6 K hK a b D fb hD hfb v1 v2 w hda hdb h1 h2
 ·exact Ze8 K hK a b D fb hD hfb v1 v2 w hda hdb h1 h2
 exact Ze7 K hK a b D fb hD hfb v1 v2 w hda hdb h1 h2
end Go.Proofs.YtehmjmjedopkkaaGreat
