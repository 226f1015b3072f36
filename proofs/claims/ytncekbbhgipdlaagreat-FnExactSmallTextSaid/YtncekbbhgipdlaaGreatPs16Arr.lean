/-
  An automaton that a call hands back, as one thing in memory; the walks over Minimize, of the program and of the reference.
  Condition: the automaton is valid and reads as such.
-/
import Derived.Test.YtncekbbhgipdlaaGreatPs14Ct
set_option maxHeartbeats 8000000
set_option maxRecDepth 100000
namespace Go.Proofs.YtncekbbhgipdlaaGreat
open Go.RowKit
def DfaV (B H:Nat) (v1 v2:Value) (D:DfaD):Ent:=⟨fun k=>B≤k∧k<H,fun u=>∃ w:World,w.heap.size=H∧DfaR B w (.agg #[v1,v2]) D∧∀ k,B≤k→k<H→u.heap[k]? = w.heap[k]?,
 fun _ _ ⟨w,h1,h2,h3⟩ hk=>⟨w,h1,h2,fun k p q=>(hk k ⟨p,q⟩).trans (h3 k p q)⟩⟩
def RDs (D:DfaD) (w:World) (e:Ending) (w':World):Prop:=∃ a1 c1 a2 c2,e = .returned (.agg #[.slice a1 D.next.length c1,.slice a2 D.ends.length c2])∧DfaR w.heap.size w' (.agg #[.slice a1 D.next.length c1,.slice a2 D.ends.length c2]) D∧Below w.heap.size w w'
def txB (l:List Nat):ByteArray:=⟨(l.map UInt8.ofNat).toArray⟩
def isT (l:List Nat):Prop:=∀ b∈l,b<256
theorem ZaG (l:List Nat):(txB l).size=l.length:=by simp[txB,ByteArray.size]
theorem Zcz {l:List Nat} {i:Nat} (hi:i<l.length):l.getD i 0∈l:=by rw[List.getD_eq_getElem?_getD,List.getElem?_eq_getElem hi];exact List.getElem_mem hi
theorem ZpL {l:List Nat} {i:Nat} (hi:i<l.length) (ht:isT l) (h:i<(txB l).size):(((txB l)[i]'h).toNat:Int)=(l.getD i 0:Nat):=by
 have hc:l.getD i 0<256:=ht _ (Zcz hi);have e:(txB l)[i]'h=UInt8.ofNat (l.getD i 0):=by show(txB l).data[i]=_;simp[txB,hi]
 rw[e,UInt8.toNat_ofNat'];omega
theorem ZbE {l:List Nat} {i:Nat} (hi:i<l.length) (ht:isT l) (w:World):(Instr.index 9 (.string (txB l)) (.int .i64 (i:Int))).run Tryz.prog w = .ok (.int .u8 ((l.getD i 0:Nat):Int)) w:=by have hs:(txB l).size=l.length:=ZaG l;rw[run_index_string w 9 (txB l) .i64 i Tryz.underlying9,dif_pos (by omega)];congr 2;exact ZpL hi ht _
inductive Pth (ms:List (Int × Int × Int)):Int→List Nat→Int→Prop
 | here (s:Int):Pth ms s [] s
 | eps {s t u:Int} {w:List Nat}:(s,-1,t)∈ms→Pth ms t w u→Pth ms s w u
 | step {s t u:Int} {c:Nat} {w:List Nat}:(s,(c:Int),t)∈ms→Pth ms t w u→Pth ms s (c::w) u
theorem Pth.mono {ms ns:List (Int × Int × Int)} (hs:∀ m∈ms,m∈ns) {s t:Int} {x:List Nat} (h:Pth ms s x t):Pth ns s x t:=by
 induction h with
 | here s=>exact .here s
 | eps hm _ ih=>exact .eps (hs _ hm) ih
 | step hm _ ih=>exact .step (hs _ hm) ih
theorem Pth.map {ms ns:List (Int × Int × Int)} (f:Int→Int) (hs:∀ m∈ms,(f m.1,m.2.1,f m.2.2)∈ns∨(m.2.1 = -1∧f m.1=f m.2.2)) {s t:Int} {x:List Nat} (h:Pth ms s x t):Pth ns (f s) x (f t):=by
 induction h with
 | here s=>exact .here _
 | eps hm _ ih =>
  rcases hs _ hm with h|⟨_,h⟩
  ·exact .eps h ih
  exact h ▸ ih
 | step hm _ ih =>
  rcases hs _ hm with h|⟨h,_⟩
  ·exact .step h ih
  simp only at h;omega
theorem Pth.in {ms:List (Int × Int × Int)} {n:Nat} (hm:mvIn n ms) {s t:Int} {x:List Nat} (h:Pth ms s x t) (hs:0≤s∧s<(n:Int)):0≤t∧t<(n:Int):=by
 induction h with
 | here s=>exact hs
 | eps h _ ih=>exact ih (hm _ h).2
 | step h _ ih=>exact ih (hm _ h).2
theorem Pth.split {ms:List (Int × Int × Int)} {s u:Int} {x:List Nat} (h:Pth ms s x u):∀ {c:Nat} {w:List Nat},x=c::w→∃ m,m∈ms∧m.2.1=(c:Int)∧Pth ms s [] m.1∧Pth ms m.2.2 w u:=by
 induction h with
 | here s=>intro c w h;cases h
 | eps hm _ ih =>intro c w h;obtain⟨m,h1,h2,h3,h4⟩:=ih h;exact⟨m,h1,h2,.eps hm h3,h4⟩
 | step hm hp ih =>
  intro c w h
  injection h with h1 h2
  subst h1;subst h2;exact⟨_,hm,rfl,.here _,hp⟩
theorem Zks {l:List Int} {m:Int} (h:∀ j,j<l.length→(0≤l.getD j 0∧l.getD j 0≤m-1)∧(0<j→l.getD (j-1) 0<l.getD j 0)):stOk l m=true:=by
 unfold stOk;rw[List.all_eq_true];intro j hj;obtain⟨h1,h2⟩:=h j (List.mem_range.1 hj);unfold okAt;rw[Bool.and_eq_true,Bool.or_eq_true];refine⟨by simp only[inB,Bool.and_eq_true,decide_eq_true_eq];exact h1,?_⟩;by_cases h0:j=0
 ·exact .inl (decide_eq_true h0)
 exact .inr (decide_eq_true (h2 (by omega)))
theorem ZmO {d:DfaD}:∀ {k:Nat} {m:Int × Int × Int},m∈mvs d k↔∃ s c:Nat,s<k∧c<3∧m=((s:Int),(c:Int),(d.next.getD s []).getD c 0)
 | 0,m=>by simp[mvs]
 | k+1,m=>by
  rw[show mvs d (k+1)=mvs d k++rowM d k from rfl,List.mem_append,ZmO];constructor
  ·rintro(⟨s,c,h1,h2,h3⟩|h)
   ·exact⟨s,c,by omega,h2,h3⟩
   obtain⟨c,hc,rfl⟩:=List.mem_map.1 h;exact⟨k,c,by omega,List.mem_range.1 hc,rfl⟩
  rintro⟨s,c,h1,h2,h3⟩;by_cases h:s=k
  ·subst h;exact .inr (List.mem_map.2 ⟨c,List.mem_range.2 h2,h3.symm⟩)
  exact .inl ⟨s,c,by omega,h2,h3⟩
theorem Zis (d:DfaD):∀ k,(eds d k).Pairwise (·<·)
 | 0=>List.Pairwise.nil
 | k+1=>by
  unfold eds
  split
  ·rw[List.pairwise_append];refine⟨Zis d k,List.pairwise_singleton _ _,fun x hx y hy => ?_⟩;rw[List.mem_singleton.1 hy];exact(ZgN d k x hx).2
  exact Zis d k
theorem Zh7 {d:DfaD} (hd:Zah d.next d.ends=true):Zlt (Za1 d)=true:=by
 have hl:=Zaj hd;unfold Zlt;simp only[Bool.and_eq_true,decide_eq_true_eq];refine⟨⟨⟨⟨?_,?_⟩,?_⟩,?_⟩,?_⟩
 ·show inB (d.next.length:Int) 0 40=true;simp only[inB,Bool.and_eq_true,decide_eq_true_eq];exact⟨by omega,by omega⟩
 ·show(mvs d d.next.length).length≤400;rw[Zcd];omega
 ·refine Zks fun j hj => ?_
  have hj:j<1:=hj;obtain rfl:j=0:=by omega
  refine⟨?_,fun h=>by omega⟩;simp only[Za1,List.getD_cons_zero];omega
 ·refine Zks fun j hj => ?_
  have hj:j<(eds d d.next.length).length:=hj;have h1:=ZgN d _ _ (memD (d:=(0:Int)) hj);refine⟨?_,fun h => ?_⟩
  ·show 0≤(eds d d.next.length).getD j 0∧(eds d d.next.length).getD j 0≤(d.next.length:Int)-1;omega
  have:=List.pairwise_iff_getElem.1 (Zis d d.next.length) (j-1) j (by omega) hj (by omega);show(eds d d.next.length).getD (j-1) 0<(eds d d.next.length).getD j 0;rw[Zbm (by omega),Zbm hj];exact this
 rw[List.all_eq_true];intro m hm;obtain⟨s,c,h1,h2,rfl⟩:=ZmO.1 (show m∈mvs d d.next.length from hm);have hr:=(ZaV hd h1).2 c h2;show mvOk (d.next.length:Int) _=true;simp only[mvOk,inB,Bool.and_eq_true,decide_eq_true_eq];exact⟨⟨⟨by omega,by omega⟩,by omega,by omega⟩,by omega,by omega⟩
end Go.Proofs.YtncekbbhgipdlaaGreat
namespace Go.Proofs.YtncekbbhgipdlaaGreat
open Go.RowKit
def NfaT (n:NfaD) (v1 v2 v3:Value):Ent:=Ent.all [Ent.row 117 3 v1 n.moves.length (n.moves.flatMap Zac),Ent.row 3 1 v2 n.firsts.length (intCells n.firsts),Ent.row 3 1 v3 n.ends.length (intCells n.ends)]
def ZoT (n:NfaD) (w:World) (e:Ending) (w':World):Prop:=∃ a1 c1 a2 c2 a3 c3,e = .returned (.agg #[.int .i64 n.states,.slice a1 n.moves.length c1,.slice a2 n.firsts.length c2,.slice a3 n.ends.length c3]) ∧
 St w w' [NfaT n (.slice a1 n.moves.length c1) (.slice a2 n.firsts.length c2) (.slice a3 n.ends.length c3)]
theorem RNfaS.t {n:NfaD} {w:World} {e:Ending} {w':World} (h:RNfaS n w e w'):ZoT n w e w':=by obtain⟨a1,c1,a2,c2,a3,c3,rfl,hS⟩:=h;exact⟨a1,c1,a2,c2,a3,c3,rfl,St.pack (A:=[]) hS⟩
theorem St.nfaT {w0 w:World} {L:List Ent} (h:St w0 w L) (i:Nat) {n:NfaD} {v1 v2 v3:Value} (hx:L[i]? = some (NfaT n v1 v2 v3)):Moves 0 w v1 n.moves∧Ints 0 w v2 n.firsts∧Ints 0 w v3 n.ends:=by have hE:=(h.has i _ hx).1;have h1:(Ent.row 117 3 v1 n.moves.length (n.moves.flatMap Zac)).holds w:=hE _ (by simp);have h2:(Ent.row 3 1 v2 n.firsts.length (intCells n.firsts)).holds w:=hE _ (by simp);have h3:(Ent.row 3 1 v3 n.ends.length (intCells n.ends)).holds w:=hE _ (by simp);exact⟨ZcD h1,Zdv h2,Zdv h3⟩
def DfaX (B0 B H:Nat) (v1 v2:Value) (D:DfaD):Ent:=⟨(DfaV B H v1 v2 D).foot,fun u=>B0≤B∧(DfaV B H v1 v2 D).holds u,fun a b h hk=>⟨h.1,(DfaV B H v1 v2 D).stable a b h.2 hk⟩⟩
theorem St.dfaX {w0 w w':World} {L:List Ent} (h:St w0 w L) (hb:Below w.heap.size w w') {v1 v2:Value} {D:DfaD} (hr:DfaR w.heap.size w' (.agg #[v1,v2]) D):St w0 w' (L++[DfaX w0.heap.size w.heap.size w'.heap.size v1 v2 D]) :=
 h.add hb _ ⟨h.size,w',rfl,hr,fun _ _ _=>rfl⟩ fun _ hk=>hk
theorem St.dfaXr {w0 w:World} {L:List Ent} (h:St w0 w L) (i:Nat) {B0 B H:Nat} {v1 v2:Value} {D:DfaD} (hx:L[i]? = some (DfaX B0 B H v1 v2 D)):DfaR B0 w (.agg #[v1,v2]) D:=by
 have hE:=h.has i _ hx;obtain⟨⟨hB,w',h1,⟨x1,x2,hv,⟨vs,h2,h3⟩,h4⟩,h5⟩,hf⟩:=hE;simp only[Value.agg.injEq,Array.mk.injEq,List.cons.injEq,and_true] at hv;obtain⟨rfl,rfl⟩:=hv;by_cases hlt:B<H
 ·have hs:w'.heap.size≤w.heap.size:=by have:H-1<w.heap.size:=(hf (H-1) (show B≤H-1∧H-1<H by omega)).2;omega
  have hk:∀ k,B≤k→k<w'.heap.size→w.heap[k]? = w'.heap[k]?:=fun k p q=>h5 k p (by omega)
  exact⟨_,_,rfl,⟨vs,h2.keptJ hB hs hk,fun i hi=>Sl.keptJ (h3 i hi) hB hs hk⟩,Sl.keptJ h4 hB hs hk⟩
 have hno:∀ {v:Value} {n size:Nat} {cs:List Value},Sl B w' v n size cs→0<size→Sl B0 w v n size cs:=fun {v n size cs} hs hz=>by obtain⟨g1,a,cap,g2,g3,g4,g5⟩:=hs;refine⟨g1,a,cap,g2,g3,g4,fun hn => ?_⟩;obtain⟨b,off,-,p,q,-⟩:=g5 hn;omega
 exact⟨_,_,rfl,⟨vs,hno h2 (by omega),fun i hi=>hno (h3 i hi) (by omega)⟩,hno h4 (by omega)⟩
def RTs (D:DfaD) (fb:Bool) (w:World) (e:Ending) (w':World):Prop:=∃ a1 c1 a2 c2,e = .returned (.tuple #[.agg #[.slice a1 D.next.length c1,.slice a2 D.ends.length c2],.bool fb])∧DfaR w.heap.size w' (.agg #[.slice a1 D.next.length c1,.slice a2 D.ends.length c2]) D∧Below w.heap.size w w'
theorem RTt.s {D:DfaD} {fb:Bool} {w:World} {e:Ending} {w':World} (h:RTt D fb w.heap.size e w'∧Below w.heap.size w w'):RTs D fb w e w':=by obtain⟨⟨a1,c1,a2,c2,rfl,h1⟩,h2⟩:=h;exact⟨a1,c1,a2,c2,rfl,h1.r,h2⟩
theorem Zoy {a b:DfaD} (ha:Zah a.next a.ends=true) (hb:Zah b.next b.ends=true):DetOkW 81 (Zif (Za1 a) (Za1 b)):=by
 have hla:=Zaj ha;have hlb:=Zaj hb;have h1:=Zcd a a.next.length;have h2:=Zcd b b.next.length;have h3:(eds a a.next.length).length≤40:=Nat.le_trans (ZcN a _) hla.2.1;have h4:(eds b b.next.length).length≤40:=Nat.le_trans (ZcN b _) hlb.2.1;rw[Zjj];refine⟨Zi4 (Zko ha hb) (by omega),?_,fun s hs=>by have:=Ze9 (b:=b) ha s hs;omega,by simp[ZdP],fun s hs=>by have:=Zhe s hs;omega,?_⟩
 ·simp only[ZdP,List.length_append,List.length_map];omega
 simp only[ZdP,List.length_map];omega
theorem Zfs (K:Nat) (hK:K=40) (a b:DfaD) (D:DfaD) (fb:Bool) (hD:(twoQ K 4 a b).getD zeD=D) (hfb:(twoQ K 4 a b).isSome=fb) (v1 v2:Value) (w:World) (hda:Zah a.next a.ends=true) (hdb:Zah b.next b.ends=true) (h1:DfaR 0 w v1 a) (h2:DfaR 0 w v2 b) :
  Calls Tryz.prog 62 #[.int .i64 4,v1,v2] w fun e w'=>RTs D fb w e w':=by
 have H1:=h1;have H2:=h2;obtain⟨x1,x2,rfl,-,-⟩:=h1;obtain⟨x3,x4,rfl,-,-⟩:=h2;have hS0:=(((St.start w).alloc _ rfl #[x1,x2] 44).alloc (w.heap.size+1) (by simp) #[x3,x4] 44).alloc (w.heap.size+1+1) (by simp) #[.slice none 0 0,.slice none 0 0] 44;obtain⟨P,hP⟩:=eI (Za1 a);obtain⟨Q,hQ⟩:=eI (Za1 b);obtain⟨J,hJ⟩:=eI (Zif P Q);have HnA:=qh (show ∀ W:World,Below w.heap.size w W→Calls Tryz.prog 60 #[.agg #[x1,x2]] W fun e w'=>ZoT P W e w' from fun W hb=>by rw[hP];exact(Zd7 a _ W hda (H1.below hb)).mono fun e w' h=>h.t);have HnB:=qh (show ∀ W:World,Below w.heap.size w W→Calls Tryz.prog 60 #[.agg #[x3,x4]] W fun e w'=>ZoT Q W e w' from fun W hb=>by rw[hQ];exact(Zd7 b _ W hdb (H2.below hb)).mono fun e w' h=>h.t);have HnJ:=qh (show ∀ (W:World) (v1 v2 v3 u1 u2 u3:Value),(Moves 0 W v1 P.moves∧Ints 0 W v2 P.firsts∧Ints 0 W v3 P.ends)→(Moves 0 W u1 Q.moves∧Ints 0 W u2 Q.firsts∧Ints 0 W u3 Q.ends)→Calls Tryz.prog 100 #[.agg #[.int .i64 P.states,v1,v2,v3],.agg #[.int .i64 Q.states,u1,u2,u3]] W fun e w'=>ZoT J W e w' from fun W v1 v2 v3 u1 u2 u3 h g=>by rw[hJ];exact(Zka P Q v1 v2 v3 u1 u2 u3 W (by rw[hP];exact Zh7 hda) (by rw[hQ];exact Zh7 hdb) h.1 h.2.1 h.2.2 g.1 g.2.1 g.2.2).mono fun e w' h=>h.t);have hdet:DetOkW 81 J:=by rw[hJ,hP,hQ];exact Zoy hda hdb
 have htw:twoQ K 4 a b=(Zfy 81 K J).map minD:=by rw[hJ,hP,hQ];rfl
 rw[htw] at hD hfb
 have HnS:=qh (show ∀ (W:World) (v1 v2 v3:Value),(Moves 0 W v1 J.moves∧Ints 0 W v2 J.firsts∧Ints 0 W v3 J.ends)→Calls Tryz.prog 61 #[.agg #[.int .i64 J.states,v1,v2,v3]] W fun e w'=>RTs D fb W e w' from fun W v1 v2 v3 h =>
  (ZdV 81 (by omega) J K hK D fb hD hfb v1 v2 v3 W hdet h.1 h.2.1 h.2.2).mono fun e w' h=>RTt.s h)
 replace hS0:=qh hS0;replace hP:=qh hP;have HhQ:=qh hQ;clear hQ;replace hJ:=qh hJ;clear hD hfb H1 H2 hda hdb hdet htw hK
 go_enter Tryz.func62, Tryz.ntmps62
 go_wp2;refine wp_region_any (by kernel_rfl) ?_
 refine Zar (fun A listed a w'=>∃ (l0 l1 l2 l3 l4 l5 l6 l7 l8 l9:Bool) (p1:Option Addr) (p2:Nat) (p3:Option Addr) (p4:Nat) (p5:Option Addr) (p6:Nat) (q1:Option Addr) (q2:Nat) (q3:Option Addr) (q4:Nat) (q5:Option Addr) (q6:Nat) (j1:Option Addr) (j2:Nat) (j3:Option Addr) (j4:Nat) (j5:Option Addr) (j6:Nat) (d1:Option Addr) (d2:Nat) (d3:Option Addr) (d4:Nat) (B:Nat) (H:Nat),listed=#[l0,l1,l2,l3,l4,l5,l6,l7,l8,l9]∧(l6=true→l5=true)∧(l8=true→l5=true) ∧
   a=⟨(((((((((A.tmps.setIfInBounds 11 (if l0=true then .agg #[x1,x2] else A.tmps.getD 11 undef)).setIfInBounds 12 (if l1=true then .agg #[.int .i64 P.states,.slice p1 P.moves.length p2,.slice p3 P.firsts.length p4,.slice p5 P.ends.length p6] else A.tmps.getD 12 undef)).setIfInBounds 13 (if l2=true then .agg #[x3,x4] else A.tmps.getD 13 undef)).setIfInBounds 14 (if l3=true then .agg #[.int .i64 Q.states,.slice q1 Q.moves.length q2,.slice q3 Q.firsts.length q4,.slice q5 Q.ends.length q6] else A.tmps.getD 14 undef)).setIfInBounds 15 (if l4=true then .agg #[.int .i64 J.states,.slice j1 J.moves.length j2,.slice j3 J.firsts.length j4,.slice j5 J.ends.length j6] else A.tmps.getD 15 undef)).setIfInBounds 16 (if l5=true then .tuple #[.agg #[.slice d1 D.next.length d2,.slice d3 D.ends.length d4],.bool fb] else A.tmps.getD 16 undef)).setIfInBounds 17 (if l6=true then .agg #[.slice d1 D.next.length d2,.slice d3 D.ends.length d4] else A.tmps.getD 17 undef)).setIfInBounds 18 (if l7=true then .bool fb else A.tmps.getD 18 undef)).setIfInBounds 7 (if l9=true then .bool fb else A.tmps.getD 7 undef)),A.defers⟩ ∧
   St w w' [Ent.box w.heap.size #[x1,x2] 44,Ent.box (w.heap.size+1) #[x3,x4] 44,(if l8=true then Ent.box (w.heap.size+1+1) #[.slice d1 D.next.length d2,.slice d3 D.ends.length d4] 44 else Ent.box (w.heap.size+1+1) #[.slice none 0 0,.slice none 0 0] 44),(if l1=true then NfaT P (.slice p1 P.moves.length p2) (.slice p3 P.firsts.length p4) (.slice p5 P.ends.length p6) else Ent.nil),(if l3=true then NfaT Q (.slice q1 Q.moves.length q2) (.slice q3 Q.firsts.length q4) (.slice q5 Q.ends.length q6) else Ent.nil),(if l4=true then NfaT J (.slice j1 J.moves.length j2) (.slice j3 J.firsts.length j4) (.slice j5 J.ends.length j6) else Ent.nil),(if l5=true then DfaX w.heap.size B H (.slice d1 D.next.length d2) (.slice d3 D.ends.length d4) D else Ent.nil)]) ?_ ?_ ?_
 ·rintro listed a w' ⟨l0,l1,l2,l3,l4,l5,l6,l7,l8,l9,p1,p2,p3,p4,p5,p6,q1,q2,q3,q4,q5,q6,j1,j2,j3,j4,j5,j6,d1,d2,d3,d4,B,H,rfl,hd6,hd8,rfl,hS⟩ i hi;obtain⟨hun,o,ho,hall⟩:=mem_ready.1 hi;have hlt:=(Array.getElem?_eq_some_iff.1 ho).1;refine wpOp_step ho (fun K hK => ?_);clear hi;have HS:=qh hS;clear hS;simp only[w_1,w_2,w_3,w_4,w_5,w_6,w_7,w_8];obtain h|h|h|h|h|h|h|h|h|h:i=0∨i=1∨i=2∨i=3∨i=4∨i=5∨i=6∨i=7∨i=8∨i=9:=by simp at hlt;omega
  all_goals subst h
  all_goals simp only[w_5,w_6,w_7,w_9] at ho
  all_goals subst ho
  all_goals simp[Region.binds] at hun hall
  ·subst hun;have e0:=HS.out.cell (v:=x1) 0 0 rfl rfl;have e1:=HS.out.cell (v:=x2) 0 1 rfl rfl;go_simp;exact hK _ _ ⟨_,_,_,_,_,_,_,_,_,_,p1,p2,p3,p4,p5,p6,q1,q2,q3,q4,q5,q6,j1,j2,j3,j4,j5,j6,d1,d2,d3,d4,B,H,rfl,hd6,hd8,(by simp),HS.out⟩
  ·obtain rfl:=hall;subst hun;go_simp
   go_at_call 60
   refine(HnA.out _ HS.out.bel).mono ?_;rintro e u1 ⟨pz1,pz2,pz3,pz4,pz5,pz6,rfl,hSx⟩;have hS2:=(HS.out.cat hSx).pick [0,1,2,7,4,5,6] (by decide);have HhS2:=qh hS2;clear hS2;go_simp;exact hK _ _ ⟨_,_,_,_,_,_,_,_,_,_,pz1,pz2,pz3,pz4,pz5,pz6,q1,q2,q3,q4,q5,q6,j1,j2,j3,j4,j5,j6,d1,d2,d3,d4,B,H,rfl,hd6,hd8,(by simp),HhS2.out⟩
  ·subst hun;have e0:=HS.out.cell (v:=x3) 1 0 rfl rfl;have e1:=HS.out.cell (v:=x4) 1 1 rfl rfl;go_simp;exact hK _ _ ⟨_,_,_,_,_,_,_,_,_,_,p1,p2,p3,p4,p5,p6,q1,q2,q3,q4,q5,q6,j1,j2,j3,j4,j5,j6,d1,d2,d3,d4,B,H,rfl,hd6,hd8,(by simp),HS.out⟩
  ·obtain⟨rfl,rfl⟩:=hall;subst hun;go_simp
   go_at_call 60
   refine(HnB.out _ HS.out.bel).mono ?_;rintro e u1 ⟨qz1,qz2,qz3,qz4,qz5,qz6,rfl,hSx⟩;have hS2:=(HS.out.cat hSx).pick [0,1,2,3,7,5,6] (by decide);have HhS2:=qh hS2;clear hS2;go_simp;exact hK _ _ ⟨_,_,_,_,_,_,_,_,_,_,p1,p2,p3,p4,p5,p6,qz1,qz2,qz3,qz4,qz5,qz6,j1,j2,j3,j4,j5,j6,d1,d2,d3,d4,B,H,rfl,hd6,hd8,(by simp),HhS2.out⟩
  ·obtain⟨rfl,rfl⟩:=hall;subst hun;go_simp
   go_at_call 100
   refine(HnJ.out _ _ _ _ _ _ _ (HS.out.nfaT 3 rfl) (HS.out.nfaT 4 rfl)).mono ?_;rintro e u1 ⟨jz1,jz2,jz3,jz4,jz5,jz6,rfl,hSx⟩;have hS2:=(HS.out.cat hSx).pick [0,1,2,3,4,7,6] (by decide);have HhS2:=qh hS2;clear hS2;go_simp;exact hK _ _ ⟨_,_,_,_,_,_,_,_,_,_,p1,p2,p3,p4,p5,p6,q1,q2,q3,q4,q5,q6,jz1,jz2,jz3,jz4,jz5,jz6,d1,d2,d3,d4,B,H,rfl,hd6,hd8,(by simp),HhS2.out⟩
  ·obtain rfl:=hall;subst hun;obtain rfl:l6=false:=by cases l6 with|false=>rfl|true=>simpa using hd6 rfl
   obtain rfl:l8=false:=by cases l8 with|false=>rfl|true=>simpa using hd8 rfl
   go_simp
   go_at_call 61
   refine(HnS.out _ _ _ _ (HS.out.nfaT 5 rfl)).mono ?_;rintro e u1 ⟨dz1,dz2,dz3,dz4,rfl,hr,hb⟩;have hS2:=(HS.out.dfaX hb hr).pick [0,1,2,3,4,5,7] (by decide);have HhS2:=qh hS2;clear hS2;go_simp;exact hK _ _ ⟨_,_,_,_,_,_,_,_,_,_,p1,p2,p3,p4,p5,p6,q1,q2,q3,q4,q5,q6,j1,j2,j3,j4,j5,j6,dz1,dz2,dz3,dz4,_,_,rfl,by simp,by simp,(by simp),HhS2.out⟩
  ·obtain rfl:=hall;subst hun;go_simp;exact hK _ _ ⟨_,_,_,_,_,_,_,_,_,_,p1,p2,p3,p4,p5,p6,q1,q2,q3,q4,q5,q6,j1,j2,j3,j4,j5,j6,d1,d2,d3,d4,B,H,rfl,by simp,hd8,(by simp),HS.out⟩
  ·obtain rfl:=hall;subst hun;go_simp;exact hK _ _ ⟨_,_,_,_,_,_,_,_,_,_,p1,p2,p3,p4,p5,p6,q1,q2,q3,q4,q5,q6,j1,j2,j3,j4,j5,j6,d1,d2,d3,d4,B,H,rfl,hd6,hd8,(by simp),HS.out⟩
  ·obtain⟨rfl,rfl,rfl,rfl,rfl,rfl,rfl,-,-,rfl⟩:=hall;subst hun;have f0:=HS.out.fr 2 0 rfl;have k0:=HS.out.cell (v:=.slice none 0 0) 2 0 rfl rfl;have f1:=HS.out.fr 2 1 rfl;have k1:=HS.out.cell (v:=.slice none 0 0) 2 1 rfl rfl;go_simp;exact hK _ _ ⟨_,_,_,_,_,_,_,_,_,_,p1,p2,p3,p4,p5,p6,q1,q2,q3,q4,q5,q6,j1,j2,j3,j4,j5,j6,d1,d2,d3,d4,B,H,rfl,by simp,by simp,(by simp),((HS.out.set 2 rfl 0 (.slice d1 D.next.length d2)).set 2 rfl 1 (.slice d3 D.ends.length d4))⟩
  obtain⟨rfl,rfl,rfl,rfl,rfl,rfl,rfl,rfl,rfl,-⟩:=hall;subst hun;go_simp;exact hK _ _ ⟨_,_,_,_,_,_,_,_,_,_,p1,p2,p3,p4,p5,p6,q1,q2,q3,q4,q5,q6,j1,j2,j3,j4,j5,j6,d1,d2,d3,d4,B,H,rfl,by simp,by simp,(by simp),HS.out⟩
 ·rintro listed a w' ⟨l0,l1,l2,l3,l4,l5,l6,l7,l8,l9,p1,p2,p3,p4,p5,p6,q1,q2,q3,q4,q5,q6,j1,j2,j3,j4,j5,j6,d1,d2,d3,d4,B,H,rfl,hd6,hd8,rfl,hS⟩ hr;obtain⟨rfl,rfl,rfl,rfl,rfl,rfl,rfl,rfl,rfl,rfl,-⟩:=zA (ZaK (by kernel_rfl) rfl hr) rfl;clear hr hd6 hd8;simp only[↓reduceIte] at hS ⊢;simp only[w_1,w_2,w_3];have HS9:=qh hS;clear hS;have q0:=HS9.out.cell (v:=.slice d1 D.next.length d2) 2 0 rfl rfl;have q1:=HS9.out.cell (v:=.slice d3 D.ends.length d4) 2 1 rfl rfl;go_wp2;refine bodyPost_ret (v:=.tuple #[.agg #[.slice d1 D.next.length d2,.slice d3 D.ends.length d4],.bool fb]) (by simp[results,Tryz.results62,go_sem,q0,q1]) rfl ?_;exact⟨_,_,_,_,rfl,HS9.out.dfaXr 6 rfl,HS9.out.bel⟩
 refine⟨false,false,false,false,false,false,false,false,false,false,none,0,none,0,none,0,none,0,none,0,none,0,none,0,none,0,none,0,none,0,none,0,0,0,rfl,by simp,by simp,(by simp),?_⟩;exact hS0.out.drew.pick [0,1,2,3,4,5,6] (by decide)
theorem ZpN (K:Nat) (a b:DfaD):twoQ K 5 a b=(ZbJ K (fun p q=>p||q) a b).map minD:=rfl
theorem ZpM (K:Nat) (a b:DfaD):twoQ K 6 a b=(ZbJ K (fun p q=>p&&q) a b).map minD:=rfl
theorem Zfu (K:Nat) (hK:K=40) (a b:DfaD) (D:DfaD) (fb:Bool) (hD:(twoQ K 5 a b).getD zeD=D) (hfb:(twoQ K 5 a b).isSome=fb) (v1 v2:Value) (w:World) (hda:Zah a.next a.ends=true) (hdb:Zah b.next b.ends=true) (h1:DfaR 0 w v1 a) (h2:DfaR 0 w v2 b) :
  Calls Tryz.prog 62 #[.int .i64 5,v1,v2] w fun e w'=>RTs D fb w e w':=by
 have H1:=h1;have H2:=h2;obtain⟨x1,x2,rfl,-,-⟩:=h1;obtain⟨x3,x4,rfl,-,-⟩:=h2;have hS0:=(((St.start w).alloc _ rfl #[x1,x2] 44).alloc (w.heap.size+1) (by simp) #[x3,x4] 44).alloc (w.heap.size+1+1) (by simp) #[.slice none 0 0,.slice none 0 0] 44;rw[ZpN] at hD hfb;have Hsd:=qh (show ∀ W:World,Below w.heap.size w W→Calls Tryz.prog 101 #[.agg #[x1,x2],.agg #[x3,x4],.func (.func 102) #[] #[]] W fun e w'=>RTs D fb W e w' from fun W hb=>(Zig K hK a b D fb hD hfb _ _ W hda hdb (H1.below hb) (H2.below hb)).mono fun e w' h=>RTt.s h);replace hS0:=qh hS0;clear hD hfb H1 H2 hda hdb hK
 go_enter Tryz.func62, Tryz.ntmps62
 have e0:=hS0.out.cell (v:=x1) 0 0 rfl rfl;have e1:=hS0.out.cell (v:=x2) 0 1 rfl rfl;have e2:=hS0.out.cell (v:=x3) 1 0 rfl rfl;have e3:=hS0.out.cell (v:=x4) 1 1 rfl rfl;go_wp2_with fail;refine(Hsd.out _ hS0.out.bel).mono ?_;rintro e w5 ⟨a1,c1,a2,c2,rfl,hr,hb5⟩;have HS5:=qh (hS0.out.call hb5);have HDr:=qh hr;have hB1:=(hS0.out.boxlt 2 rfl).2;have hsz:=hS0.out.size;have f0:=HS5.out.fr 2 0 rfl;have f1:=HS5.out.fr 2 1 rfl;have k0:=HS5.out.cell (v:=.slice none 0 0) 2 0 rfl rfl;have k1:=HS5.out.cell (v:=.slice none 0 0) 2 1 rfl rfl;clear hr hb5 e0 e1 e2 e3;go_wp2;have hq:=(HS5.out.set 2 rfl 0 (.slice a1 D.next.length c1)).set 2 rfl 1 (.slice a2 D.ends.length c2);have q0:=hq.cell (v:=.slice a1 D.next.length c1) 2 0 rfl rfl;have q1:=hq.cell (v:=.slice a2 D.ends.length c2) 2 1 rfl rfl;refine bodyPost_ret (v:=.tuple #[.agg #[.slice a1 D.next.length c1,.slice a2 D.ends.length c2],.bool fb]) (by simp[results,Tryz.results62,go_sem,q0,q1]) rfl ?_;exact⟨a1,c1,a2,c2,rfl,((HDr.out.far hB1 0 _).far hB1 1 _).mono hsz,hq.bel⟩
theorem Zft (K:Nat) (hK:K=40) (a b:DfaD) (D:DfaD) (fb:Bool) (hD:(twoQ K 6 a b).getD zeD=D) (hfb:(twoQ K 6 a b).isSome=fb) (v1 v2:Value) (w:World) (hda:Zah a.next a.ends=true) (hdb:Zah b.next b.ends=true) (h1:DfaR 0 w v1 a) (h2:DfaR 0 w v2 b) :
  Calls Tryz.prog 62 #[.int .i64 6,v1,v2] w fun e w'=>RTs D fb w e w':=by
 have H1:=h1;have H2:=h2;obtain⟨x1,x2,rfl,-,-⟩:=h1;obtain⟨x3,x4,rfl,-,-⟩:=h2;have hS0:=(((St.start w).alloc _ rfl #[x1,x2] 44).alloc (w.heap.size+1) (by simp) #[x3,x4] 44).alloc (w.heap.size+1+1) (by simp) #[.slice none 0 0,.slice none 0 0] 44;rw[ZpM] at hD hfb;have Hsd:=qh (show ∀ W:World,Below w.heap.size w W→Calls Tryz.prog 101 #[.agg #[x1,x2],.agg #[x3,x4],.func (.func 103) #[] #[]] W fun e w'=>RTs D fb W e w' from fun W hb=>(Zih K hK a b D fb hD hfb _ _ W hda hdb (H1.below hb) (H2.below hb)).mono fun e w' h=>RTt.s h);replace hS0:=qh hS0;clear hD hfb H1 H2 hda hdb hK
 go_enter Tryz.func62, Tryz.ntmps62
 have e0:=hS0.out.cell (v:=x1) 0 0 rfl rfl;have e1:=hS0.out.cell (v:=x2) 0 1 rfl rfl;have e2:=hS0.out.cell (v:=x3) 1 0 rfl rfl;have e3:=hS0.out.cell (v:=x4) 1 1 rfl rfl;go_wp2_with fail;refine(Hsd.out _ hS0.out.bel).mono ?_;rintro e w5 ⟨a1,c1,a2,c2,rfl,hr,hb5⟩;have HS5:=qh (hS0.out.call hb5);have HDr:=qh hr;have hB1:=(hS0.out.boxlt 2 rfl).2;have hsz:=hS0.out.size;have f0:=HS5.out.fr 2 0 rfl;have f1:=HS5.out.fr 2 1 rfl;have k0:=HS5.out.cell (v:=.slice none 0 0) 2 0 rfl rfl;have k1:=HS5.out.cell (v:=.slice none 0 0) 2 1 rfl rfl;clear hr hb5 e0 e1 e2 e3;go_wp2;have hq:=(HS5.out.set 2 rfl 0 (.slice a1 D.next.length c1)).set 2 rfl 1 (.slice a2 D.ends.length c2);have q0:=hq.cell (v:=.slice a1 D.next.length c1) 2 0 rfl rfl;have q1:=hq.cell (v:=.slice a2 D.ends.length c2) 2 1 rfl rfl;refine bodyPost_ret (v:=.tuple #[.agg #[.slice a1 D.next.length c1,.slice a2 D.ends.length c2],.bool fb]) (by simp[results,Tryz.results62,go_sem,q0,q1]) rfl ?_;exact⟨a1,c1,a2,c2,rfl,((HDr.out.far hB1 0 _).far hB1 1 _).mono hsz,hq.bel⟩
theorem ZgE (K:Nat) (hK:K=40) (k:Int) (hk:k=4∨k=5∨k=6) (a b:DfaD) (D:DfaD) (fb:Bool) (hD:(twoQ K k a b).getD zeD=D) (hfb:(twoQ K k a b).isSome=fb) (v1 v2:Value) (w:World) (hda:Zah a.next a.ends=true) (hdb:Zah b.next b.ends=true) (h1:DfaR 0 w v1 a) (h2:DfaR 0 w v2 b) :
  Calls Tryz.prog 62 #[.int .i64 k,v1,v2] w fun e w'=>RTs D fb w e w':=by
 rcases hk with rfl|rfl|rfl
 ·exact Zfs K hK a b D fb hD hfb v1 v2 w hda hdb h1 h2
 ·exact Zfu K hK a b D fb hD hfb v1 v2 w hda hdb h1 h2
 exact Zft K hK a b D fb hD hfb v1 v2 w hda hdb h1 h2
theorem Za7 (t:Int) (B:Nat) (w:World) (hB:w.heap.size=B):Calls Tryz.prog 97 #[.int .i64 t] w fun e w'=>e = .returned (.slice (some ⟨B,0,none⟩) 3 3)∧w'=w.alloc (.cells #[.int .i64 t,.int .i64 t,.int .i64 t] 3):=by
 subst hB
 go_enter Tryz.func97, Tryz.ntmps97
 go_wp2;go_ret;exact⟨rfl,rfl⟩
theorem Zbv {w0 w:World} {L:List Ent} (h:St w0 w L) (i:Nat) {e:Nat} {v:Value} {n:Nat} {l:List Int} (hx:L[i]? = some (Ent.row e 1 v n (intCells l))):Ints w0.heap.size w v l:=by
 have h2:=h.row i hx;have hn:n=l.length:=by have:=h2.1;simp[intCells] at this;omega
 subst hn;exact(Zab h2).sl (by omega)
theorem Zf3 {w0 w:World} {L:List Ent} (h:St w0 w L) (i:Nat) {e:Nat} {v:Value} {n:Nat} {cs:List Value} (hx:L[i]? = some (Ent.row e 1 v n cs)):Sl w0.heap.size w v n 1 cs:=(Zab (h.row i hx)).sl (by omega)
theorem ZdD {w0 w:World} {L:List Ent} (h:St w0 w L) (i:Nat) {e:Nat} {v:Value} {n:Nat} {l:List Bool} (hx:L[i]? = some (Ent.row e 1 v n (boolCells l))):Bools w0.heap.size w v l:=by
 have h2:=h.row i hx;have hn:n=l.length:=by have:=h2.1;simp[boolCells] at this;omega
 subst hn;exact(Zab h2).sl (by omega)
theorem Zij (w:World):Calls Tryz.prog 57 #[.agg #[.int .i64 1,.int .i64 0]] w fun e w'=>RDs Zgm w e w':=by
 have hS0:=((St.start w).alloc _ rfl #[.int .i64 1,.int .i64 0] 62).alloc (w.heap.size+1) (by simp) #[.slice none 0 0,.slice none 0 0] 44;replace hS0:=qh hS0
 go_enter Tryz.func57, Tryz.ntmps57
 have e0:=hS0.out.cell (v:=.int .i64 1) 0 0 rfl rfl;go_wp2_with fail;refine(Za7 0 (w.heap.size+1+1) _ (by simp)).mono ?_;rintro e w1 ⟨rfl,rfl⟩;clear e0;go_wp2;have hq:=(((((St.start w).alloc _ rfl #[.int .i64 1,.int .i64 0] 62).alloc (w.heap.size+1) (by simp) #[.slice (some ⟨w.heap.size+1+1+1,0,none⟩) 1 1,.slice (some ⟨w.heap.size+1+1+1+1,0,none⟩) 1 1] 44).alloc (w.heap.size+1+1) (by simp) #[.int .i64 0,.int .i64 0,.int .i64 0] 3).alloc (w.heap.size+1+1+1) (by simp) #[.slice (some ⟨w.heap.size+1+1,0,none⟩) 3 3] 38).alloc (w.heap.size+1+1+1+1) (by simp) #[.bool false] 4;refine bodyPost_ret (v:=.agg #[.slice (some ⟨w.heap.size+1+1+1,0,none⟩) 1 1,.slice (some ⟨w.heap.size+1+1+1+1,0,none⟩) 1 1]) (by simp[results,Tryz.results57,go_sem]) rfl ?_;have hr:=((hq.boxrow 2 3 1 (intCells [0,0,0]) rfl rfl (by decide)).boxrow 3 1 1 [.slice (some ⟨w.heap.size+1+1,0,none⟩) 3 3] rfl rfl (by decide)).boxrow 4 1 1 (boolCells [false]) rfl rfl (by decide);refine⟨_,_,_,_,rfl,⟨_,_,rfl,⟨_,Zf3 hr 3 rfl,fun i hi => ?_⟩,ZdD hr 4 rfl⟩,hq.bel⟩;obtain rfl:i=0:=by have:i<1:=hi;omega
 exact Zbv hr 2 rfl
theorem Zii (w:World):Calls Tryz.prog 57 #[.agg #[.int .i64 2,.int .i64 0]] w fun e w'=>RDs oneD w e w':=by
 have hS0:=((St.start w).alloc _ rfl #[.int .i64 2,.int .i64 0] 62).alloc (w.heap.size+1) (by simp) #[.slice none 0 0,.slice none 0 0] 44;replace hS0:=qh hS0
 go_enter Tryz.func57, Tryz.ntmps57
 have e0:=hS0.out.cell (v:=.int .i64 2) 0 0 rfl rfl;go_wp2_with fail;refine(Za7 1 (w.heap.size+1+1) _ (by simp)).mono ?_;rintro e w1 ⟨rfl,rfl⟩;go_wp2_with fail;refine(Za7 1 (w.heap.size+1+1+1) _ (by simp)).mono ?_;rintro e w1 ⟨rfl,rfl⟩;clear e0;go_wp2;have hq:=((((((St.start w).alloc _ rfl #[.int .i64 2,.int .i64 0] 62).alloc (w.heap.size+1) (by simp) #[.slice (some ⟨w.heap.size+1+1+1+1,0,none⟩) 2 2,.slice (some ⟨w.heap.size+1+1+1+1+1,0,none⟩) 2 2] 44).alloc (w.heap.size+1+1) (by simp) #[.int .i64 1,.int .i64 1,.int .i64 1] 3).alloc (w.heap.size+1+1+1) (by simp) #[.int .i64 1,.int .i64 1,.int .i64 1] 3).alloc (w.heap.size+1+1+1+1) (by simp) #[.slice (some ⟨w.heap.size+1+1,0,none⟩) 3 3,.slice (some ⟨w.heap.size+1+1+1,0,none⟩) 3 3] 38).alloc (w.heap.size+1+1+1+1+1) (by simp) #[.bool true,.bool false] 4;refine bodyPost_ret (v:=.agg #[.slice (some ⟨w.heap.size+1+1+1+1,0,none⟩) 2 2,.slice (some ⟨w.heap.size+1+1+1+1+1,0,none⟩) 2 2]) (by simp[results,Tryz.results57,go_sem]) rfl ?_;have hr:=(((hq.boxrow 2 3 1 (intCells [1,1,1]) rfl rfl (by decide)).boxrow 3 3 1 (intCells [1,1,1]) rfl rfl (by decide)).boxrow 4 2 1 [.slice (some ⟨w.heap.size+1+1,0,none⟩) 3 3,.slice (some ⟨w.heap.size+1+1+1,0,none⟩) 3 3] rfl rfl (by decide)).boxrow 5 2 1 (boolCells [true,false]) rfl rfl (by decide);refine⟨_,_,_,_,rfl,⟨_,_,rfl,⟨_,Zf3 hr 4 rfl,fun i hi => ?_⟩,ZdD hr 5 rfl⟩,hq.bel⟩;have hi:i<2:=hi;obtain rfl|rfl:i=0∨i=1:=by omega
 ·exact Zbv hr 2 rfl
 exact Zbv hr 3 rfl
theorem Zhb (D:DfaD) (hD:minD ⟨[[1,2,2],[2,2,2],[2,2,2]],[false,true,false]⟩=D) (w:World):Calls Tryz.prog 57 #[.agg #[.int .i64 3,.int .i64 0]] w fun e w'=>RDs D w e w':=by
 have hS0:=((St.start w).alloc _ rfl #[.int .i64 3,.int .i64 0] 62).alloc (w.heap.size+1) (by simp) #[.slice none 0 0,.slice none 0 0] 44;have hok:Zah [[1,2,2],[2,2,2],[2,2,2]] [false,true,false]=true:=by decide
 replace hS0:=qh hS0;replace hD:=qh hD;have Hhok:=qh hok;clear hok
 go_enter Tryz.func57, Tryz.ntmps57
 have e0:=hS0.out.cell (v:=.int .i64 3) 0 0 rfl rfl;have e1:=hS0.out.cell (v:=.int .i64 0) 0 1 rfl rfl;go_wp2_with fail;refine(Za7 2 (w.heap.size+1+1) _ (by simp)).mono ?_;rintro e w1 ⟨rfl,rfl⟩;go_wp2_with fail;refine(Za7 2 (w.heap.size+1+1+1) _ (by simp)).mono ?_;rintro e w1 ⟨rfl,rfl⟩;go_wp2_with fail;refine(Za7 2 (w.heap.size+1+1+1+1) _ (by simp)).mono ?_;rintro e w1 ⟨rfl,rfl⟩;have hS3:=((((hS0.out.alloc (w.heap.size+1+1) (by simp) #[.int .i64 1,.int .i64 2,.int .i64 2] 3).alloc (w.heap.size+1+1+1) (by simp) #[.int .i64 2,.int .i64 2,.int .i64 2] 3).alloc (w.heap.size+1+1+1+1) (by simp) #[.int .i64 2,.int .i64 2,.int .i64 2] 3).alloc (w.heap.size+1+1+1+1+1) (by simp) #[.slice (some ⟨w.heap.size+1+1,0,none⟩) 3 3,.slice (some ⟨w.heap.size+1+1+1,0,none⟩) 3 3,.slice (some ⟨w.heap.size+1+1+1+1,0,none⟩) 3 3] 38).alloc (w.heap.size+1+1+1+1+1+1) (by simp) #[.bool false,.bool true,.bool false] 4;have hr:=((((hS3.boxrow 2 3 1 (intCells [1,2,2]) rfl rfl (by decide)).boxrow 3 3 1 (intCells [2,2,2]) rfl rfl (by decide)).boxrow 4 3 1 (intCells [2,2,2]) rfl rfl (by decide)).boxrow 5 3 1 [.slice (some ⟨w.heap.size+1+1,0,none⟩) 3 3,.slice (some ⟨w.heap.size+1+1+1,0,none⟩) 3 3,.slice (some ⟨w.heap.size+1+1+1+1,0,none⟩) 3 3] rfl rfl (by decide)).boxrow 6 3 1 (boolCells [false,true,false]) rfl rfl (by decide)
 have hR:DfaR 0 _ (.agg #[.slice (some ⟨w.heap.size+1+1+1+1+1,0,none⟩) 3 3,.slice (some ⟨w.heap.size+1+1+1+1+1+1,0,none⟩) 3 3]) ⟨[[1,2,2],[2,2,2],[2,2,2]],[false,true,false]⟩:=⟨_,_,rfl,⟨_,(Zf3 hr 5 rfl).mono (Nat.zero_le _),fun i hi=>by
  have hi:i<3:=hi;obtain rfl|rfl|rfl:i=0∨i=1∨i=2:=by omega
  ·exact Sl.mono (Zbv hr 2 rfl) (Nat.zero_le _)
  ·exact Sl.mono (Zbv hr 3 rfl) (Nat.zero_le _)
  exact Sl.mono (Zbv hr 4 rfl) (Nat.zero_le _)⟩,Sl.mono (ZdD hr 6 rfl) (Nat.zero_le _)⟩
 have HS3:=qh hS3;have HR:=qh hR;clear hS3 hr hR e0 e1;go_wp2_with fail;refine(ZbC _ _ _ Hhok.out HR.out).mono ?_;rintro e w5 ⟨a1,c1,a2,c2,rfl,hown,hb5⟩;rw[hD.out] at hown;rw[hD.out];have HS4:=qh (HS3.out.call hb5);have HDr:=qh hown.r;have hB1:=(HS3.out.boxlt 1 rfl).2;have hsz:=HS3.out.size;have f0:=HS4.out.fr 1 0 rfl;have f1:=HS4.out.fr 1 1 rfl;have k0:=HS4.out.cell (v:=.slice none 0 0) 1 0 rfl rfl;have k1:=HS4.out.cell (v:=.slice none 0 0) 1 1 rfl rfl;clear hown hb5;go_wp2;have hq:=(HS4.out.set 1 rfl 0 (.slice a1 D.next.length c1)).set 1 rfl 1 (.slice a2 D.ends.length c2);have q0:=hq.cell (v:=.slice a1 D.next.length c1) 1 0 rfl rfl;have q1:=hq.cell (v:=.slice a2 D.ends.length c2) 1 1 rfl rfl;refine bodyPost_ret (v:=.agg #[.slice a1 D.next.length c1,.slice a2 D.ends.length c2]) (by simp[results,Tryz.results57,go_sem,q0,q1]) rfl ?_;exact⟨a1,c1,a2,c2,rfl,((HDr.out.far hB1 0 _).far hB1 1 _).mono hsz,hq.bel⟩
theorem Zha (D:DfaD) (hD:minD ⟨[[2,1,2],[2,2,2],[2,2,2]],[false,true,false]⟩=D) (w:World):Calls Tryz.prog 57 #[.agg #[.int .i64 3,.int .i64 1]] w fun e w'=>RDs D w e w':=by
 have hS0:=((St.start w).alloc _ rfl #[.int .i64 3,.int .i64 1] 62).alloc (w.heap.size+1) (by simp) #[.slice none 0 0,.slice none 0 0] 44;have hok:Zah [[2,1,2],[2,2,2],[2,2,2]] [false,true,false]=true:=by decide
 replace hS0:=qh hS0;replace hD:=qh hD;have Hhok:=qh hok;clear hok
 go_enter Tryz.func57, Tryz.ntmps57
 have e0:=hS0.out.cell (v:=.int .i64 3) 0 0 rfl rfl;have e1:=hS0.out.cell (v:=.int .i64 1) 0 1 rfl rfl;go_wp2_with fail;refine(Za7 2 (w.heap.size+1+1) _ (by simp)).mono ?_;rintro e w1 ⟨rfl,rfl⟩;go_wp2_with fail;refine(Za7 2 (w.heap.size+1+1+1) _ (by simp)).mono ?_;rintro e w1 ⟨rfl,rfl⟩;go_wp2_with fail;refine(Za7 2 (w.heap.size+1+1+1+1) _ (by simp)).mono ?_;rintro e w1 ⟨rfl,rfl⟩;have hS3:=((((hS0.out.alloc (w.heap.size+1+1) (by simp) #[.int .i64 2,.int .i64 1,.int .i64 2] 3).alloc (w.heap.size+1+1+1) (by simp) #[.int .i64 2,.int .i64 2,.int .i64 2] 3).alloc (w.heap.size+1+1+1+1) (by simp) #[.int .i64 2,.int .i64 2,.int .i64 2] 3).alloc (w.heap.size+1+1+1+1+1) (by simp) #[.slice (some ⟨w.heap.size+1+1,0,none⟩) 3 3,.slice (some ⟨w.heap.size+1+1+1,0,none⟩) 3 3,.slice (some ⟨w.heap.size+1+1+1+1,0,none⟩) 3 3] 38).alloc (w.heap.size+1+1+1+1+1+1) (by simp) #[.bool false,.bool true,.bool false] 4;have hr:=((((hS3.boxrow 2 3 1 (intCells [2,1,2]) rfl rfl (by decide)).boxrow 3 3 1 (intCells [2,2,2]) rfl rfl (by decide)).boxrow 4 3 1 (intCells [2,2,2]) rfl rfl (by decide)).boxrow 5 3 1 [.slice (some ⟨w.heap.size+1+1,0,none⟩) 3 3,.slice (some ⟨w.heap.size+1+1+1,0,none⟩) 3 3,.slice (some ⟨w.heap.size+1+1+1+1,0,none⟩) 3 3] rfl rfl (by decide)).boxrow 6 3 1 (boolCells [false,true,false]) rfl rfl (by decide)
 have hR:DfaR 0 _ (.agg #[.slice (some ⟨w.heap.size+1+1+1+1+1,0,none⟩) 3 3,.slice (some ⟨w.heap.size+1+1+1+1+1+1,0,none⟩) 3 3]) ⟨[[2,1,2],[2,2,2],[2,2,2]],[false,true,false]⟩:=⟨_,_,rfl,⟨_,(Zf3 hr 5 rfl).mono (Nat.zero_le _),fun i hi=>by
  have hi:i<3:=hi;obtain rfl|rfl|rfl:i=0∨i=1∨i=2:=by omega
  ·exact Sl.mono (Zbv hr 2 rfl) (Nat.zero_le _)
  ·exact Sl.mono (Zbv hr 3 rfl) (Nat.zero_le _)
  exact Sl.mono (Zbv hr 4 rfl) (Nat.zero_le _)⟩,Sl.mono (ZdD hr 6 rfl) (Nat.zero_le _)⟩
 have HS3:=qh hS3;have HR:=qh hR;clear hS3 hr hR e0 e1;go_wp2_with fail;refine(ZbC _ _ _ Hhok.out HR.out).mono ?_;rintro e w5 ⟨a1,c1,a2,c2,rfl,hown,hb5⟩;rw[hD.out] at hown;rw[hD.out];have HS4:=qh (HS3.out.call hb5);have HDr:=qh hown.r;have hB1:=(HS3.out.boxlt 1 rfl).2;have hsz:=HS3.out.size;have f0:=HS4.out.fr 1 0 rfl;have f1:=HS4.out.fr 1 1 rfl;have k0:=HS4.out.cell (v:=.slice none 0 0) 1 0 rfl rfl;have k1:=HS4.out.cell (v:=.slice none 0 0) 1 1 rfl rfl;clear hown hb5;go_wp2;have hq:=(HS4.out.set 1 rfl 0 (.slice a1 D.next.length c1)).set 1 rfl 1 (.slice a2 D.ends.length c2);have q0:=hq.cell (v:=.slice a1 D.next.length c1) 1 0 rfl rfl;have q1:=hq.cell (v:=.slice a2 D.ends.length c2) 1 1 rfl rfl;refine bodyPost_ret (v:=.agg #[.slice a1 D.next.length c1,.slice a2 D.ends.length c2]) (by simp[results,Tryz.results57,go_sem,q0,q1]) rfl ?_;exact⟨a1,c1,a2,c2,rfl,((HDr.out.far hB1 0 _).far hB1 1 _).mono hsz,hq.bel⟩
theorem Zg9 (D:DfaD) (hD:minD ⟨[[2,2,1],[2,2,2],[2,2,2]],[false,true,false]⟩=D) (w:World):Calls Tryz.prog 57 #[.agg #[.int .i64 3,.int .i64 2]] w fun e w'=>RDs D w e w':=by
 have hS0:=((St.start w).alloc _ rfl #[.int .i64 3,.int .i64 2] 62).alloc (w.heap.size+1) (by simp) #[.slice none 0 0,.slice none 0 0] 44;have hok:Zah [[2,2,1],[2,2,2],[2,2,2]] [false,true,false]=true:=by decide
 replace hS0:=qh hS0;replace hD:=qh hD;have Hhok:=qh hok;clear hok
 go_enter Tryz.func57, Tryz.ntmps57
 have e0:=hS0.out.cell (v:=.int .i64 3) 0 0 rfl rfl;have e1:=hS0.out.cell (v:=.int .i64 2) 0 1 rfl rfl;go_wp2_with fail;refine(Za7 2 (w.heap.size+1+1) _ (by simp)).mono ?_;rintro e w1 ⟨rfl,rfl⟩;go_wp2_with fail;refine(Za7 2 (w.heap.size+1+1+1) _ (by simp)).mono ?_;rintro e w1 ⟨rfl,rfl⟩;go_wp2_with fail;refine(Za7 2 (w.heap.size+1+1+1+1) _ (by simp)).mono ?_;rintro e w1 ⟨rfl,rfl⟩;have hS3:=((((hS0.out.alloc (w.heap.size+1+1) (by simp) #[.int .i64 2,.int .i64 2,.int .i64 1] 3).alloc (w.heap.size+1+1+1) (by simp) #[.int .i64 2,.int .i64 2,.int .i64 2] 3).alloc (w.heap.size+1+1+1+1) (by simp) #[.int .i64 2,.int .i64 2,.int .i64 2] 3).alloc (w.heap.size+1+1+1+1+1) (by simp) #[.slice (some ⟨w.heap.size+1+1,0,none⟩) 3 3,.slice (some ⟨w.heap.size+1+1+1,0,none⟩) 3 3,.slice (some ⟨w.heap.size+1+1+1+1,0,none⟩) 3 3] 38).alloc (w.heap.size+1+1+1+1+1+1) (by simp) #[.bool false,.bool true,.bool false] 4;have hr:=((((hS3.boxrow 2 3 1 (intCells [2,2,1]) rfl rfl (by decide)).boxrow 3 3 1 (intCells [2,2,2]) rfl rfl (by decide)).boxrow 4 3 1 (intCells [2,2,2]) rfl rfl (by decide)).boxrow 5 3 1 [.slice (some ⟨w.heap.size+1+1,0,none⟩) 3 3,.slice (some ⟨w.heap.size+1+1+1,0,none⟩) 3 3,.slice (some ⟨w.heap.size+1+1+1+1,0,none⟩) 3 3] rfl rfl (by decide)).boxrow 6 3 1 (boolCells [false,true,false]) rfl rfl (by decide)
 have hR:DfaR 0 _ (.agg #[.slice (some ⟨w.heap.size+1+1+1+1+1,0,none⟩) 3 3,.slice (some ⟨w.heap.size+1+1+1+1+1+1,0,none⟩) 3 3]) ⟨[[2,2,1],[2,2,2],[2,2,2]],[false,true,false]⟩:=⟨_,_,rfl,⟨_,(Zf3 hr 5 rfl).mono (Nat.zero_le _),fun i hi=>by
  have hi:i<3:=hi;obtain rfl|rfl|rfl:i=0∨i=1∨i=2:=by omega
  ·exact Sl.mono (Zbv hr 2 rfl) (Nat.zero_le _)
  ·exact Sl.mono (Zbv hr 3 rfl) (Nat.zero_le _)
  exact Sl.mono (Zbv hr 4 rfl) (Nat.zero_le _)⟩,Sl.mono (ZdD hr 6 rfl) (Nat.zero_le _)⟩
 have HS3:=qh hS3;have HR:=qh hR;clear hS3 hr hR e0 e1;go_wp2_with fail;refine(ZbC _ _ _ Hhok.out HR.out).mono ?_;rintro e w5 ⟨a1,c1,a2,c2,rfl,hown,hb5⟩;rw[hD.out] at hown;rw[hD.out];have HS4:=qh (HS3.out.call hb5);have HDr:=qh hown.r;have hB1:=(HS3.out.boxlt 1 rfl).2;have hsz:=HS3.out.size;have f0:=HS4.out.fr 1 0 rfl;have f1:=HS4.out.fr 1 1 rfl;have k0:=HS4.out.cell (v:=.slice none 0 0) 1 0 rfl rfl;have k1:=HS4.out.cell (v:=.slice none 0 0) 1 1 rfl rfl;clear hown hb5;go_wp2;have hq:=(HS4.out.set 1 rfl 0 (.slice a1 D.next.length c1)).set 1 rfl 1 (.slice a2 D.ends.length c2);have q0:=hq.cell (v:=.slice a1 D.next.length c1) 1 0 rfl rfl;have q1:=hq.cell (v:=.slice a2 D.ends.length c2) 1 1 rfl rfl;refine bodyPost_ret (v:=.agg #[.slice a1 D.next.length c1,.slice a2 D.ends.length c2]) (by simp[results,Tryz.results57,go_sem,q0,q1]) rfl ?_;exact⟨a1,c1,a2,c2,rfl,((HDr.out.far hB1 0 _).far hB1 1 _).mono hsz,hq.bel⟩
theorem Zjk (k l:Int) (w:World) (hok:pOk (k,l)=true) (h0:Zae (k,l)=0) (D:DfaD) (hD:Zi8 (k,l)=D):Calls Tryz.prog 57 #[.agg #[.int .i64 k,.int .i64 l]] w fun e w'=>RDs D w e w':=by
 have hk:(k=1∧l=0)∨(k=2∧l=0)∨(k=3∧0≤l∧l≤2):=by
  unfold Zae at h0;rw[if_pos hok] at h0;simp only[pOk,inB,Bool.and_eq_true,Bool.or_eq_true,decide_eq_true_eq,Bool.not_eq_true',decide_eq_false_iff_not] at hok
  split at h0
  ·omega
  split at h0<;>omega
 subst hD;rcases hk with⟨rfl,rfl⟩|⟨rfl,rfl⟩|⟨rfl,h1,h2⟩
 ·exact Zij w
 ·exact Zii w
 obtain⟨c,rfl⟩:∃ c:Nat,l=(c:Int):=⟨l.toNat,by omega⟩;obtain rfl|rfl|rfl:c=0∨c=1∨c=2:=by omega
 ·exact Zhb _ rfl w
 ·exact Zha _ rfl w
 exact Zg9 _ rfl w
theorem ZdW (x:Int) (w:World) (r:Bool) (hr:inB x 0 2=r):Calls Tryz.prog 157 #[.int .i64 x] w fun e w'=>e = .returned (.bool r)∧w=w':=by
 have Hr:=qh hr;clear hr
 go_enter Tryz.func157, Tryz.ntmps157
 go_wp2_with fail;refine(Zbf _ _ _ _ _ Hr.out).mono ?_;rintro e w1 ⟨rfl,rfl⟩;go_wp2;go_ret;exact⟨rfl,rfl⟩
theorem ZcU (k l:Int) (w:World) (r:Bool) (hr:pOk (k,l)=r) :
  Calls Tryz.prog 129 #[.agg #[.int .i64 k,.int .i64 l]] w fun e w'=>e = .returned (.bool r)∧Below w.heap.size w w':=by
 unfold pOk at hr;simp only at hr;by_cases h3:k=3
 ·subst h3;have h1:inB 3 1 8=true:=by decide
  rw[h1,Bool.true_and] at hr;cases h2:inB l 0 2
  ·rw[h2] at hr;have hr:false=r:=hr;subst hr;have H2:=qh h2;clear h2 h1
   go_enter Tryz.func129, Tryz.ntmps129
   go_wp2_with fail;refine(ZdW _ _ _ H2.out).mono ?_;rintro e w1 ⟨rfl,rfl⟩;go_wp2;go_ret;exact⟨rfl,(Below.refl _ _).alloc (Nat.le_refl _) _⟩
  rw[h2] at hr;have hr:true=r:=hr;subst hr;have H2:=qh h2;clear h2 h1
  go_enter Tryz.func129, Tryz.ntmps129
  go_wp2_with fail;refine(ZdW _ _ _ H2.out).mono ?_;rintro e w1 ⟨rfl,rfl⟩;go_wp2;go_ret;exact⟨rfl,(Below.refl _ _).alloc (Nat.le_refl _) _⟩
 obtain⟨q1,q2,q3,q4⟩:=ZaH h3;rw[decide_eq_false h3] at hr;cases h1:inB k 1 8
 ·rw[h1,Bool.false_and] at hr;subst hr;have H1:=qh h1;clear h1
  go_enter Tryz.func129, Tryz.ntmps129
  go_wp2_with fail;refine(Zbf _ _ _ _ _ H1.out).mono ?_;rintro e w1 ⟨rfl,rfl⟩;go_wp2;go_ret;exact⟨rfl,(Below.refl _ _).alloc (Nat.le_refl _) _⟩
 rw[h1,Bool.true_and] at hr;have H1:=qh h1;clear h1;have hr:decide (l=0)=r:=hr;subst hr
 go_enter Tryz.func129, Tryz.ntmps129
 go_wp2_with fail;refine(Zbf _ _ _ _ _ H1.out).mono ?_;rintro e w1 ⟨rfl,rfl⟩;by_cases h0:l=0
 ·subst h0;go_wp2;go_ret;exact⟨rfl,(Below.refl _ _).alloc (Nat.le_refl _) _⟩
 obtain⟨p1,p2,p3,p4⟩:=ZaH h0;go_wp2;go_ret;exact⟨by rw[decide_eq_false h0];rfl,(Below.refl _ _).alloc (Nat.le_refl _) _⟩
theorem ZaL (k l:Int) (w:World) (r:Int) (hr:Zae (k,l)=r) (h0:0≤r) :
  Calls Tryz.prog 56 #[.agg #[.int .i64 k,.int .i64 l]] w fun e w'=>e = .returned (.int .i64 r)∧Below w.heap.size w w':=by
 have hok:=Zgh (p:=(k,l)) (by rw[hr];exact h0);have hk:(k=1∨k=2∨k=3∨k=4∨k=5∨k=6∨k=7∨k=8):=by simp only[pOk,inB,Bool.and_eq_true,Bool.or_eq_true,decide_eq_true_eq] at hok;omega
 unfold Zae at hr;rw[if_pos hok] at hr;clear hok h0;rcases hk with rfl|rfl|rfl|rfl|rfl|rfl|rfl|rfl <;>
 ·simp at hr;subst hr
  go_enter Tryz.func56, Tryz.ntmps56
  go_wp2;go_ret;exact⟨rfl,(Below.refl _ _).alloc (Nat.le_refl _) _⟩
variable {P:Program}
theorem ZjW {w:World} {B e size n cap m:Nat} {a:Option Addr} {cs:List Value} (h:w.ownsRow B e size (.slice a n cap) n cs) (hm:m≤n):w.ownsRow B e size (.slice a m cap) m (cs.take (m*size)):=by
 obtain⟨h1,h2⟩:=h;have hle:m*size≤n*size:=Nat.mul_le_mul_right size hm;refine⟨by rw[List.length_take,h1];omega,?_⟩;rcases h2 with⟨h3,h4⟩|⟨g,c,cur,h3,h4,h5,h6,h7,h8,h9⟩
 ·simp only[Value.slice.injEq] at h3;obtain⟨rfl,rfl,rfl⟩:=h3;obtain rfl:m=0:=by omega
  exact .inl ⟨rfl,rfl⟩
 simp only[Value.slice.injEq] at h3;obtain⟨rfl,-,rfl⟩:=h3;refine .inr ⟨g,cap,cur,rfl,h4,h5,by omega,h7,h8,?_⟩;rw[← h9,List.take_take,Nat.min_eq_left hle]
theorem St.cut {w0 w:World} {L:List Ent} (h:St w0 w L) (i:Nat) {e size n cap:Nat} {a:Option Addr} {cs:List Value} (hx:L[i]? = some (Ent.row e size (.slice a n cap) n cs)) (m:Nat) (hm:m≤n):St w0 w (L.set i (Ent.row e size (.slice a m cap) m (cs.take (m*size)))) :=
 h.same i hx _ (fun hb=>ZjW hb hm) fun k hk=>by
  cases a with
  | none=>cases hk
  | some a=>exact hk
end Go.Proofs.YtncekbbhgipdlaaGreat
