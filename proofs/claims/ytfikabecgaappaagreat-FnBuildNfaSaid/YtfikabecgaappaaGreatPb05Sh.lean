/-
  The walk over the reference's l13Shift.
  Conditions: the automaton is valid; the numbers by which it is shifted are small; the arguments read as such.
-/
import Derived.Test.YtfikabecgaappaaGreatPb04S9
set_option maxHeartbeats 16000000
set_option maxRecDepth 100000
namespace Go.Proofs.YtfikabecgaappaaGreat
open Go.RowKit
def shM (d:Int) (m:Int × Int × Int):Int × Int × Int:=(m.1+d,m.2.1,m.2.2+d)
def shN (n:NfaD) (d:Int):NfaD:=⟨n.states+d,n.moves.map (shM d),n.firsts.map (·+d),n.ends.map (·+d)⟩
theorem ZaF {α β:Type} (f:α→β) {l:List α} {k:Nat} {d x:α} (hk:k<l.length) (hx:x=l.getD k d):(l.take (k+1)).map f=(l.take k).map f++[f x]:=by rw[List.take_succ_eq_append_getElem hk,List.map_append,hx];simp[hk]
theorem ZfG (n:NfaD) (d:Nat) (v1 v2 v3:Value) (w:World) (hok:Zal n=true) (hd:d≤40) (h1:Moves 0 w v1 n.moves) (h2:Ints 0 w v2 n.firsts) (h3:Ints 0 w v3 n.ends) :
  Calls Tryz.prog 87 #[.agg #[.int .i64 n.states,v1,v2,v3],.int .i64 ((d:Nat):Int)] w fun e w'=>RNfaS (shN n d) w e w':=by
 obtain⟨m,hst,hm40,hmv,hml,hf,hfl,he,hel⟩:=Zai hok;obtain⟨av,cv,rfl,hc1,hm1,hr1⟩:=h1.form;obtain⟨af,cf,rfl,hc2,hm2,hr2⟩:=h2.form;obtain⟨ae,ce,rfl,hc3,hm3,hr3⟩:=h3.form;have hsd:((shN n d).states)=(m:Int)+d:=by show n.states+d=_;rw[hst]
 have hsm:(shN n d).moves=n.moves.map (shM d):=rfl;have hsf:(shN n d).firsts=n.firsts.map (·+(d:Int)):=rfl;have hse:(shN n d).ends=n.ends.map (·+(d:Int)):=rfl;obtain⟨i0,hi,hz0,hz1,hz2⟩:=info_parts Tryz.infoMv;obtain⟨j0,hj,hy0,hy1,hy2⟩:=info_parts Tryz.infoInt;obtain⟨L1,hL1⟩:∃ L,L=n.moves.length:=⟨_,rfl⟩;obtain⟨L2,hL2⟩:∃ L,L=n.firsts.length:=⟨_,rfl⟩;obtain⟨L3,hL3⟩:∃ L,L=n.ends.length:=⟨_,rfl⟩;rw[hst,← hL1,← hL2,← hL3];rw[← hL1] at hml hc1 hr1;rw[← hL2] at hfl hc2 hr2;rw[← hL3] at hel hc3 hr3;have hS0:=(((St.start w).alloc _ rfl #[.int .i64 (m:Int),.slice av L1 cv,.slice af L2 cf,.slice ae L3 ce] 28).alloc (w.heap.size+1) (by simp) #[.int .i64 0,.slice none 0 0,.slice none 0 0,.slice none 0 0] 28).alloc (w.heap.size+1+1) (by simp) #[.int .i64 ((m:Int)+d),.slice none 0 0,.slice none 0 0,.slice none 0 0] 28;have hS1:=(((hS0.nilRow 72 3).nilRow 3 1).nilRow 3 1);have HS1:=qh hS1;have Hmv:=qh hmv;have Hf:=qh hf;have He:=qh he;have Hr1:=qh hr1;have Hr2:=qh hr2;have Hr3:=qh hr3
 have hfin:∀ (am ag a1:Option Addr) (cm cg c1:Nat) (w':World),St w w' [Ent.row 72 3 (.slice am L1 cm) L1 ((n.moves.map (shM d)).flatMap Zaa),Ent.row 3 1 (.slice ag L2 cg) L2 (intCells (n.firsts.map (·+(d:Int)))),Ent.row 3 1 (.slice a1 L3 c1) L3 (intCells (n.ends.map (·+(d:Int))))] →
   RNfaS (shN n d) w (.returned (.agg #[.int .i64 ((m:Int)+d),.slice am L1 cm,.slice ag L2 cg,.slice a1 L3 c1])) w':=fun am ag a1 cm cg c1 w' h=>by
  unfold RNfaS;rw[hsd,hsm,hsf,hse,List.length_map,List.length_map,List.length_map,← hL1,← hL2,← hL3];exact⟨am,cm,ag,cg,a1,c1,rfl,h⟩
 have Hfin:=qh hfin;replace hL1:=qh hL1;have HhL2:=qh hL2;clear hL2;have HhL3:=qh hL3;clear hL3;have Hhst:=qh hst;clear hst;have Hhi:=qh hi;clear hi;have Hhz0:=qh hz0;clear hz0;have Hhz1:=qh hz1;clear hz1;have Hhz2:=qh hz2;clear hz2;have Hhj:=qh hj;clear hj;have Hhy0:=qh hy0;clear hy0;have Hhy1:=qh hy1;clear hy1;have Hhy2:=qh hy2;clear hy2;clear hS0 hS1 hmv hf he hr1 hr2 hr3 h1 h2 h3 hok hsd hsm hsf hse hfin
 go_enter Tryz.func87, Tryz.ntmps87
 go_wp2
 go_loopw [6] (fun i wr=>∃ (k:Nat) (a1:Option Addr) (c1:Nat),i = .int .i64 k∧k≤L1∧St w wr [Ent.box w.heap.size #[.int .i64 (m:Int),.slice av L1 cv,.slice af L2 cf,.slice ae L3 ce] 28,Ent.box (w.heap.size+1) #[.int .i64 0,.slice none 0 0,.slice none 0 0,.slice none 0 0] 28,Ent.box (w.heap.size+1+1) #[.int .i64 ((m:Int)+d),.slice a1 k c1,.slice none 0 0,.slice none 0 0] 28,
   Ent.row 72 3 (.slice a1 k c1) k (((n.moves.take k).map (shM d)).flatMap Zaa),Ent.row 3 1 (.slice none 0 0) 0 [],Ent.row 3 1 (.slice none 0 0) 0 []]) (fun i _=>L1-(intOf i).toNat)
 case atStart=>exact⟨0,none,0,rfl,Nat.zero_le _,HS1.out⟩
 case round =>
  obtain⟨k,a1,c1,rfl,hk,hS⟩:=hrel;have e9:=hS.cell (v:=.slice av L1 cv) 0 1 rfl rfl;by_cases hlt:k<L1
  ·have hlt2:(k:Int)<L1:=by omega
   have hkn:k<n.moves.length:=by have:=hL1.out;omega
   obtain⟨b1,o1,rfl,-,hb1,hcs⟩:=Hr1.out (by omega);obtain⟨m0,m1,m2⟩:=hcs k hlt;have hin:=Hmv.out _ (ZbE (d:=(0,0,0)) hkn);have hsn:=ZaF (shM d) (d:=(0,0,0)) hkn rfl;obtain⟨p,hp⟩:=eI (n.moves.getD k (0,0,0));rw[← hp] at m0 m1 m2 hin hsn;obtain⟨p0,p1,p2⟩:=p;simp only at m0 m1 m2 hin;obtain⟨⟨i1,i2⟩,i3,i4⟩:=hin;have w0:IntKind.i64.wrap (p0+(d:Int))=p0+(d:Int):=IntWalk.i64_in _ (by omega);have w2:IntKind.i64.wrap (p2+(d:Int))=p2+(d:Int):=IntWalk.i64_in _ (by omega);have M0:=qh m0;have M1:=qh m1;have M2:=qh m2;have HSq:=qh hS;have Hhp:=qh hp;clear hp;have Hhsn:=qh hsn;clear hsn;clear hS hcs m0 m1 m2;go_wp2;refine wp_region_any (by kernel_rfl) ?_
   refine Zaq (fun A listed a w'=>∃ (l0 l1 l2 l3 l4 l5 l6 l7 l8 l9 l10 l11 l12 l13 l14 l15 l16 l17 l18 l19 l20 l21 l22 l23 l24 l25 l26 l27 l28:Bool) (g7:Nat) (c7:Nat) (bn:Nat),listed=#[l0,l1,l2,l3,l4,l5,l6,l7,l8,l9,l10,l11,l12,l13,l14,l15,l16,l17,l18,l19,l20,l21,l22,l23,l24,l25,l26,l27,l28]∧(l26=true→l1=true∧l25=true)∧(l28=true→l26=true∧l1=true) ∧
     a=⟨((((((((((((((((((((((((((((A.tmps.setIfInBounds 21 (if l0=true then .pointer (some ⟨w.heap.size+1+1,1,none⟩) else A.tmps.getD 21 undef)).setIfInBounds 22 (if l1=true then .slice a1 k c1 else A.tmps.getD 22 undef)).setIfInBounds 23 (if l2=true then .pointer (some ⟨w.heap.size,1,none⟩) else A.tmps.getD 23 undef)).setIfInBounds 24 (if l3=true then .slice (some ⟨b1,o1,none⟩) L1 cv else A.tmps.getD 24 undef)).setIfInBounds 25 (if l4=true then .int .i64 (k:Int) else A.tmps.getD 25 undef)).setIfInBounds 26 (if l5=true then .pointer (some ⟨b1,o1+k*3,none⟩) else A.tmps.getD 26 undef)).setIfInBounds 27 (if l6=true then .pointer (some ⟨b1,o1+k*3,none⟩) else A.tmps.getD 27 undef)).setIfInBounds 28 (if l7=true then .int .i64 p0 else A.tmps.getD 28 undef)).setIfInBounds 29 (if l8=true then .int .i64 (d:Int) else A.tmps.getD 29 undef)).setIfInBounds 30 (if l9=true then .int .i64 (p0+(d:Int)) else A.tmps.getD 30 undef)).setIfInBounds 31 (if l10=true then .pointer (some ⟨w.heap.size,1,none⟩) else A.tmps.getD 31 undef)).setIfInBounds 32 (if l11=true then .slice (some ⟨b1,o1,none⟩) L1 cv else A.tmps.getD 32 undef)).setIfInBounds 33 (if l12=true then .int .i64 (k:Int) else A.tmps.getD 33 undef)).setIfInBounds 34 (if l13=true then .pointer (some ⟨b1,o1+k*3,none⟩) else A.tmps.getD 34 undef)).setIfInBounds 35 (if l14=true then .pointer (some ⟨b1,o1+k*3+1,none⟩) else A.tmps.getD 35 undef)).setIfInBounds 36 (if l15=true then .int .i64 p1 else A.tmps.getD 36 undef)).setIfInBounds 37 (if l16=true then .pointer (some ⟨w.heap.size,1,none⟩) else A.tmps.getD 37 undef)).setIfInBounds 38 (if l17=true then .slice (some ⟨b1,o1,none⟩) L1 cv else A.tmps.getD 38 undef)).setIfInBounds 39 (if l18=true then .int .i64 (k:Int) else A.tmps.getD 39 undef)).setIfInBounds 40 (if l19=true then .pointer (some ⟨b1,o1+k*3,none⟩) else A.tmps.getD 40 undef)).setIfInBounds 41 (if l20=true then .pointer (some ⟨b1,o1+k*3+2,none⟩) else A.tmps.getD 41 undef)).setIfInBounds 42 (if l21=true then .int .i64 p2 else A.tmps.getD 42 undef)).setIfInBounds 43 (if l22=true then .int .i64 (d:Int) else A.tmps.getD 43 undef)).setIfInBounds 44 (if l23=true then .int .i64 (p2+(d:Int)) else A.tmps.getD 44 undef)).setIfInBounds 45 (if l24=true then .agg #[.int .i64 (p0+(d:Int)),.int .i64 p1,.int .i64 (p2+(d:Int))] else A.tmps.getD 45 undef)).setIfInBounds 46 (if l25=true then .slice (some ⟨bn,0,none⟩) 1 1 else A.tmps.getD 46 undef)).setIfInBounds 47 (if l26=true then .slice (some ⟨g7,0,none⟩) (k+1) c7 else A.tmps.getD 47 undef)).setIfInBounds 48 (if l27=true then .pointer (some ⟨w.heap.size+1+1,1,none⟩) else A.tmps.getD 48 undef)),A.defers⟩ ∧
     St w w' [Ent.box w.heap.size #[.int .i64 (m:Int),.slice (some ⟨b1,o1,none⟩) L1 cv,.slice af L2 cf,.slice ae L3 ce] 28,Ent.box (w.heap.size+1) #[.int .i64 0,.slice none 0 0,.slice none 0 0,.slice none 0 0] 28,Ent.box (w.heap.size+1+1) #[.int .i64 ((m:Int)+d),(if l28=true then .slice (some ⟨g7,0,none⟩) (k+1) c7 else .slice a1 k c1),.slice none 0 0,.slice none 0 0] 28,(if l26=true then Ent.row 72 3 (.slice (some ⟨g7,0,none⟩) (k+1) c7) (k+1) ((((n.moves.take k).map (shM d)).flatMap Zaa)++[.int .i64 (p0+(d:Int)),.int .i64 p1,.int .i64 (p2+(d:Int))]) else Ent.row 72 3 (.slice a1 k c1) k (((n.moves.take k).map (shM d)).flatMap Zaa)),Ent.row 3 1 (.slice none 0 0) 0 [],Ent.row 3 1 (.slice none 0 0) 0 [],(if l25=true then Ent.box bn #[.int .i64 (p0+(d:Int)),.int .i64 p1,.int .i64 (p2+(d:Int))] 72 else Ent.nil)]) ?_ ?_ ?_
   ·rintro listed a w' ⟨l0,l1,l2,l3,l4,l5,l6,l7,l8,l9,l10,l11,l12,l13,l14,l15,l16,l17,l18,l19,l20,l21,l22,l23,l24,l25,l26,l27,l28,g7,c7,bn,rfl,hd26,hd28,rfl,hS⟩ i hi;obtain⟨hun,o,ho,hall⟩:=mem_ready.1 hi;have hlt:=(Array.getElem?_eq_some_iff.1 ho).1;refine wpOp_step ho (fun K hK => ?_);clear hi;have HS:=qh hS;clear hS;simp only[List.setIfInBounds_toArray,List.set_cons_zero,List.set_cons_succ,Array.getD_eq_getD_getElem?,List.getElem?_toArray,List.getElem?_cons_zero,List.getElem?_cons_succ,Option.getD_some];obtain h|h|h|h|h|h|h|h|h|h|h|h|h|h|h|h|h|h|h|h|h|h|h|h|h|h|h|h|h:i=0∨i=1∨i=2∨i=3∨i=4∨i=5∨i=6∨i=7∨i=8∨i=9∨i=10∨i=11∨i=12∨i=13∨i=14∨i=15∨i=16∨i=17∨i=18∨i=19∨i=20∨i=21∨i=22∨i=23∨i=24∨i=25∨i=26∨i=27∨i=28:=by simp at hlt;omega
    all_goals subst h
    all_goals simp only[List.getElem?_toArray,List.getElem?_cons_zero,List.getElem?_cons_succ,Option.some.injEq] at ho
    all_goals subst ho
    all_goals simp[Region.binds] at hun hall
    ·subst hun;go_simp;exact hK _ _ ⟨true,l1,l2,l3,l4,l5,l6,l7,l8,l9,l10,l11,l12,l13,l14,l15,l16,l17,l18,l19,l20,l21,l22,l23,l24,l25,l26,l27,l28,g7,c7,bn,rfl,hd26,hd28,(by simp),HS.out⟩
    ·obtain rfl:=hall;subst hun;obtain rfl:l26=false:=offL hd26 rfl;obtain rfl:l28=false:=offL hd28 rfl;have e0:=HS.out.cell (v:=.slice a1 k c1) 2 1 rfl rfl;go_simp;exact hK _ _ ⟨true,true,l2,l3,l4,l5,l6,l7,l8,l9,l10,l11,l12,l13,l14,l15,l16,l17,l18,l19,l20,l21,l22,l23,l24,l25,false,l27,false,g7,c7,bn,rfl,by simp,by simp,(by simp),HS.out⟩
    ·subst hun;go_simp;exact hK _ _ ⟨l0,l1,true,l3,l4,l5,l6,l7,l8,l9,l10,l11,l12,l13,l14,l15,l16,l17,l18,l19,l20,l21,l22,l23,l24,l25,l26,l27,l28,g7,c7,bn,rfl,hd26,hd28,(by simp),HS.out⟩
    ·obtain rfl:=hall;subst hun;have e0:=HS.out.cell (v:=.slice (some ⟨b1,o1,none⟩) L1 cv) 0 1 rfl rfl;go_simp;exact hK _ _ ⟨l0,l1,true,true,l4,l5,l6,l7,l8,l9,l10,l11,l12,l13,l14,l15,l16,l17,l18,l19,l20,l21,l22,l23,l24,l25,l26,l27,l28,g7,c7,bn,rfl,hd26,hd28,(by simp),HS.out⟩
    ·subst hun;go_simp;exact hK _ _ ⟨l0,l1,l2,l3,true,l5,l6,l7,l8,l9,l10,l11,l12,l13,l14,l15,l16,l17,l18,l19,l20,l21,l22,l23,l24,l25,l26,l27,l28,g7,c7,bn,rfl,hd26,hd28,(by simp),HS.out⟩
    ·obtain⟨rfl,rfl⟩:=hall;subst hun;go_simp;exact hK _ _ ⟨l0,l1,l2,true,true,true,l6,l7,l8,l9,l10,l11,l12,l13,l14,l15,l16,l17,l18,l19,l20,l21,l22,l23,l24,l25,l26,l27,l28,g7,c7,bn,rfl,hd26,hd28,(by simp),HS.out⟩
    ·obtain rfl:=hall;subst hun;go_simp;exact hK _ _ ⟨l0,l1,l2,l3,l4,true,true,l7,l8,l9,l10,l11,l12,l13,l14,l15,l16,l17,l18,l19,l20,l21,l22,l23,l24,l25,l26,l27,l28,g7,c7,bn,rfl,hd26,hd28,(by simp),HS.out⟩
    ·obtain rfl:=hall;subst hun;have e0:=(bcell HS.out.bel b1 _ hb1).trans M0.out;go_simp;exact hK _ _ ⟨l0,l1,l2,l3,l4,l5,true,true,l8,l9,l10,l11,l12,l13,l14,l15,l16,l17,l18,l19,l20,l21,l22,l23,l24,l25,l26,l27,l28,g7,c7,bn,rfl,hd26,hd28,(by simp),HS.out⟩
    ·subst hun;go_simp;exact hK _ _ ⟨l0,l1,l2,l3,l4,l5,l6,l7,true,l9,l10,l11,l12,l13,l14,l15,l16,l17,l18,l19,l20,l21,l22,l23,l24,l25,l26,l27,l28,g7,c7,bn,rfl,hd26,hd28,(by simp),HS.out⟩
    ·obtain⟨rfl,rfl⟩:=hall;subst hun;go_simp;exact hK _ _ ⟨l0,l1,l2,l3,l4,l5,l6,true,true,true,l10,l11,l12,l13,l14,l15,l16,l17,l18,l19,l20,l21,l22,l23,l24,l25,l26,l27,l28,g7,c7,bn,rfl,hd26,hd28,(by simp),HS.out⟩
    ·subst hun;go_simp;exact hK _ _ ⟨l0,l1,l2,l3,l4,l5,l6,l7,l8,l9,true,l11,l12,l13,l14,l15,l16,l17,l18,l19,l20,l21,l22,l23,l24,l25,l26,l27,l28,g7,c7,bn,rfl,hd26,hd28,(by simp),HS.out⟩
    ·obtain rfl:=hall;subst hun;have e0:=HS.out.cell (v:=.slice (some ⟨b1,o1,none⟩) L1 cv) 0 1 rfl rfl;go_simp;exact hK _ _ ⟨l0,l1,l2,l3,l4,l5,l6,l7,l8,l9,true,true,l12,l13,l14,l15,l16,l17,l18,l19,l20,l21,l22,l23,l24,l25,l26,l27,l28,g7,c7,bn,rfl,hd26,hd28,(by simp),HS.out⟩
    ·subst hun;go_simp;exact hK _ _ ⟨l0,l1,l2,l3,l4,l5,l6,l7,l8,l9,l10,l11,true,l13,l14,l15,l16,l17,l18,l19,l20,l21,l22,l23,l24,l25,l26,l27,l28,g7,c7,bn,rfl,hd26,hd28,(by simp),HS.out⟩
    ·obtain⟨rfl,rfl⟩:=hall;subst hun;go_simp;exact hK _ _ ⟨l0,l1,l2,l3,l4,l5,l6,l7,l8,l9,l10,true,true,true,l14,l15,l16,l17,l18,l19,l20,l21,l22,l23,l24,l25,l26,l27,l28,g7,c7,bn,rfl,hd26,hd28,(by simp),HS.out⟩
    ·obtain rfl:=hall;subst hun;go_simp;exact hK _ _ ⟨l0,l1,l2,l3,l4,l5,l6,l7,l8,l9,l10,l11,l12,true,true,l15,l16,l17,l18,l19,l20,l21,l22,l23,l24,l25,l26,l27,l28,g7,c7,bn,rfl,hd26,hd28,(by simp),HS.out⟩
    ·obtain rfl:=hall;subst hun;have e0:=(bcell HS.out.bel b1 _ hb1).trans M1.out;go_simp;exact hK _ _ ⟨l0,l1,l2,l3,l4,l5,l6,l7,l8,l9,l10,l11,l12,l13,true,true,l16,l17,l18,l19,l20,l21,l22,l23,l24,l25,l26,l27,l28,g7,c7,bn,rfl,hd26,hd28,(by simp),HS.out⟩
    ·subst hun;go_simp;exact hK _ _ ⟨l0,l1,l2,l3,l4,l5,l6,l7,l8,l9,l10,l11,l12,l13,l14,l15,true,l17,l18,l19,l20,l21,l22,l23,l24,l25,l26,l27,l28,g7,c7,bn,rfl,hd26,hd28,(by simp),HS.out⟩
    ·obtain rfl:=hall;subst hun;have e0:=HS.out.cell (v:=.slice (some ⟨b1,o1,none⟩) L1 cv) 0 1 rfl rfl;go_simp;exact hK _ _ ⟨l0,l1,l2,l3,l4,l5,l6,l7,l8,l9,l10,l11,l12,l13,l14,l15,true,true,l18,l19,l20,l21,l22,l23,l24,l25,l26,l27,l28,g7,c7,bn,rfl,hd26,hd28,(by simp),HS.out⟩
    ·subst hun;go_simp;exact hK _ _ ⟨l0,l1,l2,l3,l4,l5,l6,l7,l8,l9,l10,l11,l12,l13,l14,l15,l16,l17,true,l19,l20,l21,l22,l23,l24,l25,l26,l27,l28,g7,c7,bn,rfl,hd26,hd28,(by simp),HS.out⟩
    ·obtain⟨rfl,rfl⟩:=hall;subst hun;go_simp;exact hK _ _ ⟨l0,l1,l2,l3,l4,l5,l6,l7,l8,l9,l10,l11,l12,l13,l14,l15,l16,true,true,true,l20,l21,l22,l23,l24,l25,l26,l27,l28,g7,c7,bn,rfl,hd26,hd28,(by simp),HS.out⟩
    ·obtain rfl:=hall;subst hun;go_simp;exact hK _ _ ⟨l0,l1,l2,l3,l4,l5,l6,l7,l8,l9,l10,l11,l12,l13,l14,l15,l16,l17,l18,true,true,l21,l22,l23,l24,l25,l26,l27,l28,g7,c7,bn,rfl,hd26,hd28,(by simp),HS.out⟩
    ·obtain rfl:=hall;subst hun;have e0:=(bcell HS.out.bel b1 _ hb1).trans M2.out;go_simp;exact hK _ _ ⟨l0,l1,l2,l3,l4,l5,l6,l7,l8,l9,l10,l11,l12,l13,l14,l15,l16,l17,l18,l19,true,true,l22,l23,l24,l25,l26,l27,l28,g7,c7,bn,rfl,hd26,hd28,(by simp),HS.out⟩
    ·subst hun;go_simp;exact hK _ _ ⟨l0,l1,l2,l3,l4,l5,l6,l7,l8,l9,l10,l11,l12,l13,l14,l15,l16,l17,l18,l19,l20,l21,true,l23,l24,l25,l26,l27,l28,g7,c7,bn,rfl,hd26,hd28,(by simp),HS.out⟩
    ·obtain⟨rfl,rfl⟩:=hall;subst hun;go_simp;exact hK _ _ ⟨l0,l1,l2,l3,l4,l5,l6,l7,l8,l9,l10,l11,l12,l13,l14,l15,l16,l17,l18,l19,l20,true,true,true,l24,l25,l26,l27,l28,g7,c7,bn,rfl,hd26,hd28,(by simp),HS.out⟩
    ·obtain⟨rfl,rfl,rfl⟩:=hall;subst hun;go_simp;exact hK _ _ ⟨l0,l1,l2,l3,l4,l5,l6,l7,l8,true,l10,l11,l12,l13,l14,true,l16,l17,l18,l19,l20,l21,l22,true,true,l25,l26,l27,l28,g7,c7,bn,rfl,hd26,hd28,(by simp),HS.out⟩
    ·obtain rfl:=hall;subst hun;obtain rfl:l26=false:=offR hd26 rfl;obtain rfl:l28=false:=offL hd28 rfl;have hS2:=(HS.out.alloc _ rfl #[.int .i64 (p0+(d:Int)),.int .i64 p1,.int .i64 (p2+(d:Int))] 72).pick [0,1,2,3,4,5,7] (by decide);have HhS2:=qh hS2;clear hS2;go_simp;exact hK _ _ ⟨l0,l1,l2,l3,l4,l5,l6,l7,l8,l9,l10,l11,l12,l13,l14,l15,l16,l17,l18,l19,l20,l21,l22,l23,true,true,false,l27,false,g7,c7,_,rfl,by simp,by simp,(by simp),HhS2.out⟩
    ·obtain⟨rfl,rfl⟩:=hall;subst hun;obtain rfl:l28=false:=offL hd28 rfl;refine step_append_lies (a:=⟨_,_⟩) _ (by rfl) _ _ _ (by rfl) w.heap.size 72 i0 (.agg #[.int .i64 0,.int .i64 0,.int .i64 0]) 3 24 Tryz.underlying25 Hhi.out Hhz0.out Hhz1.out Hhz2.out (by rfl) (by omega) (.slice a1 k c1) k (((n.moves.take k).map (shM d)).flatMap Zaa) (by rfl) (HS.out.row 3 rfl) ⟨bn,0,none⟩ 1 1 [.int .i64 (p0+(d:Int)),.int .i64 p1,.int .i64 (p2+(d:Int))] (by rfl) (by rfl) (World.news_of_block (HS.out.box 6 rfl)) ZdY (by omega) (by unfold maxLen;omega) (by omega) HS.out.size _ rfl ?_;intro g8 c8 w8 hown8 hgrow8 hat8 hlt8;have HS8:=qh (HS.out.app 3 rfl hown8 hgrow8 hat8);clear hown8 hgrow8 hat8;go_simp;exact hK _ _ ⟨l0,true,l2,l3,l4,l5,l6,l7,l8,l9,l10,l11,l12,l13,l14,l15,l16,l17,l18,l19,l20,l21,l22,l23,l24,true,true,l27,false,g8,c8,bn,rfl,by simp,by simp,(by simp),HS8.out⟩
    ·obtain⟨rfl,rfl,rfl,rfl,rfl,rfl,rfl,rfl,rfl,rfl,rfl,rfl,rfl,rfl,rfl,rfl,rfl,rfl,rfl,rfl,rfl,rfl,rfl,rfl,rfl,rfl,rfl⟩:=hall;subst hun;go_simp;exact hK _ _ ⟨true,true,true,true,true,true,true,true,true,true,true,true,true,true,true,true,true,true,true,true,true,true,true,true,true,true,true,true,l28,g7,c7,bn,rfl,by simp,hd28,(by simp only[↓reduceIte,List.setIfInBounds_toArray,List.set_cons_zero,List.set_cons_succ]),HS.out⟩
    obtain⟨rfl,rfl,rfl,rfl,rfl,rfl,rfl,rfl,rfl,rfl,rfl,rfl,rfl,rfl,rfl,rfl,rfl,rfl,rfl,rfl,rfl,rfl,rfl,rfl,rfl,rfl,rfl,rfl,-⟩:=hall;subst hun;have f0:=HS.out.fr 2 1 rfl;have k0:=HS.out.cell (v:=.slice a1 k c1) 2 1 rfl rfl;go_simp;exact hK _ _ ⟨true,true,true,true,true,true,true,true,true,true,true,true,true,true,true,true,true,true,true,true,true,true,true,true,true,true,true,true,true,g7,c7,bn,rfl,by simp,by simp,(by simp only[↓reduceIte,List.setIfInBounds_toArray,List.set_cons_zero,List.set_cons_succ]),(HS.out.set 2 rfl 1 (.slice (some ⟨g7,0,none⟩) (k+1) c7))⟩
   ·rintro listed a w' ⟨l0,l1,l2,l3,l4,l5,l6,l7,l8,l9,l10,l11,l12,l13,l14,l15,l16,l17,l18,l19,l20,l21,l22,l23,l24,l25,l26,l27,l28,g7,c7,bn,rfl,hd26,hd28,rfl,hS⟩ hr;have hall:=Za7 (by kernel_rfl) rfl hr;obtain rfl:l0=true:=by simpa using hall 0 (by simp)
    obtain rfl:l1=true:=by simpa using hall 1 (by simp)
    obtain rfl:l2=true:=by simpa using hall 2 (by simp)
    obtain rfl:l3=true:=by simpa using hall 3 (by simp)
    obtain rfl:l4=true:=by simpa using hall 4 (by simp)
    obtain rfl:l5=true:=by simpa using hall 5 (by simp)
    obtain rfl:l6=true:=by simpa using hall 6 (by simp)
    obtain rfl:l7=true:=by simpa using hall 7 (by simp)
    obtain rfl:l8=true:=by simpa using hall 8 (by simp)
    obtain rfl:l9=true:=by simpa using hall 9 (by simp)
    obtain rfl:l10=true:=by simpa using hall 10 (by simp)
    obtain rfl:l11=true:=by simpa using hall 11 (by simp)
    obtain rfl:l12=true:=by simpa using hall 12 (by simp)
    obtain rfl:l13=true:=by simpa using hall 13 (by simp)
    obtain rfl:l14=true:=by simpa using hall 14 (by simp)
    obtain rfl:l15=true:=by simpa using hall 15 (by simp)
    obtain rfl:l16=true:=by simpa using hall 16 (by simp)
    obtain rfl:l17=true:=by simpa using hall 17 (by simp)
    obtain rfl:l18=true:=by simpa using hall 18 (by simp)
    obtain rfl:l19=true:=by simpa using hall 19 (by simp)
    obtain rfl:l20=true:=by simpa using hall 20 (by simp)
    obtain rfl:l21=true:=by simpa using hall 21 (by simp)
    obtain rfl:l22=true:=by simpa using hall 22 (by simp)
    obtain rfl:l23=true:=by simpa using hall 23 (by simp)
    obtain rfl:l24=true:=by simpa using hall 24 (by simp)
    obtain rfl:l25=true:=by simpa using hall 25 (by simp)
    obtain rfl:l26=true:=by simpa using hall 26 (by simp)
    obtain rfl:l27=true:=by simpa using hall 27 (by simp)
    obtain rfl:l28=true:=by simpa using hall 28 (by simp)
    clear hall hr hd26 hd28;simp only[↓reduceIte] at hS ⊢;simp only[List.setIfInBounds_toArray,List.set_cons_zero,List.set_cons_succ];have hS9:=hS.pick [0,1,2,3,4,5] (by decide);have HhS9:=qh hS9;clear hS9;clear hS;go_wp2;go_roundw
    case rel =>refine⟨k+1,some ⟨g7,0,none⟩,c7,by go_num,by omega,?_⟩;rw[Hhsn.out,List.flatMap_append];exact HhS9.out
    case measure=>simp[intOf];omega
   refine⟨false,false,false,false,false,false,false,false,false,false,false,false,false,false,false,false,false,false,false,false,false,false,false,false,false,false,false,false,false,0,0,0,rfl,by simp,by simp,(by simp),?_⟩;exact HSq.out.drew.pick [0,1,2,3,4,5,6] (by decide)
  obtain rfl:L1=k:=by omega
  rw[show(n.moves.take L1)=n.moves from List.take_of_length_le (by have:=hL1.out;omega)] at hS;obtain⟨am,ham⟩:=eI a1;obtain⟨cm,hcm⟩:=eI c1;subst ham;subst hcm;have HS2:=qh hS;clear hS;go_wp2
  go_loopw [7] (fun i wr=>∃ (k:Nat) (a1:Option Addr) (c1:Nat),i = .int .i64 k∧k≤L2∧St w wr [Ent.box w.heap.size #[.int .i64 (m:Int),.slice av L1 cv,.slice af L2 cf,.slice ae L3 ce] 28,Ent.box (w.heap.size+1) #[.int .i64 0,.slice none 0 0,.slice none 0 0,.slice none 0 0] 28,Ent.box (w.heap.size+1+1) #[.int .i64 ((m:Int)+d),.slice am L1 cm,.slice a1 k c1,.slice none 0 0] 28,
    Ent.row 72 3 (.slice am L1 cm) L1 ((n.moves.map (shM d)).flatMap Zaa),Ent.row 3 1 (.slice a1 k c1) k (intCells ((n.firsts.take k).map (·+(d:Int)))),Ent.row 3 1 (.slice none 0 0) 0 []]) (fun i _=>L2-(intOf i).toNat)
  case atStart=>exact⟨0,none,0,rfl,Nat.zero_le _,HS2.out⟩
  case round =>
   obtain⟨k,a1,c1,rfl,hk,hS⟩:=hrel;have e9:=hS.cell (v:=.slice af L2 cf) 0 2 rfl rfl;by_cases hlt:k<L2
   ·have hlt2:(k:Int)<L2:=by omega
    have hkn:k<n.firsts.length:=by have:=HhL2.out;omega
    obtain⟨b1,o1,rfl,-,hb1,hcs⟩:=Hr2.out (by omega);have m0:=hcs k hlt;have hin:=Hf.out _ (ZbE (d:=0) hkn);have hsn:=ZaF (·+(d:Int)) (d:=0) hkn rfl;obtain⟨p0,hp⟩:∃ p,p=n.firsts.getD k 0:=⟨_,rfl⟩;rw[← hp] at m0 hin hsn;obtain⟨i1,i2⟩:=hin;have w0:IntKind.i64.wrap (p0+(d:Int))=p0+(d:Int):=IntWalk.i64_in _ (by omega);have M0:=qh m0;have HSq:=qh hS;have Hhp:=qh hp;clear hp;have Hhsn:=qh hsn;clear hsn;clear hS hcs m0;go_wp2;refine wp_region_any (by kernel_rfl) ?_
    refine Zaq (fun A listed a w'=>∃ (l0 l1 l2 l3 l4 l5 l6 l7 l8 l9 l10 l11 l12:Bool) (g7:Nat) (c7:Nat) (bn:Nat),listed=#[l0,l1,l2,l3,l4,l5,l6,l7,l8,l9,l10,l11,l12]∧(l10=true→l1=true∧l9=true)∧(l12=true→l10=true∧l1=true) ∧
      a=⟨((((((((((((A.tmps.setIfInBounds 56 (if l0=true then .pointer (some ⟨w.heap.size+1+1,2,none⟩) else A.tmps.getD 56 undef)).setIfInBounds 57 (if l1=true then .slice a1 k c1 else A.tmps.getD 57 undef)).setIfInBounds 58 (if l2=true then .pointer (some ⟨w.heap.size,2,none⟩) else A.tmps.getD 58 undef)).setIfInBounds 59 (if l3=true then .slice (some ⟨b1,o1,none⟩) L2 cf else A.tmps.getD 59 undef)).setIfInBounds 60 (if l4=true then .int .i64 (k:Int) else A.tmps.getD 60 undef)).setIfInBounds 61 (if l5=true then .pointer (some ⟨b1,o1+k,none⟩) else A.tmps.getD 61 undef)).setIfInBounds 62 (if l6=true then .int .i64 p0 else A.tmps.getD 62 undef)).setIfInBounds 63 (if l7=true then .int .i64 (d:Int) else A.tmps.getD 63 undef)).setIfInBounds 64 (if l8=true then .int .i64 (p0+(d:Int)) else A.tmps.getD 64 undef)).setIfInBounds 65 (if l9=true then .slice (some ⟨bn,0,none⟩) 1 1 else A.tmps.getD 65 undef)).setIfInBounds 66 (if l10=true then .slice (some ⟨g7,0,none⟩) (k+1) c7 else A.tmps.getD 66 undef)).setIfInBounds 67 (if l11=true then .pointer (some ⟨w.heap.size+1+1,2,none⟩) else A.tmps.getD 67 undef)),A.defers⟩ ∧
      St w w' [Ent.box w.heap.size #[.int .i64 (m:Int),.slice av L1 cv,.slice (some ⟨b1,o1,none⟩) L2 cf,.slice ae L3 ce] 28,Ent.box (w.heap.size+1) #[.int .i64 0,.slice none 0 0,.slice none 0 0,.slice none 0 0] 28,Ent.box (w.heap.size+1+1) #[.int .i64 ((m:Int)+d),.slice am L1 cm,(if l12=true then .slice (some ⟨g7,0,none⟩) (k+1) c7 else .slice a1 k c1),.slice none 0 0] 28,Ent.row 72 3 (.slice am L1 cm) L1 ((n.moves.map (shM d)).flatMap Zaa),(if l10=true then Ent.row 3 1 (.slice (some ⟨g7,0,none⟩) (k+1) c7) (k+1) ((intCells ((n.firsts.take k).map (·+(d:Int))))++[.int .i64 (p0+(d:Int))]) else Ent.row 3 1 (.slice a1 k c1) k (intCells ((n.firsts.take k).map (·+(d:Int))))),Ent.row 3 1 (.slice none 0 0) 0 [],(if l9=true then Ent.box bn #[.int .i64 (p0+(d:Int))] 3 else Ent.nil)]) ?_ ?_ ?_
    ·rintro listed a w' ⟨l0,l1,l2,l3,l4,l5,l6,l7,l8,l9,l10,l11,l12,g7,c7,bn,rfl,hd10,hd12,rfl,hS⟩ i hi;obtain⟨hun,o,ho,hall⟩:=mem_ready.1 hi;have hlt:=(Array.getElem?_eq_some_iff.1 ho).1;refine wpOp_step ho (fun K hK => ?_);clear hi;have HS:=qh hS;clear hS;simp only[List.setIfInBounds_toArray,List.set_cons_zero,List.set_cons_succ,Array.getD_eq_getD_getElem?,List.getElem?_toArray,List.getElem?_cons_zero,List.getElem?_cons_succ,Option.getD_some];obtain h|h|h|h|h|h|h|h|h|h|h|h|h:i=0∨i=1∨i=2∨i=3∨i=4∨i=5∨i=6∨i=7∨i=8∨i=9∨i=10∨i=11∨i=12:=by simp at hlt;omega
     all_goals subst h
     all_goals simp only[List.getElem?_toArray,List.getElem?_cons_zero,List.getElem?_cons_succ,Option.some.injEq] at ho
     all_goals subst ho
     all_goals simp[Region.binds] at hun hall
     ·subst hun;go_simp;exact hK _ _ ⟨true,l1,l2,l3,l4,l5,l6,l7,l8,l9,l10,l11,l12,g7,c7,bn,rfl,hd10,hd12,(by simp),HS.out⟩
     ·obtain rfl:=hall;subst hun;obtain rfl:l10=false:=offL hd10 rfl;obtain rfl:l12=false:=offL hd12 rfl;have e0:=HS.out.cell (v:=.slice a1 k c1) 2 2 rfl rfl;go_simp;exact hK _ _ ⟨true,true,l2,l3,l4,l5,l6,l7,l8,l9,false,l11,false,g7,c7,bn,rfl,by simp,by simp,(by simp),HS.out⟩
     ·subst hun;go_simp;exact hK _ _ ⟨l0,l1,true,l3,l4,l5,l6,l7,l8,l9,l10,l11,l12,g7,c7,bn,rfl,hd10,hd12,(by simp),HS.out⟩
     ·obtain rfl:=hall;subst hun;have e0:=HS.out.cell (v:=.slice (some ⟨b1,o1,none⟩) L2 cf) 0 2 rfl rfl;go_simp;exact hK _ _ ⟨l0,l1,true,true,l4,l5,l6,l7,l8,l9,l10,l11,l12,g7,c7,bn,rfl,hd10,hd12,(by simp),HS.out⟩
     ·subst hun;go_simp;exact hK _ _ ⟨l0,l1,l2,l3,true,l5,l6,l7,l8,l9,l10,l11,l12,g7,c7,bn,rfl,hd10,hd12,(by simp),HS.out⟩
     ·obtain⟨rfl,rfl⟩:=hall;subst hun;go_simp;exact hK _ _ ⟨l0,l1,l2,true,true,true,l6,l7,l8,l9,l10,l11,l12,g7,c7,bn,rfl,hd10,hd12,(by simp),HS.out⟩
     ·obtain rfl:=hall;subst hun;have e0:=(bcell HS.out.bel b1 _ hb1).trans M0.out;go_simp;exact hK _ _ ⟨l0,l1,l2,l3,l4,true,true,l7,l8,l9,l10,l11,l12,g7,c7,bn,rfl,hd10,hd12,(by simp),HS.out⟩
     ·subst hun;go_simp;exact hK _ _ ⟨l0,l1,l2,l3,l4,l5,l6,true,l8,l9,l10,l11,l12,g7,c7,bn,rfl,hd10,hd12,(by simp),HS.out⟩
     ·obtain⟨rfl,rfl⟩:=hall;subst hun;go_simp;exact hK _ _ ⟨l0,l1,l2,l3,l4,l5,true,true,true,l9,l10,l11,l12,g7,c7,bn,rfl,hd10,hd12,(by simp),HS.out⟩
     ·obtain rfl:=hall;subst hun;obtain rfl:l10=false:=offR hd10 rfl;obtain rfl:l12=false:=offL hd12 rfl;have hS2:=(HS.out.alloc _ rfl #[.int .i64 (p0+(d:Int))] 3).pick [0,1,2,3,4,5,7] (by decide);have HhS2:=qh hS2;clear hS2;go_simp;exact hK _ _ ⟨l0,l1,l2,l3,l4,l5,l6,l7,true,true,false,l11,false,g7,c7,_,rfl,by simp,by simp,(by simp),HhS2.out⟩
     ·obtain⟨rfl,rfl⟩:=hall;subst hun;obtain rfl:l12=false:=offL hd12 rfl;refine step_append_lies (a:=⟨_,_⟩) _ (by rfl) _ _ _ (by rfl) w.heap.size 3 j0 (.int .i64 0) 1 8 Tryz.underlying26 Hhj.out Hhy0.out Hhy1.out Hhy2.out (by rfl) (by omega) (.slice a1 k c1) k (intCells ((n.firsts.take k).map (·+(d:Int)))) (by rfl) (HS.out.row 4 rfl) ⟨bn,0,none⟩ 1 1 [.int .i64 (p0+(d:Int))] (by rfl) (by rfl) (World.news_of_block (HS.out.box 6 rfl)) Zex (by omega) (by unfold maxLen;omega) (by omega) HS.out.size _ rfl ?_;intro g8 c8 w8 hown8 hgrow8 hat8 hlt8;have HS8:=qh (HS.out.app 4 rfl hown8 hgrow8 hat8);clear hown8 hgrow8 hat8;go_simp;exact hK _ _ ⟨l0,true,l2,l3,l4,l5,l6,l7,l8,true,true,l11,false,g8,c8,bn,rfl,by simp,by simp,(by simp),HS8.out⟩
     ·obtain⟨rfl,rfl,rfl,rfl,rfl,rfl,rfl,rfl,rfl,rfl,rfl⟩:=hall;subst hun;go_simp;exact hK _ _ ⟨true,true,true,true,true,true,true,true,true,true,true,true,l12,g7,c7,bn,rfl,by simp,hd12,(by simp only[↓reduceIte,List.setIfInBounds_toArray,List.set_cons_zero,List.set_cons_succ]),HS.out⟩
     obtain⟨rfl,rfl,rfl,rfl,rfl,rfl,rfl,rfl,rfl,rfl,rfl,rfl,-⟩:=hall;subst hun;have f0:=HS.out.fr 2 2 rfl;have k0:=HS.out.cell (v:=.slice a1 k c1) 2 2 rfl rfl;go_simp;exact hK _ _ ⟨true,true,true,true,true,true,true,true,true,true,true,true,true,g7,c7,bn,rfl,by simp,by simp,(by simp only[↓reduceIte,List.setIfInBounds_toArray,List.set_cons_zero,List.set_cons_succ]),(HS.out.set 2 rfl 2 (.slice (some ⟨g7,0,none⟩) (k+1) c7))⟩
    ·rintro listed a w' ⟨l0,l1,l2,l3,l4,l5,l6,l7,l8,l9,l10,l11,l12,g7,c7,bn,rfl,hd10,hd12,rfl,hS⟩ hr;have hall:=Za7 (by kernel_rfl) rfl hr;obtain rfl:l0=true:=by simpa using hall 0 (by simp)
     obtain rfl:l1=true:=by simpa using hall 1 (by simp)
     obtain rfl:l2=true:=by simpa using hall 2 (by simp)
     obtain rfl:l3=true:=by simpa using hall 3 (by simp)
     obtain rfl:l4=true:=by simpa using hall 4 (by simp)
     obtain rfl:l5=true:=by simpa using hall 5 (by simp)
     obtain rfl:l6=true:=by simpa using hall 6 (by simp)
     obtain rfl:l7=true:=by simpa using hall 7 (by simp)
     obtain rfl:l8=true:=by simpa using hall 8 (by simp)
     obtain rfl:l9=true:=by simpa using hall 9 (by simp)
     obtain rfl:l10=true:=by simpa using hall 10 (by simp)
     obtain rfl:l11=true:=by simpa using hall 11 (by simp)
     obtain rfl:l12=true:=by simpa using hall 12 (by simp)
     clear hall hr hd10 hd12;simp only[↓reduceIte] at hS ⊢;simp only[List.setIfInBounds_toArray,List.set_cons_zero,List.set_cons_succ];have hS9:=hS.pick [0,1,2,3,4,5] (by decide);have HhS9:=qh hS9;clear hS9;clear hS;go_wp2;go_roundw
     case rel =>refine⟨k+1,some ⟨g7,0,none⟩,c7,by go_num,by omega,?_⟩;rw[Hhsn.out,Zb6];exact HhS9.out
     case measure=>simp[intOf];omega
    refine⟨false,false,false,false,false,false,false,false,false,false,false,false,false,0,0,0,rfl,by simp,by simp,(by simp),?_⟩;exact HSq.out.drew.pick [0,1,2,3,4,5,6] (by decide)
   obtain rfl:L2=k:=by omega
   rw[show(n.firsts.take L2)=n.firsts from List.take_of_length_le (by have:=HhL2.out;omega)] at hS;obtain⟨ag,hag⟩:∃ am,am=a1:=⟨_,rfl⟩;obtain⟨cg,hcg⟩:∃ cm,cm=c1:=⟨_,rfl⟩;subst hag;subst hcg;have HS3:=qh hS;clear hS;go_wp2
   go_loopw [8] (fun i wr=>∃ (k:Nat) (a1:Option Addr) (c1:Nat),i = .int .i64 k∧k≤L3∧St w wr [Ent.box w.heap.size #[.int .i64 (m:Int),.slice av L1 cv,.slice af L2 cf,.slice ae L3 ce] 28,Ent.box (w.heap.size+1) #[.int .i64 0,.slice none 0 0,.slice none 0 0,.slice none 0 0] 28,Ent.box (w.heap.size+1+1) #[.int .i64 ((m:Int)+d),.slice am L1 cm,.slice ag L2 cg,.slice a1 k c1] 28,
     Ent.row 72 3 (.slice am L1 cm) L1 ((n.moves.map (shM d)).flatMap Zaa),Ent.row 3 1 (.slice ag L2 cg) L2 (intCells (n.firsts.map (·+(d:Int)))),Ent.row 3 1 (.slice a1 k c1) k (intCells ((n.ends.take k).map (·+(d:Int))))]) (fun i _=>L3-(intOf i).toNat)
   case atStart=>exact⟨0,none,0,rfl,Nat.zero_le _,HS3.out⟩
   case round =>
    obtain⟨k,a1,c1,rfl,hk,hS⟩:=hrel;have e9:=hS.cell (v:=.slice ae L3 ce) 0 3 rfl rfl;by_cases hlt:k<L3
    ·have hlt2:(k:Int)<L3:=by omega
     have hkn:k<n.ends.length:=by have:=HhL3.out;omega
     obtain⟨b1,o1,rfl,-,hb1,hcs⟩:=Hr3.out (by omega);have m0:=hcs k hlt;have hin:=He.out _ (ZbE (d:=0) hkn);have hsn:=ZaF (·+(d:Int)) (d:=0) hkn rfl;obtain⟨p0,hp⟩:∃ p,p=n.ends.getD k 0:=⟨_,rfl⟩;rw[← hp] at m0 hin hsn;obtain⟨i1,i2⟩:=hin;have w0:IntKind.i64.wrap (p0+(d:Int))=p0+(d:Int):=IntWalk.i64_in _ (by omega);have M0:=qh m0;have HSq:=qh hS;have Hhp:=qh hp;clear hp;have Hhsn:=qh hsn;clear hsn;clear hS hcs m0;go_wp2;refine wp_region_any (by kernel_rfl) ?_
     refine Zaq (fun A listed a w'=>∃ (l0 l1 l2 l3 l4 l5 l6 l7 l8 l9 l10 l11 l12:Bool) (g7:Nat) (c7:Nat) (bn:Nat),listed=#[l0,l1,l2,l3,l4,l5,l6,l7,l8,l9,l10,l11,l12]∧(l10=true→l1=true∧l9=true)∧(l12=true→l10=true∧l1=true) ∧
       a=⟨((((((((((((A.tmps.setIfInBounds 75 (if l0=true then .pointer (some ⟨w.heap.size+1+1,3,none⟩) else A.tmps.getD 75 undef)).setIfInBounds 76 (if l1=true then .slice a1 k c1 else A.tmps.getD 76 undef)).setIfInBounds 77 (if l2=true then .pointer (some ⟨w.heap.size,3,none⟩) else A.tmps.getD 77 undef)).setIfInBounds 78 (if l3=true then .slice (some ⟨b1,o1,none⟩) L3 ce else A.tmps.getD 78 undef)).setIfInBounds 79 (if l4=true then .int .i64 (k:Int) else A.tmps.getD 79 undef)).setIfInBounds 80 (if l5=true then .pointer (some ⟨b1,o1+k,none⟩) else A.tmps.getD 80 undef)).setIfInBounds 81 (if l6=true then .int .i64 p0 else A.tmps.getD 81 undef)).setIfInBounds 82 (if l7=true then .int .i64 (d:Int) else A.tmps.getD 82 undef)).setIfInBounds 83 (if l8=true then .int .i64 (p0+(d:Int)) else A.tmps.getD 83 undef)).setIfInBounds 84 (if l9=true then .slice (some ⟨bn,0,none⟩) 1 1 else A.tmps.getD 84 undef)).setIfInBounds 85 (if l10=true then .slice (some ⟨g7,0,none⟩) (k+1) c7 else A.tmps.getD 85 undef)).setIfInBounds 86 (if l11=true then .pointer (some ⟨w.heap.size+1+1,3,none⟩) else A.tmps.getD 86 undef)),A.defers⟩ ∧
       St w w' [Ent.box w.heap.size #[.int .i64 (m:Int),.slice av L1 cv,.slice af L2 cf,.slice (some ⟨b1,o1,none⟩) L3 ce] 28,Ent.box (w.heap.size+1) #[.int .i64 0,.slice none 0 0,.slice none 0 0,.slice none 0 0] 28,Ent.box (w.heap.size+1+1) #[.int .i64 ((m:Int)+d),.slice am L1 cm,.slice ag L2 cg,(if l12=true then .slice (some ⟨g7,0,none⟩) (k+1) c7 else .slice a1 k c1)] 28,Ent.row 72 3 (.slice am L1 cm) L1 ((n.moves.map (shM d)).flatMap Zaa),Ent.row 3 1 (.slice ag L2 cg) L2 (intCells (n.firsts.map (·+(d:Int)))),(if l10=true then Ent.row 3 1 (.slice (some ⟨g7,0,none⟩) (k+1) c7) (k+1) ((intCells ((n.ends.take k).map (·+(d:Int))))++[.int .i64 (p0+(d:Int))]) else Ent.row 3 1 (.slice a1 k c1) k (intCells ((n.ends.take k).map (·+(d:Int))))),(if l9=true then Ent.box bn #[.int .i64 (p0+(d:Int))] 3 else Ent.nil)]) ?_ ?_ ?_
     ·rintro listed a w' ⟨l0,l1,l2,l3,l4,l5,l6,l7,l8,l9,l10,l11,l12,g7,c7,bn,rfl,hd10,hd12,rfl,hS⟩ i hi;obtain⟨hun,o,ho,hall⟩:=mem_ready.1 hi;have hlt:=(Array.getElem?_eq_some_iff.1 ho).1;refine wpOp_step ho (fun K hK => ?_);clear hi;have HS:=qh hS;clear hS;simp only[List.setIfInBounds_toArray,List.set_cons_zero,List.set_cons_succ,Array.getD_eq_getD_getElem?,List.getElem?_toArray,List.getElem?_cons_zero,List.getElem?_cons_succ,Option.getD_some];obtain h|h|h|h|h|h|h|h|h|h|h|h|h:i=0∨i=1∨i=2∨i=3∨i=4∨i=5∨i=6∨i=7∨i=8∨i=9∨i=10∨i=11∨i=12:=by simp at hlt;omega
      all_goals subst h
      all_goals simp only[List.getElem?_toArray,List.getElem?_cons_zero,List.getElem?_cons_succ,Option.some.injEq] at ho
      all_goals subst ho
      all_goals simp[Region.binds] at hun hall
      ·subst hun;go_simp;exact hK _ _ ⟨true,l1,l2,l3,l4,l5,l6,l7,l8,l9,l10,l11,l12,g7,c7,bn,rfl,hd10,hd12,(by simp),HS.out⟩
      ·obtain rfl:=hall;subst hun;obtain rfl:l10=false:=offL hd10 rfl;obtain rfl:l12=false:=offL hd12 rfl;have e0:=HS.out.cell (v:=.slice a1 k c1) 2 3 rfl rfl;go_simp;exact hK _ _ ⟨true,true,l2,l3,l4,l5,l6,l7,l8,l9,false,l11,false,g7,c7,bn,rfl,by simp,by simp,(by simp),HS.out⟩
      ·subst hun;go_simp;exact hK _ _ ⟨l0,l1,true,l3,l4,l5,l6,l7,l8,l9,l10,l11,l12,g7,c7,bn,rfl,hd10,hd12,(by simp),HS.out⟩
      ·obtain rfl:=hall;subst hun;have e0:=HS.out.cell (v:=.slice (some ⟨b1,o1,none⟩) L3 ce) 0 3 rfl rfl;go_simp;exact hK _ _ ⟨l0,l1,true,true,l4,l5,l6,l7,l8,l9,l10,l11,l12,g7,c7,bn,rfl,hd10,hd12,(by simp),HS.out⟩
      ·subst hun;go_simp;exact hK _ _ ⟨l0,l1,l2,l3,true,l5,l6,l7,l8,l9,l10,l11,l12,g7,c7,bn,rfl,hd10,hd12,(by simp),HS.out⟩
      ·obtain⟨rfl,rfl⟩:=hall;subst hun;go_simp;exact hK _ _ ⟨l0,l1,l2,true,true,true,l6,l7,l8,l9,l10,l11,l12,g7,c7,bn,rfl,hd10,hd12,(by simp),HS.out⟩
      ·obtain rfl:=hall;subst hun;have e0:=(bcell HS.out.bel b1 _ hb1).trans M0.out;go_simp;exact hK _ _ ⟨l0,l1,l2,l3,l4,true,true,l7,l8,l9,l10,l11,l12,g7,c7,bn,rfl,hd10,hd12,(by simp),HS.out⟩
      ·subst hun;go_simp;exact hK _ _ ⟨l0,l1,l2,l3,l4,l5,l6,true,l8,l9,l10,l11,l12,g7,c7,bn,rfl,hd10,hd12,(by simp),HS.out⟩
      ·obtain⟨rfl,rfl⟩:=hall;subst hun;go_simp;exact hK _ _ ⟨l0,l1,l2,l3,l4,l5,true,true,true,l9,l10,l11,l12,g7,c7,bn,rfl,hd10,hd12,(by simp),HS.out⟩
      ·obtain rfl:=hall;subst hun;obtain rfl:l10=false:=offR hd10 rfl;obtain rfl:l12=false:=offL hd12 rfl;have hS2:=(HS.out.alloc _ rfl #[.int .i64 (p0+(d:Int))] 3).pick [0,1,2,3,4,5,7] (by decide);have HhS2:=qh hS2;clear hS2;go_simp;exact hK _ _ ⟨l0,l1,l2,l3,l4,l5,l6,l7,true,true,false,l11,false,g7,c7,_,rfl,by simp,by simp,(by simp),HhS2.out⟩
      ·obtain⟨rfl,rfl⟩:=hall;subst hun;obtain rfl:l12=false:=offL hd12 rfl;refine step_append_lies (a:=⟨_,_⟩) _ (by rfl) _ _ _ (by rfl) w.heap.size 3 j0 (.int .i64 0) 1 8 Tryz.underlying26 Hhj.out Hhy0.out Hhy1.out Hhy2.out (by rfl) (by omega) (.slice a1 k c1) k (intCells ((n.ends.take k).map (·+(d:Int)))) (by rfl) (HS.out.row 5 rfl) ⟨bn,0,none⟩ 1 1 [.int .i64 (p0+(d:Int))] (by rfl) (by rfl) (World.news_of_block (HS.out.box 6 rfl)) Zex (by omega) (by unfold maxLen;omega) (by omega) HS.out.size _ rfl ?_;intro g8 c8 w8 hown8 hgrow8 hat8 hlt8;have HS8:=qh (HS.out.app 5 rfl hown8 hgrow8 hat8);clear hown8 hgrow8 hat8;go_simp;exact hK _ _ ⟨l0,true,l2,l3,l4,l5,l6,l7,l8,true,true,l11,false,g8,c8,bn,rfl,by simp,by simp,(by simp),HS8.out⟩
      ·obtain⟨rfl,rfl,rfl,rfl,rfl,rfl,rfl,rfl,rfl,rfl,rfl⟩:=hall;subst hun;go_simp;exact hK _ _ ⟨true,true,true,true,true,true,true,true,true,true,true,true,l12,g7,c7,bn,rfl,by simp,hd12,(by simp only[↓reduceIte,List.setIfInBounds_toArray,List.set_cons_zero,List.set_cons_succ]),HS.out⟩
      obtain⟨rfl,rfl,rfl,rfl,rfl,rfl,rfl,rfl,rfl,rfl,rfl,rfl,-⟩:=hall;subst hun;have f0:=HS.out.fr 2 3 rfl;have k0:=HS.out.cell (v:=.slice a1 k c1) 2 3 rfl rfl;go_simp;exact hK _ _ ⟨true,true,true,true,true,true,true,true,true,true,true,true,true,g7,c7,bn,rfl,by simp,by simp,(by simp only[↓reduceIte,List.setIfInBounds_toArray,List.set_cons_zero,List.set_cons_succ]),(HS.out.set 2 rfl 3 (.slice (some ⟨g7,0,none⟩) (k+1) c7))⟩
     ·rintro listed a w' ⟨l0,l1,l2,l3,l4,l5,l6,l7,l8,l9,l10,l11,l12,g7,c7,bn,rfl,hd10,hd12,rfl,hS⟩ hr;have hall:=Za7 (by kernel_rfl) rfl hr;obtain rfl:l0=true:=by simpa using hall 0 (by simp)
      obtain rfl:l1=true:=by simpa using hall 1 (by simp)
      obtain rfl:l2=true:=by simpa using hall 2 (by simp)
      obtain rfl:l3=true:=by simpa using hall 3 (by simp)
      obtain rfl:l4=true:=by simpa using hall 4 (by simp)
      obtain rfl:l5=true:=by simpa using hall 5 (by simp)
      obtain rfl:l6=true:=by simpa using hall 6 (by simp)
      obtain rfl:l7=true:=by simpa using hall 7 (by simp)
      obtain rfl:l8=true:=by simpa using hall 8 (by simp)
      obtain rfl:l9=true:=by simpa using hall 9 (by simp)
      obtain rfl:l10=true:=by simpa using hall 10 (by simp)
      obtain rfl:l11=true:=by simpa using hall 11 (by simp)
      obtain rfl:l12=true:=by simpa using hall 12 (by simp)
      clear hall hr hd10 hd12;simp only[↓reduceIte] at hS ⊢;simp only[List.setIfInBounds_toArray,List.set_cons_zero,List.set_cons_succ];have hS9:=hS.pick [0,1,2,3,4,5] (by decide);have HhS9:=qh hS9;clear hS9;clear hS;go_wp2;go_roundw
      case rel =>refine⟨k+1,some ⟨g7,0,none⟩,c7,by go_num,by omega,?_⟩;rw[Hhsn.out,Zb6];exact HhS9.out
      case measure=>simp[intOf];omega
     refine⟨false,false,false,false,false,false,false,false,false,false,false,false,false,0,0,0,rfl,by simp,by simp,(by simp),?_⟩;exact HSq.out.drew.pick [0,1,2,3,4,5,6] (by decide)
    obtain rfl:L3=k:=by omega
    rw[show(n.ends.take L3)=n.ends from List.take_of_length_le (by have:=HhL3.out;omega)] at hS;have r0:=hS.cell (v:=.int .i64 ((m:Int)+d)) 2 0 rfl rfl;have r1:=hS.cell (v:=.slice am L1 cm) 2 1 rfl rfl;have r2:=hS.cell (v:=.slice ag L2 cg) 2 2 rfl rfl;have r3:=hS.cell (v:=.slice a1 L3 c1) 2 3 rfl rfl;have f0:=hS.fr 1 0 rfl;have f1:=hS.fr 1 1 rfl;have f2:=hS.fr 1 2 rfl;have f3:=hS.fr 1 3 rfl;have k0:=hS.cell (v:=.int .i64 0) 1 0 rfl rfl;have k1:=hS.cell (v:=.slice none 0 0) 1 1 rfl rfl;have k2:=hS.cell (v:=.slice none 0 0) 1 2 rfl rfl;have k3:=hS.cell (v:=.slice none 0 0) 1 3 rfl rfl;have HS4:=qh hS;clear hS;go_wp2;have hq:=(((HS4.out.set 1 rfl 0 (.int .i64 ((m:Int)+d))).set 1 rfl 1 (.slice am L1 cm)).set 1 rfl 2 (.slice ag L2 cg)).set 1 rfl 3 (.slice a1 L3 c1);have q0:=hq.cell (v:=.int .i64 ((m:Int)+d)) 1 0 rfl rfl;have q1:=hq.cell (v:=.slice am L1 cm) 1 1 rfl rfl;have q2:=hq.cell (v:=.slice ag L2 cg) 1 2 rfl rfl;have q3:=hq.cell (v:=.slice a1 L3 c1) 1 3 rfl rfl;refine bodyPost_ret (v:=.agg #[.int .i64 ((m:Int)+d),.slice am L1 cm,.slice ag L2 cg,.slice a1 L3 c1]) (by simp[results,Tryz.results87,go_sem,q0,q1,q2,q3]) rfl ?_;exact Hfin.out _ _ _ _ _ _ _ (hq.pick [3,4,5] (by decide))
end Go.Proofs.YtfikabecgaappaaGreat
