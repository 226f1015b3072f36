/-
  The walks over the program's NfaStar: slices.Clone of moves, checkedNfa, starNfa, NfaStar.
  Conditions: the automaton is readable.
-/
import Derived.Test.YtehmjmjedopkkaaGreatPn27Wpl
set_option maxHeartbeats 8000000
set_option maxRecDepth 100000
namespace Go.Proofs.YtehmjmjedopkkaaGreat
open Go.RowKit
theorem Zgi (xs:List (Int × Int × Int)) (v:Value) (w:World) (hl:xs.length≤1000000) (h:Moves 0 w v xs) :
  Calls Tryz.prog 105 #[v] w fun e w'=>∃ a c,e = .returned (.slice a xs.length c)∧St w w' [Ent.row 122 3 (.slice a xs.length c) xs.length (xs.flatMap Zac)]:=by
 have hx:=h;obtain⟨a,cap,rfl,hc1,hc2,hr⟩:=h.form;obtain⟨j0,hj,hy0,hy1,hy2⟩:=info_parts Tryz.infoMv;cases a with
 | none =>
  have h0:xs=[]:=by
   rcases Nat.eq_zero_or_pos xs.length with h0|h0
   ·exact List.eq_nil_of_length_eq_zero h0
   obtain⟨b,off,hb,-⟩:=hr h0;cases hb
  subst h0;have qT:=fun (w':World)=>Lib.run_eql_slice_nil (P:=Tryz.prog) w' 89 122 none 0 cap 0 0 Tryz.underlying89
  simp only[Option.isNone] at qT
  go_enter Tryz.func105, Tryz.ntmps105
  go_wp2;go_ret;exact⟨none,0,rfl,(St.start w).nilRow 122 3⟩
 | some ad =>
  have hS0:=((St.start w).alloc _ rfl #[] 122).boxrow 0 0 3 [] rfl rfl (Nat.zero_le _);have hRw:=hS0.row 0 rfl;have hX:=hx.below hS0.bel;replace hS0:=qh hS0;replace hRw:=qh hRw;have HhX:=qh hX;clear hX;have Hhx:=qh hx;clear hx;clear hr;have qT:=fun (w':World)=>Lib.run_eql_slice_nil (P:=Tryz.prog) w' 89 122 (some ad) xs.length cap 0 0 Tryz.underlying89
  simp only[Option.isNone] at qT
  go_enter Tryz.func105, Tryz.ntmps105
  go_wp2_with (at_builtin;refine Zaj _ rfl _ _ _ rfl _ 122 j0 (.agg #[.int .i64 0,.int .i64 0,.int .i64 0]) 3 24 Tryz.underlying89 hj hy0 hy1 hy2 rfl (by omega) _ 0 _ rfl hRw.out _ xs.length (xs.flatMap Zac) rfl HhX.out Zpp (by unfold maxLen;omega) (by omega) hS0.out.size ?_;intro a6 c6 w6 hown6 hgrow6 hat6;have HS6:=qh (hS0.out.appS 0 rfl hown6 hgrow6 hat6);clear hown6 hgrow6 hat6);go_ret;have hq:St w w6 [Ent.row 122 3 (.slice a6 (0+xs.length) c6) (0+xs.length) (xs.flatMap Zac)]:=HS6.out;rw[Nat.zero_add] at hq;exact⟨a6,c6,rfl,hq⟩
theorem Zji (n:NfaD) (m:Nat) (v1 v2 v3:Value) (w:World) (hm:n.states=(m:Int)) (hm40:m≤1000) (hml:n.moves.length≤1000) (hfl:n.firsts.length≤1000) (hel:n.ends.length≤1000) (h1:Moves 0 w v1 n.moves) (h2:Ints 0 w v2 n.firsts) (h3:Ints 0 w v3 n.ends) :
  Calls Tryz.prog 67 #[.agg #[.int .i64 n.states,v1,v2,v3]] w fun e w'=>RNfaS (Zco n) w e w':=by
 have hcl:=fun (u:World) (hu:Below w.heap.size w u)=>Zgi n.moves v1 u (by omega) (h1.below hu)
 obtain⟨av,cv,rfl,hc1,hm1,hr1⟩:=h1.form;obtain⟨af,cf,rfl,hc2,hm2,hr2⟩:=h2.form;obtain⟨ae,ce,rfl,hc3,hm3,hr3⟩:=h3.form;obtain⟨i0,hi,hz0,hz1,hz2⟩:=info_parts Tryz.infoMv;obtain⟨L1,hL1⟩:∃ L,L=n.moves.length:=⟨_,rfl⟩;obtain⟨L2,hL2⟩:∃ L,L=n.firsts.length:=⟨_,rfl⟩;obtain⟨L3,hL3⟩:∃ L,L=n.ends.length:=⟨_,rfl⟩;have hS0:=((St.start w).alloc _ rfl #[.int .i64 n.states,.slice av n.moves.length cv,.slice af n.firsts.length cf,.slice ae n.ends.length ce] 91).alloc (w.heap.size+1) (by simp) #[.int .i64 0,.slice none 0 0,.slice none 0 0,.slice none 0 0] 91;rw[hm,← hL1,← hL2,← hL3] at hS0;rw[hm,← hL1,← hL2,← hL3];rw[← hL1] at hml hc1 hcl;rw[← hL2] at hfl hc2 hr2;rw[← hL3] at hel hc3 hr3;have hS1:=hS0.call (Below.refl _ _);have HS0:Hid (St w _ [Ent.box w.heap.size #[.int .i64 (m:Int),.slice av L1 cv,.slice af L2 cf,.slice ae L3 ce] 91,Ent.box (w.heap.size+1) #[.int .i64 0,.slice none 0 0,.slice none 0 0,.slice none 0 0] 91,Ent.nil,Ent.nil,Ent.nil,Ent.nil]):=qh (hS1.pick [0,1,2,3,4,5] (by decide));have Hcl:=qh hcl;have Hr2:=qh hr2;have Hr3:=qh hr3;replace hL1:=qh hL1;have HhL2:=qh hL2;clear hL2;have HhL3:=qh hL3;clear hL3;have Hhm:=qh hm;clear hm;have Hhi:=qh hi;clear hi;have Hhz0:=qh hz0;clear hz0;have Hhz1:=qh hz1;clear hz1;have Hhz2:=qh hz2;clear hz2;clear h1 h2 h3 hr1 hr2 hr3 hcl hS0 hS1
 go_enter Tryz.func67, Tryz.ntmps67
 go_wp2_with fail;refine wp_region_any (by kernel_rfl) ?_
 refine Zap (fun A listed a w'=>∃ (l0 l1 l2 l3 l4 l5 l6 l7 l8 l9 l10 l11 l12 l13 l14:Bool) (am:Option Addr) (cm:Nat) (b5:Nat) (b6:Nat) (bo:Nat),listed=#[l0,l1,l2,l3,l4,l5,l6,l7,l8,l9,l10,l11,l12,l13,l14]∧(l12=true→l2=true∧l5=true∧l8=true∧l11=true)∧(l14=true→l13=true∧l12=true) ∧
   a=⟨((((((((((((((A.tmps.setIfInBounds 8 (if l0=true then .pointer (some ⟨w.heap.size,0,none⟩) else A.tmps.getD 8 undef)).setIfInBounds 9 (if l1=true then .int .i64 (m:Int) else A.tmps.getD 9 undef)).setIfInBounds 10 (if l2=true then .int .i64 ((m:Int)+1) else A.tmps.getD 10 undef)).setIfInBounds 11 (if l3=true then .pointer (some ⟨w.heap.size,1,none⟩) else A.tmps.getD 11 undef)).setIfInBounds 12 (if l4=true then .slice av L1 cv else A.tmps.getD 12 undef)).setIfInBounds 13 (if l5=true then .slice am L1 cm else A.tmps.getD 13 undef)).setIfInBounds 14 (if l6=true then .pointer (some ⟨w.heap.size,0,none⟩) else A.tmps.getD 14 undef)).setIfInBounds 15 (if l7=true then .int .i64 (m:Int) else A.tmps.getD 15 undef)).setIfInBounds 16 (if l8=true then .slice (some ⟨b5,0,none⟩) 1 1 else A.tmps.getD 16 undef)).setIfInBounds 17 (if l9=true then .pointer (some ⟨w.heap.size,0,none⟩) else A.tmps.getD 17 undef)).setIfInBounds 18 (if l10=true then .int .i64 (m:Int) else A.tmps.getD 18 undef)).setIfInBounds 19 (if l11=true then .slice (some ⟨b6,0,none⟩) 1 1 else A.tmps.getD 19 undef)).setIfInBounds 20 (if l12=true then .agg #[.int .i64 ((m:Int)+1),.slice am L1 cm,.slice (some ⟨b5,0,none⟩) 1 1,.slice (some ⟨b6,0,none⟩) 1 1] else A.tmps.getD 20 undef)).setIfInBounds 3 (if l13=true then .pointer (some ⟨bo,0,none⟩) else A.tmps.getD 3 undef)),A.defers⟩ ∧
   St w w' [Ent.box w.heap.size #[.int .i64 (m:Int),.slice av L1 cv,.slice af L2 cf,.slice ae L3 ce] 91,Ent.box (w.heap.size+1) #[.int .i64 0,.slice none 0 0,.slice none 0 0,.slice none 0 0] 91,(if l13=true then Ent.box bo #[(if l14=true then .int .i64 ((m:Int)+1) else .int .i64 0),(if l14=true then .slice am L1 cm else .slice none 0 0),(if l14=true then .slice (some ⟨b5,0,none⟩) 1 1 else .slice none 0 0),(if l14=true then .slice (some ⟨b6,0,none⟩) 1 1 else .slice none 0 0)] 91 else Ent.nil),(if l5=true then Ent.row 122 3 (.slice am L1 cm) L1 (n.moves.flatMap Zac) else Ent.nil),(if l8=true then Ent.row 3 1 (.slice (some ⟨b5,0,none⟩) 1 1) 1 [.int .i64 (m:Int)] else Ent.nil),(if l11=true then Ent.row 3 1 (.slice (some ⟨b6,0,none⟩) 1 1) 1 [.int .i64 (m:Int)] else Ent.nil)]) ?_ ?_ ?_
 ·rintro listed a w' ⟨l0,l1,l2,l3,l4,l5,l6,l7,l8,l9,l10,l11,l12,l13,l14,am,cm,b5,b6,bo,rfl,hd12,hd14,rfl,hS⟩ i hi;obtain⟨hun,o,ho,hall⟩:=mem_ready.1 hi;have hlt:=(Array.getElem?_eq_some_iff.1 ho).1;refine wpOp_step ho (fun K hK => ?_);clear hi;have HS:=qh hS;clear hS;simp only[List.setIfInBounds_toArray,List.set_cons_zero,List.set_cons_succ,Array.getD_eq_getD_getElem?,List.getElem?_toArray,List.getElem?_cons_zero,List.getElem?_cons_succ,Option.getD_some];obtain h|h|h|h|h|h|h|h|h|h|h|h|h|h|h:i=0∨i=1∨i=2∨i=3∨i=4∨i=5∨i=6∨i=7∨i=8∨i=9∨i=10∨i=11∨i=12∨i=13∨i=14:=by simp at hlt;omega
  all_goals subst h
  all_goals simp only[List.getElem?_toArray,List.getElem?_cons_zero,List.getElem?_cons_succ,Option.some.injEq] at ho
  all_goals subst ho
  all_goals simp[Region.binds] at hun hall
  ·subst hun;go_simp;exact hK _ _ ⟨true,l1,l2,l3,l4,l5,l6,l7,l8,l9,l10,l11,l12,l13,l14,am,cm,b5,b6,bo,rfl,hd12,hd14,(by simp),HS.out⟩
  ·obtain rfl:=hall;subst hun;have e0:=HS.out.cell (v:=.int .i64 (m:Int)) 0 0 rfl rfl;go_simp;exact hK _ _ ⟨true,true,l2,l3,l4,l5,l6,l7,l8,l9,l10,l11,l12,l13,l14,am,cm,b5,b6,bo,rfl,hd12,hd14,(by simp),HS.out⟩
  ·obtain rfl:=hall;subst hun;obtain rfl:l12=false:=by cases l12 with|false=>rfl|true=>simpa using hd12 rfl
   obtain rfl:l14=false:=offR hd14 rfl;have hw:IntKind.i64.wrap ((m:Int)+1)=(m:Int)+1:=IntWalk.i64_in _ (by omega);go_simp;exact hK _ _ ⟨l0,true,true,l3,l4,l5,l6,l7,l8,l9,l10,l11,false,l13,false,am,cm,b5,b6,bo,rfl,by simp,by simp,(by simp),HS.out⟩
  ·subst hun;go_simp;exact hK _ _ ⟨l0,l1,l2,true,l4,l5,l6,l7,l8,l9,l10,l11,l12,l13,l14,am,cm,b5,b6,bo,rfl,hd12,hd14,(by simp),HS.out⟩
  ·obtain rfl:=hall;subst hun;have e1:=HS.out.cell (v:=.slice av L1 cv) 0 1 rfl rfl;go_simp;exact hK _ _ ⟨l0,l1,l2,true,true,l5,l6,l7,l8,l9,l10,l11,l12,l13,l14,am,cm,b5,b6,bo,rfl,hd12,hd14,(by simp),HS.out⟩
  ·obtain rfl:=hall;subst hun;obtain rfl:l12=false:=by cases l12 with|false=>rfl|true=>simpa using hd12 rfl
   obtain rfl:l14=false:=offR hd14 rfl;go_simp
   go_at_call 105
   refine(Hcl.out _ HS.out.bel).mono ?_;rintro e u1 ⟨x1,d1,rfl,hb⟩;have hS2:=(HS.out.cat hb).pick [0,1,2,6,4,5] (by decide);have HhS2:=qh hS2;clear hS2;go_simp;exact hK _ _ ⟨l0,l1,l2,l3,true,true,l6,l7,l8,l9,l10,l11,false,l13,false,x1,d1,b5,b6,bo,rfl,by simp,by simp,(by simp),HhS2.out⟩
  ·subst hun;go_simp;exact hK _ _ ⟨l0,l1,l2,l3,l4,l5,true,l7,l8,l9,l10,l11,l12,l13,l14,am,cm,b5,b6,bo,rfl,hd12,hd14,(by simp),HS.out⟩
  ·obtain rfl:=hall;subst hun;have e0:=HS.out.cell (v:=.int .i64 (m:Int)) 0 0 rfl rfl;go_simp;exact hK _ _ ⟨l0,l1,l2,l3,l4,l5,true,true,l8,l9,l10,l11,l12,l13,l14,am,cm,b5,b6,bo,rfl,hd12,hd14,(by simp),HS.out⟩
  ·obtain rfl:=hall;subst hun;obtain rfl:l12=false:=by cases l12 with|false=>rfl|true=>simpa using hd12 rfl
   obtain rfl:l14=false:=offR hd14 rfl;have hS2:=((HS.out.alloc _ rfl #[.int .i64 (m:Int)] 3).boxrow 6 1 1 [.int .i64 (m:Int)] rfl rfl (by decide)).pick [0,1,2,3,6,5] (by decide);have HhS2:=qh hS2;clear hS2;go_simp;exact hK _ _ ⟨l0,l1,l2,l3,l4,l5,l6,true,true,l9,l10,l11,false,l13,false,am,cm,w'.heap.size,b6,bo,rfl,by simp,by simp,(by simp),HhS2.out⟩
  ·subst hun;go_simp;exact hK _ _ ⟨l0,l1,l2,l3,l4,l5,l6,l7,l8,true,l10,l11,l12,l13,l14,am,cm,b5,b6,bo,rfl,hd12,hd14,(by simp),HS.out⟩
  ·obtain rfl:=hall;subst hun;have e0:=HS.out.cell (v:=.int .i64 (m:Int)) 0 0 rfl rfl;go_simp;exact hK _ _ ⟨l0,l1,l2,l3,l4,l5,l6,l7,l8,true,true,l11,l12,l13,l14,am,cm,b5,b6,bo,rfl,hd12,hd14,(by simp),HS.out⟩
  ·obtain rfl:=hall;subst hun;obtain rfl:l12=false:=by cases l12 with|false=>rfl|true=>simpa using hd12 rfl
   obtain rfl:l14=false:=offR hd14 rfl;have hS2:=((HS.out.alloc _ rfl #[.int .i64 (m:Int)] 3).boxrow 6 1 1 [.int .i64 (m:Int)] rfl rfl (by decide)).pick [0,1,2,3,4,6] (by decide);have HhS2:=qh hS2;clear hS2;go_simp;exact hK _ _ ⟨l0,l1,l2,l3,l4,l5,l6,l7,l8,l9,true,true,false,l13,false,am,cm,b5,w'.heap.size,bo,rfl,by simp,by simp,(by simp),HhS2.out⟩
  ·obtain⟨rfl,rfl,rfl,rfl⟩:=hall;subst hun;obtain rfl:l14=false:=offR hd14 rfl;go_simp;exact hK _ _ ⟨l0,l1,true,l3,l4,true,l6,l7,true,l9,l10,true,true,l13,false,am,cm,b5,b6,bo,rfl,by simp,by simp,(by simp),HS.out⟩
  ·subst hun;obtain rfl:l14=false:=offL hd14 rfl;have hS2:=(HS.out.alloc _ rfl #[.int .i64 0,.slice none 0 0,.slice none 0 0,.slice none 0 0] 91).pick [0,1,6,3,4,5] (by decide);have HhS2:=qh hS2;clear hS2;go_simp;exact hK _ _ ⟨l0,l1,l2,l3,l4,l5,l6,l7,l8,l9,l10,l11,l12,true,false,am,cm,b5,b6,w'.heap.size,rfl,hd12,by simp,(by simp),HhS2.out⟩
  obtain⟨rfl,rfl,rfl,rfl,rfl,rfl,rfl,rfl,-,rfl,rfl,rfl,rfl,rfl,rfl,-,-⟩:=hall;subst hun;have f0:=HS.out.fr 2 0 rfl;have k0:=HS.out.cell (v:=.int .i64 0) 2 0 rfl rfl;have f1:=HS.out.fr 2 1 rfl;have k1:=HS.out.cell (v:=.slice none 0 0) 2 1 rfl rfl;have f2:=HS.out.fr 2 2 rfl;have k2:=HS.out.cell (v:=.slice none 0 0) 2 2 rfl rfl;have f3:=HS.out.fr 2 3 rfl;have k3:=HS.out.cell (v:=.slice none 0 0) 2 3 rfl rfl;go_simp;exact hK _ _ ⟨true,true,true,true,true,true,true,true,true,true,true,true,true,true,true,am,cm,b5,b6,bo,rfl,by simp,by simp,(by simp only[↓reduceIte,List.setIfInBounds_toArray,List.set_cons_zero,List.set_cons_succ]),((((HS.out.set 2 rfl 0 (.int .i64 ((m:Int)+1))).set 2 rfl 1 (.slice am L1 cm)).set 2 rfl 2 (.slice (some ⟨b5,0,none⟩) 1 1)).set 2 rfl 3 (.slice (some ⟨b6,0,none⟩) 1 1))⟩
 ·rintro listed a w' ⟨l0,l1,l2,l3,l4,l5,l6,l7,l8,l9,l10,l11,l12,l13,l14,am,cm,b5,b6,bo,rfl,hd12,hd14,rfl,hS⟩ hr;have hall:=ZaH (by kernel_rfl) rfl hr;obtain rfl:l0=true:=by simpa using hall 0 (by simp)
  obtain rfl:l1=true:=by simpa using hall 1 (by simp)
  obtain rfl:l2=true:=by simpa using hall 2 (by simp)
  obtain rfl:l3=true:=by simpa using hall 3 (by simp)
  obtain rfl:l4=true:=by simpa using hall 4 (by simp)
  obtain rfl:l5=true:=by simpa using hall 5 (by simp)
  obtain rfl:l6=true:=by simpa using hall 6 (by simp)
  obtain rfl:l7=true:=by simpa using hall 7 (by simp)
  obtain rfl:l8=true:=by simpa using hall 8 (by simp)
  obtain rfl:l9=true:=by simpa using hall 9 (by simp)
  obtain rfl:l10=true:=by simpa using hall 10 (by simp)
  obtain rfl:l11=true:=by simpa using hall 11 (by simp)
  obtain rfl:l12=true:=by simpa using hall 12 (by simp)
  obtain rfl:l13=true:=by simpa using hall 13 (by simp)
  obtain rfl:l14=true:=by simpa using hall 14 (by simp)
  clear hall hr hd12 hd14;simp only[↓reduceIte] at hS ⊢;simp only[List.setIfInBounds_toArray,List.set_cons_zero,List.set_cons_succ];have HS1:=qh (hS.pick [0,1,2,3,4,5] (by decide));clear hS;have e9:=HS1.out.cell (v:=.slice af L2 cf) 0 2 rfl rfl;go_wp2
  go_loopw [24] (fun i wr=>∃ (k:Nat) (a1:Option Addr) (c1:Nat),i = .int .i64 k∧k≤L2∧St w wr [Ent.box w.heap.size #[.int .i64 (m:Int),.slice av L1 cv,.slice af L2 cf,.slice ae L3 ce] 91,Ent.box (w.heap.size+1) #[.int .i64 0,.slice none 0 0,.slice none 0 0,.slice none 0 0] 91,Ent.box bo #[.int .i64 ((m:Int)+1),.slice a1 (L1+k) c1,.slice (some ⟨b5,0,none⟩) 1 1,.slice (some ⟨b6,0,none⟩) 1 1] 91,Ent.row 122 3 (.slice a1 (L1+k) c1) (L1+k) ((n.moves++(n.firsts.take k).map fun t=>((m:Int),(-1:Int),t)).flatMap Zac),Ent.row 3 1 (.slice (some ⟨b5,0,none⟩) 1 1) 1 [.int .i64 (m:Int)],Ent.row 3 1 (.slice (some ⟨b6,0,none⟩) 1 1) 1 [.int .i64 (m:Int)]]) (fun i _=>L2-(intOf i).toNat)
  case atStart =>refine⟨0,am,cm,rfl,Nat.zero_le _,?_⟩;have h:=HS1.out;rw[List.take_zero,List.map_nil,List.append_nil];exact h
  case round =>
   obtain⟨k,a1,c1,rfl,hk,hS⟩:=hrel;by_cases hlt:k<L2
   ·have hlt2:(k:Int)<L2:=by omega
    have hkn:k<n.firsts.length:=by have:=HhL2.out;omega
    obtain⟨b1,o1,rfl,-,hb1,hcs⟩:=Hr2.out (by omega);have m0:=hcs k hlt;have hsn:=Zby (fun t=>((m:Int),(-1:Int),t)) (d:=0) hkn rfl;obtain⟨p0,hp⟩:∃ p,p=n.firsts.getD k 0:=⟨_,rfl⟩;rw[← hp] at m0 hsn;have m1:=(bcell hS.bel b1 _ hb1).trans m0;have e0:=hS.cell (v:=.int .i64 (m:Int)) 0 0 rfl rfl;have y0:=hS.cell (v:=.slice a1 (L1+k) c1) 2 1 rfl rfl;have hSa:=hS.alloc_ (.cells #[.int .i64 (m:Int),.int .i64 (-1),.int .i64 p0] 122);have HSa:=qh hSa;have HRa:=qh (hSa.row 3 rfl);have Hhp:=qh hp;clear hp;have Hhsn:=qh hsn;clear hsn;clear hS hSa hcs m0;go_wp2_with (at_builtin;refine wpList_append_lies _ rfl _ _ _ rfl _ 122 i0 (.agg #[.int .i64 0,.int .i64 0,.int .i64 0]) 3 24 Tryz.underlying89 Hhi.out Hhz0.out Hhz1.out Hhz2.out rfl (by omega) _ (L1+k) _ rfl HRa.out ⟨wr.heap.size,0,none⟩ 1 1 [.int .i64 (m:Int),.int .i64 (-1),.int .i64 p0] rfl rfl (World.news_of_block (heap_alloc_new wr _)) ZdD (by omega) (by unfold maxLen;omega) (by omega) HSa.out.size _ rfl ?_;intro g6 c6 w6 hown6 hgrow6 hat6 hlt6;have HS6:=qh (HSa.out.app 3 rfl hown6 hgrow6 hat6);have y1:=HS6.out.cell (v:=.slice a1 (L1+k) c1) 2 1 rfl rfl;have y2:=HS6.out.fr 2 1 rfl;clear hown6 hgrow6 hat6 hlt6);go_roundw
    case rel =>refine⟨k+1,some ⟨g6,0,none⟩,c6,by go_num,by omega,?_⟩;rw[Hhsn.out,← List.append_assoc,List.flatMap_append (xs:=_++_)];exact HS6.out.set 2 rfl 1 (.slice (some ⟨g6,0,none⟩) (L1+k+1) c6)
    case measure=>simp[intOf];omega
   obtain rfl:L2=k:=by omega
   rw[show(n.firsts.take L2)=n.firsts from List.take_of_length_le (by have:=HhL2.out;omega)] at hS;have HSe:=qh hS;clear hS;have e9:=HSe.out.cell (v:=.slice ae L3 ce) 0 3 rfl rfl;have HSe1:=HSe;clear HSe;go_wp2
   go_loopw [41] (fun i wr=>∃ (k:Nat) (a1:Option Addr) (c1:Nat),i = .int .i64 k∧k≤L3∧St w wr [Ent.box w.heap.size #[.int .i64 (m:Int),.slice av L1 cv,.slice af L2 cf,.slice ae L3 ce] 91,Ent.box (w.heap.size+1) #[.int .i64 0,.slice none 0 0,.slice none 0 0,.slice none 0 0] 91,Ent.box bo #[.int .i64 ((m:Int)+1),.slice a1 (L1+L2+k) c1,.slice (some ⟨b5,0,none⟩) 1 1,.slice (some ⟨b6,0,none⟩) 1 1] 91,Ent.row 122 3 (.slice a1 (L1+L2+k) c1) (L1+L2+k) ((n.moves++(n.firsts.map fun t=>((m:Int),(-1:Int),t))++(n.ends.take k).map fun s=>(s,(-1:Int),(m:Int))).flatMap Zac),Ent.row 3 1 (.slice (some ⟨b5,0,none⟩) 1 1) 1 [.int .i64 (m:Int)],Ent.row 3 1 (.slice (some ⟨b6,0,none⟩) 1 1) 1 [.int .i64 (m:Int)]]) (fun i _=>L3-(intOf i).toNat)
   case atStart =>refine⟨0,a1,c1,rfl,Nat.zero_le _,?_⟩;have h:=HSe1.out;rw[List.take_zero,List.map_nil,List.append_nil];exact h
   case round =>
    obtain⟨k,a1,c1,rfl,hk,hS⟩:=hrel;by_cases hlt:k<L3
    ·have hlt2:(k:Int)<L3:=by omega
     have hkn:k<n.ends.length:=by have:=HhL3.out;omega
     obtain⟨b1,o1,rfl,-,hb1,hcs⟩:=Hr3.out (by omega);have m0:=hcs k hlt;have hsn:=Zby (fun s=>(s,(-1:Int),(m:Int))) (d:=0) hkn rfl;obtain⟨p0,hp⟩:∃ p,p=n.ends.getD k 0:=⟨_,rfl⟩;rw[← hp] at m0 hsn;have m1:=(bcell hS.bel b1 _ hb1).trans m0;have e0:=hS.cell (v:=.int .i64 (m:Int)) 0 0 rfl rfl;have y0:=hS.cell (v:=.slice a1 (L1+L2+k) c1) 2 1 rfl rfl;have hSa:=hS.alloc_ (.cells #[.int .i64 p0,.int .i64 (-1),.int .i64 (m:Int)] 122);have HSa:=qh hSa;have HRa:=qh (hSa.row 3 rfl);have Hhp:=qh hp;clear hp;have Hhsn:=qh hsn;clear hsn;clear hS hSa hcs m0;go_wp2_with (at_builtin;refine wpList_append_lies _ rfl _ _ _ rfl _ 122 i0 (.agg #[.int .i64 0,.int .i64 0,.int .i64 0]) 3 24 Tryz.underlying89 Hhi.out Hhz0.out Hhz1.out Hhz2.out rfl (by omega) _ (L1+L2+k) _ rfl HRa.out ⟨wr.heap.size,0,none⟩ 1 1 [.int .i64 p0,.int .i64 (-1),.int .i64 (m:Int)] rfl rfl (World.news_of_block (heap_alloc_new wr _)) ZdD (by omega) (by unfold maxLen;omega) (by omega) HSa.out.size _ rfl ?_;intro g6 c6 w6 hown6 hgrow6 hat6 hlt6;have HS6:=qh (HSa.out.app 3 rfl hown6 hgrow6 hat6);have y1:=HS6.out.cell (v:=.slice a1 (L1+L2+k) c1) 2 1 rfl rfl;have y2:=HS6.out.fr 2 1 rfl;clear hown6 hgrow6 hat6 hlt6);go_roundw
     case rel =>refine⟨k+1,some ⟨g6,0,none⟩,c6,by go_num,by omega,?_⟩;rw[Hhsn.out,← List.append_assoc,List.flatMap_append (xs:=_++_)];exact HS6.out.set 2 rfl 1 (.slice (some ⟨g6,0,none⟩) (L1+L2+k+1) c6)
     case measure=>simp[intOf];omega
    obtain rfl:L3=k:=by omega
    rw[show(n.ends.take L3)=n.ends from List.take_of_length_le (by have:=HhL3.out;omega)] at hS;have HSe:=qh hS;clear hS;have e0:=HSe.out.cell (v:=.int .i64 ((m:Int)+1)) 2 0 rfl rfl;have e1:=HSe.out.cell (v:=.slice a1 (L1+L2+L3) c1) 2 1 rfl rfl;have e2:=HSe.out.cell (v:=.slice (some ⟨b5,0,none⟩) 1 1) 2 2 rfl rfl;have e3:=HSe.out.cell (v:=.slice (some ⟨b6,0,none⟩) 1 1) 2 3 rfl rfl;have f0:=HSe.out.fr 1 0 rfl;have k0:=HSe.out.cell (v:=.int .i64 0) 1 0 rfl rfl;have f1:=HSe.out.fr 1 1 rfl;have k1:=HSe.out.cell (v:=.slice none 0 0) 1 1 rfl rfl;have f2:=HSe.out.fr 1 2 rfl;have k2:=HSe.out.cell (v:=.slice none 0 0) 1 2 rfl rfl;have f3:=HSe.out.fr 1 3 rfl;have k3:=HSe.out.cell (v:=.slice none 0 0) 1 3 rfl rfl;have HSr:=qh ((((HSe.out.set 1 rfl 0 (.int .i64 ((m:Int)+1))).set 1 rfl 1 (.slice a1 (L1+L2+L3) c1)).set 1 rfl 2 (.slice (some ⟨b5,0,none⟩) 1 1)).set 1 rfl 3 (.slice (some ⟨b6,0,none⟩) 1 1));have q0:=HSr.out.cell (v:=.int .i64 ((m:Int)+1)) 1 0 rfl rfl;have q1:=HSr.out.cell (v:=.slice a1 (L1+L2+L3) c1) 1 1 rfl rfl;have q2:=HSr.out.cell (v:=.slice (some ⟨b5,0,none⟩) 1 1) 1 2 rfl rfl;have q3:=HSr.out.cell (v:=.slice (some ⟨b6,0,none⟩) 1 1) 1 3 rfl rfl;go_wp2;refine bodyPost_ret (v:=.agg #[.int .i64 ((m:Int)+1),.slice a1 (L1+L2+L3) c1,.slice (some ⟨b5,0,none⟩) 1 1,.slice (some ⟨b6,0,none⟩) 1 1]) (by simp[results,Tryz.results67,go_sem,q0,q1,q2,q3]) rfl ?_;have hNm:n.moves.length+n.firsts.length+n.ends.length=L1+L2+L3:=by rw[hL1.out,HhL2.out,HhL3.out]
    have hst:Zco n=⟨(m:Int)+1,n.moves++(n.firsts.map fun t=>((m:Int),-1,t))++(n.ends.map fun s=>(s,-1,(m:Int))),[(m:Int)],[(m:Int)]⟩:=by unfold Zco;rw[Hhm.out]
    rw[hst];refine⟨a1,c1,some ⟨b5,0,none⟩,1,some ⟨b6,0,none⟩,1,?_,?_⟩
    ·simp only[List.length_append,List.length_map,hNm];rfl
    simp only[List.length_append,List.length_map,hNm];exact HSr.out.pick [3,4,5] (by decide)
 refine⟨false,false,false,false,false,false,false,false,false,false,false,false,false,false,false,none,0,0,0,0,rfl,by simp,by simp,(by simp),?_⟩;exact HS0.out.drew.pick [0,1,2,3,4,5] (by decide)
theorem Zf9 (w:World) (o o2:Obj):((w.alloc o).alloc o2).heap[w.heap.size+1]? = some o2:=by have:=heap_alloc_new (w.alloc o) o2;simpa only [World.size_alloc] using this
theorem Zjl (xs:List Int) (v:Value) (d:Int) (w:World) (hl:xs.length≤1000) (hx:∀ x∈xs,-1000≤x∧x≤1000) (hd:-1000≤d∧d≤1000) (h:Ints 0 w v xs) :
  Calls Tryz.prog 144 #[v,.int .i64 d] w fun e w'=>∃ a c,e = .returned (.slice a xs.length c)∧St w w' [Ent.row 3 1 (.slice a xs.length c) xs.length (intCells (xs.map (·+d)))]:=by
 obtain⟨a0,c0,rfl,hc1,hc2,hr⟩:=h.form;obtain⟨j0,hj,hy0,hy1,hy2⟩:=info_parts Tryz.infoInt;obtain⟨L,hL⟩:=eI (xs.length);have hS0:=(St.start w).nilRow 3 1;rw[← hL] at hl hc1 hr;rw[← hL];obtain⟨hd0,hd1⟩:=hd;have Hr:=qh hr;replace hS0:=qh hS0;replace hL:=qh hL;have Hhx:=qh hx;clear hx;have Hhj:=qh hj;clear hj;have Hhy0:=qh hy0;clear hy0;have Hhy1:=qh hy1;clear hy1;have Hhy2:=qh hy2;clear hy2;clear hr h
 go_enter Tryz.func144, Tryz.ntmps144
 go_wp2
 go_loopw [5,10] (fun vo i wr=>∃ (k:Nat) (a:Option Addr) (c:Nat),i = .int .i64 k∧vo = .slice a k c∧k≤L∧St w wr [Ent.row 3 1 (.slice a k c) k (intCells ((xs.take k).map (·+d)))])
  (fun _ i _=>L-(intOf i).toNat)
 case atStart=>exact⟨0,none,0,rfl,rfl,Nat.zero_le _,hS0.out⟩
 case round =>
  obtain⟨k,a,c,rfl,rfl,hk,hS⟩:=hrel;by_cases hlt:k<L
  ·have hlt2:(k:Int)<L:=by omega
   have hkn:k<xs.length:=by have:=hL.out;omega
   obtain⟨b1,o1,rfl,-,hb1,hcs⟩:=Hr.out (by omega);have m0:=hcs k hlt;have hsn:=Zby (·+d) (d:=0) hkn rfl;have hxx:=Hhx.out _ (memD (d:=0) hkn);obtain⟨p0,hp⟩:∃ p,p=xs.getD k 0:=⟨_,rfl⟩;rw[← hp] at m0 hsn hxx;obtain⟨hp0,hp1⟩:=hxx;have m1:=(bcell hS.bel b1 _ hb1).trans m0;have hw:IntKind.i64.wrap (p0+d)=p0+d:=IntWalk.i64_in _ (by omega);have hSa:=hS.alloc_ (.cells #[.int .i64 (p0+d)] 3);have HSa:=qh hSa;have HRa:=qh (hSa.row 0 rfl);have Hhp:=qh hp;clear hp;have Hhsn:=qh hsn;clear hsn;clear hS hSa hcs m0;go_wp2_with (at_builtin;refine wpList_append_lies _ rfl _ _ _ rfl _ 3 j0 (.int .i64 0) 1 8 Tryz.underlying59 Hhj.out Hhy0.out Hhy1.out Hhy2.out rfl (by omega) _ k _ rfl HRa.out ⟨wr.heap.size,0,none⟩ 1 1 [.int .i64 (p0+d)] rfl rfl (World.news_of_block (heap_alloc_new wr _)) Zbf (by omega) (by unfold maxLen;omega) (by omega) HSa.out.size _ rfl ?_;intro g6 c6 w6 hown6 hgrow6 hat6 hlt6;have HS6:=qh (HSa.out.app 0 rfl hown6 hgrow6 hat6);clear hown6 hgrow6 hat6 hlt6);go_roundw
   case rel =>refine⟨k+1,some ⟨g6,0,none⟩,c6,by go_num,rfl,by omega,?_⟩;rw[Hhsn.out,Zav];exact HS6.out
   case measure=>simp[intOf];omega
  obtain rfl:L=k:=by omega
  rw[show xs.take L=xs from List.take_of_length_le (by have:=hL.out;omega)] at hS;have HSe:=qh hS;clear hS;go_wp2;go_ret;exact⟨a,c,rfl,HSe.out⟩
theorem Ze2 (p q:NfaD) (S:Nat) (v1 v2 v3 u1 u2 u3:Value) (w:World) (hS40:p.states=(S:Int)) (hS1:S≤40) (hpl:p.moves.length≤1000) (hql:q.moves.length≤1000) (hqm:mvIn 40 q.moves) (hpm:Moves 0 w v1 p.moves) (hq:Moves 0 w u1 q.moves) :
  Calls Tryz.prog 142 #[.agg #[.int .i64 p.states,v1,v2,v3],.agg #[.int .i64 q.states,u1,u2,u3]] w fun e w'=>∃ a c,e = .returned (.slice a (p.moves.length+q.moves.length) c)∧St w w' [Ent.row 122 3 (.slice a (p.moves.length+q.moves.length) c) (p.moves.length+q.moves.length) ((p.moves++q.moves.map (shM p.states)).flatMap Zac)]:=by
 have hcl:=fun (u:World) (hu:Below w.heap.size w u)=>Zgi p.moves v1 u (by omega) (hpm.below hu)
 obtain⟨av,cv,rfl,hc1,hc2,-⟩:=hpm.form;obtain⟨au,cu,rfl,hd1,hd2,hr⟩:=hq.form;obtain⟨i0,hi,hz0,hz1,hz2⟩:=info_parts Tryz.infoMv;obtain⟨L1,hL1⟩:∃ L,L=p.moves.length:=⟨_,rfl⟩;obtain⟨L2,hL2⟩:∃ L,L=q.moves.length:=⟨_,rfl⟩;obtain⟨Q,hQ⟩:=eI (q.states);have hS0:=((St.start w).alloc _ rfl #[.int .i64 p.states,.slice av p.moves.length cv,v2,v3] 91).alloc (w.heap.size+1) (by simp) #[.int .i64 q.states,.slice au q.moves.length cu,u2,u3] 91;rw[hS40,← hL1,← hL2,← hQ] at hS0;rw[hS40,← hL1,← hL2,← hQ];rw[← hL1] at hpl hc1 hcl;rw[← hL2] at hql hd1 hr;have e1:=hS0.cell (v:=.slice av L1 cv) 0 1 rfl rfl;have Hcl:=qh hcl;have Hr:=qh hr;replace hS0:=qh hS0;replace hL1:=qh hL1;have HhL2:=qh hL2;clear hL2;have HhS40:=qh hS40;clear hS40;have Hhqm:=qh hqm;clear hqm;have HhQ:=qh hQ;clear hQ;have Hhi:=qh hi;clear hi;have Hhz0:=qh hz0;clear hz0;have Hhz1:=qh hz1;clear hz1;have Hhz2:=qh hz2;clear hz2;clear hcl hr hpm hq
 go_enter Tryz.func142, Tryz.ntmps142
 go_wp2_with fail;refine(Hcl.out _ hS0.out.bel).mono ?_;rintro e w1 ⟨am,cm,rfl,hS'⟩;have HS1:=qh (hS0.out.cat hS');clear hS' e1;have e2:=HS1.out.cell (v:=.slice au L2 cu) 1 1 rfl rfl;go_wp2
 go_loopw [5,14] (fun vo i wr=>∃ (k:Nat) (a:Option Addr) (c:Nat),i = .int .i64 k∧vo = .slice a (L1+k) c∧k≤L2∧St w wr [Ent.box w.heap.size #[.int .i64 (S:Int),.slice av L1 cv,v2,v3] 91,Ent.box (w.heap.size+1) #[.int .i64 Q,.slice au L2 cu,u2,u3] 91,Ent.row 122 3 (.slice a (L1+k) c) (L1+k) ((p.moves++(q.moves.take k).map (shM (S:Int))).flatMap Zac)])
  (fun _ i _=>L2-(intOf i).toNat)
 case atStart =>refine⟨0,am,cm,rfl,rfl,Nat.zero_le _,?_⟩;rw[List.take_zero,List.map_nil,List.append_nil];exact HS1.out
 case round =>
  obtain⟨k,a,c,rfl,rfl,hk,hS⟩:=hrel;clear e2;by_cases hlt:k<L2
  ·have hlt2:(k:Int)<L2:=by omega
   have hkn:k<q.moves.length:=by have:=HhL2.out;omega
   obtain⟨b1,o1,rfl,-,hb1,hcs⟩:=Hr.out (by omega);obtain⟨p1,p2,p3⟩:=hcs k hlt;have hsn:=Zby (shM (S:Int)) (d:=(0,0,0)) hkn rfl;have hxx:=Hhqm.out _ (memD (d:=(0,0,0)) hkn);obtain⟨mm,hmm⟩:=eI (q.moves.getD k (0,0,0));rw[← hmm] at p1 p2 p3 hsn hxx;obtain⟨f,l,t⟩:=mm;simp only at p1 p2 p3 hxx;obtain⟨⟨hf0,hf1⟩,ht0,ht1⟩:=hxx;have m1:=(bcell hS.bel b1 _ hb1).trans p1;have m2:=(bcell hS.bel b1 _ hb1).trans p2;have m3:=(bcell hS.bel b1 _ hb1).trans p3;have hw1:IntKind.i64.wrap (f+(S:Int))=f+(S:Int):=IntWalk.i64_in _ (by omega);have hw2:IntKind.i64.wrap (t+(S:Int))=t+(S:Int):=IntWalk.i64_in _ (by omega);have hSb:=hS.alloc _ rfl #[.int .i64 f,.int .i64 l,.int .i64 t] 122;have e0:=hSb.cell (v:=.int .i64 (S:Int)) 0 0 rfl rfl;have g0:=hSb.cell (v:=.int .i64 f) 3 0 rfl rfl;have g1:=hSb.cell (v:=.int .i64 l) 3 1 rfl rfl;have g2:=hSb.cell (v:=.int .i64 t) 3 2 rfl rfl;have hSa:=hSb.alloc_ (.cells #[.int .i64 (f+(S:Int)),.int .i64 l,.int .i64 (t+(S:Int))] 122);have HSa:=qh hSa;have HRa:=qh (hSa.row 2 rfl);have HHb:=qh (Zf9 wr (.cells #[.int .i64 f,.int .i64 l,.int .i64 t] 122) (.cells #[.int .i64 (f+(S:Int)),.int .i64 l,.int .i64 (t+(S:Int))] 122));have HSb:=qh hSb;have Hhmm:=qh hmm;clear hmm;have Hhsn:=qh hsn;clear hsn;clear hS hSa hSb hcs p1 p2 p3
   go_wp2_with (at_builtin;refine wpList_append_lies _ rfl _ _ _ rfl _ 122 i0 (.agg #[.int .i64 0,.int .i64 0,.int .i64 0]) 3 24 Tryz.underlying89 Hhi.out Hhz0.out Hhz1.out Hhz2.out rfl (by omega) _ (L1+k) _ rfl HRa.out ⟨wr.heap.size+1,0,none⟩ 1 1 [.int .i64 (f+(S:Int)),.int .i64 l,.int .i64 (t+(S:Int))] rfl rfl (World.news_of_block HHb.out) ZdD (by omega) (by unfold maxLen;omega) (by omega) HSa.out.size _ rfl ?_;intro g6 c6 w6 hown6 hgrow6 hat6 hlt6;have HS6:=qh (HSa.out.app 2 rfl hown6 hgrow6 hat6);clear hown6 hgrow6 hat6 hlt6);go_roundw
   case rel =>refine⟨k+1,some ⟨g6,0,none⟩,c6,by go_num,rfl,by omega,?_⟩;rw[Hhsn.out,← List.append_assoc,List.flatMap_append (xs:=_++_)];exact HS6.out.pick [0,1,2] (by decide)
   case measure=>simp[intOf];omega
  obtain rfl:L2=k:=by omega
  rw[show q.moves.take L2=q.moves from List.take_of_length_le (by have:=HhL2.out;omega)] at hS;have HSe:=qh hS;clear hS;go_wp2;go_ret;exact⟨a,c,rfl,HSe.out.pick [2] (by decide)⟩
end Go.Proofs.YtehmjmjedopkkaaGreat
