/-
  The walks over the program's NfaStar: slices.Clone of moves, checkedNfa, starNfa, NfaStar.
  Conditions: the automaton is readable.
-/
import Derived.Test.YtncekbbhgipdlaaGreatPs13Cst
set_option maxHeartbeats 16000000
set_option maxRecDepth 100000
namespace Go.Proofs.YtncekbbhgipdlaaGreat
open Go.RowKit
theorem ZgQ (xs:List (Int × Int × Int)) (v:Value) (w:World) (hl:xs.length≤1000000) (h:Moves 0 w v xs) :
  Calls Tryz.prog 98 #[v] w fun e w'=>∃ a c,e = .returned (.slice a xs.length c)∧St w w' [Ent.row 117 3 (.slice a xs.length c) xs.length (xs.flatMap Zac)]:=by
 have hx:=h;obtain⟨a,cap,rfl,hc1,hc2,hr⟩:=h.form;obtain⟨j0,hj,hy0,hy1,hy2⟩:=info_parts Tryz.infoMv;cases a with
 | none =>
  have h0:xs=[]:=by
   rcases Nat.eq_zero_or_pos xs.length with h0|h0
   ·exact List.eq_nil_of_length_eq_zero h0
   obtain⟨b,off,hb,-⟩:=hr h0;cases hb
  subst h0;have qT:=fun (w':World)=>Lib.run_eql_slice_nil (P:=Tryz.prog) w' 79 117 none 0 cap 0 0 Tryz.underlying79
  simp only[Option.isNone] at qT
  go_enter Tryz.func98, Tryz.ntmps98
  go_wp2;go_ret;exact⟨none,0,rfl,(St.start w).nilRow 117 3⟩
 | some ad =>
  have hS0:=((St.start w).alloc _ rfl #[] 117).boxrow 0 0 3 [] rfl rfl (Nat.zero_le _);have hRw:=hS0.row 0 rfl;have hX:=hx.below hS0.bel;replace hS0:=qh hS0;replace hRw:=qh hRw;have HhX:=qh hX;clear hX;have Hhx:=qh hx;clear hx;clear hr;have qT:=fun (w':World)=>Lib.run_eql_slice_nil (P:=Tryz.prog) w' 79 117 (some ad) xs.length cap 0 0 Tryz.underlying79
  simp only[Option.isNone] at qT
  go_enter Tryz.func98, Tryz.ntmps98
  go_wp2_with (at_builtin;refine Zal _ rfl _ _ _ rfl _ 117 j0 (.agg #[.int .i64 0,.int .i64 0,.int .i64 0]) 3 24 Tryz.underlying79 hj hy0 hy1 hy2 rfl (by omega) _ 0 _ rfl hRw.out _ xs.length (xs.flatMap Zac) rfl HhX.out ZpR (by unfold maxLen;omega) (by omega) hS0.out.size ?_;intro a6 c6 w6 hown6 hgrow6 hat6;have HS6:=qh (hS0.out.appS 0 rfl hown6 hgrow6 hat6);clear hown6 hgrow6 hat6);go_ret;have hq:St w w6 [Ent.row 117 3 (.slice a6 (0+xs.length) c6) (0+xs.length) (xs.flatMap Zac)]:=HS6.out;rw[Nat.zero_add] at hq;exact⟨a6,c6,rfl,hq⟩
theorem ZjN (n:NfaD) (m:Nat) (v1 v2 v3:Value) (w:World) (hm:n.states=(m:Int)) (hm40:m≤1000) (hml:n.moves.length≤1000) (hfl:n.firsts.length≤1000) (hel:n.ends.length≤1000) (h1:Moves 0 w v1 n.moves) (h2:Ints 0 w v2 n.firsts) (h3:Ints 0 w v3 n.ends) :
  Calls Tryz.prog 59 #[.agg #[.int .i64 n.states,v1,v2,v3]] w fun e w'=>RNfaS (ZhU n) w e w':=by
 have hcl:=fun (u:World) (hu:Below w.heap.size w u)=>ZgQ n.moves v1 u (by omega) (h1.below hu)
 obtain⟨av,cv,rfl,hc1,hm1,hr1⟩:=h1.form;obtain⟨af,cf,rfl,hc2,hm2,hr2⟩:=h2.form;obtain⟨ae,ce,rfl,hc3,hm3,hr3⟩:=h3.form;obtain⟨i0,hi,hz0,hz1,hz2⟩:=info_parts Tryz.infoMv;obtain⟨L1,hL1⟩:∃ L,L=n.moves.length:=⟨_,rfl⟩;obtain⟨L2,hL2⟩:∃ L,L=n.firsts.length:=⟨_,rfl⟩;obtain⟨L3,hL3⟩:∃ L,L=n.ends.length:=⟨_,rfl⟩;have hS0:=((St.start w).alloc _ rfl #[.int .i64 n.states,.slice av n.moves.length cv,.slice af n.firsts.length cf,.slice ae n.ends.length ce] 81).alloc (w.heap.size+1) (by simp) #[.int .i64 0,.slice none 0 0,.slice none 0 0,.slice none 0 0] 81;rw[hm,← hL1,← hL2,← hL3] at hS0;rw[hm,← hL1,← hL2,← hL3];rw[← hL1] at hml hc1 hcl;rw[← hL2] at hfl hc2 hr2;rw[← hL3] at hel hc3 hr3;have hS1:=hS0.call (Below.refl _ _);have HS0:Hid (St w _ [Ent.box w.heap.size #[.int .i64 (m:Int),.slice av L1 cv,.slice af L2 cf,.slice ae L3 ce] 81,Ent.box (w.heap.size+1) #[.int .i64 0,.slice none 0 0,.slice none 0 0,.slice none 0 0] 81,Ent.nil,Ent.nil,Ent.nil,Ent.nil]):=qh (hS1.pick [0,1,2,3,4,5] (by decide));have Hcl:=qh hcl;have Hr2:=qh hr2;have Hr3:=qh hr3;replace hL1:=qh hL1;have HhL2:=qh hL2;clear hL2;have HhL3:=qh hL3;clear hL3;have Hhm:=qh hm;clear hm;have Hhi:=qh hi;clear hi;have Hhz0:=qh hz0;clear hz0;have Hhz1:=qh hz1;clear hz1;have Hhz2:=qh hz2;clear hz2;clear h1 h2 h3 hr1 hr2 hr3 hcl hS0 hS1
 go_enter Tryz.func59, Tryz.ntmps59
 go_wp2_with fail;refine wp_region_any (by kernel_rfl) ?_
 refine Zar (fun A listed a w'=>∃ (l0 l1 l2 l3 l4 l5 l6 l7 l8 l9 l10 l11 l12 l13 l14:Bool) (am:Option Addr) (cm:Nat) (b5:Nat) (b6:Nat) (bo:Nat),listed=#[l0,l1,l2,l3,l4,l5,l6,l7,l8,l9,l10,l11,l12,l13,l14]∧(l12=true→l2=true∧l5=true∧l8=true∧l11=true)∧(l14=true→l13=true∧l12=true) ∧
   a=⟨((((((((((((((A.tmps.setIfInBounds 8 (if l0=true then .pointer (some ⟨w.heap.size,0,none⟩) else A.tmps.getD 8 undef)).setIfInBounds 9 (if l1=true then .int .i64 (m:Int) else A.tmps.getD 9 undef)).setIfInBounds 10 (if l2=true then .int .i64 ((m:Int)+1) else A.tmps.getD 10 undef)).setIfInBounds 11 (if l3=true then .pointer (some ⟨w.heap.size,1,none⟩) else A.tmps.getD 11 undef)).setIfInBounds 12 (if l4=true then .slice av L1 cv else A.tmps.getD 12 undef)).setIfInBounds 13 (if l5=true then .slice am L1 cm else A.tmps.getD 13 undef)).setIfInBounds 14 (if l6=true then .pointer (some ⟨w.heap.size,0,none⟩) else A.tmps.getD 14 undef)).setIfInBounds 15 (if l7=true then .int .i64 (m:Int) else A.tmps.getD 15 undef)).setIfInBounds 16 (if l8=true then .slice (some ⟨b5,0,none⟩) 1 1 else A.tmps.getD 16 undef)).setIfInBounds 17 (if l9=true then .pointer (some ⟨w.heap.size,0,none⟩) else A.tmps.getD 17 undef)).setIfInBounds 18 (if l10=true then .int .i64 (m:Int) else A.tmps.getD 18 undef)).setIfInBounds 19 (if l11=true then .slice (some ⟨b6,0,none⟩) 1 1 else A.tmps.getD 19 undef)).setIfInBounds 20 (if l12=true then .agg #[.int .i64 ((m:Int)+1),.slice am L1 cm,.slice (some ⟨b5,0,none⟩) 1 1,.slice (some ⟨b6,0,none⟩) 1 1] else A.tmps.getD 20 undef)).setIfInBounds 3 (if l13=true then .pointer (some ⟨bo,0,none⟩) else A.tmps.getD 3 undef)),A.defers⟩ ∧
   St w w' [Ent.box w.heap.size #[.int .i64 (m:Int),.slice av L1 cv,.slice af L2 cf,.slice ae L3 ce] 81,Ent.box (w.heap.size+1) #[.int .i64 0,.slice none 0 0,.slice none 0 0,.slice none 0 0] 81,(if l13=true then Ent.box bo #[(if l14=true then .int .i64 ((m:Int)+1) else .int .i64 0),(if l14=true then .slice am L1 cm else .slice none 0 0),(if l14=true then .slice (some ⟨b5,0,none⟩) 1 1 else .slice none 0 0),(if l14=true then .slice (some ⟨b6,0,none⟩) 1 1 else .slice none 0 0)] 81 else Ent.nil),(if l5=true then Ent.row 117 3 (.slice am L1 cm) L1 (n.moves.flatMap Zac) else Ent.nil),(if l8=true then Ent.row 3 1 (.slice (some ⟨b5,0,none⟩) 1 1) 1 [.int .i64 (m:Int)] else Ent.nil),(if l11=true then Ent.row 3 1 (.slice (some ⟨b6,0,none⟩) 1 1) 1 [.int .i64 (m:Int)] else Ent.nil)]) ?_ ?_ ?_
 ·rintro listed a w' ⟨l0,l1,l2,l3,l4,l5,l6,l7,l8,l9,l10,l11,l12,l13,l14,am,cm,b5,b6,bo,rfl,hd12,hd14,rfl,hS⟩ i hi;obtain⟨hun,o,ho,hall⟩:=mem_ready.1 hi;have hlt:=(Array.getElem?_eq_some_iff.1 ho).1;refine wpOp_step ho (fun K hK => ?_);clear hi;have HS:=qh hS;clear hS;simp only[w_1,w_2,w_3,w_4,w_5,w_6,w_7,w_8];obtain h|h|h|h|h|h|h|h|h|h|h|h|h|h|h:i=0∨i=1∨i=2∨i=3∨i=4∨i=5∨i=6∨i=7∨i=8∨i=9∨i=10∨i=11∨i=12∨i=13∨i=14:=by simp at hlt;omega
  all_goals subst h
  all_goals simp only[w_5,w_6,w_7,w_9] at ho
  all_goals subst ho
  all_goals simp[Region.binds] at hun hall
  ·subst hun;go_simp;exact hK _ _ ⟨_,_,_,_,_,_,_,_,_,_,_,_,_,_,_,am,cm,b5,b6,bo,rfl,hd12,hd14,(by simp),HS.out⟩
  ·obtain rfl:=hall;subst hun;have e0:=HS.out.cell (v:=.int .i64 (m:Int)) 0 0 rfl rfl;go_simp;exact hK _ _ ⟨_,_,_,_,_,_,_,_,_,_,_,_,_,_,_,am,cm,b5,b6,bo,rfl,hd12,hd14,(by simp),HS.out⟩
  ·obtain rfl:=hall;subst hun;obtain rfl:l12=false:=by cases l12 with|false=>rfl|true=>simpa using hd12 rfl
   obtain rfl:l14=false:=offR hd14 rfl;have hw:IntKind.i64.wrap ((m:Int)+1)=(m:Int)+1:=IntWalk.i64_in _ (by omega);go_simp;exact hK _ _ ⟨_,_,_,_,_,_,_,_,_,_,_,_,_,_,_,am,cm,b5,b6,bo,rfl,by simp,by simp,(by simp),HS.out⟩
  ·subst hun;go_simp;exact hK _ _ ⟨_,_,_,_,_,_,_,_,_,_,_,_,_,_,_,am,cm,b5,b6,bo,rfl,hd12,hd14,(by simp),HS.out⟩
  ·obtain rfl:=hall;subst hun;have e1:=HS.out.cell (v:=.slice av L1 cv) 0 1 rfl rfl;go_simp;exact hK _ _ ⟨_,_,_,_,_,_,_,_,_,_,_,_,_,_,_,am,cm,b5,b6,bo,rfl,hd12,hd14,(by simp),HS.out⟩
  ·obtain rfl:=hall;subst hun;obtain rfl:l12=false:=by cases l12 with|false=>rfl|true=>simpa using hd12 rfl
   obtain rfl:l14=false:=offR hd14 rfl;go_simp
   go_at_call 98
   refine(Hcl.out _ HS.out.bel).mono ?_;rintro e u1 ⟨x1,d1,rfl,hb⟩;have hS2:=(HS.out.cat hb).pick [0,1,2,6,4,5] (by decide);have HhS2:=qh hS2;clear hS2;go_simp;exact hK _ _ ⟨_,_,_,_,_,_,_,_,_,_,_,_,_,_,_,x1,d1,b5,b6,bo,rfl,by simp,by simp,(by simp),HhS2.out⟩
  ·subst hun;go_simp;exact hK _ _ ⟨_,_,_,_,_,_,_,_,_,_,_,_,_,_,_,am,cm,b5,b6,bo,rfl,hd12,hd14,(by simp),HS.out⟩
  ·obtain rfl:=hall;subst hun;have e0:=HS.out.cell (v:=.int .i64 (m:Int)) 0 0 rfl rfl;go_simp;exact hK _ _ ⟨_,_,_,_,_,_,_,_,_,_,_,_,_,_,_,am,cm,b5,b6,bo,rfl,hd12,hd14,(by simp),HS.out⟩
  ·obtain rfl:=hall;subst hun;obtain rfl:l12=false:=by cases l12 with|false=>rfl|true=>simpa using hd12 rfl
   obtain rfl:l14=false:=offR hd14 rfl;have hS2:=((HS.out.alloc _ rfl #[.int .i64 (m:Int)] 3).boxrow 6 1 1 [.int .i64 (m:Int)] rfl rfl (by decide)).pick [0,1,2,3,6,5] (by decide);have HhS2:=qh hS2;clear hS2;go_simp;exact hK _ _ ⟨_,_,_,_,_,_,_,_,_,_,_,_,_,_,_,am,cm,w'.heap.size,b6,bo,rfl,by simp,by simp,(by simp),HhS2.out⟩
  ·subst hun;go_simp;exact hK _ _ ⟨_,_,_,_,_,_,_,_,_,_,_,_,_,_,_,am,cm,b5,b6,bo,rfl,hd12,hd14,(by simp),HS.out⟩
  ·obtain rfl:=hall;subst hun;have e0:=HS.out.cell (v:=.int .i64 (m:Int)) 0 0 rfl rfl;go_simp;exact hK _ _ ⟨_,_,_,_,_,_,_,_,_,_,_,_,_,_,_,am,cm,b5,b6,bo,rfl,hd12,hd14,(by simp),HS.out⟩
  ·obtain rfl:=hall;subst hun;obtain rfl:l12=false:=by cases l12 with|false=>rfl|true=>simpa using hd12 rfl
   obtain rfl:l14=false:=offR hd14 rfl;have hS2:=((HS.out.alloc _ rfl #[.int .i64 (m:Int)] 3).boxrow 6 1 1 [.int .i64 (m:Int)] rfl rfl (by decide)).pick [0,1,2,3,4,6] (by decide);have HhS2:=qh hS2;clear hS2;go_simp;exact hK _ _ ⟨_,_,_,_,_,_,_,_,_,_,_,_,_,_,_,am,cm,b5,w'.heap.size,bo,rfl,by simp,by simp,(by simp),HhS2.out⟩
  ·obtain⟨rfl,rfl,rfl,rfl⟩:=hall;subst hun;obtain rfl:l14=false:=offR hd14 rfl;go_simp;exact hK _ _ ⟨_,_,_,_,_,_,_,_,_,_,_,_,_,_,_,am,cm,b5,b6,bo,rfl,by simp,by simp,(by simp),HS.out⟩
  ·subst hun;obtain rfl:l14=false:=offL hd14 rfl;have hS2:=(HS.out.alloc _ rfl #[.int .i64 0,.slice none 0 0,.slice none 0 0,.slice none 0 0] 81).pick [0,1,6,3,4,5] (by decide);have HhS2:=qh hS2;clear hS2;go_simp;exact hK _ _ ⟨_,_,_,_,_,_,_,_,_,_,_,_,_,_,_,am,cm,b5,b6,w'.heap.size,rfl,hd12,by simp,(by simp),HhS2.out⟩
  obtain⟨rfl,rfl,rfl,rfl,rfl,rfl,rfl,rfl,-,rfl,rfl,rfl,rfl,rfl,rfl,-,-⟩:=hall;subst hun;have f0:=HS.out.fr 2 0 rfl;have k0:=HS.out.cell (v:=.int .i64 0) 2 0 rfl rfl;have f1:=HS.out.fr 2 1 rfl;have k1:=HS.out.cell (v:=.slice none 0 0) 2 1 rfl rfl;have f2:=HS.out.fr 2 2 rfl;have k2:=HS.out.cell (v:=.slice none 0 0) 2 2 rfl rfl;have f3:=HS.out.fr 2 3 rfl;have k3:=HS.out.cell (v:=.slice none 0 0) 2 3 rfl rfl;go_simp;exact hK _ _ ⟨_,_,_,_,_,_,_,_,_,_,_,_,_,_,_,am,cm,b5,b6,bo,rfl,by simp,by simp,(by simp only[↓reduceIte,w_1,w_2,w_3]),((((HS.out.set 2 rfl 0 (.int .i64 ((m:Int)+1))).set 2 rfl 1 (.slice am L1 cm)).set 2 rfl 2 (.slice (some ⟨b5,0,none⟩) 1 1)).set 2 rfl 3 (.slice (some ⟨b6,0,none⟩) 1 1))⟩
 ·rintro listed a w' ⟨l0,l1,l2,l3,l4,l5,l6,l7,l8,l9,l10,l11,l12,l13,l14,am,cm,b5,b6,bo,rfl,hd12,hd14,rfl,hS⟩ hr;obtain⟨rfl,rfl,rfl,rfl,rfl,rfl,rfl,rfl,rfl,rfl,rfl,rfl,rfl,rfl,rfl,-⟩:=zA (ZaK (by kernel_rfl) rfl hr) rfl;clear hr hd12 hd14;simp only[↓reduceIte] at hS ⊢;simp only[w_1,w_2,w_3];have HS1:=qh (hS.pick [0,1,2,3,4,5] (by decide));clear hS;have e9:=HS1.out.cell (v:=.slice af L2 cf) 0 2 rfl rfl;go_wp2
  go_loopw [24] (fun i wr=>∃ (k:Nat) (a1:Option Addr) (c1:Nat),i = .int .i64 k∧k≤L2∧St w wr [Ent.box w.heap.size #[.int .i64 (m:Int),.slice av L1 cv,.slice af L2 cf,.slice ae L3 ce] 81,Ent.box (w.heap.size+1) #[.int .i64 0,.slice none 0 0,.slice none 0 0,.slice none 0 0] 81,Ent.box bo #[.int .i64 ((m:Int)+1),.slice a1 (L1+k) c1,.slice (some ⟨b5,0,none⟩) 1 1,.slice (some ⟨b6,0,none⟩) 1 1] 81,Ent.row 117 3 (.slice a1 (L1+k) c1) (L1+k) ((n.moves++(n.firsts.take k).map fun t=>((m:Int),(-1:Int),t)).flatMap Zac),Ent.row 3 1 (.slice (some ⟨b5,0,none⟩) 1 1) 1 [.int .i64 (m:Int)],Ent.row 3 1 (.slice (some ⟨b6,0,none⟩) 1 1) 1 [.int .i64 (m:Int)]]) (fun i _=>L2-(intOf i).toNat)
  case atStart =>refine⟨0,am,cm,rfl,Nat.zero_le _,?_⟩;have h:=HS1.out;rw[List.take_zero,List.map_nil,List.append_nil];exact h
  case round =>
   obtain⟨k,a1,c1,rfl,hk,hS⟩:=hrel;by_cases hlt:k<L2
   ·have hlt2:(k:Int)<L2:=by omega
    have hkn:k<n.firsts.length:=by have:=HhL2.out;omega
    obtain⟨b1,o1,rfl,-,hb1,hcs⟩:=Hr2.out (by omega);have m0:=hcs k hlt;have hsn:=ZbF (fun t=>((m:Int),(-1:Int),t)) (d:=0) hkn rfl;obtain⟨p0,hp⟩:∃ p,p=n.firsts.getD k 0:=⟨_,rfl⟩;rw[← hp] at m0 hsn;have m1:=(bcell hS.bel b1 _ hb1).trans m0;have e0:=hS.cell (v:=.int .i64 (m:Int)) 0 0 rfl rfl;have y0:=hS.cell (v:=.slice a1 (L1+k) c1) 2 1 rfl rfl;have hSa:=hS.alloc_ (.cells #[.int .i64 (m:Int),.int .i64 (-1),.int .i64 p0] 117);have HSa:=qh hSa;have HRa:=qh (hSa.row 3 rfl);have Hhp:=qh hp;clear hp;have Hhsn:=qh hsn;clear hsn;clear hS hSa hcs m0;go_wp2_with (at_builtin;refine wpList_append_lies _ rfl _ _ _ rfl _ 117 i0 (.agg #[.int .i64 0,.int .i64 0,.int .i64 0]) 3 24 Tryz.underlying79 Hhi.out Hhz0.out Hhz1.out Hhz2.out rfl (by omega) _ (L1+k) _ rfl HRa.out ⟨wr.heap.size,0,none⟩ 1 1 [.int .i64 (m:Int),.int .i64 (-1),.int .i64 p0] rfl rfl (World.news_of_block (heap_alloc_new wr _)) ZdU (by omega) (by unfold maxLen;omega) (by omega) HSa.out.size _ rfl ?_;intro g6 c6 w6 hown6 hgrow6 hat6 hlt6;have HS6:=qh (HSa.out.app 3 rfl hown6 hgrow6 hat6);have y1:=HS6.out.cell (v:=.slice a1 (L1+k) c1) 2 1 rfl rfl;have y2:=HS6.out.fr 2 1 rfl;clear hown6 hgrow6 hat6 hlt6);go_roundw
    case rel =>refine⟨k+1,some ⟨g6,0,none⟩,c6,by go_num,by omega,?_⟩;rw[Hhsn.out,← List.append_assoc,List.flatMap_append (xs:=_++_)];exact HS6.out.set 2 rfl 1 (.slice (some ⟨g6,0,none⟩) (L1+k+1) c6)
    case measure=>simp[intOf];omega
   obtain rfl:L2=k:=by omega
   rw[show(n.firsts.take L2)=n.firsts from List.take_of_length_le (by have:=HhL2.out;omega)] at hS;have HSe:=qh hS;clear hS;have e9:=HSe.out.cell (v:=.slice ae L3 ce) 0 3 rfl rfl;have HSe1:=HSe;clear HSe;go_wp2
   go_loopw [41] (fun i wr=>∃ (k:Nat) (a1:Option Addr) (c1:Nat),i = .int .i64 k∧k≤L3∧St w wr [Ent.box w.heap.size #[.int .i64 (m:Int),.slice av L1 cv,.slice af L2 cf,.slice ae L3 ce] 81,Ent.box (w.heap.size+1) #[.int .i64 0,.slice none 0 0,.slice none 0 0,.slice none 0 0] 81,Ent.box bo #[.int .i64 ((m:Int)+1),.slice a1 (L1+L2+k) c1,.slice (some ⟨b5,0,none⟩) 1 1,.slice (some ⟨b6,0,none⟩) 1 1] 81,Ent.row 117 3 (.slice a1 (L1+L2+k) c1) (L1+L2+k) ((n.moves++(n.firsts.map fun t=>((m:Int),(-1:Int),t))++(n.ends.take k).map fun s=>(s,(-1:Int),(m:Int))).flatMap Zac),Ent.row 3 1 (.slice (some ⟨b5,0,none⟩) 1 1) 1 [.int .i64 (m:Int)],Ent.row 3 1 (.slice (some ⟨b6,0,none⟩) 1 1) 1 [.int .i64 (m:Int)]]) (fun i _=>L3-(intOf i).toNat)
   case atStart =>refine⟨0,a1,c1,rfl,Nat.zero_le _,?_⟩;have h:=HSe1.out;rw[List.take_zero,List.map_nil,List.append_nil];exact h
   case round =>
    obtain⟨k,a1,c1,rfl,hk,hS⟩:=hrel;by_cases hlt:k<L3
    ·have hlt2:(k:Int)<L3:=by omega
     have hkn:k<n.ends.length:=by have:=HhL3.out;omega
     obtain⟨b1,o1,rfl,-,hb1,hcs⟩:=Hr3.out (by omega);have m0:=hcs k hlt;have hsn:=ZbF (fun s=>(s,(-1:Int),(m:Int))) (d:=0) hkn rfl;obtain⟨p0,hp⟩:∃ p,p=n.ends.getD k 0:=⟨_,rfl⟩;rw[← hp] at m0 hsn;have m1:=(bcell hS.bel b1 _ hb1).trans m0;have e0:=hS.cell (v:=.int .i64 (m:Int)) 0 0 rfl rfl;have y0:=hS.cell (v:=.slice a1 (L1+L2+k) c1) 2 1 rfl rfl;have hSa:=hS.alloc_ (.cells #[.int .i64 p0,.int .i64 (-1),.int .i64 (m:Int)] 117);have HSa:=qh hSa;have HRa:=qh (hSa.row 3 rfl);have Hhp:=qh hp;clear hp;have Hhsn:=qh hsn;clear hsn;clear hS hSa hcs m0;go_wp2_with (at_builtin;refine wpList_append_lies _ rfl _ _ _ rfl _ 117 i0 (.agg #[.int .i64 0,.int .i64 0,.int .i64 0]) 3 24 Tryz.underlying79 Hhi.out Hhz0.out Hhz1.out Hhz2.out rfl (by omega) _ (L1+L2+k) _ rfl HRa.out ⟨wr.heap.size,0,none⟩ 1 1 [.int .i64 p0,.int .i64 (-1),.int .i64 (m:Int)] rfl rfl (World.news_of_block (heap_alloc_new wr _)) ZdU (by omega) (by unfold maxLen;omega) (by omega) HSa.out.size _ rfl ?_;intro g6 c6 w6 hown6 hgrow6 hat6 hlt6;have HS6:=qh (HSa.out.app 3 rfl hown6 hgrow6 hat6);have y1:=HS6.out.cell (v:=.slice a1 (L1+L2+k) c1) 2 1 rfl rfl;have y2:=HS6.out.fr 2 1 rfl;clear hown6 hgrow6 hat6 hlt6);go_roundw
     case rel =>refine⟨k+1,some ⟨g6,0,none⟩,c6,by go_num,by omega,?_⟩;rw[Hhsn.out,← List.append_assoc,List.flatMap_append (xs:=_++_)];exact HS6.out.set 2 rfl 1 (.slice (some ⟨g6,0,none⟩) (L1+L2+k+1) c6)
     case measure=>simp[intOf];omega
    obtain rfl:L3=k:=by omega
    rw[show(n.ends.take L3)=n.ends from List.take_of_length_le (by have:=HhL3.out;omega)] at hS;have HSe:=qh hS;clear hS;have e0:=HSe.out.cell (v:=.int .i64 ((m:Int)+1)) 2 0 rfl rfl;have e1:=HSe.out.cell (v:=.slice a1 (L1+L2+L3) c1) 2 1 rfl rfl;have e2:=HSe.out.cell (v:=.slice (some ⟨b5,0,none⟩) 1 1) 2 2 rfl rfl;have e3:=HSe.out.cell (v:=.slice (some ⟨b6,0,none⟩) 1 1) 2 3 rfl rfl;have f0:=HSe.out.fr 1 0 rfl;have k0:=HSe.out.cell (v:=.int .i64 0) 1 0 rfl rfl;have f1:=HSe.out.fr 1 1 rfl;have k1:=HSe.out.cell (v:=.slice none 0 0) 1 1 rfl rfl;have f2:=HSe.out.fr 1 2 rfl;have k2:=HSe.out.cell (v:=.slice none 0 0) 1 2 rfl rfl;have f3:=HSe.out.fr 1 3 rfl;have k3:=HSe.out.cell (v:=.slice none 0 0) 1 3 rfl rfl;have HSr:=qh ((((HSe.out.set 1 rfl 0 (.int .i64 ((m:Int)+1))).set 1 rfl 1 (.slice a1 (L1+L2+L3) c1)).set 1 rfl 2 (.slice (some ⟨b5,0,none⟩) 1 1)).set 1 rfl 3 (.slice (some ⟨b6,0,none⟩) 1 1));have q0:=HSr.out.cell (v:=.int .i64 ((m:Int)+1)) 1 0 rfl rfl;have q1:=HSr.out.cell (v:=.slice a1 (L1+L2+L3) c1) 1 1 rfl rfl;have q2:=HSr.out.cell (v:=.slice (some ⟨b5,0,none⟩) 1 1) 1 2 rfl rfl;have q3:=HSr.out.cell (v:=.slice (some ⟨b6,0,none⟩) 1 1) 1 3 rfl rfl;go_wp2;refine bodyPost_ret (v:=.agg #[.int .i64 ((m:Int)+1),.slice a1 (L1+L2+L3) c1,.slice (some ⟨b5,0,none⟩) 1 1,.slice (some ⟨b6,0,none⟩) 1 1]) (by simp[results,Tryz.results59,go_sem,q0,q1,q2,q3]) rfl ?_;have hNm:n.moves.length+n.firsts.length+n.ends.length=L1+L2+L3:=by rw[hL1.out,HhL2.out,HhL3.out]
    have hst:ZhU n=⟨(m:Int)+1,n.moves++(n.firsts.map fun t=>((m:Int),-1,t))++(n.ends.map fun s=>(s,-1,(m:Int))),[(m:Int)],[(m:Int)]⟩:=by unfold ZhU;rw[Hhm.out]
    rw[hst];refine⟨a1,c1,some ⟨b5,0,none⟩,1,some ⟨b6,0,none⟩,1,?_,?_⟩
    ·simp only[List.length_append,List.length_map,hNm];rfl
    simp only[List.length_append,List.length_map,hNm];exact HSr.out.pick [3,4,5] (by decide)
 refine⟨false,false,false,false,false,false,false,false,false,false,false,false,false,false,false,none,0,0,0,0,rfl,by simp,by simp,(by simp),?_⟩;exact HS0.out.drew.pick [0,1,2,3,4,5] (by decide)
theorem ZgG (w:World) (o o2:Obj):((w.alloc o).alloc o2).heap[w.heap.size+1]? = some o2:=by have:=heap_alloc_new (w.alloc o) o2;simpa only [World.size_alloc] using this
theorem ZjO (xs:List Int) (v:Value) (d:Int) (w:World) (hl:xs.length≤1000) (hx:∀ x∈xs,-1000≤x∧x≤1000) (hd:-1000≤d∧d≤1000) (h:Ints 0 w v xs) :
  Calls Tryz.prog 137 #[v,.int .i64 d] w fun e w'=>∃ a c,e = .returned (.slice a xs.length c)∧St w w' [Ent.row 3 1 (.slice a xs.length c) xs.length (intCells (xs.map (·+d)))]:=by
 obtain⟨a0,c0,rfl,hc1,hc2,hr⟩:=h.form;obtain⟨j0,hj,hy0,hy1,hy2⟩:=info_parts Tryz.infoInt;obtain⟨L,hL⟩:=eI (xs.length);have hS0:=(St.start w).nilRow 3 1;rw[← hL] at hl hc1 hr;rw[← hL];obtain⟨hd0,hd1⟩:=hd;have Hr:=qh hr;replace hS0:=qh hS0;replace hL:=qh hL;have Hhx:=qh hx;clear hx;have Hhj:=qh hj;clear hj;have Hhy0:=qh hy0;clear hy0;have Hhy1:=qh hy1;clear hy1;have Hhy2:=qh hy2;clear hy2;clear hr h
 go_enter Tryz.func137, Tryz.ntmps137
 go_wp2
 go_loopw [5,10] (fun vo i wr=>∃ (k:Nat) (a:Option Addr) (c:Nat),i = .int .i64 k∧vo = .slice a k c∧k≤L∧St w wr [Ent.row 3 1 (.slice a k c) k (intCells ((xs.take k).map (·+d)))])
  (fun _ i _=>L-(intOf i).toNat)
 case atStart=>exact⟨0,none,0,rfl,rfl,Nat.zero_le _,hS0.out⟩
 case round =>
  obtain⟨k,a,c,rfl,rfl,hk,hS⟩:=hrel;by_cases hlt:k<L
  ·have hlt2:(k:Int)<L:=by omega
   have hkn:k<xs.length:=by have:=hL.out;omega
   obtain⟨b1,o1,rfl,-,hb1,hcs⟩:=Hr.out (by omega);have m0:=hcs k hlt;have hsn:=ZbF (·+d) (d:=0) hkn rfl;have hxx:=Hhx.out _ (memD (d:=0) hkn);obtain⟨p0,hp⟩:∃ p,p=xs.getD k 0:=⟨_,rfl⟩;rw[← hp] at m0 hsn hxx;obtain⟨hp0,hp1⟩:=hxx;have m1:=(bcell hS.bel b1 _ hb1).trans m0;have hw:IntKind.i64.wrap (p0+d)=p0+d:=IntWalk.i64_in _ (by omega);have hSa:=hS.alloc_ (.cells #[.int .i64 (p0+d)] 3);have HSa:=qh hSa;have HRa:=qh (hSa.row 0 rfl);have Hhp:=qh hp;clear hp;have Hhsn:=qh hsn;clear hsn;clear hS hSa hcs m0;go_wp2_with (at_builtin;refine wpList_append_lies _ rfl _ _ _ rfl _ 3 j0 (.int .i64 0) 1 8 Tryz.underlying38 Hhj.out Hhy0.out Hhy1.out Hhy2.out rfl (by omega) _ k _ rfl HRa.out ⟨wr.heap.size,0,none⟩ 1 1 [.int .i64 (p0+d)] rfl rfl (World.news_of_block (heap_alloc_new wr _)) ZbB (by omega) (by unfold maxLen;omega) (by omega) HSa.out.size _ rfl ?_;intro g6 c6 w6 hown6 hgrow6 hat6 hlt6;have HS6:=qh (HSa.out.app 0 rfl hown6 hgrow6 hat6);clear hown6 hgrow6 hat6 hlt6);go_roundw
   case rel =>refine⟨k+1,some ⟨g6,0,none⟩,c6,by go_num,rfl,by omega,?_⟩;rw[Hhsn.out,Zav];exact HS6.out
   case measure=>simp[intOf];omega
  obtain rfl:L=k:=by omega
  rw[show xs.take L=xs from List.take_of_length_le (by have:=hL.out;omega)] at hS;have HSe:=qh hS;clear hS;go_wp2;go_ret;exact⟨a,c,rfl,HSe.out⟩
theorem Zfp (p q:NfaD) (S:Nat) (v1 v2 v3 u1 u2 u3:Value) (w:World) (hS40:p.states=(S:Int)) (hS1:S≤40) (hpl:p.moves.length≤1000) (hql:q.moves.length≤1000) (hqm:mvIn 40 q.moves) (hpm:Moves 0 w v1 p.moves) (hq:Moves 0 w u1 q.moves) :
  Calls Tryz.prog 135 #[.agg #[.int .i64 p.states,v1,v2,v3],.agg #[.int .i64 q.states,u1,u2,u3]] w fun e w'=>∃ a c,e = .returned (.slice a (p.moves.length+q.moves.length) c)∧St w w' [Ent.row 117 3 (.slice a (p.moves.length+q.moves.length) c) (p.moves.length+q.moves.length) ((p.moves++q.moves.map (shM p.states)).flatMap Zac)]:=by
 have hcl:=fun (u:World) (hu:Below w.heap.size w u)=>ZgQ p.moves v1 u (by omega) (hpm.below hu)
 obtain⟨av,cv,rfl,hc1,hc2,-⟩:=hpm.form;obtain⟨au,cu,rfl,hd1,hd2,hr⟩:=hq.form;obtain⟨i0,hi,hz0,hz1,hz2⟩:=info_parts Tryz.infoMv;obtain⟨L1,hL1⟩:∃ L,L=p.moves.length:=⟨_,rfl⟩;obtain⟨L2,hL2⟩:∃ L,L=q.moves.length:=⟨_,rfl⟩;obtain⟨Q,hQ⟩:=eI (q.states);have hS0:=((St.start w).alloc _ rfl #[.int .i64 p.states,.slice av p.moves.length cv,v2,v3] 81).alloc (w.heap.size+1) (by simp) #[.int .i64 q.states,.slice au q.moves.length cu,u2,u3] 81;rw[hS40,← hL1,← hL2,← hQ] at hS0;rw[hS40,← hL1,← hL2,← hQ];rw[← hL1] at hpl hc1 hcl;rw[← hL2] at hql hd1 hr;have e1:=hS0.cell (v:=.slice av L1 cv) 0 1 rfl rfl;have Hcl:=qh hcl;have Hr:=qh hr;replace hS0:=qh hS0;replace hL1:=qh hL1;have HhL2:=qh hL2;clear hL2;have HhS40:=qh hS40;clear hS40;have Hhqm:=qh hqm;clear hqm;have HhQ:=qh hQ;clear hQ;have Hhi:=qh hi;clear hi;have Hhz0:=qh hz0;clear hz0;have Hhz1:=qh hz1;clear hz1;have Hhz2:=qh hz2;clear hz2;clear hcl hr hpm hq
 go_enter Tryz.func135, Tryz.ntmps135
 go_wp2_with fail;refine(Hcl.out _ hS0.out.bel).mono ?_;rintro e w1 ⟨am,cm,rfl,hS'⟩;have HS1:=qh (hS0.out.cat hS');clear hS' e1;have e2:=HS1.out.cell (v:=.slice au L2 cu) 1 1 rfl rfl;go_wp2
 go_loopw [5,14] (fun vo i wr=>∃ (k:Nat) (a:Option Addr) (c:Nat),i = .int .i64 k∧vo = .slice a (L1+k) c∧k≤L2∧St w wr [Ent.box w.heap.size #[.int .i64 (S:Int),.slice av L1 cv,v2,v3] 81,Ent.box (w.heap.size+1) #[.int .i64 Q,.slice au L2 cu,u2,u3] 81,Ent.row 117 3 (.slice a (L1+k) c) (L1+k) ((p.moves++(q.moves.take k).map (shM (S:Int))).flatMap Zac)])
  (fun _ i _=>L2-(intOf i).toNat)
 case atStart =>refine⟨0,am,cm,rfl,rfl,Nat.zero_le _,?_⟩;rw[List.take_zero,List.map_nil,List.append_nil];exact HS1.out
 case round =>
  obtain⟨k,a,c,rfl,rfl,hk,hS⟩:=hrel;clear e2;by_cases hlt:k<L2
  ·have hlt2:(k:Int)<L2:=by omega
   have hkn:k<q.moves.length:=by have:=HhL2.out;omega
   obtain⟨b1,o1,rfl,-,hb1,hcs⟩:=Hr.out (by omega);obtain⟨p1,p2,p3⟩:=hcs k hlt;have hsn:=ZbF (shM (S:Int)) (d:=(0,0,0)) hkn rfl;have hxx:=Hhqm.out _ (memD (d:=(0,0,0)) hkn);obtain⟨mm,hmm⟩:=eI (q.moves.getD k (0,0,0));rw[← hmm] at p1 p2 p3 hsn hxx;obtain⟨f,l,t⟩:=mm;simp only at p1 p2 p3 hxx;obtain⟨⟨hf0,hf1⟩,ht0,ht1⟩:=hxx;have m1:=(bcell hS.bel b1 _ hb1).trans p1;have m2:=(bcell hS.bel b1 _ hb1).trans p2;have m3:=(bcell hS.bel b1 _ hb1).trans p3;have hw1:IntKind.i64.wrap (f+(S:Int))=f+(S:Int):=IntWalk.i64_in _ (by omega);have hw2:IntKind.i64.wrap (t+(S:Int))=t+(S:Int):=IntWalk.i64_in _ (by omega);have hSb:=hS.alloc _ rfl #[.int .i64 f,.int .i64 l,.int .i64 t] 117;have e0:=hSb.cell (v:=.int .i64 (S:Int)) 0 0 rfl rfl;have g0:=hSb.cell (v:=.int .i64 f) 3 0 rfl rfl;have g1:=hSb.cell (v:=.int .i64 l) 3 1 rfl rfl;have g2:=hSb.cell (v:=.int .i64 t) 3 2 rfl rfl;have hSa:=hSb.alloc_ (.cells #[.int .i64 (f+(S:Int)),.int .i64 l,.int .i64 (t+(S:Int))] 117);have HSa:=qh hSa;have HRa:=qh (hSa.row 2 rfl);have HHb:=qh (ZgG wr (.cells #[.int .i64 f,.int .i64 l,.int .i64 t] 117) (.cells #[.int .i64 (f+(S:Int)),.int .i64 l,.int .i64 (t+(S:Int))] 117));have HSb:=qh hSb;have Hhmm:=qh hmm;clear hmm;have Hhsn:=qh hsn;clear hsn;clear hS hSa hSb hcs p1 p2 p3
   go_wp2_with (at_builtin;refine wpList_append_lies _ rfl _ _ _ rfl _ 117 i0 (.agg #[.int .i64 0,.int .i64 0,.int .i64 0]) 3 24 Tryz.underlying79 Hhi.out Hhz0.out Hhz1.out Hhz2.out rfl (by omega) _ (L1+k) _ rfl HRa.out ⟨wr.heap.size+1,0,none⟩ 1 1 [.int .i64 (f+(S:Int)),.int .i64 l,.int .i64 (t+(S:Int))] rfl rfl (World.news_of_block HHb.out) ZdU (by omega) (by unfold maxLen;omega) (by omega) HSa.out.size _ rfl ?_;intro g6 c6 w6 hown6 hgrow6 hat6 hlt6;have HS6:=qh (HSa.out.app 2 rfl hown6 hgrow6 hat6);clear hown6 hgrow6 hat6 hlt6);go_roundw
   case rel =>refine⟨k+1,some ⟨g6,0,none⟩,c6,by go_num,rfl,by omega,?_⟩;rw[Hhsn.out,← List.append_assoc,List.flatMap_append (xs:=_++_)];exact HS6.out.pick [0,1,2] (by decide)
   case measure=>simp[intOf];omega
  obtain rfl:L2=k:=by omega
  rw[show q.moves.take L2=q.moves from List.take_of_length_le (by have:=HhL2.out;omega)] at hS;have HSe:=qh hS;clear hS;go_wp2;go_ret;exact⟨a,c,rfl,HSe.out.pick [2] (by decide)⟩
def jm (p q:NfaD) (S k:Nat):List (Int × Int × Int):=(p.moves++q.moves.map (shM (S:Int)))++(p.ends.take k).flatMap fun s=>q.firsts.map fun t=>(s,(-1:Int),t+(S:Int))
theorem Zm5 {p q:NfaD} {S:Nat}:jm p q S 0=p.moves++q.moves.map (shM (S:Int)):=by simp[jm]
theorem Zpt {p q:NfaD} {S k:Nat} (hk:k<p.ends.length):jm p q S (k+1)=jm p q S k++q.firsts.map fun t=>(p.ends.getD k 0,(-1:Int),t+(S:Int)):=by unfold jm;rw[List.take_succ_eq_append_getElem hk,List.flatMap_append,← List.append_assoc];simp[hk]
theorem Zoz {p q:NfaD} {S Q:Nat} (hS:p.states=(S:Int)) (hQ:q.states=(Q:Int)):Zif p q=⟨(S:Int)+(Q:Int),jm p q S p.ends.length,p.firsts,q.ends.map (·+(S:Int))⟩:=by unfold Zif jm shN;rw[hS,hQ,List.take_length];simp only[List.map_map,NfaD.mk.injEq,and_true];refine⟨by omega,rfl⟩
theorem Zka (p q:NfaD) (v1 v2 v3 u1 u2 u3:Value) (w:World) (hp:Zlt p=true) (hq:Zlt q=true) (h1:Moves 0 w v1 p.moves) (h2:Ints 0 w v2 p.firsts) (h3:Ints 0 w v3 p.ends) (g1:Moves 0 w u1 q.moves) (g2:Ints 0 w u2 q.firsts) (g3:Ints 0 w u3 q.ends) :
  Calls Tryz.prog 100 #[.agg #[.int .i64 p.states,v1,v2,v3],.agg #[.int .i64 q.states,u1,u2,u3]] w fun e w'=>RNfaS (Zif p q) w e w':=by
 obtain⟨S,hSp,hS40,hpm,hpl,hpf,hpfl,hpe,hpel⟩:=Zd5 hp;obtain⟨Q,hQq,hQ40,hqm,hql,hqf,hqfl,hqe,hqel⟩:=Zd5 hq;have hsm:=fun (u:World) (hu:Below w.heap.size w u)=>Zfp p q S v1 v2 v3 u1 u2 u3 u hSp hS40 (by omega) (by omega) (Zpm hqm hQ40) (h1.below hu) (g1.below hu)
 have hcf:=fun (u:World) (hu:Below w.heap.size w u)=>Zny p.firsts v2 u (by omega) (h2.below hu)
 have hse:=fun (u:World) (hu:Below w.heap.size w u)=>ZjO q.ends u3 (S:Int) u (by omega) (fun x hx=>by have:=hqe x hx;omega) (by omega) (g3.below hu)
 obtain⟨pa1,pc1,rfl,-,-,-⟩:=h1.form;obtain⟨pa2,pc2,rfl,-,-,-⟩:=h2.form;obtain⟨pa3,pc3,rfl,-,-,hr3⟩:=h3.form;obtain⟨qa1,qc1,rfl,-,-,-⟩:=g1.form;obtain⟨qa2,qc2,rfl,-,-,hr2⟩:=g2.form;obtain⟨qa3,qc3,rfl,-,-,-⟩:=g3.form;obtain⟨i0,hi,hz0,hz1,hz2⟩:=info_parts Tryz.infoMv;obtain⟨L1,hL1⟩:∃ L,L=p.moves.length:=⟨_,rfl⟩;obtain⟨F1,hF1⟩:∃ L,L=p.firsts.length:=⟨_,rfl⟩;obtain⟨E1,hE1⟩:∃ L,L=p.ends.length:=⟨_,rfl⟩;obtain⟨L2,hL2⟩:∃ L,L=q.moves.length:=⟨_,rfl⟩;obtain⟨F2,hF2⟩:∃ L,L=q.firsts.length:=⟨_,rfl⟩;obtain⟨E2,hE2⟩:∃ L,L=q.ends.length:=⟨_,rfl⟩;have hS0:=(((St.start w).alloc _ rfl #[.int .i64 p.states,.slice pa1 p.moves.length pc1,.slice pa2 p.firsts.length pc2,.slice pa3 p.ends.length pc3] 81).alloc (w.heap.size+1) (by simp) #[.int .i64 q.states,.slice qa1 q.moves.length qc1,.slice qa2 q.firsts.length qc2,.slice qa3 q.ends.length qc3] 81).alloc (w.heap.size+1+1) (by simp) #[.int .i64 0,.slice none 0 0,.slice none 0 0,.slice none 0 0] 81;rw[hSp,hQq,← hL1,← hF1,← hE1,← hL2,← hF2,← hE2] at hS0;rw[hSp,hQq,← hL1,← hF1,← hE1,← hL2,← hF2,← hE2];rw[hSp,hQq,← hL1,← hF1,← hE1,← hL2,← hF2,← hE2] at hsm;rw[← hL1] at hpl;rw[← hF1] at hpfl hcf;rw[← hE1] at hpel hr3;rw[← hL2] at hql;rw[← hF2] at hqfl hr2;rw[← hE2] at hqel hse;have hS1:=hS0.call (Below.refl _ _)
 have HS0:Hid (St w _ [Ent.box w.heap.size #[.int .i64 (S:Int),.slice pa1 L1 pc1,.slice pa2 F1 pc2,.slice pa3 E1 pc3] 81,Ent.box (w.heap.size+1) #[.int .i64 (Q:Int),.slice qa1 L2 qc1,.slice qa2 F2 qc2,.slice qa3 E2 qc3] 81,Ent.box (w.heap.size+1+1) #[.int .i64 0,.slice none 0 0,.slice none 0 0,.slice none 0 0] 81,Ent.nil,Ent.nil,Ent.nil,Ent.nil]):=qh (hS1.pick [0,1,2,3,4,5,6] (by decide));have Hsm:=qh hsm;have Hcf:=qh hcf;have Hse:=qh hse;have Hr3:=qh hr3;have Hr2:=qh hr2;replace hL1:=qh hL1;replace hF1:=qh hF1;replace hE1:=qh hE1;have HhL2:=qh hL2;clear hL2;have HhF2:=qh hF2;clear hF2;have HhE2:=qh hE2;clear hE2;have HhSp:=qh hSp;clear hSp;have HhQq:=qh hQq;clear hQq;have Hhqf:=qh hqf;clear hqf;have Hhi:=qh hi;clear hi;have Hhz0:=qh hz0;clear hz0;have Hhz1:=qh hz1;clear hz1;have Hhz2:=qh hz2;clear hz2;clear h1 h2 h3 g1 g2 g3 hr3 hr2 hsm hcf hse hS0 hS1 hpm hpf hpe hqm hqe hp hq
 go_enter Tryz.func100, Tryz.ntmps100
 go_wp2_with fail;refine wp_region_any (by kernel_rfl) ?_
 refine Zar (fun A listed a w'=>∃ (l0 l1 l2 l3 l4 l5 l6 l7 l8 l9 l10 l11 l12 l13 l14 l15 l16 l17 l18:Bool) (am:Option Addr) (cm:Nat) (af:Option Addr) (cf:Nat) (ae:Option Addr) (ce:Nat) (bo:Nat),listed=#[l0,l1,l2,l3,l4,l5,l6,l7,l8,l9,l10,l11,l12,l13,l14,l15,l16,l17,l18]∧(l16=true→l4=true∧l7=true∧l10=true∧l15=true)∧(l18=true→l17=true∧l16=true) ∧
   a=⟨((((((((((((((((((A.tmps.setIfInBounds 10 (if l0=true then .pointer (some ⟨w.heap.size,0,none⟩) else A.tmps.getD 10 undef)).setIfInBounds 11 (if l1=true then .int .i64 (S:Int) else A.tmps.getD 11 undef)).setIfInBounds 12 (if l2=true then .pointer (some ⟨w.heap.size+1,0,none⟩) else A.tmps.getD 12 undef)).setIfInBounds 13 (if l3=true then .int .i64 (Q:Int) else A.tmps.getD 13 undef)).setIfInBounds 14 (if l4=true then .int .i64 ((S:Int)+(Q:Int)) else A.tmps.getD 14 undef)).setIfInBounds 15 (if l5=true then .agg #[.int .i64 (S:Int),.slice pa1 L1 pc1,.slice pa2 F1 pc2,.slice pa3 E1 pc3] else A.tmps.getD 15 undef)).setIfInBounds 16 (if l6=true then .agg #[.int .i64 (Q:Int),.slice qa1 L2 qc1,.slice qa2 F2 qc2,.slice qa3 E2 qc3] else A.tmps.getD 16 undef)).setIfInBounds 17 (if l7=true then .slice am (L1+L2) cm else A.tmps.getD 17 undef)).setIfInBounds 18 (if l8=true then .pointer (some ⟨w.heap.size,2,none⟩) else A.tmps.getD 18 undef)).setIfInBounds 19 (if l9=true then .slice pa2 F1 pc2 else A.tmps.getD 19 undef)).setIfInBounds 20 (if l10=true then .slice af F1 cf else A.tmps.getD 20 undef)).setIfInBounds 21 (if l11=true then .pointer (some ⟨w.heap.size+1,3,none⟩) else A.tmps.getD 21 undef)).setIfInBounds 22 (if l12=true then .slice qa3 E2 qc3 else A.tmps.getD 22 undef)).setIfInBounds 23 (if l13=true then .pointer (some ⟨w.heap.size,0,none⟩) else A.tmps.getD 23 undef)).setIfInBounds 24 (if l14=true then .int .i64 (S:Int) else A.tmps.getD 24 undef)).setIfInBounds 25 (if l15=true then .slice ae E2 ce else A.tmps.getD 25 undef)).setIfInBounds 26 (if l16=true then .agg #[.int .i64 ((S:Int)+(Q:Int)),.slice am (L1+L2) cm,.slice af F1 cf,.slice ae E2 ce] else A.tmps.getD 26 undef)).setIfInBounds 5 (if l17=true then .pointer (some ⟨bo,0,none⟩) else A.tmps.getD 5 undef)),A.defers⟩ ∧
   St w w' [Ent.box w.heap.size #[.int .i64 (S:Int),.slice pa1 L1 pc1,.slice pa2 F1 pc2,.slice pa3 E1 pc3] 81,Ent.box (w.heap.size+1) #[.int .i64 (Q:Int),.slice qa1 L2 qc1,.slice qa2 F2 qc2,.slice qa3 E2 qc3] 81,Ent.box (w.heap.size+1+1) #[.int .i64 0,.slice none 0 0,.slice none 0 0,.slice none 0 0] 81,(if l17=true then Ent.box bo #[(if l18=true then .int .i64 ((S:Int)+(Q:Int)) else .int .i64 0),(if l18=true then .slice am (L1+L2) cm else .slice none 0 0),(if l18=true then .slice af F1 cf else .slice none 0 0),(if l18=true then .slice ae E2 ce else .slice none 0 0)] 81 else Ent.nil),(if l7=true then Ent.row 117 3 (.slice am (L1+L2) cm) (L1+L2) ((p.moves++q.moves.map (shM (S:Int))).flatMap Zac) else Ent.nil),(if l10=true then Ent.row 3 1 (.slice af F1 cf) F1 (intCells p.firsts) else Ent.nil),(if l15=true then Ent.row 3 1 (.slice ae E2 ce) E2 (intCells (q.ends.map (·+(S:Int)))) else Ent.nil)]) ?_ ?_ ?_
 ·rintro listed a w' ⟨l0,l1,l2,l3,l4,l5,l6,l7,l8,l9,l10,l11,l12,l13,l14,l15,l16,l17,l18,am,cm,af,cf,ae,ce,bo,rfl,hd16,hd18,rfl,hS⟩ i hi;obtain⟨hun,o,ho,hall⟩:=mem_ready.1 hi;have hlt:=(Array.getElem?_eq_some_iff.1 ho).1;refine wpOp_step ho (fun K hK => ?_);clear hi;have HS:=qh hS;clear hS;simp only[w_1,w_2,w_3,w_4,w_5,w_6,w_7,w_8];obtain h|h|h|h|h|h|h|h|h|h|h|h|h|h|h|h|h|h|h:i=0∨i=1∨i=2∨i=3∨i=4∨i=5∨i=6∨i=7∨i=8∨i=9∨i=10∨i=11∨i=12∨i=13∨i=14∨i=15∨i=16∨i=17∨i=18:=by simp at hlt;omega
  all_goals subst h
  all_goals simp only[w_5,w_6,w_7,w_9] at ho
  all_goals subst ho
  all_goals simp[Region.binds] at hun hall
  ·subst hun;go_simp;exact hK _ _ ⟨_,_,_,_,_,_,_,_,_,_,_,_,_,_,_,_,_,_,_,am,cm,af,cf,ae,ce,bo,rfl,hd16,hd18,(by simp),HS.out⟩
  ·obtain rfl:=hall;subst hun;have e0:=HS.out.cell (v:=.int .i64 (S:Int)) 0 0 rfl rfl;go_simp;exact hK _ _ ⟨_,_,_,_,_,_,_,_,_,_,_,_,_,_,_,_,_,_,_,am,cm,af,cf,ae,ce,bo,rfl,hd16,hd18,(by simp),HS.out⟩
  ·subst hun;go_simp;exact hK _ _ ⟨_,_,_,_,_,_,_,_,_,_,_,_,_,_,_,_,_,_,_,am,cm,af,cf,ae,ce,bo,rfl,hd16,hd18,(by simp),HS.out⟩
  ·obtain rfl:=hall;subst hun;have e0:=HS.out.cell (v:=.int .i64 (Q:Int)) 1 0 rfl rfl;go_simp;exact hK _ _ ⟨_,_,_,_,_,_,_,_,_,_,_,_,_,_,_,_,_,_,_,am,cm,af,cf,ae,ce,bo,rfl,hd16,hd18,(by simp),HS.out⟩
  ·obtain⟨rfl,rfl⟩:=hall;subst hun;obtain rfl:l16=false:=by cases l16 with|false=>rfl|true=>simpa using hd16 rfl
   obtain rfl:l18=false:=offR hd18 rfl;have hw:IntKind.i64.wrap ((S:Int)+(Q:Int))=(S:Int)+(Q:Int):=IntWalk.i64_in _ (by omega);go_simp;exact hK _ _ ⟨_,_,_,_,_,_,_,_,_,_,_,_,_,_,_,_,_,_,_,am,cm,af,cf,ae,ce,bo,rfl,by simp,by simp,(by simp),HS.out⟩
  ·subst hun;have e0:=HS.out.cell (v:=.int .i64 (S:Int)) 0 0 rfl rfl;have e1:=HS.out.cell (v:=.slice pa1 L1 pc1) 0 1 rfl rfl;have e2:=HS.out.cell (v:=.slice pa2 F1 pc2) 0 2 rfl rfl;have e3:=HS.out.cell (v:=.slice pa3 E1 pc3) 0 3 rfl rfl;go_simp;exact hK _ _ ⟨_,_,_,_,_,_,_,_,_,_,_,_,_,_,_,_,_,_,_,am,cm,af,cf,ae,ce,bo,rfl,hd16,hd18,(by simp),HS.out⟩
  ·subst hun;have e0:=HS.out.cell (v:=.int .i64 (Q:Int)) 1 0 rfl rfl;have e1:=HS.out.cell (v:=.slice qa1 L2 qc1) 1 1 rfl rfl;have e2:=HS.out.cell (v:=.slice qa2 F2 qc2) 1 2 rfl rfl;have e3:=HS.out.cell (v:=.slice qa3 E2 qc3) 1 3 rfl rfl;go_simp;exact hK _ _ ⟨_,_,_,_,_,_,_,_,_,_,_,_,_,_,_,_,_,_,_,am,cm,af,cf,ae,ce,bo,rfl,hd16,hd18,(by simp),HS.out⟩
  ·obtain⟨rfl,rfl⟩:=hall;subst hun;obtain rfl:l16=false:=by cases l16 with|false=>rfl|true=>simpa using hd16 rfl
   obtain rfl:l18=false:=offR hd18 rfl;go_simp
   go_at_call 135
   refine(Hsm.out _ HS.out.bel).mono ?_;rintro e u1 ⟨x1,d1,rfl,hb⟩;have hS2:=(HS.out.cat hb).pick [0,1,2,3,7,5,6] (by decide);have HhS2:=qh hS2;clear hS2;go_simp;exact hK _ _ ⟨_,_,_,_,_,_,_,_,_,_,_,_,_,_,_,_,_,_,_,x1,d1,af,cf,ae,ce,bo,rfl,by simp,by simp,(by simp),HhS2.out⟩
  ·subst hun;go_simp;exact hK _ _ ⟨_,_,_,_,_,_,_,_,_,_,_,_,_,_,_,_,_,_,_,am,cm,af,cf,ae,ce,bo,rfl,hd16,hd18,(by simp),HS.out⟩
  ·obtain rfl:=hall;subst hun;have e0:=HS.out.cell (v:=.slice pa2 F1 pc2) 0 2 rfl rfl;go_simp;exact hK _ _ ⟨_,_,_,_,_,_,_,_,_,_,_,_,_,_,_,_,_,_,_,am,cm,af,cf,ae,ce,bo,rfl,hd16,hd18,(by simp),HS.out⟩
  ·obtain⟨rfl,rfl⟩:=hall;subst hun;obtain rfl:l16=false:=by cases l16 with|false=>rfl|true=>simpa using hd16 rfl
   obtain rfl:l18=false:=offR hd18 rfl;go_simp
   go_at_call 136
   refine(Hcf.out _ HS.out.bel).mono ?_;rintro e u1 ⟨x1,d1,rfl,hb⟩;have hS2:=(HS.out.cat hb).pick [0,1,2,3,4,7,6] (by decide);have HhS2:=qh hS2;clear hS2;go_simp;exact hK _ _ ⟨_,_,_,_,_,_,_,_,_,_,_,_,_,_,_,_,_,_,_,am,cm,x1,d1,ae,ce,bo,rfl,by simp,by simp,(by simp),HhS2.out⟩
  ·subst hun;go_simp;exact hK _ _ ⟨_,_,_,_,_,_,_,_,_,_,_,_,_,_,_,_,_,_,_,am,cm,af,cf,ae,ce,bo,rfl,hd16,hd18,(by simp),HS.out⟩
  ·obtain rfl:=hall;subst hun;have e0:=HS.out.cell (v:=.slice qa3 E2 qc3) 1 3 rfl rfl;go_simp;exact hK _ _ ⟨_,_,_,_,_,_,_,_,_,_,_,_,_,_,_,_,_,_,_,am,cm,af,cf,ae,ce,bo,rfl,hd16,hd18,(by simp),HS.out⟩
  ·subst hun;go_simp;exact hK _ _ ⟨_,_,_,_,_,_,_,_,_,_,_,_,_,_,_,_,_,_,_,am,cm,af,cf,ae,ce,bo,rfl,hd16,hd18,(by simp),HS.out⟩
  ·obtain rfl:=hall;subst hun;have e0:=HS.out.cell (v:=.int .i64 (S:Int)) 0 0 rfl rfl;go_simp;exact hK _ _ ⟨_,_,_,_,_,_,_,_,_,_,_,_,_,_,_,_,_,_,_,am,cm,af,cf,ae,ce,bo,rfl,hd16,hd18,(by simp),HS.out⟩
  ·obtain⟨rfl,rfl,rfl⟩:=hall;subst hun;obtain rfl:l16=false:=by cases l16 with|false=>rfl|true=>simpa using hd16 rfl
   obtain rfl:l18=false:=offR hd18 rfl;go_simp
   go_at_call 137
   refine(Hse.out _ HS.out.bel).mono ?_;rintro e u1 ⟨x1,d1,rfl,hb⟩;have hS2:=(HS.out.cat hb).pick [0,1,2,3,4,5,7] (by decide);have HhS2:=qh hS2;clear hS2;go_simp;exact hK _ _ ⟨_,_,_,_,_,_,_,_,_,_,_,_,_,_,_,_,_,_,_,am,cm,af,cf,x1,d1,bo,rfl,by simp,by simp,(by simp),HhS2.out⟩
  ·obtain⟨rfl,rfl,rfl,rfl⟩:=hall;subst hun;obtain rfl:l18=false:=offR hd18 rfl;go_simp;exact hK _ _ ⟨_,_,_,_,_,_,_,_,_,_,_,_,_,_,_,_,_,_,_,am,cm,af,cf,ae,ce,bo,rfl,by simp,by simp,(by simp),HS.out⟩
  ·subst hun;obtain rfl:l18=false:=offL hd18 rfl;have hS2:=(HS.out.alloc _ rfl #[.int .i64 0,.slice none 0 0,.slice none 0 0,.slice none 0 0] 81).pick [0,1,2,7,4,5,6] (by decide);have HhS2:=qh hS2;clear hS2;go_simp;exact hK _ _ ⟨_,_,_,_,_,_,_,_,_,_,_,_,_,_,_,_,_,_,_,am,cm,af,cf,ae,ce,w'.heap.size,rfl,hd16,by simp,(by simp),HhS2.out⟩
  obtain⟨rfl,rfl,rfl,rfl,rfl,rfl,rfl,rfl,rfl,rfl,rfl,rfl,rfl,rfl,rfl,rfl,rfl,rfl,-,-,-⟩:=hall;subst hun;have f0:=HS.out.fr 3 0 rfl;have k0:=HS.out.cell (v:=.int .i64 0) 3 0 rfl rfl;have f1:=HS.out.fr 3 1 rfl;have k1:=HS.out.cell (v:=.slice none 0 0) 3 1 rfl rfl;have f2:=HS.out.fr 3 2 rfl;have k2:=HS.out.cell (v:=.slice none 0 0) 3 2 rfl rfl;have f3:=HS.out.fr 3 3 rfl;have k3:=HS.out.cell (v:=.slice none 0 0) 3 3 rfl rfl;go_simp;exact hK _ _ ⟨_,_,_,_,_,_,_,_,_,_,_,_,_,_,_,_,_,_,_,am,cm,af,cf,ae,ce,bo,rfl,by simp,by simp,(by simp only[↓reduceIte,w_1,w_2,w_3]),((((HS.out.set 3 rfl 0 (.int .i64 ((S:Int)+(Q:Int)))).set 3 rfl 1 (.slice am (L1+L2) cm)).set 3 rfl 2 (.slice af F1 cf)).set 3 rfl 3 (.slice ae E2 ce))⟩
 ·rintro listed a w' ⟨l0,l1,l2,l3,l4,l5,l6,l7,l8,l9,l10,l11,l12,l13,l14,l15,l16,l17,l18,am,cm,af,cf,ae,ce,bo,rfl,hd16,hd18,rfl,hS⟩ hr;obtain⟨rfl,rfl,rfl,rfl,rfl,rfl,rfl,rfl,rfl,rfl,rfl,rfl,rfl,rfl,rfl,rfl,rfl,rfl,rfl,-⟩:=zA (ZaK (by kernel_rfl) rfl hr) rfl;clear hr hd16 hd18;simp only[↓reduceIte] at hS ⊢;simp only[w_1,w_2,w_3];have HS1:=qh (hS.pick [0,1,2,3,4,5,6] (by decide));clear hS;have e9:=HS1.out.cell (v:=.slice pa3 E1 pc3) 0 3 rfl rfl;go_wp2
  go_loopw [30] (fun i wr=>∃ (k N c1:Nat) (a1:Option Addr),i = .int .i64 k∧k≤E1∧N=(jm p q S k).length∧N≤2000+40*k∧St w wr [Ent.box w.heap.size #[.int .i64 (S:Int),.slice pa1 L1 pc1,.slice pa2 F1 pc2,.slice pa3 E1 pc3] 81,Ent.box (w.heap.size+1) #[.int .i64 (Q:Int),.slice qa1 L2 qc1,.slice qa2 F2 qc2,.slice qa3 E2 qc3] 81,Ent.box (w.heap.size+1+1) #[.int .i64 0,.slice none 0 0,.slice none 0 0,.slice none 0 0] 81,Ent.box bo #[.int .i64 ((S:Int)+(Q:Int)),.slice a1 N c1,.slice af F1 cf,.slice ae E2 ce] 81,Ent.row 117 3 (.slice a1 N c1) N ((jm p q S k).flatMap Zac),Ent.row 3 1 (.slice af F1 cf) F1 (intCells p.firsts),Ent.row 3 1 (.slice ae E2 ce) E2 (intCells (q.ends.map (·+(S:Int))))]) (fun i _=>E1-(intOf i).toNat)
  case atStart =>
   refine⟨0,L1+L2,cm,am,rfl,Nat.zero_le _,?_,by omega,?_⟩
   ·rw[Zm5,List.length_append,List.length_map,← hL1.out,← HhL2.out]
   rw[Zm5];exact HS1.out
  case round =>
   obtain⟨k,N,c1,a1,rfl,hk,hN,hNb,hS⟩:=hrel;by_cases hlt:k<E1
   ·have hlt2:(k:Int)<E1:=by omega
    have hkn:k<p.ends.length:=by have:=hE1.out;omega
    obtain⟨b1,o1,rfl,-,hb1,hcs⟩:=Hr3.out (by omega);have m0:=hcs k hlt;have hsn:=Zpt (q:=q) (S:=S) hkn;obtain⟨s,hs⟩:=eI (p.ends.getD k 0);rw[← hs] at m0 hsn;have m1:=(bcell hS.bel b1 _ hb1).trans m0;have e1:=hS.cell (v:=.slice qa2 F2 qc2) 1 2 rfl rfl;have HSo:=qh hS;obtain⟨wo,hwo⟩:∃ wo:World,wo=wr:=⟨_,rfl⟩;subst hwo;have HhN:=qh hN;clear hN;have Hhs:=qh hs;clear hs;have Hhsn:=qh hsn;clear hsn;clear hS hcs m0 e9;go_wp2
    go_loopw [37] (fun i wi=>∃ (j c2:Nat) (a2:Option Addr),i = .int .i64 j∧j≤F2∧St w wi [Ent.box w.heap.size #[.int .i64 (S:Int),.slice pa1 L1 pc1,.slice pa2 F1 pc2,.slice (some ⟨b1,o1,none⟩) E1 pc3] 81,Ent.box (w.heap.size+1) #[.int .i64 (Q:Int),.slice qa1 L2 qc1,.slice qa2 F2 qc2,.slice qa3 E2 qc3] 81,Ent.box (w.heap.size+1+1) #[.int .i64 0,.slice none 0 0,.slice none 0 0,.slice none 0 0] 81,Ent.box bo #[.int .i64 ((S:Int)+(Q:Int)),.slice a2 (N+j) c2,.slice af F1 cf,.slice ae E2 ce] 81,Ent.row 117 3 (.slice a2 (N+j) c2) (N+j) ((jm p q S k++(q.firsts.take j).map fun t=>(s,(-1:Int),t+(S:Int))).flatMap Zac),Ent.row 3 1 (.slice af F1 cf) F1 (intCells p.firsts),Ent.row 3 1 (.slice ae E2 ce) E2 (intCells (q.ends.map (·+(S:Int))))]) (fun i _=>F2-(intOf i).toNat)
    case atStart =>refine⟨0,c1,a1,rfl,Nat.zero_le _,?_⟩;rw[List.take_zero,List.map_nil,List.append_nil];exact HSo.out
    case round =>
     obtain⟨j,c2,a2,rfl,hj,hS⟩:=hrel;clear e1;by_cases hjl:j<F2
     ·have hjl2:(j:Int)<F2:=by omega
      have hjn:j<q.firsts.length:=by have:=HhF2.out;omega
      obtain⟨b2,o2,rfl,-,hb2,hcs2⟩:=Hr2.out (by omega);have n0:=hcs2 j hjl;have hsj:=ZbF (fun t=>(s,(-1:Int),t+(S:Int))) (d:=0) hjn rfl;have hxx:=Hhqf.out _ (memD (d:=0) hjn);obtain⟨p0,hp⟩:=eI (q.firsts.getD j 0);rw[← hp] at n0 hsj hxx;obtain⟨hx0,hx1⟩:=hxx;have n1:=(bcell hS.bel b2 _ hb2).trans n0;have e0:=hS.cell (v:=.int .i64 (S:Int)) 0 0 rfl rfl;have y0:=hS.cell (v:=.slice a2 (N+j) c2) 3 1 rfl rfl;have hw:IntKind.i64.wrap (p0+(S:Int))=p0+(S:Int):=IntWalk.i64_in _ (by omega);have hSa:=hS.alloc_ (.cells #[.int .i64 s,.int .i64 (-1),.int .i64 (p0+(S:Int))] 117);have HSa:=qh hSa;have HRa:=qh (hSa.row 4 rfl);have Hhp:=qh hp;clear hp;have Hhsj:=qh hsj;clear hsj;clear hS hSa hcs2 n0;go_wp2_with (at_builtin;refine wpList_append_lies _ rfl _ _ _ rfl _ 117 i0 (.agg #[.int .i64 0,.int .i64 0,.int .i64 0]) 3 24 Tryz.underlying79 Hhi.out Hhz0.out Hhz1.out Hhz2.out rfl (by omega) _ (N+j) _ rfl HRa.out ⟨wr.heap.size,0,none⟩ 1 1 [.int .i64 s,.int .i64 (-1),.int .i64 (p0+(S:Int))] rfl rfl (World.news_of_block (heap_alloc_new wr _)) ZdU (by omega) (by unfold maxLen;omega) (by omega) HSa.out.size _ rfl ?_;intro g6 c6 w6 hown6 hgrow6 hat6 hlt6;have HS6:=qh (HSa.out.app 4 rfl hown6 hgrow6 hat6);have y1:=HS6.out.cell (v:=.slice a2 (N+j) c2) 3 1 rfl rfl;have y2:=HS6.out.fr 3 1 rfl;clear hown6 hgrow6 hat6 hlt6);go_roundw
      case rel =>refine⟨j+1,c6,some ⟨g6,0,none⟩,by go_num,by omega,?_⟩;rw[Hhsj.out,← List.append_assoc,List.flatMap_append (xs:=_++_)];exact HS6.out.set 3 rfl 1 (.slice (some ⟨g6,0,none⟩) (N+j+1) c6)
      case measure=>simp[intOf];omega
     obtain rfl:F2=j:=by omega
     rw[show q.firsts.take F2=q.firsts from List.take_of_length_le (by have:=HhF2.out;omega),← Hhsn.out] at hS;have HSi:=qh hS;clear hS;go_wp2;go_roundw
     case rel=>exact⟨k+1,N+F2,c2,a2,by go_num,by omega,by rw[Hhsn.out,List.length_append,List.length_map,← HhN.out,← HhF2.out],by omega,HSi.out⟩
     case measure=>simp[intOf];omega
   obtain rfl:E1=k:=by omega
   have HSe:=qh hS;have HhN:=qh hN;clear hN;clear hS;have e0:=HSe.out.cell (v:=.int .i64 ((S:Int)+(Q:Int))) 3 0 rfl rfl;have e1:=HSe.out.cell (v:=.slice a1 N c1) 3 1 rfl rfl;have e2:=HSe.out.cell (v:=.slice af F1 cf) 3 2 rfl rfl;have e3:=HSe.out.cell (v:=.slice ae E2 ce) 3 3 rfl rfl;have f0:=HSe.out.fr 2 0 rfl;have k0:=HSe.out.cell (v:=.int .i64 0) 2 0 rfl rfl;have f1:=HSe.out.fr 2 1 rfl;have k1:=HSe.out.cell (v:=.slice none 0 0) 2 1 rfl rfl;have f2:=HSe.out.fr 2 2 rfl;have k2:=HSe.out.cell (v:=.slice none 0 0) 2 2 rfl rfl;have f3:=HSe.out.fr 2 3 rfl;have k3:=HSe.out.cell (v:=.slice none 0 0) 2 3 rfl rfl;have HSr:=qh ((((HSe.out.set 2 rfl 0 (.int .i64 ((S:Int)+(Q:Int)))).set 2 rfl 1 (.slice a1 N c1)).set 2 rfl 2 (.slice af F1 cf)).set 2 rfl 3 (.slice ae E2 ce));have q0:=HSr.out.cell (v:=.int .i64 ((S:Int)+(Q:Int))) 2 0 rfl rfl;have q1:=HSr.out.cell (v:=.slice a1 N c1) 2 1 rfl rfl;have q2:=HSr.out.cell (v:=.slice af F1 cf) 2 2 rfl rfl;have q3:=HSr.out.cell (v:=.slice ae E2 ce) 2 3 rfl rfl;go_wp2;refine bodyPost_ret (v:=.agg #[.int .i64 ((S:Int)+(Q:Int)),.slice a1 N c1,.slice af F1 cf,.slice ae E2 ce]) (by simp[results,Tryz.results100,go_sem,q0,q1,q2,q3]) rfl ?_;have hj:Zif p q=⟨(S:Int)+(Q:Int),jm p q S E1,p.firsts,q.ends.map (·+(S:Int))⟩:=by rw[hE1.out];exact Zoz HhSp.out HhQq.out
   have hl1:(jm p q S E1).length=N:=HhN.out.symm;rw[hj];refine⟨a1,c1,af,cf,ae,ce,?_,?_⟩
   ·simp only[List.length_map,hl1,← hF1.out,← HhE2.out]
   simp only[List.length_map,hl1,← hF1.out,← HhE2.out];exact HSr.out.pick [4,5,6] (by decide)
 refine⟨false,false,false,false,false,false,false,false,false,false,false,false,false,false,false,false,false,false,false,none,0,none,0,none,0,0,rfl,by simp,by simp,(by simp),?_⟩;exact HS0.out.drew.pick [0,1,2,3,4,5,6] (by decide)
theorem Sl.keptJ {B B':Nat} {w w':World} {v:Value} {n size:Nat} {cs:List Value} (h:Sl B w v n size cs) (hB:B'≤B) (hs:w.heap.size≤w'.heap.size) (hk:∀ k,B≤k→k<w.heap.size→w'.heap[k]? = w.heap[k]?):Sl B' w' v n size cs:=by obtain⟨hl,a,cap,hv,h1,h2,h3⟩:=h;refine⟨hl,a,cap,hv,h1,h2,fun hn => ?_⟩;obtain⟨b,off,ha,hb,hlt,hc⟩:=h3 hn;refine⟨b,off,ha,by omega,by omega,fun j hj => ?_⟩;rw[← hc j hj];exact World.cell?_of_block (hk b hb hlt)
def DfaE (w w':World):Ent:=⟨fun k=>w.heap.size≤k∧k<w'.heap.size,fun u=>∀ k,w.heap.size≤k→k<w'.heap.size→u.heap[k]? = w'.heap[k]?,fun _ _ h hk k h1 h2=>(hk k ⟨h1,h2⟩).trans (h k h1 h2)⟩
theorem St.dfaE {w0 w w':World} {L:List Ent} (h:St w0 w L) (hb:Below w.heap.size w w'):St w0 w' (L++[DfaE w w']):=h.add hb _ (fun _ _ _=>rfl) fun _ hk=>hk
structure DfaH (E:Ent) (v1 v2:Value) (vs:List Value) (D:DfaD):Prop where
 rd:∀ w,E.holds w→(∀ k,E.foot k→k<w.heap.size)→Sl 0 w v1 D.next.length 1 vs∧(∀ i,i<D.next.length→Ints 0 w (vs.getD i undef) (D.next.getD i []))∧Bools 0 w v2 D.ends
theorem DfaH.at {w0 w:World} {L:List Ent} {E:Ent} {v1 v2:Value} {vs:List Value} {D:DfaD} (h:DfaH E v1 v2 vs D) (hS:St w0 w L) (i:Nat) (hx:L[i]? = some E):Sl 0 w v1 D.next.length 1 vs∧(∀ i,i<D.next.length→Ints 0 w (vs.getD i undef) (D.next.getD i []))∧Bools 0 w v2 D.ends :=
 h.rd w (hS.has i _ hx).1 fun k hk=>((hS.has i _ hx).2 k hk).2
theorem DfaH.r {w0 w:World} {L:List Ent} {E:Ent} {v1 v2:Value} {vs:List Value} {D:DfaD} (h:DfaH E v1 v2 vs D) (hS:St w0 w L) (i:Nat) (hx:L[i]? = some E):DfaR 0 w (.agg #[v1,v2]) D:=by obtain⟨h1,h2,h3⟩:=h.at hS i hx;exact⟨v1,v2,rfl,⟨vs,h1,h2⟩,h3⟩
def dif (a b:Nat→Nat) (j k:Nat):Bool:=decide (a j=a k) != decide (b j=b k)
def difs (a b:Nat→Nat) (k m:Nat):Bool:=(List.range m).any fun j=>dif a b j k
def difK (a b:Nat→Nat) (k:Nat):Bool:=(List.range k).any fun x=>difs a b x x
theorem Znr (a b:Nat→Nat) (k m:Nat):difs a b k (m+1)=(difs a b k m||dif a b m k):=by unfold difs;rw[List.range_succ,List.any_append];simp
theorem Zns (a b:Nat→Nat) (k:Nat):difK a b (k+1)=(difK a b k||difs a b k k):=by unfold difK;rw[List.range_succ,List.any_append];simp
theorem ZlP {a b:Nat→Nat} {n:Nat}:difK a b n=false↔∀ k j,k<n→j<k→(a j=a k↔b j=b k):=by
 constructor
 ·intro h k j hk hj;have h1:difs a b k k=false:=by simpa using List.any_eq_false.1 h k (List.mem_range.2 hk)
  have h2:dif a b j k=false:=by simpa using List.any_eq_false.1 h1 j (List.mem_range.2 hj)
  simpa [dif] using h2
 intro h;refine List.any_eq_false.2 fun k hk => ?_
 simp only[Bool.not_eq_true];refine List.any_eq_false.2 fun j hj => ?_
 simp only[Bool.not_eq_true];have:=h k j (List.mem_range.1 hk) (List.mem_range.1 hj);simpa [dif] using this
def apart (n:Nat) (cl:Nat→Nat):Nat:=((List.range (n*n)).filter fun x=>decide (cl (x / n)≠cl (x % n))).length
theorem Zle (n:Nat) (cl:Nat→Nat):apart n cl≤n*n:=by have:=List.length_filter_le (fun x=>decide (cl (x / n)≠cl (x % n))) (List.range (n*n));simpa [apart] using this
theorem ZlW {n:Nat} {nx:Nat→Nat→Nat} {cl:Nat→Nat} {j k:Nat} (hj:j<n) (hk:k<n) (h0:cl j=cl k) (h1:Zan n nx cl j≠Zan n nx cl k):apart n cl<apart n (Zan n nx cl):=by
 have hn:0<n:=by omega
 have e1:(k+n*j) / n=j:=by rw[Nat.add_mul_div_left _ _ hn,Nat.div_eq_of_lt hk,Nat.zero_add]
 have e2:(k+n*j) % n=k:=by rw[Nat.add_mul_mod_self_left,Nat.mod_eq_of_lt hk]
 refine Zdx (a:=k+n*j) (by rw[e1,e2];simpa using h0) (by rw[e1,e2];simpa using h1) ?_ fun x hx h => ?_
 ·rw[List.mem_range]
  have:n*j+n≤n*n:=by
   have:=Nat.mul_le_mul_left n (show j+1≤n by omega)
   rwa [Nat.mul_add,Nat.mul_one] at this
  omega
 have hx:=List.mem_range.1 hx;have h2:x / n<n:=(Nat.div_lt_iff_lt_mul hn).2 hx;have h3:x % n<n:=Nat.mod_lt _ hn;simp only[decide_eq_true_eq] at h ⊢;intro he;exact h ((Zax nx).1 ((ZbH h2 h3).1 he)).1
theorem Zkk {n:Nat} {nx:Nat→Nat→Nat} {en:Nat→Bool} (hnx:∀ s c,s<n→c<3→nx s c<n) {i:Nat} (h:¬ stays n nx en i):apart n (clR n nx en i)<apart n (clR n nx en (i+1)):=by
 have hp:=Zhh hnx en i;have hex:∃ k j,k<n∧j<k∧¬ (clR n nx en i j=clR n nx en i k↔clR n nx en (i+1) j=clR n nx en (i+1) k):=by apply Classical.byContradiction;intro hc;refine h (hp.2 fun k j hk hj => ?_);apply Classical.byContradiction;intro hcx;exact hc ⟨k,j,hk,hj,hcx⟩
 obtain⟨k,j,hk,hj,hne⟩:=hex;have hdown:clR n nx en (i+1) j=clR n nx en (i+1) k→clR n nx en i j=clR n nx en i k:=fun he=>((Zax nx).1 ((ZbH (by omega) hk).1 he)).1
 by_cases h0:clR n nx en i j=clR n nx en i k
 ·refine ZlW (j:=j) (k:=k) (by omega) hk h0 fun h1=>hne ⟨fun _=>h1,fun _=>h0⟩
 exact absurd ⟨fun h1=>absurd h1 h0,fun h1=>absurd (hdown h1) h0⟩ hne
def ZnJ (w:World) (b n:Nat):Nat:=((List.range (n*n)).filter fun x=>decide (Zlu w b (x / n)≠Zlu w b (x % n))).length
theorem ZjF {w:World} {b n:Nat} {cl:Nat→Nat} (h:∀ s,s<n→w.cell? ⟨b,s,none⟩=some (.int .i64 ((cl s:Nat):Int))):ZnJ w b n=apart n cl:=by
 unfold ZnJ apart;congr 1;refine List.filter_congr fun x hx => ?_
 have hx:=List.mem_range.1 hx
 have hn:0<n:=by
  rcases Nat.eq_zero_or_pos n with e|e
  ·rw[e] at hx;simp at hx
  exact e
 rw[Zda (h _ ((Nat.div_lt_iff_lt_mul hn).2 hx)),Zda (h _ (Nat.mod_lt _ hn))]
theorem ZnX {l:List Value} {k:Nat} {x y:Value} (h:l.length=k):(l++[x]).set k y=l++[y]:=by rw[List.set_append_right _ _ (by omega),show k-l.length=0 by omega];rfl
end Go.Proofs.YtncekbbhgipdlaaGreat
