/-
  The walks over the program's NfaStar: slices.Clone of moves, checkedNfa, starNfa, NfaStar.
  Conditions: the automaton is readable.
-/
import Derived.Test.YtncekbbhgipdlaaGreatPc07Cst
set_option maxHeartbeats 16000000
set_option maxRecDepth 100000
namespace Go.Proofs.YtncekbbhgipdlaaGreat
open Go.RowKit
theorem ZhN (xs:List (Int × Int × Int)) (v:Value) (w:World) (hl:xs.length≤1000000) (h:Moves 0 w v xs) :
  Calls Tryz.prog 98 #[v] w fun e w'=>∃ a c,e = .returned (.slice a xs.length c)∧St w w' [Ent.row 117 3 (.slice a xs.length c) xs.length (xs.flatMap Zae)]:=by
 have hx:=h;obtain⟨a,cap,rfl,S,V,hr⟩:=h.form;obtain⟨T,hj,L,H,G⟩:=info_parts Tryz.infoMv;cases a with
 | none =>
  have h0:xs=[]:=by
   rcases Nat.eq_zero_or_pos xs.length with h0|h0
   ·exact List.eq_nil_of_length_eq_zero h0
   obtain⟨b,off,hb,-⟩:=hr h0;cases hb
  subst h0;have I:=fun (w':World)=>Lib.run_eql_slice_nil (P:=Tryz.prog) w' 79 117 none 0 cap 0 0 Tryz.underlying79
  simp only[Option.isNone] at I
  go_enter Tryz.func98, Tryz.ntmps98
  go_wp2;go_ret;exact⟨none,0,rfl,(St.start w).nilRow 117 3⟩
 | some X =>
  have C:=((St.start w).alloc _ rfl #[] 117).boxrow 0 0 3 [] rfl rfl (Nat.zero_le _);have F:=C.row 0 rfl;have O:=hx.below C.bel;replace C:=qh C;replace F:=qh F;have M:=qh O;clear O;have U:=qh hx;clear hx;clear hr;have I:=fun (w':World)=>Lib.run_eql_slice_nil (P:=Tryz.prog) w' 79 117 (some X) xs.length cap 0 0 Tryz.underlying79
  simp only[Option.isNone] at I
  go_enter Tryz.func98, Tryz.ntmps98
  go_wp2_with (at_builtin;refine Zak _ rfl _ _ _ rfl _ 117 T (.agg #[.int .i64 0,.int .i64 0,.int .i64 0]) 3 24 Tryz.underlying79 hj L H G rfl (by omega) _ 0 _ rfl F.o _ xs.length (xs.flatMap Zae) rfl M.o Zsr (by unfold maxLen;omega) (by omega) C.o.size ?_;intro N Q R D B E;have J:=qh (C.o.appS 0 rfl D B E);clear D B E);go_ret;have hq:St w R [Ent.row 117 3 (.slice N (0+xs.length) Q) (0+xs.length) (xs.flatMap Zae)]:=J.o;rw[Nat.zero_add] at hq;exact⟨N,Q,rfl,hq⟩
theorem Zk3 (n:NfaD) (m:Nat) (v1 v2 v3:Value) (w:World) (hm:n.states=(m:Int)) (bG:m≤1000) (bC:n.moves.length≤1000) (aZ:n.firsts.length≤1000) (aV:n.ends.length≤1000) (h1:Moves 0 w v1 n.moves) (h2:Ints 0 w v2 n.firsts) (h3:Ints 0 w v3 n.ends) :
  Calls Tryz.prog 59 #[.agg #[.int .i64 n.states,v1,v2,v3]] w fun e w'=>RNfaS (Zc0 n) w e w':=by
 have aJ:=fun (u:World) (hu:Below w.heap.size w u)=>ZhN n.moves v1 u (by omega) (h1.below hu)
 obtain⟨av,cv,rfl,aT,bH,bB⟩:=h1.form;obtain⟨af,cf,rfl,aX,bJ,aI⟩:=h2.form;obtain⟨ae,ce,rfl,hc3,bI,aK⟩:=h3.form;obtain⟨i0,hi,aR,aS,aQ⟩:=info_parts Tryz.infoMv;obtain⟨F,c⟩:∃ L,L=n.moves.length:=⟨_,rfl⟩;obtain⟨R,z⟩:∃ L,L=n.firsts.length:=⟨_,rfl⟩;obtain⟨U,j⟩:∃ L,L=n.ends.length:=⟨_,rfl⟩;have aG:=((St.start w).alloc _ rfl #[.int .i64 n.states,.slice av n.moves.length cv,.slice af n.firsts.length cf,.slice ae n.ends.length ce] 81).alloc (w.heap.size+1) (by simp) #[.int .i64 0,.slice none 0 0,.slice none 0 0,.slice none 0 0] 81;rw[hm,← c,← z,← j] at aG;rw[hm,← c,← z,← j];rw[← c] at bC aT aJ;rw[← z] at aZ aX aI;rw[← j] at aV hc3 aK;have aN:=aG.call (Below.refl _ _);have aW:QH (St w _ [Ent.box w.heap.size #[.int .i64 (m:Int),.slice av F cv,.slice af R cf,.slice ae U ce] 81,Ent.box (w.heap.size+1) #[.int .i64 0,.slice none 0 0,.slice none 0 0,.slice none 0 0] 81,Ent.nil,Ent.nil,Ent.nil,Ent.nil]):=qh (aN.pick [0,1,2,3,4,5] (by decide));have bE:=qh aJ;have bD:=qh aI;have bF:=qh aK;replace c:=qh c;have l:=qh z;clear z;have r:=qh j;clear j;have aY:=qh hm;clear hm;have aP:=qh hi;clear hi;have aF:=qh aR;clear aR;have aE:=qh aS;clear aS;have aD:=qh aQ;clear aQ;clear h1 h2 h3 bB aI aK aJ aG aN
 go_enter Tryz.func59, Tryz.ntmps59
 go_wp2_with fail;refine wp_region_any (by kernel_rfl) ?_
 refine Zay (fun A listed a w'=>∃ (l0 l1 l2 l3 l4 l5 l6 l7 l8 l9 aC b J g I:Bool) (am:Option Addr) (cm:Nat) (G:Nat) (H:Nat) (S:Nat),listed=#[l0,l1,l2,l3,l4,l5,l6,l7,l8,l9,aC,b,J,g,I]∧(J=true→l2=true∧l5=true∧l8=true∧b=true)∧(I=true→g=true∧J=true) ∧
   a=⟨((((((((((((((A.tmps.setIfInBounds 8 (if l0=true then .pointer (some ⟨w.heap.size,0,none⟩) else A.tmps.getD 8 undef)).setIfInBounds 9 (if l1=true then .int .i64 (m:Int) else A.tmps.getD 9 undef)).setIfInBounds 10 (if l2=true then .int .i64 ((m:Int)+1) else A.tmps.getD 10 undef)).setIfInBounds 11 (if l3=true then .pointer (some ⟨w.heap.size,1,none⟩) else A.tmps.getD 11 undef)).setIfInBounds 12 (if l4=true then .slice av F cv else A.tmps.getD 12 undef)).setIfInBounds 13 (if l5=true then .slice am F cm else A.tmps.getD 13 undef)).setIfInBounds 14 (if l6=true then .pointer (some ⟨w.heap.size,0,none⟩) else A.tmps.getD 14 undef)).setIfInBounds 15 (if l7=true then .int .i64 (m:Int) else A.tmps.getD 15 undef)).setIfInBounds 16 (if l8=true then .slice (some ⟨G,0,none⟩) 1 1 else A.tmps.getD 16 undef)).setIfInBounds 17 (if l9=true then .pointer (some ⟨w.heap.size,0,none⟩) else A.tmps.getD 17 undef)).setIfInBounds 18 (if aC=true then .int .i64 (m:Int) else A.tmps.getD 18 undef)).setIfInBounds 19 (if b=true then .slice (some ⟨H,0,none⟩) 1 1 else A.tmps.getD 19 undef)).setIfInBounds 20 (if J=true then .agg #[.int .i64 ((m:Int)+1),.slice am F cm,.slice (some ⟨G,0,none⟩) 1 1,.slice (some ⟨H,0,none⟩) 1 1] else A.tmps.getD 20 undef)).setIfInBounds 3 (if g=true then .pointer (some ⟨S,0,none⟩) else A.tmps.getD 3 undef)),A.defers⟩ ∧
   St w w' [Ent.box w.heap.size #[.int .i64 (m:Int),.slice av F cv,.slice af R cf,.slice ae U ce] 81,Ent.box (w.heap.size+1) #[.int .i64 0,.slice none 0 0,.slice none 0 0,.slice none 0 0] 81,(if g=true then Ent.box S #[(if I=true then .int .i64 ((m:Int)+1) else .int .i64 0),(if I=true then .slice am F cm else .slice none 0 0),(if I=true then .slice (some ⟨G,0,none⟩) 1 1 else .slice none 0 0),(if I=true then .slice (some ⟨H,0,none⟩) 1 1 else .slice none 0 0)] 81 else Ent.nil),(if l5=true then Ent.row 117 3 (.slice am F cm) F (n.moves.flatMap Zae) else Ent.nil),(if l8=true then Ent.row 3 1 (.slice (some ⟨G,0,none⟩) 1 1) 1 [.int .i64 (m:Int)] else Ent.nil),(if b=true then Ent.row 3 1 (.slice (some ⟨H,0,none⟩) 1 1) 1 [.int .i64 (m:Int)] else Ent.nil)]) ?_ ?_ ?_
 ·rintro listed a w' ⟨l0,l1,l2,l3,l4,l5,l6,l7,l8,l9,aC,b,J,g,I,am,cm,G,H,S,rfl,C,B,rfl,hS⟩ i hi;obtain⟨E,o,ho,hall⟩:=mem_ready.1 hi;have hlt:=(Array.getElem?_eq_some_iff.1 ho).1;refine wpOp_step ho (fun K Y => ?_);clear hi;have N:=qh hS;clear hS;simp only[w_1,w_2,w_3,w_4,w_5,w_6,w_7,w_8];obtain h|h|h|h|h|h|h|h|h|h|h|h|h|h|h:i=0∨i=1∨i=2∨i=3∨i=4∨i=5∨i=6∨i=7∨i=8∨i=9∨i=10∨i=11∨i=12∨i=13∨i=14:=by simp at hlt;omega
  all_goals subst h
  all_goals simp only[w_5,w_6,w_7,w_9] at ho
  all_goals subst ho
  all_goals simp[Region.binds] at E hall
  ·subst E;go_simp;exact Y _ _ ⟨_,_,_,_,_,_,_,_,_,_,_,_,_,_,_,am,cm,G,H,S,rfl,C,B,(by simp),N.o⟩
  ·obtain rfl:=hall;subst E;have e0:=N.o.cell (v:=.int .i64 (m:Int)) 0 0 rfl rfl;go_simp;exact Y _ _ ⟨_,_,_,_,_,_,_,_,_,_,_,_,_,_,_,am,cm,G,H,S,rfl,C,B,(by simp),N.o⟩
  ·obtain rfl:=hall;subst E;obtain rfl:J=false:=by cases J with|false=>rfl|true=>simpa using C rfl
   obtain rfl:I=false:=offR B rfl;have hw:IntKind.i64.wrap ((m:Int)+1)=(m:Int)+1:=IntWalk.i64_in _ (by omega);go_simp;exact Y _ _ ⟨_,_,_,_,_,_,_,_,_,_,_,_,_,_,_,am,cm,G,H,S,rfl,by simp,by simp,(by simp),N.o⟩
  ·subst E;go_simp;exact Y _ _ ⟨_,_,_,_,_,_,_,_,_,_,_,_,_,_,_,am,cm,G,H,S,rfl,C,B,(by simp),N.o⟩
  ·obtain rfl:=hall;subst E;have e1:=N.o.cell (v:=.slice av F cv) 0 1 rfl rfl;go_simp;exact Y _ _ ⟨_,_,_,_,_,_,_,_,_,_,_,_,_,_,_,am,cm,G,H,S,rfl,C,B,(by simp),N.o⟩
  ·obtain rfl:=hall;subst E;obtain rfl:J=false:=by cases J with|false=>rfl|true=>simpa using C rfl
   obtain rfl:I=false:=offR B rfl;go_simp
   go_at_call 98
   refine(bE.o _ N.o.bel).mono ?_;rintro e u1 ⟨x1,d1,rfl,hb⟩;have Q:=(N.o.cat hb).pick [0,1,2,6,4,5] (by decide);have O:=qh Q;clear Q;go_simp;exact Y _ _ ⟨_,_,_,_,_,_,_,_,_,_,_,_,_,_,_,x1,d1,G,H,S,rfl,by simp,by simp,(by simp),O.o⟩
  ·subst E;go_simp;exact Y _ _ ⟨_,_,_,_,_,_,_,_,_,_,_,_,_,_,_,am,cm,G,H,S,rfl,C,B,(by simp),N.o⟩
  ·obtain rfl:=hall;subst E;have e0:=N.o.cell (v:=.int .i64 (m:Int)) 0 0 rfl rfl;go_simp;exact Y _ _ ⟨_,_,_,_,_,_,_,_,_,_,_,_,_,_,_,am,cm,G,H,S,rfl,C,B,(by simp),N.o⟩
  ·obtain rfl:=hall;subst E;obtain rfl:J=false:=by cases J with|false=>rfl|true=>simpa using C rfl
   obtain rfl:I=false:=offR B rfl;have Q:=((N.o.alloc _ rfl #[.int .i64 (m:Int)] 3).boxrow 6 1 1 [.int .i64 (m:Int)] rfl rfl (by decide)).pick [0,1,2,3,6,5] (by decide);have O:=qh Q;clear Q;go_simp;exact Y _ _ ⟨_,_,_,_,_,_,_,_,_,_,_,_,_,_,_,am,cm,w'.heap.size,H,S,rfl,by simp,by simp,(by simp),O.o⟩
  ·subst E;go_simp;exact Y _ _ ⟨_,_,_,_,_,_,_,_,_,_,_,_,_,_,_,am,cm,G,H,S,rfl,C,B,(by simp),N.o⟩
  ·obtain rfl:=hall;subst E;have e0:=N.o.cell (v:=.int .i64 (m:Int)) 0 0 rfl rfl;go_simp;exact Y _ _ ⟨_,_,_,_,_,_,_,_,_,_,_,_,_,_,_,am,cm,G,H,S,rfl,C,B,(by simp),N.o⟩
  ·obtain rfl:=hall;subst E;obtain rfl:J=false:=by cases J with|false=>rfl|true=>simpa using C rfl
   obtain rfl:I=false:=offR B rfl;have Q:=((N.o.alloc _ rfl #[.int .i64 (m:Int)] 3).boxrow 6 1 1 [.int .i64 (m:Int)] rfl rfl (by decide)).pick [0,1,2,3,4,6] (by decide);have O:=qh Q;clear Q;go_simp;exact Y _ _ ⟨_,_,_,_,_,_,_,_,_,_,_,_,_,_,_,am,cm,G,w'.heap.size,S,rfl,by simp,by simp,(by simp),O.o⟩
  ·obtain⟨rfl,rfl,rfl,rfl⟩:=hall;subst E;obtain rfl:I=false:=offR B rfl;go_simp;exact Y _ _ ⟨_,_,_,_,_,_,_,_,_,_,_,_,_,_,_,am,cm,G,H,S,rfl,by simp,by simp,(by simp),N.o⟩
  ·subst E;obtain rfl:I=false:=offL B rfl;have Q:=(N.o.alloc _ rfl #[.int .i64 0,.slice none 0 0,.slice none 0 0,.slice none 0 0] 81).pick [0,1,6,3,4,5] (by decide);have O:=qh Q;clear Q;go_simp;exact Y _ _ ⟨_,_,_,_,_,_,_,_,_,_,_,_,_,_,_,am,cm,G,H,w'.heap.size,rfl,C,by simp,(by simp),O.o⟩
  obtain⟨rfl,rfl,rfl,rfl,rfl,rfl,rfl,rfl,-,rfl,rfl,rfl,rfl,rfl,rfl,-,-⟩:=hall;subst E;have f0:=N.o.fr 2 0 rfl;have k0:=N.o.cell (v:=.int .i64 0) 2 0 rfl rfl;have f1:=N.o.fr 2 1 rfl;have k1:=N.o.cell (v:=.slice none 0 0) 2 1 rfl rfl;have f2:=N.o.fr 2 2 rfl;have k2:=N.o.cell (v:=.slice none 0 0) 2 2 rfl rfl;have f3:=N.o.fr 2 3 rfl;have k3:=N.o.cell (v:=.slice none 0 0) 2 3 rfl rfl;go_simp;exact Y _ _ ⟨_,_,_,_,_,_,_,_,_,_,_,_,_,_,_,am,cm,G,H,S,rfl,by simp,by simp,(by simp only[↓reduceIte,w_1,w_2,w_3]),((((N.o.set 2 rfl 0 (.int .i64 ((m:Int)+1))).set 2 rfl 1 (.slice am F cm)).set 2 rfl 2 (.slice (some ⟨G,0,none⟩) 1 1)).set 2 rfl 3 (.slice (some ⟨H,0,none⟩) 1 1))⟩
 ·rintro listed a w' ⟨l0,l1,l2,l3,l4,l5,l6,l7,l8,l9,aC,b,J,g,I,am,cm,G,H,S,rfl,C,B,rfl,hS⟩ hr;obtain⟨rfl,rfl,rfl,rfl,rfl,rfl,rfl,rfl,rfl,rfl,rfl,rfl,rfl,rfl,rfl,-⟩:=zA (Za1 (by kernel_rfl) rfl hr) rfl;clear hr C B;simp only[↓reduceIte] at hS ⊢;simp only[w_1,w_2,w_3];have aM:=qh (hS.pick [0,1,2,3,4,5] (by decide));clear hS;have e9:=aM.o.cell (v:=.slice af R cf) 0 2 rfl rfl;go_wp2
  go_loopw [24] (fun i wr=>∃ (k:Nat) (a1:Option Addr) (c1:Nat),i = .int .i64 k∧k≤R∧St w wr [Ent.box w.heap.size #[.int .i64 (m:Int),.slice av F cv,.slice af R cf,.slice ae U ce] 81,Ent.box (w.heap.size+1) #[.int .i64 0,.slice none 0 0,.slice none 0 0,.slice none 0 0] 81,Ent.box S #[.int .i64 ((m:Int)+1),.slice a1 (F+k) c1,.slice (some ⟨G,0,none⟩) 1 1,.slice (some ⟨H,0,none⟩) 1 1] 81,Ent.row 117 3 (.slice a1 (F+k) c1) (F+k) ((n.moves++(n.firsts.take k).map fun t=>((m:Int),(-1:Int),t)).flatMap Zae),Ent.row 3 1 (.slice (some ⟨G,0,none⟩) 1 1) 1 [.int .i64 (m:Int)],Ent.row 3 1 (.slice (some ⟨H,0,none⟩) 1 1) 1 [.int .i64 (m:Int)]]) (fun i _=>R-(intOf i).toNat)
  case atStart =>refine⟨0,am,cm,rfl,Nat.zero_le _,?_⟩;have h:=aM.o;rw[List.take_zero,List.map_nil,List.append_nil];exact h
  case round =>
   obtain⟨k,a1,c1,rfl,hk,hS⟩:=hrel;by_cases hlt:k<R
   ·have hlt2:(k:Int)<R:=by omega
    have hkn:k<n.firsts.length:=by have:=l.o;omega
    obtain⟨b1,o1,rfl,-,hb1,q⟩:=bD.o (by omega);have m0:=q k hlt;have V:=Zb3 (fun t=>((m:Int),(-1:Int),t)) (d:=0) hkn rfl;obtain⟨p0,hp⟩:∃ p,p=n.firsts.getD k 0:=⟨_,rfl⟩;rw[← hp] at m0 V;have m1:=(bcell hS.bel b1 _ hb1).trans m0;have e0:=hS.cell (v:=.int .i64 (m:Int)) 0 0 rfl rfl;have y0:=hS.cell (v:=.slice a1 (F+k) c1) 2 1 rfl rfl;have Z:=hS.alloc_ (.cells #[.int .i64 (m:Int),.int .i64 (-1),.int .i64 p0] 117);have aA:=qh Z;have aH:=qh (Z.row 3 rfl);have aU:=qh hp;clear hp;have y:=qh V;clear V;clear hS Z q m0;go_wp2_with (at_builtin;refine wpList_append_lies _ rfl _ _ _ rfl _ 117 i0 (.agg #[.int .i64 0,.int .i64 0,.int .i64 0]) 3 24 Tryz.underlying79 aP.o aF.o aE.o aD.o rfl (by omega) _ (F+k) _ rfl aH.o ⟨wr.heap.size,0,none⟩ 1 1 [.int .i64 (m:Int),.int .i64 (-1),.int .i64 p0] rfl rfl (World.news_of_block (heap_alloc_new wr _)) ZeD (by omega) (by unfold maxLen;omega) (by omega) aA.o.size _ rfl ?_;intro g6 c6 w6 P M T x;have X:=qh (aA.o.app 3 rfl P M T);have y1:=X.o.cell (v:=.slice a1 (F+k) c1) 2 1 rfl rfl;have y2:=X.o.fr 2 1 rfl;clear P M T x);go_roundw
    case rel =>refine⟨k+1,some ⟨g6,0,none⟩,c6,by go_num,by omega,?_⟩;rw[y.o,← List.append_assoc,List.flatMap_append (xs:=_++_)];exact X.o.set 2 rfl 1 (.slice (some ⟨g6,0,none⟩) (F+k+1) c6)
    case measure=>simp[intOf];omega
   obtain rfl:R=k:=by omega
   rw[show(n.firsts.take R)=n.firsts from List.take_of_length_le (by have:=l.o;omega)] at hS;have D:=qh hS;clear hS;have e9:=D.o.cell (v:=.slice ae U ce) 0 3 rfl rfl;have aL:=D;clear D;go_wp2
   go_loopw [41] (fun i wr=>∃ (k:Nat) (a1:Option Addr) (c1:Nat),i = .int .i64 k∧k≤U∧St w wr [Ent.box w.heap.size #[.int .i64 (m:Int),.slice av F cv,.slice af R cf,.slice ae U ce] 81,Ent.box (w.heap.size+1) #[.int .i64 0,.slice none 0 0,.slice none 0 0,.slice none 0 0] 81,Ent.box S #[.int .i64 ((m:Int)+1),.slice a1 (F+R+k) c1,.slice (some ⟨G,0,none⟩) 1 1,.slice (some ⟨H,0,none⟩) 1 1] 81,Ent.row 117 3 (.slice a1 (F+R+k) c1) (F+R+k) ((n.moves++(n.firsts.map fun t=>((m:Int),(-1:Int),t))++(n.ends.take k).map fun s=>(s,(-1:Int),(m:Int))).flatMap Zae),Ent.row 3 1 (.slice (some ⟨G,0,none⟩) 1 1) 1 [.int .i64 (m:Int)],Ent.row 3 1 (.slice (some ⟨H,0,none⟩) 1 1) 1 [.int .i64 (m:Int)]]) (fun i _=>U-(intOf i).toNat)
   case atStart =>refine⟨0,a1,c1,rfl,Nat.zero_le _,?_⟩;have h:=aL.o;rw[List.take_zero,List.map_nil,List.append_nil];exact h
   case round =>
    obtain⟨k,a1,c1,rfl,hk,hS⟩:=hrel;by_cases hlt:k<U
    ·have hlt2:(k:Int)<U:=by omega
     have hkn:k<n.ends.length:=by have:=r.o;omega
     obtain⟨b1,o1,rfl,-,hb1,q⟩:=bF.o (by omega);have m0:=q k hlt;have V:=Zb3 (fun s=>(s,(-1:Int),(m:Int))) (d:=0) hkn rfl;obtain⟨p0,hp⟩:∃ p,p=n.ends.getD k 0:=⟨_,rfl⟩;rw[← hp] at m0 V;have m1:=(bcell hS.bel b1 _ hb1).trans m0;have e0:=hS.cell (v:=.int .i64 (m:Int)) 0 0 rfl rfl;have y0:=hS.cell (v:=.slice a1 (F+R+k) c1) 2 1 rfl rfl;have Z:=hS.alloc_ (.cells #[.int .i64 p0,.int .i64 (-1),.int .i64 (m:Int)] 117);have aA:=qh Z;have aH:=qh (Z.row 3 rfl);have aU:=qh hp;clear hp;have y:=qh V;clear V;clear hS Z q m0;go_wp2_with (at_builtin;refine wpList_append_lies _ rfl _ _ _ rfl _ 117 i0 (.agg #[.int .i64 0,.int .i64 0,.int .i64 0]) 3 24 Tryz.underlying79 aP.o aF.o aE.o aD.o rfl (by omega) _ (F+R+k) _ rfl aH.o ⟨wr.heap.size,0,none⟩ 1 1 [.int .i64 p0,.int .i64 (-1),.int .i64 (m:Int)] rfl rfl (World.news_of_block (heap_alloc_new wr _)) ZeD (by omega) (by unfold maxLen;omega) (by omega) aA.o.size _ rfl ?_;intro g6 c6 w6 P M T x;have X:=qh (aA.o.app 3 rfl P M T);have y1:=X.o.cell (v:=.slice a1 (F+R+k) c1) 2 1 rfl rfl;have y2:=X.o.fr 2 1 rfl;clear P M T x);go_roundw
     case rel =>refine⟨k+1,some ⟨g6,0,none⟩,c6,by go_num,by omega,?_⟩;rw[y.o,← List.append_assoc,List.flatMap_append (xs:=_++_)];exact X.o.set 2 rfl 1 (.slice (some ⟨g6,0,none⟩) (F+R+k+1) c6)
     case measure=>simp[intOf];omega
    obtain rfl:U=k:=by omega
    rw[show(n.ends.take U)=n.ends from List.take_of_length_le (by have:=r.o;omega)] at hS;have D:=qh hS;clear hS;have e0:=D.o.cell (v:=.int .i64 ((m:Int)+1)) 2 0 rfl rfl;have e1:=D.o.cell (v:=.slice a1 (F+R+U) c1) 2 1 rfl rfl;have e2:=D.o.cell (v:=.slice (some ⟨G,0,none⟩) 1 1) 2 2 rfl rfl;have e3:=D.o.cell (v:=.slice (some ⟨H,0,none⟩) 1 1) 2 3 rfl rfl;have f0:=D.o.fr 1 0 rfl;have k0:=D.o.cell (v:=.int .i64 0) 1 0 rfl rfl;have f1:=D.o.fr 1 1 rfl;have k1:=D.o.cell (v:=.slice none 0 0) 1 1 rfl rfl;have f2:=D.o.fr 1 2 rfl;have k2:=D.o.cell (v:=.slice none 0 0) 1 2 rfl rfl;have f3:=D.o.fr 1 3 rfl;have k3:=D.o.cell (v:=.slice none 0 0) 1 3 rfl rfl;have aB:=qh ((((D.o.set 1 rfl 0 (.int .i64 ((m:Int)+1))).set 1 rfl 1 (.slice a1 (F+R+U) c1)).set 1 rfl 2 (.slice (some ⟨G,0,none⟩) 1 1)).set 1 rfl 3 (.slice (some ⟨H,0,none⟩) 1 1));have q0:=aB.o.cell (v:=.int .i64 ((m:Int)+1)) 1 0 rfl rfl;have q1:=aB.o.cell (v:=.slice a1 (F+R+U) c1) 1 1 rfl rfl;have q2:=aB.o.cell (v:=.slice (some ⟨G,0,none⟩) 1 1) 1 2 rfl rfl;have q3:=aB.o.cell (v:=.slice (some ⟨H,0,none⟩) 1 1) 1 3 rfl rfl;go_wp2;refine bodyPost_ret (v:=.agg #[.int .i64 ((m:Int)+1),.slice a1 (F+R+U) c1,.slice (some ⟨G,0,none⟩) 1 1,.slice (some ⟨H,0,none⟩) 1 1]) (by simp[results,Tryz.results59,go_sem,q0,q1,q2,q3]) rfl ?_;have aO:n.moves.length+n.firsts.length+n.ends.length=F+R+U:=by rw[c.o,l.o,r.o]
    have bA:Zc0 n=⟨(m:Int)+1,n.moves++(n.firsts.map fun t=>((m:Int),-1,t))++(n.ends.map fun s=>(s,-1,(m:Int))),[(m:Int)],[(m:Int)]⟩:=by unfold Zc0;rw[aY.o]
    rw[bA];refine⟨a1,c1,some ⟨G,0,none⟩,1,some ⟨H,0,none⟩,1,?_,?_⟩
    ·simp only[List.length_append,List.length_map,aO];rfl
    simp only[List.length_append,List.length_map,aO];exact aB.o.pick [3,4,5] (by decide)
 refine⟨false,false,false,false,false,false,false,false,false,false,false,false,false,false,false,none,0,0,0,0,rfl,by simp,by simp,(by simp),?_⟩;exact aW.o.drew.pick [0,1,2,3,4,5] (by decide)
theorem ZhF (w:World) (o o2:Obj):((w.alloc o).alloc o2).heap[w.heap.size+1]? = some o2:=by have:=heap_alloc_new (w.alloc o) o2;simpa only [World.size_alloc] using this
theorem Zk8 (xs:List Int) (v:Value) (d:Int) (w:World) (hl:xs.length≤1000) (hx:∀ x∈xs,-1000≤x∧x≤1000) (hd:-1000≤d∧d≤1000) (h:Ints 0 w v xs) :
  Calls Tryz.prog 137 #[v,.int .i64 d] w fun e w'=>∃ a c,e = .returned (.slice a xs.length c)∧St w w' [Ent.row 3 1 (.slice a xs.length c) xs.length (intCells (xs.map (·+d)))]:=by
 obtain⟨a0,c0,rfl,X,r,hr⟩:=h.form;obtain⟨q,hj,R,Q,I⟩:=info_parts Tryz.infoInt;obtain⟨L,H⟩:=eI (xs.length);have F:=(St.start w).nilRow 3 1;rw[← H] at hl X hr;rw[← H];obtain⟨hd0,z⟩:=hd;have Hr:=qh hr;replace F:=qh F;replace H:=qh H;have Z:=qh hx;clear hx;have l:=qh hj;clear hj;have J:=qh R;clear R;have T:=qh Q;clear Q;have P:=qh I;clear I;clear hr h
 go_enter Tryz.func137, Tryz.ntmps137
 go_wp2
 go_loopw [5,10] (fun y i wr=>∃ (k:Nat) (a:Option Addr) (c:Nat),i = .int .i64 k∧y = .slice a k c∧k≤L∧St w wr [Ent.row 3 1 (.slice a k c) k (intCells ((xs.take k).map (·+d)))])
  (fun _ i _=>L-(intOf i).toNat)
 case atStart=>exact⟨0,none,0,rfl,rfl,Nat.zero_le _,F.o⟩
 case round =>
  obtain⟨k,a,c,rfl,rfl,hk,hS⟩:=hrel;by_cases hlt:k<L
  ·have hlt2:(k:Int)<L:=by omega
   have hkn:k<xs.length:=by have:=H.o;omega
   obtain⟨b1,o1,rfl,-,hb1,M⟩:=Hr.o (by omega);have Y:=M k hlt;have G:=Zb3 (·+d) (d:=0) hkn rfl;have N:=Z.o _ (memD (d:=0) hkn);obtain⟨V,hp⟩:∃ p,p=xs.getD k 0:=⟨_,rfl⟩;rw[← hp] at Y G N;obtain⟨n,s⟩:=N;have m1:=(bcell hS.bel b1 _ hb1).trans Y;have hw:IntKind.i64.wrap (V+d)=V+d:=IntWalk.i64_in _ (by omega);have E:=hS.alloc_ (.cells #[.int .i64 (V+d)] 3);have U:=qh E;have b:=qh (E.row 0 rfl);have m:=qh hp;clear hp;have S:=qh G;clear G;clear hS E M Y;go_wp2_with (at_builtin;refine wpList_append_lies _ rfl _ _ _ rfl _ 3 q (.int .i64 0) 1 8 Tryz.underlying38 l.o J.o T.o P.o rfl (by omega) _ k _ rfl b.o ⟨wr.heap.size,0,none⟩ 1 1 [.int .i64 (V+d)] rfl rfl (World.news_of_block (heap_alloc_new wr _)) ZbX (by omega) (by unfold maxLen;omega) (by omega) U.o.size _ rfl ?_;intro u c6 w6 C B D O;have j:=qh (U.o.app 0 rfl C B D);clear C B D O);go_roundw
   case rel =>refine⟨k+1,some ⟨u,0,none⟩,c6,by go_num,rfl,by omega,?_⟩;rw[S.o,Zaz];exact j.o
   case measure=>simp[intOf];omega
  obtain rfl:L=k:=by omega
  rw[show xs.take L=xs from List.take_of_length_le (by have:=H.o;omega)] at hS;have g:=qh hS;clear hS;go_wp2;go_ret;exact⟨a,c,rfl,g.o⟩
theorem Zgt (p q:NfaD) (S:Nat) (v1 v2 v3 u1 u2 u3:Value) (w:World) (C:p.states=(S:Int)) (aS:S≤40) (aL:p.moves.length≤1000) (aF:q.moves.length≤1000) (b:mvIn 40 q.moves) (N:Moves 0 w v1 p.moves) (hq:Moves 0 w u1 q.moves) :
  Calls Tryz.prog 135 #[.agg #[.int .i64 p.states,v1,v2,v3],.agg #[.int .i64 q.states,u1,u2,u3]] w fun e w'=>∃ a c,e = .returned (.slice a (p.moves.length+q.moves.length) c)∧St w w' [Ent.row 117 3 (.slice a (p.moves.length+q.moves.length) c) (p.moves.length+q.moves.length) ((p.moves++q.moves.map (shM p.states)).flatMap Zae)]:=by
 have U:=fun (u:World) (hu:Below w.heap.size w u)=>ZhN p.moves v1 u (by omega) (N.below hu)
 obtain⟨av,cv,rfl,aB,aR,-⟩:=N.form;obtain⟨au,cu,rfl,aK,aV,hr⟩:=hq.form;obtain⟨i0,hi,z,aA,y⟩:=info_parts Tryz.infoMv;obtain⟨V,F⟩:∃ L,L=p.moves.length:=⟨_,rfl⟩;obtain⟨M,G⟩:∃ L,L=q.moves.length:=⟨_,rfl⟩;obtain⟨Q,hQ⟩:=eI (q.states);have E:=((St.start w).alloc _ rfl #[.int .i64 p.states,.slice av p.moves.length cv,v2,v3] 81).alloc (w.heap.size+1) (by simp) #[.int .i64 q.states,.slice au q.moves.length cu,u2,u3] 81;rw[C,← F,← G,← hQ] at E;rw[C,← F,← G,← hQ];rw[← F] at aL aB U;rw[← G] at aF aK hr;have e1:=E.cell (v:=.slice av V cv) 0 1 rfl rfl;have aI:=qh U;have Hr:=qh hr;replace E:=qh E;replace F:=qh F;have I:=qh G;clear G;have aD:=qh C;clear C;have X:=qh b;clear b;have aW:=qh hQ;clear hQ;have aJ:=qh hi;clear hi;have n:=qh z;clear z;have Z:=qh aA;clear aA;have Y:=qh y;clear y;clear U hr N hq
 go_enter Tryz.func135, Tryz.ntmps135
 go_wp2_with fail;refine(aI.o _ E.o.bel).mono ?_;rintro e w1 ⟨am,cm,rfl,s⟩;have j:=qh (E.o.cat s);clear s e1;have e2:=j.o.cell (v:=.slice au M cu) 1 1 rfl rfl;go_wp2
 go_loopw [5,14] (fun vo i wr=>∃ (k:Nat) (a:Option Addr) (c:Nat),i = .int .i64 k∧vo = .slice a (V+k) c∧k≤M∧St w wr [Ent.box w.heap.size #[.int .i64 (S:Int),.slice av V cv,v2,v3] 81,Ent.box (w.heap.size+1) #[.int .i64 Q,.slice au M cu,u2,u3] 81,Ent.row 117 3 (.slice a (V+k) c) (V+k) ((p.moves++(q.moves.take k).map (shM (S:Int))).flatMap Zae)])
  (fun _ i _=>M-(intOf i).toNat)
 case atStart =>refine⟨0,am,cm,rfl,rfl,Nat.zero_le _,?_⟩;rw[List.take_zero,List.map_nil,List.append_nil];exact j.o
 case round =>
  obtain⟨k,a,c,rfl,rfl,hk,hS⟩:=hrel;clear e2;by_cases hlt:k<M
  ·have hlt2:(k:Int)<M:=by omega
   have hkn:k<q.moves.length:=by have:=I.o;omega
   obtain⟨b1,o1,rfl,-,hb1,g⟩:=Hr.o (by omega);obtain⟨p1,p2,p3⟩:=g k hlt;have O:=Zb3 (shM (S:Int)) (d:=(0,0,0)) hkn rfl;have P:=X.o _ (memD (d:=(0,0,0)) hkn);obtain⟨mm,R⟩:=eI (q.moves.getD k (0,0,0));rw[← R] at p1 p2 p3 O P;obtain⟨f,l,t⟩:=mm;simp only at p1 p2 p3 P;obtain⟨⟨aN,aO⟩,aQ,aX⟩:=P;have m1:=(bcell hS.bel b1 _ hb1).trans p1;have m2:=(bcell hS.bel b1 _ hb1).trans p2;have m3:=(bcell hS.bel b1 _ hb1).trans p3;have aP:IntKind.i64.wrap (f+(S:Int))=f+(S:Int):=IntWalk.i64_in _ (by omega);have aT:IntKind.i64.wrap (t+(S:Int))=t+(S:Int):=IntWalk.i64_in _ (by omega);have B:=hS.alloc _ rfl #[.int .i64 f,.int .i64 l,.int .i64 t] 117;have e0:=B.cell (v:=.int .i64 (S:Int)) 0 0 rfl rfl;have g0:=B.cell (v:=.int .i64 f) 3 0 rfl rfl;have g1:=B.cell (v:=.int .i64 l) 3 1 rfl rfl;have g2:=B.cell (v:=.int .i64 t) 3 2 rfl rfl;have T:=B.alloc_ (.cells #[.int .i64 (f+(S:Int)),.int .i64 l,.int .i64 (t+(S:Int))] 117);have x:=qh T;have aH:=qh (T.row 2 rfl);have aC:=qh (ZhF wr (.cells #[.int .i64 f,.int .i64 l,.int .i64 t] 117) (.cells #[.int .i64 (f+(S:Int)),.int .i64 l,.int .i64 (t+(S:Int))] 117));have aU:=qh B;have aM:=qh R;clear R;have r:=qh O;clear O;clear hS T B g p1 p2 p3
   go_wp2_with (at_builtin;refine wpList_append_lies _ rfl _ _ _ rfl _ 117 i0 (.agg #[.int .i64 0,.int .i64 0,.int .i64 0]) 3 24 Tryz.underlying79 aJ.o n.o Z.o Y.o rfl (by omega) _ (V+k) _ rfl aH.o ⟨wr.heap.size+1,0,none⟩ 1 1 [.int .i64 (f+(S:Int)),.int .i64 l,.int .i64 (t+(S:Int))] rfl rfl (World.news_of_block aC.o) ZeD (by omega) (by unfold maxLen;omega) (by omega) x.o.size _ rfl ?_;intro g6 c6 w6 H D J m;have aG:=qh (x.o.app 2 rfl H D J);clear H D J m);go_roundw
   case rel =>refine⟨k+1,some ⟨g6,0,none⟩,c6,by go_num,rfl,by omega,?_⟩;rw[r.o,← List.append_assoc,List.flatMap_append (xs:=_++_)];exact aG.o.pick [0,1,2] (by decide)
   case measure=>simp[intOf];omega
  obtain rfl:M=k:=by omega
  rw[show q.moves.take M=q.moves from List.take_of_length_le (by have:=I.o;omega)] at hS;have aE:=qh hS;clear hS;go_wp2;go_ret;exact⟨a,c,rfl,aE.o.pick [2] (by decide)⟩
def jm (p q:NfaD) (S k:Nat):List (Int × Int × Int):=(p.moves++q.moves.map (shM (S:Int)))++(p.ends.take k).flatMap fun s=>q.firsts.map fun t=>(s,(-1:Int),t+(S:Int))
theorem ZoY {p q:NfaD} {S:Nat}:jm p q S 0=p.moves++q.moves.map (shM (S:Int)):=by simp[jm]
theorem ZrX {p q:NfaD} {S k:Nat} (hk:k<p.ends.length):jm p q S (k+1)=jm p q S k++q.firsts.map fun t=>(p.ends.getD k 0,(-1:Int),t+(S:Int)):=by unfold jm;rw[List.take_succ_eq_append_getElem hk,List.flatMap_append,← List.append_assoc];simp[hk]
theorem ZqX {p q:NfaD} {S Q:Nat} (hS:p.states=(S:Int)) (B:q.states=(Q:Int)):Zef p q=⟨(S:Int)+(Q:Int),jm p q S p.ends.length,p.firsts,q.ends.map (·+(S:Int))⟩:=by unfold Zef jm shN;rw[hS,B,List.take_length];simp only[List.map_map,NfaD.mk.injEq,and_true];refine⟨by omega,rfl⟩
theorem Zlz (p q:NfaD) (v1 v2 v3 u1 u2 u3:Value) (w:World) (hp:Zjk p=true) (hq:Zjk q=true) (h1:Moves 0 w v1 p.moves) (h2:Ints 0 w v2 p.firsts) (h3:Ints 0 w v3 p.ends) (g1:Moves 0 w u1 q.moves) (g2:Ints 0 w u2 q.firsts) (g3:Ints 0 w u3 q.ends) :
  Calls Tryz.prog 100 #[.agg #[.int .i64 p.states,v1,v2,v3],.agg #[.int .i64 q.states,u1,u2,u3]] w fun e w'=>RNfaS (Zef p q) w e w':=by
 obtain⟨S,aE,bS,cJ,cX,cI,bW,cQ,bV⟩:=ZdK hp;obtain⟨Q,aK,cD,bM,cN,bY,bH,bN,cE⟩:=ZdK hq;have bE:=fun (u:World) (hu:Below w.heap.size w u)=>Zgt p q S v1 v2 v3 u1 u2 u3 u aE bS (by omega) (by omega) (Zoy bM cD) (h1.below hu) (g1.below hu)
 have bB:=fun (u:World) (hu:Below w.heap.size w u)=>ZpC p.firsts v2 u (by omega) (h2.below hu)
 have bF:=fun (u:World) (hu:Below w.heap.size w u)=>Zk8 q.ends u3 (S:Int) u (by omega) (fun x hx=>by have:=bN x hx;omega) (by omega) (g3.below hu)
 obtain⟨aA,aB,rfl,-,-,-⟩:=h1.form;obtain⟨Y,X,rfl,-,-,-⟩:=h2.form;obtain⟨y,l,rfl,-,-,bG⟩:=h3.form;obtain⟨z,n,rfl,-,-,-⟩:=g1.form;obtain⟨b,g,rfl,-,-,bC⟩:=g2.form;obtain⟨U,V,rfl,-,-,-⟩:=g3.form;obtain⟨i0,hi,cG,cH,cF⟩:=info_parts Tryz.infoMv;obtain⟨L1,r⟩:∃ L,L=p.moves.length:=⟨_,rfl⟩;obtain⟨P,c⟩:∃ L,L=p.firsts.length:=⟨_,rfl⟩;obtain⟨E1,m⟩:∃ L,L=p.ends.length:=⟨_,rfl⟩;obtain⟨L2,aI⟩:∃ L,L=q.moves.length:=⟨_,rfl⟩;obtain⟨F2,aJ⟩:∃ L,L=q.firsts.length:=⟨_,rfl⟩;obtain⟨M,aH⟩:∃ L,L=q.ends.length:=⟨_,rfl⟩;have aY:=(((St.start w).alloc _ rfl #[.int .i64 p.states,.slice aA p.moves.length aB,.slice Y p.firsts.length X,.slice y p.ends.length l] 81).alloc (w.heap.size+1) (by simp) #[.int .i64 q.states,.slice z q.moves.length n,.slice b q.firsts.length g,.slice U q.ends.length V] 81).alloc (w.heap.size+1+1) (by simp) #[.int .i64 0,.slice none 0 0,.slice none 0 0,.slice none 0 0] 81;rw[aE,aK,← r,← c,← m,← aI,← aJ,← aH] at aY;rw[aE,aK,← r,← c,← m,← aI,← aJ,← aH];rw[aE,aK,← r,← c,← m,← aI,← aJ,← aH] at bE;rw[← r] at cX;rw[← c] at bW bB;rw[← m] at bV bG;rw[← aI] at cN;rw[← aJ] at bH bC;rw[← aH] at cE bF;have bU:=aY.call (Below.refl _ _)
 have cL:QH (St w _ [Ent.box w.heap.size #[.int .i64 (S:Int),.slice aA L1 aB,.slice Y P X,.slice y E1 l] 81,Ent.box (w.heap.size+1) #[.int .i64 (Q:Int),.slice z L2 n,.slice b F2 g,.slice U M V] 81,Ent.box (w.heap.size+1+1) #[.int .i64 0,.slice none 0 0,.slice none 0 0,.slice none 0 0] 81,Ent.nil,Ent.nil,Ent.nil,Ent.nil]):=qh (bU.pick [0,1,2,3,4,5,6] (by decide));have cS:=qh bE;have cM:=qh bB;have cO:=qh bF;have cV:=qh bG;have cR:=qh bC;replace r:=qh r;replace c:=qh c;replace m:=qh m;have bP:=qh aI;clear aI;have aL:=qh aJ;clear aJ;have aS:=qh aH;clear aH;have bR:=qh aE;clear aE;have bO:=qh aK;clear aK;have cB:=qh bY;clear bY;have cU:=qh hi;clear hi;have cA:=qh cG;clear cG;have bK:=qh cH;clear cH;have bI:=qh cF;clear cF;clear h1 h2 h3 g1 g2 g3 bG bC bE bB bF aY bU cJ cI cQ bM bN hp hq
 go_enter Tryz.func100, Tryz.ntmps100
 go_wp2_with fail;refine wp_region_any (by kernel_rfl) ?_
 refine Zay (fun A listed a w'=>∃ (l0 l1 l2 l3 l4 l5 l6 l7 l8 l9 aD aO aR aQ aP aF H aG I:Bool) (am:Option Addr) (cm:Nat) (F:Option Addr) (G:Nat) (ae:Option Addr) (ce:Nat) (O:Nat),listed=#[l0,l1,l2,l3,l4,l5,l6,l7,l8,l9,aD,aO,aR,aQ,aP,aF,H,aG,I]∧(H=true→l4=true∧l7=true∧aD=true∧aF=true)∧(I=true→aG=true∧H=true) ∧
   a=⟨((((((((((((((((((A.tmps.setIfInBounds 10 (if l0=true then .pointer (some ⟨w.heap.size,0,none⟩) else A.tmps.getD 10 undef)).setIfInBounds 11 (if l1=true then .int .i64 (S:Int) else A.tmps.getD 11 undef)).setIfInBounds 12 (if l2=true then .pointer (some ⟨w.heap.size+1,0,none⟩) else A.tmps.getD 12 undef)).setIfInBounds 13 (if l3=true then .int .i64 (Q:Int) else A.tmps.getD 13 undef)).setIfInBounds 14 (if l4=true then .int .i64 ((S:Int)+(Q:Int)) else A.tmps.getD 14 undef)).setIfInBounds 15 (if l5=true then .agg #[.int .i64 (S:Int),.slice aA L1 aB,.slice Y P X,.slice y E1 l] else A.tmps.getD 15 undef)).setIfInBounds 16 (if l6=true then .agg #[.int .i64 (Q:Int),.slice z L2 n,.slice b F2 g,.slice U M V] else A.tmps.getD 16 undef)).setIfInBounds 17 (if l7=true then .slice am (L1+L2) cm else A.tmps.getD 17 undef)).setIfInBounds 18 (if l8=true then .pointer (some ⟨w.heap.size,2,none⟩) else A.tmps.getD 18 undef)).setIfInBounds 19 (if l9=true then .slice Y P X else A.tmps.getD 19 undef)).setIfInBounds 20 (if aD=true then .slice F P G else A.tmps.getD 20 undef)).setIfInBounds 21 (if aO=true then .pointer (some ⟨w.heap.size+1,3,none⟩) else A.tmps.getD 21 undef)).setIfInBounds 22 (if aR=true then .slice U M V else A.tmps.getD 22 undef)).setIfInBounds 23 (if aQ=true then .pointer (some ⟨w.heap.size,0,none⟩) else A.tmps.getD 23 undef)).setIfInBounds 24 (if aP=true then .int .i64 (S:Int) else A.tmps.getD 24 undef)).setIfInBounds 25 (if aF=true then .slice ae M ce else A.tmps.getD 25 undef)).setIfInBounds 26 (if H=true then .agg #[.int .i64 ((S:Int)+(Q:Int)),.slice am (L1+L2) cm,.slice F P G,.slice ae M ce] else A.tmps.getD 26 undef)).setIfInBounds 5 (if aG=true then .pointer (some ⟨O,0,none⟩) else A.tmps.getD 5 undef)),A.defers⟩ ∧
   St w w' [Ent.box w.heap.size #[.int .i64 (S:Int),.slice aA L1 aB,.slice Y P X,.slice y E1 l] 81,Ent.box (w.heap.size+1) #[.int .i64 (Q:Int),.slice z L2 n,.slice b F2 g,.slice U M V] 81,Ent.box (w.heap.size+1+1) #[.int .i64 0,.slice none 0 0,.slice none 0 0,.slice none 0 0] 81,(if aG=true then Ent.box O #[(if I=true then .int .i64 ((S:Int)+(Q:Int)) else .int .i64 0),(if I=true then .slice am (L1+L2) cm else .slice none 0 0),(if I=true then .slice F P G else .slice none 0 0),(if I=true then .slice ae M ce else .slice none 0 0)] 81 else Ent.nil),(if l7=true then Ent.row 117 3 (.slice am (L1+L2) cm) (L1+L2) ((p.moves++q.moves.map (shM (S:Int))).flatMap Zae) else Ent.nil),(if aD=true then Ent.row 3 1 (.slice F P G) P (intCells p.firsts) else Ent.nil),(if aF=true then Ent.row 3 1 (.slice ae M ce) M (intCells (q.ends.map (·+(S:Int)))) else Ent.nil)]) ?_ ?_ ?_
 ·rintro listed a w' ⟨l0,l1,l2,l3,l4,l5,l6,l7,l8,l9,aD,aO,aR,aQ,aP,aF,H,aG,I,am,cm,F,G,ae,ce,O,rfl,C,B,rfl,hS⟩ i hi;obtain⟨E,o,ho,hall⟩:=mem_ready.1 hi;have hlt:=(Array.getElem?_eq_some_iff.1 ho).1;refine wpOp_step ho (fun K Z => ?_);clear hi;have D:=qh hS;clear hS;simp only[w_1,w_2,w_3,w_4,w_5,w_6,w_7,w_8];obtain h|h|h|h|h|h|h|h|h|h|h|h|h|h|h|h|h|h|h:i=0∨i=1∨i=2∨i=3∨i=4∨i=5∨i=6∨i=7∨i=8∨i=9∨i=10∨i=11∨i=12∨i=13∨i=14∨i=15∨i=16∨i=17∨i=18:=by simp at hlt;omega
  all_goals subst h
  all_goals simp only[w_5,w_6,w_7,w_9] at ho
  all_goals subst ho
  all_goals simp[Region.binds] at E hall
  ·subst E;go_simp;exact Z _ _ ⟨_,_,_,_,_,_,_,_,_,_,_,_,_,_,_,_,_,_,_,am,cm,F,G,ae,ce,O,rfl,C,B,(by simp),D.o⟩
  ·obtain rfl:=hall;subst E;have e0:=D.o.cell (v:=.int .i64 (S:Int)) 0 0 rfl rfl;go_simp;exact Z _ _ ⟨_,_,_,_,_,_,_,_,_,_,_,_,_,_,_,_,_,_,_,am,cm,F,G,ae,ce,O,rfl,C,B,(by simp),D.o⟩
  ·subst E;go_simp;exact Z _ _ ⟨_,_,_,_,_,_,_,_,_,_,_,_,_,_,_,_,_,_,_,am,cm,F,G,ae,ce,O,rfl,C,B,(by simp),D.o⟩
  ·obtain rfl:=hall;subst E;have e0:=D.o.cell (v:=.int .i64 (Q:Int)) 1 0 rfl rfl;go_simp;exact Z _ _ ⟨_,_,_,_,_,_,_,_,_,_,_,_,_,_,_,_,_,_,_,am,cm,F,G,ae,ce,O,rfl,C,B,(by simp),D.o⟩
  ·obtain⟨rfl,rfl⟩:=hall;subst E;obtain rfl:H=false:=by cases H with|false=>rfl|true=>simpa using C rfl
   obtain rfl:I=false:=offR B rfl;have hw:IntKind.i64.wrap ((S:Int)+(Q:Int))=(S:Int)+(Q:Int):=IntWalk.i64_in _ (by omega);go_simp;exact Z _ _ ⟨_,_,_,_,_,_,_,_,_,_,_,_,_,_,_,_,_,_,_,am,cm,F,G,ae,ce,O,rfl,by simp,by simp,(by simp),D.o⟩
  ·subst E;have e0:=D.o.cell (v:=.int .i64 (S:Int)) 0 0 rfl rfl;have e1:=D.o.cell (v:=.slice aA L1 aB) 0 1 rfl rfl;have e2:=D.o.cell (v:=.slice Y P X) 0 2 rfl rfl;have e3:=D.o.cell (v:=.slice y E1 l) 0 3 rfl rfl;go_simp;exact Z _ _ ⟨_,_,_,_,_,_,_,_,_,_,_,_,_,_,_,_,_,_,_,am,cm,F,G,ae,ce,O,rfl,C,B,(by simp),D.o⟩
  ·subst E;have e0:=D.o.cell (v:=.int .i64 (Q:Int)) 1 0 rfl rfl;have e1:=D.o.cell (v:=.slice z L2 n) 1 1 rfl rfl;have e2:=D.o.cell (v:=.slice b F2 g) 1 2 rfl rfl;have e3:=D.o.cell (v:=.slice U M V) 1 3 rfl rfl;go_simp;exact Z _ _ ⟨_,_,_,_,_,_,_,_,_,_,_,_,_,_,_,_,_,_,_,am,cm,F,G,ae,ce,O,rfl,C,B,(by simp),D.o⟩
  ·obtain⟨rfl,rfl⟩:=hall;subst E;obtain rfl:H=false:=by cases H with|false=>rfl|true=>simpa using C rfl
   obtain rfl:I=false:=offR B rfl;go_simp
   go_at_call 135
   refine(cS.o _ D.o.bel).mono ?_;rintro e u1 ⟨x1,d1,rfl,hb⟩;have T:=(D.o.cat hb).pick [0,1,2,3,7,5,6] (by decide);have R:=qh T;clear T;go_simp;exact Z _ _ ⟨_,_,_,_,_,_,_,_,_,_,_,_,_,_,_,_,_,_,_,x1,d1,F,G,ae,ce,O,rfl,by simp,by simp,(by simp),R.o⟩
  ·subst E;go_simp;exact Z _ _ ⟨_,_,_,_,_,_,_,_,_,_,_,_,_,_,_,_,_,_,_,am,cm,F,G,ae,ce,O,rfl,C,B,(by simp),D.o⟩
  ·obtain rfl:=hall;subst E;have e0:=D.o.cell (v:=.slice Y P X) 0 2 rfl rfl;go_simp;exact Z _ _ ⟨_,_,_,_,_,_,_,_,_,_,_,_,_,_,_,_,_,_,_,am,cm,F,G,ae,ce,O,rfl,C,B,(by simp),D.o⟩
  ·obtain⟨rfl,rfl⟩:=hall;subst E;obtain rfl:H=false:=by cases H with|false=>rfl|true=>simpa using C rfl
   obtain rfl:I=false:=offR B rfl;go_simp
   go_at_call 136
   refine(cM.o _ D.o.bel).mono ?_;rintro e u1 ⟨x1,d1,rfl,hb⟩;have T:=(D.o.cat hb).pick [0,1,2,3,4,7,6] (by decide);have R:=qh T;clear T;go_simp;exact Z _ _ ⟨_,_,_,_,_,_,_,_,_,_,_,_,_,_,_,_,_,_,_,am,cm,x1,d1,ae,ce,O,rfl,by simp,by simp,(by simp),R.o⟩
  ·subst E;go_simp;exact Z _ _ ⟨_,_,_,_,_,_,_,_,_,_,_,_,_,_,_,_,_,_,_,am,cm,F,G,ae,ce,O,rfl,C,B,(by simp),D.o⟩
  ·obtain rfl:=hall;subst E;have e0:=D.o.cell (v:=.slice U M V) 1 3 rfl rfl;go_simp;exact Z _ _ ⟨_,_,_,_,_,_,_,_,_,_,_,_,_,_,_,_,_,_,_,am,cm,F,G,ae,ce,O,rfl,C,B,(by simp),D.o⟩
  ·subst E;go_simp;exact Z _ _ ⟨_,_,_,_,_,_,_,_,_,_,_,_,_,_,_,_,_,_,_,am,cm,F,G,ae,ce,O,rfl,C,B,(by simp),D.o⟩
  ·obtain rfl:=hall;subst E;have e0:=D.o.cell (v:=.int .i64 (S:Int)) 0 0 rfl rfl;go_simp;exact Z _ _ ⟨_,_,_,_,_,_,_,_,_,_,_,_,_,_,_,_,_,_,_,am,cm,F,G,ae,ce,O,rfl,C,B,(by simp),D.o⟩
  ·obtain⟨rfl,rfl,rfl⟩:=hall;subst E;obtain rfl:H=false:=by cases H with|false=>rfl|true=>simpa using C rfl
   obtain rfl:I=false:=offR B rfl;go_simp
   go_at_call 137
   refine(cO.o _ D.o.bel).mono ?_;rintro e u1 ⟨x1,d1,rfl,hb⟩;have T:=(D.o.cat hb).pick [0,1,2,3,4,5,7] (by decide);have R:=qh T;clear T;go_simp;exact Z _ _ ⟨_,_,_,_,_,_,_,_,_,_,_,_,_,_,_,_,_,_,_,am,cm,F,G,x1,d1,O,rfl,by simp,by simp,(by simp),R.o⟩
  ·obtain⟨rfl,rfl,rfl,rfl⟩:=hall;subst E;obtain rfl:I=false:=offR B rfl;go_simp;exact Z _ _ ⟨_,_,_,_,_,_,_,_,_,_,_,_,_,_,_,_,_,_,_,am,cm,F,G,ae,ce,O,rfl,by simp,by simp,(by simp),D.o⟩
  ·subst E;obtain rfl:I=false:=offL B rfl;have T:=(D.o.alloc _ rfl #[.int .i64 0,.slice none 0 0,.slice none 0 0,.slice none 0 0] 81).pick [0,1,2,7,4,5,6] (by decide);have R:=qh T;clear T;go_simp;exact Z _ _ ⟨_,_,_,_,_,_,_,_,_,_,_,_,_,_,_,_,_,_,_,am,cm,F,G,ae,ce,w'.heap.size,rfl,C,by simp,(by simp),R.o⟩
  obtain⟨rfl,rfl,rfl,rfl,rfl,rfl,rfl,rfl,rfl,rfl,rfl,rfl,rfl,rfl,rfl,rfl,rfl,rfl,-,-,-⟩:=hall;subst E;have f0:=D.o.fr 3 0 rfl;have k0:=D.o.cell (v:=.int .i64 0) 3 0 rfl rfl;have f1:=D.o.fr 3 1 rfl;have k1:=D.o.cell (v:=.slice none 0 0) 3 1 rfl rfl;have f2:=D.o.fr 3 2 rfl;have k2:=D.o.cell (v:=.slice none 0 0) 3 2 rfl rfl;have f3:=D.o.fr 3 3 rfl;have k3:=D.o.cell (v:=.slice none 0 0) 3 3 rfl rfl;go_simp;exact Z _ _ ⟨_,_,_,_,_,_,_,_,_,_,_,_,_,_,_,_,_,_,_,am,cm,F,G,ae,ce,O,rfl,by simp,by simp,(by simp only[↓reduceIte,w_1,w_2,w_3]),((((D.o.set 3 rfl 0 (.int .i64 ((S:Int)+(Q:Int)))).set 3 rfl 1 (.slice am (L1+L2) cm)).set 3 rfl 2 (.slice F P G)).set 3 rfl 3 (.slice ae M ce))⟩
 ·rintro listed a w' ⟨l0,l1,l2,l3,l4,l5,l6,l7,l8,l9,aD,aO,aR,aQ,aP,aF,H,aG,I,am,cm,F,G,ae,ce,O,rfl,C,B,rfl,hS⟩ hr;obtain⟨rfl,rfl,rfl,rfl,rfl,rfl,rfl,rfl,rfl,rfl,rfl,rfl,rfl,rfl,rfl,rfl,rfl,rfl,rfl,-⟩:=zA (Za1 (by kernel_rfl) rfl hr) rfl;clear hr C B;simp only[↓reduceIte] at hS ⊢;simp only[w_1,w_2,w_3];have bT:=qh (hS.pick [0,1,2,3,4,5,6] (by decide));clear hS;have e9:=bT.o.cell (v:=.slice y E1 l) 0 3 rfl rfl;go_wp2
  go_loopw [30] (fun i wr=>∃ (k N c1:Nat) (a1:Option Addr),i = .int .i64 k∧k≤E1∧N=(jm p q S k).length∧N≤2000+40*k∧St w wr [Ent.box w.heap.size #[.int .i64 (S:Int),.slice aA L1 aB,.slice Y P X,.slice y E1 l] 81,Ent.box (w.heap.size+1) #[.int .i64 (Q:Int),.slice z L2 n,.slice b F2 g,.slice U M V] 81,Ent.box (w.heap.size+1+1) #[.int .i64 0,.slice none 0 0,.slice none 0 0,.slice none 0 0] 81,Ent.box O #[.int .i64 ((S:Int)+(Q:Int)),.slice a1 N c1,.slice F P G,.slice ae M ce] 81,Ent.row 117 3 (.slice a1 N c1) N ((jm p q S k).flatMap Zae),Ent.row 3 1 (.slice F P G) P (intCells p.firsts),Ent.row 3 1 (.slice ae M ce) M (intCells (q.ends.map (·+(S:Int))))]) (fun i _=>E1-(intOf i).toNat)
  case atStart =>
   refine⟨0,L1+L2,cm,am,rfl,Nat.zero_le _,?_,by omega,?_⟩
   ·rw[ZoY,List.length_append,List.length_map,← r.o,← bP.o]
   rw[ZoY];exact bT.o
  case round =>
   obtain⟨k,N,c1,a1,rfl,hk,hN,dB,hS⟩:=hrel;by_cases hlt:k<E1
   ·have hlt2:(k:Int)<E1:=by omega
    have hkn:k<p.ends.length:=by have:=m.o;omega
    obtain⟨b1,o1,rfl,-,hb1,bQ⟩:=cV.o (by omega);have m0:=bQ k hlt;have aW:=ZrX (q:=q) (S:=S) hkn;obtain⟨s,hs⟩:=eI (p.ends.getD k 0);rw[← hs] at m0 aW;have m1:=(bcell hS.bel b1 _ hb1).trans m0;have e1:=hS.cell (v:=.slice b F2 g) 1 2 rfl rfl;have cK:=qh hS;obtain⟨wo,cT⟩:∃ wo:World,wo=wr:=⟨_,rfl⟩;subst cT;have aX:=qh hN;clear hN;have cZ:=qh hs;clear hs;have aT:=qh aW;clear aW;clear hS bQ m0 e9;go_wp2
    go_loopw [37] (fun i wi=>∃ (j c2:Nat) (a2:Option Addr),i = .int .i64 j∧j≤F2∧St w wi [Ent.box w.heap.size #[.int .i64 (S:Int),.slice aA L1 aB,.slice Y P X,.slice (some ⟨b1,o1,none⟩) E1 l] 81,Ent.box (w.heap.size+1) #[.int .i64 (Q:Int),.slice z L2 n,.slice b F2 g,.slice U M V] 81,Ent.box (w.heap.size+1+1) #[.int .i64 0,.slice none 0 0,.slice none 0 0,.slice none 0 0] 81,Ent.box O #[.int .i64 ((S:Int)+(Q:Int)),.slice a2 (N+j) c2,.slice F P G,.slice ae M ce] 81,Ent.row 117 3 (.slice a2 (N+j) c2) (N+j) ((jm p q S k++(q.firsts.take j).map fun t=>(s,(-1:Int),t+(S:Int))).flatMap Zae),Ent.row 3 1 (.slice F P G) P (intCells p.firsts),Ent.row 3 1 (.slice ae M ce) M (intCells (q.ends.map (·+(S:Int))))]) (fun i _=>F2-(intOf i).toNat)
    case atStart =>refine⟨0,c1,a1,rfl,Nat.zero_le _,?_⟩;rw[List.take_zero,List.map_nil,List.append_nil];exact cK.o
    case round =>
     obtain⟨j,c2,a2,rfl,hj,hS⟩:=hrel;clear e1;by_cases hjl:j<F2
     ·have cY:(j:Int)<F2:=by omega
      have hjn:j<q.firsts.length:=by have:=aL.o;omega
      obtain⟨b2,o2,rfl,-,hb2,aU⟩:=cR.o (by omega);have n0:=aU j hjl;have bA:=Zb3 (fun t=>(s,(-1:Int),t+(S:Int))) (d:=0) hjn rfl;have bX:=cB.o _ (memD (d:=0) hjn);obtain⟨p0,hp⟩:=eI (q.firsts.getD j 0);rw[← hp] at n0 bA bX;obtain⟨dD,dC⟩:=bX;have n1:=(bcell hS.bel b2 _ hb2).trans n0;have e0:=hS.cell (v:=.int .i64 (S:Int)) 0 0 rfl rfl;have y0:=hS.cell (v:=.slice a2 (N+j) c2) 3 1 rfl rfl;have hw:IntKind.i64.wrap (p0+(S:Int))=p0+(S:Int):=IntWalk.i64_in _ (by omega);have bD:=hS.alloc_ (.cells #[.int .i64 s,.int .i64 (-1),.int .i64 (p0+(S:Int))] 117);have cC:=qh bD;have cP:=qh (bD.row 4 rfl);have dA:=qh hp;clear hp;have bL:=qh bA;clear bA;clear hS bD aU n0;go_wp2_with (at_builtin;refine wpList_append_lies _ rfl _ _ _ rfl _ 117 i0 (.agg #[.int .i64 0,.int .i64 0,.int .i64 0]) 3 24 Tryz.underlying79 cU.o cA.o bK.o bI.o rfl (by omega) _ (N+j) _ rfl cP.o ⟨wr.heap.size,0,none⟩ 1 1 [.int .i64 s,.int .i64 (-1),.int .i64 (p0+(S:Int))] rfl rfl (World.news_of_block (heap_alloc_new wr _)) ZeD (by omega) (by unfold maxLen;omega) (by omega) cC.o.size _ rfl ?_;intro g6 c6 w6 aM aC aV bZ;have aZ:=qh (cC.o.app 4 rfl aM aC aV);have y1:=aZ.o.cell (v:=.slice a2 (N+j) c2) 3 1 rfl rfl;have y2:=aZ.o.fr 3 1 rfl;clear aM aC aV bZ);go_roundw
      case rel =>refine⟨j+1,c6,some ⟨g6,0,none⟩,by go_num,by omega,?_⟩;rw[bL.o,← List.append_assoc,List.flatMap_append (xs:=_++_)];exact aZ.o.set 3 rfl 1 (.slice (some ⟨g6,0,none⟩) (N+j+1) c6)
      case measure=>simp[intOf];omega
     obtain rfl:F2=j:=by omega
     rw[show q.firsts.take F2=q.firsts from List.take_of_length_le (by have:=aL.o;omega),← aT.o] at hS;have cW:=qh hS;clear hS;go_wp2;go_roundw
     case rel=>exact⟨k+1,N+F2,c2,a2,by go_num,by omega,by rw[aT.o,List.length_append,List.length_map,← aX.o,← aL.o],by omega,cW.o⟩
     case measure=>simp[intOf];omega
   obtain rfl:E1=k:=by omega
   have J:=qh hS;have aX:=qh hN;clear hN;clear hS;have e0:=J.o.cell (v:=.int .i64 ((S:Int)+(Q:Int))) 3 0 rfl rfl;have e1:=J.o.cell (v:=.slice a1 N c1) 3 1 rfl rfl;have e2:=J.o.cell (v:=.slice F P G) 3 2 rfl rfl;have e3:=J.o.cell (v:=.slice ae M ce) 3 3 rfl rfl;have f0:=J.o.fr 2 0 rfl;have k0:=J.o.cell (v:=.int .i64 0) 2 0 rfl rfl;have f1:=J.o.fr 2 1 rfl;have k1:=J.o.cell (v:=.slice none 0 0) 2 1 rfl rfl;have f2:=J.o.fr 2 2 rfl;have k2:=J.o.cell (v:=.slice none 0 0) 2 2 rfl rfl;have f3:=J.o.fr 2 3 rfl;have k3:=J.o.cell (v:=.slice none 0 0) 2 3 rfl rfl;have aN:=qh ((((J.o.set 2 rfl 0 (.int .i64 ((S:Int)+(Q:Int)))).set 2 rfl 1 (.slice a1 N c1)).set 2 rfl 2 (.slice F P G)).set 2 rfl 3 (.slice ae M ce));have q0:=aN.o.cell (v:=.int .i64 ((S:Int)+(Q:Int))) 2 0 rfl rfl;have q1:=aN.o.cell (v:=.slice a1 N c1) 2 1 rfl rfl;have q2:=aN.o.cell (v:=.slice F P G) 2 2 rfl rfl;have q3:=aN.o.cell (v:=.slice ae M ce) 2 3 rfl rfl;go_wp2;refine bodyPost_ret (v:=.agg #[.int .i64 ((S:Int)+(Q:Int)),.slice a1 N c1,.slice F P G,.slice ae M ce]) (by simp[results,Tryz.results100,go_sem,q0,q1,q2,q3]) rfl ?_;have hj:Zef p q=⟨(S:Int)+(Q:Int),jm p q S E1,p.firsts,q.ends.map (·+(S:Int))⟩:=by rw[m.o];exact ZqX bR.o bO.o
   have bJ:(jm p q S E1).length=N:=aX.o.symm;rw[hj];refine⟨a1,c1,F,G,ae,ce,?_,?_⟩
   ·simp only[List.length_map,bJ,← c.o,← aS.o]
   simp only[List.length_map,bJ,← c.o,← aS.o];exact aN.o.pick [4,5,6] (by decide)
 refine⟨false,false,false,false,false,false,false,false,false,false,false,false,false,false,false,false,false,false,false,none,0,none,0,none,0,0,rfl,by simp,by simp,(by simp),?_⟩;exact cL.o.drew.pick [0,1,2,3,4,5,6] (by decide)
theorem Sl.keptJ {B C:Nat} {w w':World} {v:Value} {n size:Nat} {cs:List Value} (h:Sl B w v n size cs) (E:C≤B) (hs:w.heap.size≤w'.heap.size) (hk:∀ k,B≤k→k<w.heap.size→w'.heap[k]? = w.heap[k]?):Sl C w' v n size cs:=by obtain⟨hl,a,cap,D,h1,h2,h3⟩:=h;refine⟨hl,a,cap,D,h1,h2,fun hn => ?_⟩;obtain⟨b,off,ha,hb,hlt,hc⟩:=h3 hn;refine⟨b,off,ha,by omega,by omega,fun j hj => ?_⟩;rw[← hc j hj];exact World.cell?_of_block (hk b hb hlt)
def DfaE (w w':World):Ent:=⟨fun k=>w.heap.size≤k∧k<w'.heap.size,fun u=>∀ k,w.heap.size≤k→k<w'.heap.size→u.heap[k]? = w'.heap[k]?,fun _ _ h hk k h1 h2=>(hk k ⟨h1,h2⟩).trans (h k h1 h2)⟩
theorem St.dfaE {w0 w w':World} {L:List Ent} (h:St w0 w L) (hb:Below w.heap.size w w'):St w0 w' (L++[DfaE w w']):=h.add hb _ (fun _ _ _=>rfl) fun _ hk=>hk
structure DfaH (E:Ent) (v1 v2:Value) (vs:List Value) (D:DfaD):Prop where
 rd:∀ w,E.holds w→(∀ k,E.foot k→k<w.heap.size)→Sl 0 w v1 D.next.length 1 vs∧(∀ i,i<D.next.length→Ints 0 w (vs.getD i undef) (D.next.getD i []))∧Bools 0 w v2 D.ends
theorem DfaH.at {w0 w:World} {L:List Ent} {E:Ent} {v1 v2:Value} {vs:List Value} {D:DfaD} (h:DfaH E v1 v2 vs D) (hS:St w0 w L) (i:Nat) (hx:L[i]? = some E):Sl 0 w v1 D.next.length 1 vs∧(∀ i,i<D.next.length→Ints 0 w (vs.getD i undef) (D.next.getD i []))∧Bools 0 w v2 D.ends :=
 h.rd w (hS.has i _ hx).1 fun k hk=>((hS.has i _ hx).2 k hk).2
theorem DfaH.r {w0 w:World} {L:List Ent} {E:Ent} {v1 v2:Value} {vs:List Value} {D:DfaD} (h:DfaH E v1 v2 vs D) (hS:St w0 w L) (i:Nat) (hx:L[i]? = some E):DfaR 0 w (.agg #[v1,v2]) D:=by obtain⟨h1,h2,h3⟩:=h.at hS i hx;exact⟨v1,v2,rfl,⟨vs,h1,h2⟩,h3⟩
def dif (a b:Nat→Nat) (j k:Nat):Bool:=decide (a j=a k) != decide (b j=b k)
def difs (a b:Nat→Nat) (k m:Nat):Bool:=(List.range m).any fun j=>dif a b j k
def difK (a b:Nat→Nat) (k:Nat):Bool:=(List.range k).any fun x=>difs a b x x
theorem Zpq (a b:Nat→Nat) (k m:Nat):difs a b k (m+1)=(difs a b k m||dif a b m k):=by unfold difs;rw[List.range_succ,List.any_append];simp
theorem Zpr (a b:Nat→Nat) (k:Nat):difK a b (k+1)=(difK a b k||difs a b k k):=by unfold difK;rw[List.range_succ,List.any_append];simp
theorem Zno {a b:Nat→Nat} {n:Nat}:difK a b n=false↔∀ k j,k<n→j<k→(a j=a k↔b j=b k):=by
 constructor
 ·intro h k j hk hj;have h1:difs a b k k=false:=by simpa using List.any_eq_false.1 h k (List.mem_range.2 hk)
  have h2:dif a b j k=false:=by simpa using List.any_eq_false.1 h1 j (List.mem_range.2 hj)
  simpa [dif] using h2
 intro h;refine List.any_eq_false.2 fun k hk => ?_
 simp only[Bool.not_eq_true];refine List.any_eq_false.2 fun j hj => ?_
 simp only[Bool.not_eq_true];have:=h k j (List.mem_range.1 hk) (List.mem_range.1 hj);simpa [dif] using this
def apart (n:Nat) (cl:Nat→Nat):Nat:=((List.range (n*n)).filter fun x=>decide (cl (x / n)≠cl (x % n))).length
theorem ZmF (n:Nat) (cl:Nat→Nat):apart n cl≤n*n:=by have:=List.length_filter_le (fun x=>decide (cl (x / n)≠cl (x % n))) (List.range (n*n));simpa [apart] using this
theorem Znu {n:Nat} {nx:Nat→Nat→Nat} {cl:Nat→Nat} {j k:Nat} (hj:j<n) (hk:k<n) (h0:cl j=cl k) (h1:Zav n nx cl j≠Zav n nx cl k):apart n cl<apart n (Zav n nx cl):=by
 have hn:0<n:=by omega
 have e1:(k+n*j) / n=j:=by rw[Nat.add_mul_div_left _ _ hn,Nat.div_eq_of_lt hk,Nat.zero_add]
 have e2:(k+n*j) % n=k:=by rw[Nat.add_mul_mod_self_left,Nat.mod_eq_of_lt hk]
 refine Zei (a:=k+n*j) (by rw[e1,e2];simpa using h0) (by rw[e1,e2];simpa using h1) ?_ fun x hx h => ?_
 ·rw[List.mem_range]
  have:n*j+n≤n*n:=by
   have:=Nat.mul_le_mul_left n (show j+1≤n by omega)
   rwa [Nat.mul_add,Nat.mul_one] at this
  omega
 have hx:=List.mem_range.1 hx;have h2:x / n<n:=(Nat.div_lt_iff_lt_mul hn).2 hx;have h3:x % n<n:=Nat.mod_lt _ hn;simp only[decide_eq_true_eq] at h ⊢;intro he;exact h ((ZaB nx).1 ((Zb7 h2 h3).1 he)).1
theorem ZlM {n:Nat} {nx:Nat→Nat→Nat} {en:Nat→Bool} (E:∀ s c,s<n→c<3→nx s c<n) {i:Nat} (h:¬ stays n nx en i):apart n (clR n nx en i)<apart n (clR n nx en (i+1)):=by
 have hp:=Zio E en i;have D:∃ k j,k<n∧j<k∧¬ (clR n nx en i j=clR n nx en i k↔clR n nx en (i+1) j=clR n nx en (i+1) k):=by apply Classical.byContradiction;intro hc;refine h (hp.2 fun k j hk hj => ?_);apply Classical.byContradiction;intro F;exact hc ⟨k,j,hk,hj,F⟩
 obtain⟨k,j,hk,hj,C⟩:=D;have B:clR n nx en (i+1) j=clR n nx en (i+1) k→clR n nx en i j=clR n nx en i k:=fun he=>((ZaB nx).1 ((Zb7 (by omega) hk).1 he)).1
 by_cases h0:clR n nx en i j=clR n nx en i k
 ·refine Znu (j:=j) (k:=k) (by omega) hk h0 fun h1=>C ⟨fun _=>h1,fun _=>h0⟩
 exact absurd ⟨fun h1=>absurd h1 h0,fun h1=>absurd (B h1) h0⟩ C
def ZpU (w:World) (b n:Nat):Nat:=((List.range (n*n)).filter fun x=>decide (ZmY w b (x / n)≠ZmY w b (x % n))).length
theorem ZkT {w:World} {b n:Nat} {cl:Nat→Nat} (h:∀ s,s<n→w.cell? ⟨b,s,none⟩=some (.int .i64 ((cl s:Nat):Int))):ZpU w b n=apart n cl:=by
 unfold ZpU apart;congr 1;refine List.filter_congr fun x hx => ?_
 have hx:=List.mem_range.1 hx
 have hn:0<n:=by
  rcases Nat.eq_zero_or_pos n with e|e
  ·rw[e] at hx;simp at hx
  exact e
 rw[ZdM (h _ ((Nat.div_lt_iff_lt_mul hn).2 hx)),ZdM (h _ (Nat.mod_lt _ hn))]
theorem Zql {l:List Value} {k:Nat} {x y:Value} (h:l.length=k):(l++[x]).set k y=l++[y]:=by rw[List.set_append_right _ _ (by omega),show k-l.length=0 by omega];rfl
theorem Zh6 (d:DfaD) (v:Value) (w:World) (hd:Zac d.next d.ends=true) (h:DfaR 0 w v d) :
  Calls Tryz.prog 89 #[v] w fun e w'=>RCl d w e w':=by
 obtain⟨b1,o1,cv,b2,o2,cw,rfl,hC⟩:=Zcb hd h;have aF:∀ s c,s<d.next.length→c<3→nxD d s c<d.next.length:=fun s c hs hc=>hC.lt s c hs hc
 obtain⟨N,hN,aO,bL⟩:=Zi0 (n:=d.next.length) (nx:=nxD d) (enD d);have aN:=fun (i:Nat) (h:¬ stays d.next.length (nxD d) (enD d) i)=>ZlM aF h
 have aQ:=fun (i:Nat)=>Zio aF (enD d) i
 obtain⟨C,V⟩:=eI (clR d.next.length (nxD d) (enD d));rw[← V] at aN aQ;have aJ:∀ s,s<d.next.length→C (N+1) s=clD d s:=fun s hs=>by rw[V,(Zmw aF (enD d) (N+1)).2 (by omega) s hs,aO s hs];exact(Zmy aF hN aO hs).symm
 have r:GoodC d.next.length (C (N+1)):=by rw[V];exact ZeO
 have bW:∀ s,C 0 s=if enD d s=true then 1 else 0:=fun s=>by rw[V];rfl
 have Z:∀ i,C (i+1)=Zav d.next.length (nxD d) (C i):=fun i=>by rw[V];rfl
 obtain⟨L,hL⟩:=eI (d.next.length);have cF:=hC.l1;have cT:=hC.l2;have aZ:=(((St.start w).alloc _ rfl #[.slice (some ⟨b1,o1,none⟩) L cv,.slice (some ⟨b2,o2,none⟩) L cw] 44).alloc (w.heap.size+1) (by simp) #[] 3).boxrow 1 0 1 [] rfl rfl (Nat.zero_le _);unfold RCl;rw[← hL] at cF cT hN r aJ aN aQ Z;rw[← hL];obtain⟨i0,hi,l,cB,cA⟩:=info_parts Tryz.infoInt;have HC:=qh hC;have bI:=qh r;have cY:=qh bW;have bM:=qh aJ;have cV:=qh bL;have dE:=qh aO;have cR:=qh aN;have cP:=qh aQ;have aC:=qh Z;replace aZ:=qh aZ;replace hL:=qh hL;replace V:=qh V;have bG:=qh hi;clear hi;have U:=qh l;clear l;have aE:=qh cB;clear cB;have aA:=qh cA;clear cA;clear hC r bW aJ bL aO aF aN aQ Z h
 go_enter Tryz.func89, Tryz.ntmps89
 go_wp2
 go_loopw [3,4] (fun vc i wr=>∃ (k g c:Nat),i = .int .i64 k∧vc = .slice (some ⟨g,0,none⟩) k c∧k≤L∧St w wr [Ent.box w.heap.size #[.slice (some ⟨b1,o1,none⟩) L cv,.slice (some ⟨b2,o2,none⟩) L cw] 44,Ent.row 3 1 (.slice (some ⟨g,0,none⟩) k c) k (intCells (clsL k (C 0)))]) (fun _ i _=>L-(intOf i).toNat)
 case atStart=>exact⟨0,_,_,rfl,rfl,Nat.zero_le _,aZ.o⟩
 case round =>
  obtain⟨k,g,c,rfl,rfl,hk,hS⟩:=hrel;have e0:=hS.cell (v:=.slice (some ⟨b1,o1,none⟩) L cv) 0 0 rfl rfl;by_cases hlt:k<L
  ·have hlt2:(k:Int)<L:=by omega
   have hkn:k<d.next.length:=by have:=hL.o;omega
   have hen:=HC.o.en k hkn;have Y:=cY.o k;have P:=Zfw k (C 0);have bX:(intCells (clsL k (C 0))).length=k:=by simp[intCells,ZbT]
   obtain⟨z,hz⟩:=eI (enD d k);rw[← hz] at hen Y;have O:=hS.alloc_ (.cells #[.int .i64 0] 3);have hR:=O.row 1 rfl;have cH:=qh hen;have dP:=qh hS;clear hS;have I:=qh O;clear O;have aK:=qh hR;clear hR;have bD:=qh hz;clear hz;have aT:=qh Y;clear Y;have R:=qh P;clear P;have aD:=qh bX;clear bX;clear hen;cases z
   all_goals go_wp2_with (at_builtin;refine wpList_append_lies _ rfl _ _ _ rfl _ 3 i0 (.int .i64 0) 1 8 Tryz.underlying38 bG.o U.o aE.o aA.o rfl (by omega) _ k _ rfl aK.o ⟨wr.heap.size,0,none⟩ 1 1 [.int .i64 0] rfl rfl (World.news_of_block (heap_alloc_new wr _)) ZbX (by omega) (by unfold maxLen;omega) (by omega) I.o.size _ rfl ?_;intro g6 c6 w6 F E J T;have D:=qh (I.o.app 1 rfl F E J);have e1:=D.o.cell (v:=.slice (some ⟨b2,o2,none⟩) L cw) 0 1 rfl rfl;have e2:=(bcell D.o.bel b2 _ HC.o.hb2).trans cH.o;have f6:=D.o.rfr 1 k rfl;have e6:=D.o.rcell (v:=.int .i64 0) 1 k rfl (by omega) (by rw[List.getElem?_append_right (by rw[aD.o];exact Nat.le_refl _),aD.o,Nat.sub_self];rfl);clear F E J T)
   ·go_roundw
    case rel =>refine⟨k+1,g6,c6,by go_num,rfl,by omega,?_⟩;have Y:C 0 k=0:=aT.o;rw[R.o,Zaz,Y];exact D.o
    case measure=>simp[intOf];omega
   go_roundw
   case rel =>refine⟨k+1,g6,c6,by go_num,rfl,by omega,?_⟩;have Y:C 0 k=1:=aT.o;have h:=D.o.store 1 rfl k (.int .i64 1);rw[Zql aD.o] at h;rw[R.o,Zaz,Y];exact h
   case measure=>simp[intOf];omega
  obtain rfl:L=k:=by omega
  have cW:=qh hS;clear hS;go_wp2
  go_loopw [3,5] (fun vc va wr=>∃ (i gc cc:Nat) (ag:Bool),vc = .slice (some ⟨gc,0,none⟩) L cc∧va = .bool ag∧((ag=true∧i≤N)∨(ag=false∧i=N+1)) ∧
    St w wr [Ent.box w.heap.size #[.slice (some ⟨b1,o1,none⟩) L cv,.slice (some ⟨b2,o2,none⟩) L cw] 44,Ent.row 3 1 (.slice (some ⟨gc,0,none⟩) L cc) L (intCells (clsL L (C i)))])
   (fun vc va wr=>if Znb va=true then L*L+1-ZpU wr (Zf1 vc) L else 0)
  case atStart=>exact⟨0,_,_,true,rfl,rfl,Or.inl ⟨rfl,Nat.zero_le _⟩,cW.o⟩
  case round =>
   obtain⟨i,gc,cc,ag,rfl,rfl,cJ,hS⟩:=hrel;obtain⟨wo,dC⟩:∃ wo:World,wo=wr:=⟨_,rfl⟩;subst dC;rcases cJ with⟨rfl,bK⟩|⟨rfl,rfl⟩
   ·have cC:=(hS.alloc _ rfl #[] 3).boxrow 2 0 1 [] rfl rfl (Nat.zero_le _);have bU:=qh hS;have cO:=qh cC;have hcells:∀ (w':World) (_:St w w' [Ent.box w.heap.size #[.slice (some ⟨b1,o1,none⟩) L cv,.slice (some ⟨b2,o2,none⟩) L cw] 44,Ent.row 3 1 (.slice (some ⟨gc,0,none⟩) L cc) L (intCells (clsL L (C i)))]) x,x<L→w'.cell? ⟨gc,x,none⟩=some (.int .i64 ((C i x:Nat):Int)):=fun w' h' x hx=>h'.rcell 1 x rfl (by omega) (Za6 (C i) hx)
    have aX:=ZkT (w:=wo) (b:=gc) (n:=L) (cl:=C i) (hcells wo hS);have G:=qh hcells;have bN:=qh aX;clear hS cC hcells aX;go_wp2
    go_loopw [6,7] (fun vn j wi=>∃ (k gn cn:Nat),j = .int .i64 k∧vn = .slice (some ⟨gn,0,none⟩) k cn∧k≤L∧St w wi [Ent.box w.heap.size #[.slice (some ⟨b1,o1,none⟩) L cv,.slice (some ⟨b2,o2,none⟩) L cw] 44,Ent.row 3 1 (.slice (some ⟨gc,0,none⟩) L cc) L (intCells (clsL L (C i))),Ent.row 3 1 (.slice (some ⟨gn,0,none⟩) k cn) k (intCells (clsL k (C (i+1))))]) (fun _ j _=>L-(intOf j).toNat)
    case atStart=>exact⟨0,_,_,rfl,rfl,Nat.zero_le _,cO.o⟩
    case round =>
     obtain⟨k,gn,cn,rfl,rfl,hk,hS⟩:=hrel;by_cases hlt:k<L
     ·have bH:=qh hS;have hlt2:(k:Int)<L:=by omega
      have hkn:k<d.next.length:=by have:=hL.o;omega
      clear hS;go_wp2
      go_loopw [8,9] (fun vs j wj=>∃ (m x:Nat),vs = .int .i64 x∧j = .int .i64 ((m:Int)-1)∧m≤k∧lowK L (nxD d) (C i) k m x∧x≤L∧St w wj [Ent.box w.heap.size #[.slice (some ⟨b1,o1,none⟩) L cv,.slice (some ⟨b2,o2,none⟩) L cw] 44,Ent.row 3 1 (.slice (some ⟨gc,0,none⟩) L cc) L (intCells (clsL L (C i))),Ent.row 3 1 (.slice (some ⟨gn,0,none⟩) k cn) k (intCells (clsL k (C (i+1))))]) (fun _ j _=>(intOf j+1).toNat)
      case atStart=>exact⟨k,k,rfl,rfl,Nat.le_refl _,Zm2 _ _,by omega,bH.o⟩
      case round =>
       obtain⟨m,x,rfl,rfl,hm,y,cI,hS⟩:=hrel;obtain⟨wm,cN⟩:∃ wm:World,wm=wr:=⟨_,rfl⟩;subst cN;by_cases aX:0<m
       ·obtain⟨j,rfl⟩:∃ j,m=j+1:=⟨m-1,by omega⟩;rw[show(((j+1:Nat):Int)-1)=(j:Int) by omega];have hjk:j<k:=by omega
        have bE:j<L:=by omega
        have dW:(0:Int)≤j:=by omega
        have dX:(j:Int)<L:=by omega
        have dG:(j:Int)<k:=by omega
        have hjn:j<d.next.length:=by omega
        obtain⟨b3,o3,c3,dB,-,-,r1,r2⟩:=HC.o.row j hjn;obtain⟨b4,o4,c4,cM,-,-,r3,r4⟩:=HC.o.row k hkn;have c1:=G.o _ (hS.pick [0,1] (by decide)) j bE;have c2:=G.o _ (hS.pick [0,1] (by decide)) k hlt;obtain⟨z0,l⟩:=eI (decide (C i j=C i k));obtain⟨p,hp⟩:=eI (C i j);obtain⟨q,hq⟩:=eI (C i k);rw[← hp] at c1;rw[← hq] at c2;have g1:((p:Int)==(q:Int))=z0:=by rw[l,hp,hq,Bool.eq_iff_iff];simp only[beq_iff_eq,decide_eq_true_eq];omega
        have g2:decide ((p:Int)=(q:Int))=z0:=by rw[l,hp,hq,decide_eq_decide];omega
        have D:=qh hS;have bR:=qh y;have cE:=qh r1;have dA:=qh r2;have dD:=qh r3;have cQ:=qh r4;have U:=qh l;clear l;have dQ:=qh hp;clear hp;have dU:=qh hq;clear hq;clear hS y r1 r2 r3 r4;go_wp2
        go_quiet (fail)
        go_wp2;have cS:=qh (D.o.drewN nq);clear D c1 c2 g1 g2
        go_loopw [10,11] (fun vz ic wc=>∃ c:Nat,ic = .int .i64 c∧c≤3∧vz = .bool (z0&&ZeM d (C i) j k c)∧St w wc [Ent.box w.heap.size #[.slice (some ⟨b1,o1,none⟩) L cv,.slice (some ⟨b2,o2,none⟩) L cw] 44,Ent.row 3 1 (.slice (some ⟨gc,0,none⟩) L cc) L (intCells (clsL L (C i))),Ent.row 3 1 (.slice (some ⟨gn,0,none⟩) k cn) k (intCells (clsL k (C (i+1))))]) (fun _ ic _=>3-(intOf ic).toNat)
        case atStart=>exact⟨0,rfl,by omega,by simp[ZeM],cS.o⟩
        case round =>
         obtain⟨c,rfl,hc,rfl,hS⟩:=hrel;obtain⟨wc,cZ⟩:∃ wc:World,wc=wr:=⟨_,rfl⟩;subst cZ;by_cases hc3:c<3
         ·have dS:(c:Int)<3:=by omega
          have Q:=Zit d (C i) j k c;obtain⟨z,hz⟩:=eI ((z0&&ZeM d (C i) j k c));rw[← hz];have B:(z0&&ZeM d (C i) j k (c+1))=(z&&decide (C i (nxD d j c)=C i (nxD d k c))):=by rw[Q,hz,Bool.and_assoc]
          have e0:=hS.cell (v:=.slice (some ⟨b1,o1,none⟩) L cv) 0 0 rfl rfl;have e1:=(bcell hS.bel b1 _ HC.o.hb1).trans cE.o;have e2:=(bcell hS.bel b3 _ dB).trans (dA.o c hc3);have e3:=(bcell hS.bel b1 _ HC.o.hb1).trans dD.o;have e4:=(bcell hS.bel b4 _ cM).trans (cQ.o c hc3);have aV:=HC.o.lt j c hjn hc3;have aY:=HC.o.lt k c hkn hc3;rw[← hL.o] at aV aY;obtain⟨y1,aG⟩:=eI (nxD d j c);obtain⟨y2,aI⟩:=eI (nxD d k c);rw[← aG] at e2 aV B;rw[← aI] at e4 aY B;have e5:=G.o _ (hS.pick [0,1] (by decide)) y1 aV;have e6:=G.o _ (hS.pick [0,1] (by decide)) y2 aY;obtain⟨p1,a⟩:=eI (C i y1);obtain⟨p2,X⟩:=eI (C i y2);rw[← a] at e5 B;rw[← X] at e6 B;have dN:(y1:Int)<L:=by omega
          have dJ:(y2:Int)<L:=by omega
          have M:=qh hS;have cL:=qh aG;clear aG;have cG:=qh aI;clear aI;have bQ:=qh a;clear a;have bY:=qh X;clear X;have bD:=qh hz;clear hz;clear hS Q;cases z
          ·have H:=qh B;clear B;go_wp2
           go_quiet (fail)
           go_wp2;go_roundw
           case rel=>exact⟨c+1,by go_num,by omega,by rw[H.o];rfl,M.o.drewN _⟩
           case measure=>simp[intOf];omega
          by_cases he:p1=p2
          ·have g1:((p1:Int)==(p2:Int))=true:=by rw[he];simp
           have g2:((p1:Int)=(p2:Int))=True:=by simp[he]
           rw[decide_eq_true he] at B;have H:=qh B;have cK:=qh he;clear he;clear B;go_wp2
           go_quiet (fail)
           go_wp2;go_roundw
           case rel=>exact⟨c+1,by go_num,by omega,by rw[H.o];rfl,M.o.drewN _⟩
           case measure=>simp[intOf];omega
          have g1:((p1:Int)==(p2:Int))=false:=by simp;omega
          have g2:((p1:Int)=(p2:Int))=False:=by simp;omega
          rw[decide_eq_false he] at B;have H:=qh B;have cK:=qh he;clear he;clear B;go_wp2
          go_quiet (fail)
          go_wp2;go_roundw
          case rel=>exact⟨c+1,by go_num,by omega,by rw[H.o];rfl,M.o.drewN _⟩
          case measure=>simp[intOf];omega
         obtain rfl:c=3:=by omega
         have aU:ZbZ (nxD d) (C i) j k=(z0&&ZeM d (C i) j k 3):=by rw[Zl0,U.o]
         obtain⟨z,hz⟩:=eI ((z0&&ZeM d (C i) j k 3));rw[← hz] at aU;rw[← hz];have e7:=hS.rcell (v:=.int .i64 ((C (i+1) j:Nat):Int)) 2 j rfl (by omega) (Za6 (C (i+1)) hjk);have aP:C (i+1) j=Zav L (nxD d) (C i) j:=by rw[aC.o i]
         have aS:C (i+1) j≤L:=by rw[aP];have:=(Za5 (nx:=nxD d) (cl:=C i) bE).1;omega
         obtain⟨u,hu⟩:=eI (C (i+1) j);rw[← hu] at e7 aP aS;have M:=qh hS;have bV:=qh aU;have bP:=qh aP;clear aP;have dV:=qh hu;clear hu;have bD:=qh hz;clear hz;clear hS aU;cases z
         ·go_wp2;go_roundw
          case rel=>exact⟨j,x,rfl,by go_num,by omega,ZrW bV.o bR.o,cI,M.o⟩
          case measure=>simp[intOf]
         go_wp2;go_roundw
         case rel=>exact⟨j,u,rfl,by go_num,by omega,by rw[bP.o];exact ZqL hlt bE bV.o,aS,M.o⟩
         case measure=>simp[intOf]
       obtain rfl:m=0:=by omega
       have hx:=ZqM hlt y;rw[← aC.o i] at hx;rw[show(((0:Nat):Int)-1)=(-1:Int) by omega];have P:=Zfw k (C (i+1));rw[← hx] at P;have O:=hS.alloc_ (.cells #[.int .i64 ((x:Nat):Int)] 3);have hR:=O.row 2 rfl;have cD:=qh hx;clear hx;have R:=qh P;clear P;have I:=qh O;clear O;have aK:=qh hR;clear hR;clear hS y;go_wp2_with (at_builtin;refine wpList_append_lies _ rfl _ _ _ rfl _ 3 i0 (.int .i64 0) 1 8 Tryz.underlying38 bG.o U.o aE.o aA.o rfl (by omega) _ k _ rfl aK.o ⟨wm.heap.size,0,none⟩ 1 1 [.int .i64 ((x:Nat):Int)] rfl rfl (World.news_of_block (heap_alloc_new wm _)) ZbX (by omega) (by unfold maxLen;omega) (by omega) I.o.size _ rfl ?_;intro g6 c6 w6 F E J T;have D:=qh (I.o.app 2 rfl F E J);clear F E J T);go_roundw
       case rel =>refine⟨k+1,g6,c6,by go_num,rfl,by omega,?_⟩;rw[R.o,Zaz];exact D.o
       case measure=>simp[intOf];omega
     obtain rfl:L=k:=by omega
     have bH:=qh hS;clear hS;go_wp2
     go_loopw [5,12] (fun va jk w6=>∃ k:Nat,jk = .int .i64 k∧k≤L∧va = .bool (difK (C i) (C (i+1)) k)∧St w w6 [Ent.box w.heap.size #[.slice (some ⟨b1,o1,none⟩) L cv,.slice (some ⟨b2,o2,none⟩) L cw] 44,Ent.row 3 1 (.slice (some ⟨gc,0,none⟩) L cc) L (intCells (clsL L (C i))),Ent.row 3 1 (.slice (some ⟨gn,0,none⟩) L cn) L (intCells (clsL L (C (i+1))))]) (fun _ jk _=>L-(intOf jk).toNat)
     case atStart=>exact⟨0,rfl,Nat.zero_le _,rfl,bH.o⟩
     case round =>
      obtain⟨k,rfl,hk,rfl,hS⟩:=hrel;by_cases hlt:k<L
      ·have hlt2:(k:Int)<L:=by omega
       obtain⟨zk,aW⟩:=eI (difK (C i) (C (i+1)) k);rw[← aW];have D:=qh hS;have bS:=qh aW;clear aW;clear hS;go_wp2
       go_loopw [5,13] (fun va jm w7=>∃ m:Nat,jm = .int .i64 m∧m≤k∧va = .bool (zk||difs (C i) (C (i+1)) k m)∧St w w7 [Ent.box w.heap.size #[.slice (some ⟨b1,o1,none⟩) L cv,.slice (some ⟨b2,o2,none⟩) L cw] 44,Ent.row 3 1 (.slice (some ⟨gc,0,none⟩) L cc) L (intCells (clsL L (C i))),Ent.row 3 1 (.slice (some ⟨gn,0,none⟩) L cn) L (intCells (clsL L (C (i+1))))]) (fun _ jm _=>k-(intOf jm).toNat)
       case atStart=>exact⟨0,rfl,Nat.zero_le _,by simp[difs],D.o⟩
       case round =>
        obtain⟨m,rfl,hm,rfl,hS⟩:=hrel;by_cases hmk:m<k
        ·have dT:(m:Int)<k:=by omega
         have dR:(m:Int)<L:=by omega
         have Q:=Zpq (C i) (C (i+1)) k m;obtain⟨z,hz⟩:=eI ((zk||difs (C i) (C (i+1)) k m));rw[← hz];have B:(zk||difs (C i) (C (i+1)) k (m+1))=(z||dif (C i) (C (i+1)) m k):=by rw[Q,hz,Bool.or_assoc]
         have e1:=G.o _ (hS.pick [0,1] (by decide)) m (by omega);have e2:=G.o _ (hS.pick [0,1] (by decide)) k hlt;have e3:=hS.rcell (v:=.int .i64 ((C (i+1) m:Nat):Int)) 2 m rfl (by omega) (Za6 (C (i+1)) (by omega));have e4:=hS.rcell (v:=.int .i64 ((C (i+1) k:Nat):Int)) 2 k rfl (by omega) (Za6 (C (i+1)) hlt);unfold dif at B;obtain⟨p1,a⟩:=eI (C i m);obtain⟨p2,X⟩:=eI (C i k);obtain⟨p3,bC⟩:=eI (C (i+1) m);obtain⟨p4,bF⟩:=eI (C (i+1) k);rw[← a] at e1 B;rw[← X] at e2 B;rw[← bC] at e3 B;rw[← bF] at e4 B;have M:=qh hS;have bQ:=qh a;clear a;have bY:=qh X;clear X;have dL:=qh bC;clear bC;have dF:=qh bF;clear bF;have bD:=qh hz;clear hz;clear hS Q;cases z
         ·obtain⟨u1,aH⟩:=eI (decide (p1=p2));obtain⟨u2,aB⟩:=eI (decide (p3=p4));rw[← aH,← aB] at B;have g1:((p1:Int)==(p2:Int))=u1:=by rw[aH,Bool.eq_iff_iff];simp only[beq_iff_eq,decide_eq_true_eq];omega
          have g2:decide ((p1:Int)=(p2:Int))=u1:=by rw[aH,decide_eq_decide];omega
          have g3:((p3:Int)==(p4:Int))=u2:=by rw[aB,Bool.eq_iff_iff];simp only[beq_iff_eq,decide_eq_true_eq];omega
          have g4:decide ((p3:Int)=(p4:Int))=u2:=by rw[aB,decide_eq_decide];omega
          have H:=qh B;have dI:=qh aH;clear aH;have dO:=qh aB;clear aB;clear B;cases u1<;>cases u2
          all_goals
           go_wp2
           go_quiet (fail)
           go_wp2;go_roundw
           case rel=>exact⟨m+1,by go_num,by omega,by rw[H.o];rfl,M.o.drewN _⟩
           case measure=>simp[intOf];omega
         have H:=qh B;clear B;go_wp2
         go_quiet (fail)
         go_wp2;go_roundw
         case rel=>exact⟨m+1,by go_num,by omega,by rw[H.o];rfl,M.o.drewN _⟩
         case measure=>simp[intOf];omega
        obtain rfl:m=k:=by omega
        have Q:=Zpr (C i) (C (i+1)) m;rw[← bS.o] at Q;rw[← Q];have M:=qh hS;have dM:=qh Q;clear Q;clear hS;go_wp2;go_roundw
        case rel=>exact⟨m+1,by go_num,by omega,rfl,M.o⟩
        case measure=>simp[intOf];omega
      obtain rfl:L=k:=by omega
      have D:=qh hS;clear hS;have aM:difK (C i) (C (i+1)) L=false↔stays L (nxD d) (enD d) i:=Zno.trans (cP.o i).symm;by_cases bK:i=N
      ·have h0:difK (C i) (C (i+1)) L=false:=by rw[aM,bK,hL.o];exact dE.o
       rw[h0];have cX:=qh h0;clear h0 aM;go_wp2;go_roundw
       case rel=>exact⟨i+1,_,_,false,rfl,rfl,Or.inr ⟨rfl,by omega⟩,D.o.pick [0,2] (by decide)⟩
       case measure =>have:=ZmF L (C i);simp only[Znb,Zf1,↓reduceIte,Bool.false_eq_true,bN.o];omega
      have aR:¬ stays L (nxD d) (enD d) i:=by rw[hL.o];exact cV.o i (by omega)
      have h0:difK (C i) (C (i+1)) L=true:=by
       cases h:difK (C i) (C (i+1)) L
       ·exact absurd (aM.1 h) aR
       rfl
      have aL:=cR.o i aR;rw[h0];have cX:=qh h0;have bB:=qh aL;have dH:=qh aR;clear aR;clear h0 aM aL;go_wp2;go_roundw
      case rel=>exact⟨i+1,_,_,true,rfl,rfl,Or.inl ⟨rfl,by omega⟩,D.o.pick [0,2] (by decide)⟩
      case measure =>
       have h2:=ZkT (w:=wr) (b:=gn) (n:=L) (cl:=C (i+1)) fun x hx=>D.o.rcell 2 x rfl (by omega) (Za6 (C (i+1)) hx)
       have h3:=bB.o;have h4:=ZmF L (C (i+1));simp only[Znb,Zf1,↓reduceIte,bN.o,h2];omega
   have bZ:intCells (clsL L (C (N+1)))=intCells (clsL L (clD d)):=by rw[ZfX bM.o]
   have bU:=qh hS;have bO:=qh bZ;clear bZ;clear hS;go_wp2;have cU:=qh ((bU.o.alloc _ rfl #[] 3).boxrow 2 0 1 [] rfl rfl (Nat.zero_le _))
   go_loopw [14,15] (fun vf jk w8=>∃ (k gf cf:Nat),jk = .int .i64 k∧vf = .slice (some ⟨gf,0,none⟩) k cf∧k≤L∧St w w8 [Ent.box w.heap.size #[.slice (some ⟨b1,o1,none⟩) L cv,.slice (some ⟨b2,o2,none⟩) L cw] 44,Ent.row 3 1 (.slice (some ⟨gc,0,none⟩) L cc) L (intCells (clsL L (C (N+1)))),Ent.row 3 1 (.slice (some ⟨gf,0,none⟩) k cf) k (intCells (clsL k (C (N+1))))]) (fun _ jk _=>L-(intOf jk).toNat)
   case atStart=>exact⟨0,_,_,rfl,rfl,Nat.zero_le _,cU.o⟩
   case round =>
    obtain⟨k,gf,cf,rfl,rfl,hk,hS⟩:=hrel;by_cases hlt:k<L
    ·have hlt2:(k:Int)<L:=by omega
     have e1:=hS.rcell (v:=.int .i64 ((C (N+1) k:Nat):Int)) 1 k rfl (by omega) (Za6 (C (N+1)) hlt);have bA:=Zox (cl:=C (N+1)) bI.o (k:=k) hlt;have S:=ZiD (clsL L (C (N+1))) ((C (N+1) k:Nat):Int) (.slice (some ⟨gc,0,none⟩) L cc) wr (by rw[ZbT];omega) (hS.intsC 1 rfl);rw[bA] at S;have P:=Zfw k (C (N+1));obtain⟨x,hx⟩:=eI (C (N+1) k);rw[← hx] at S P e1;have bJ:=qh S;have D:=qh hS;have cD:=qh hx;clear hx;have dK:=qh bA;clear bA;have R:=qh P;clear P;clear S hS;go_wp2_with fail;refine bJ.o.mono ?_;rintro e w5 ⟨rfl,bT⟩;have O:=(D.o.call bT).alloc_ (.cells #[.int .i64 ((x:Nat):Int)] 3);have hR:=O.row 2 rfl;have I:=qh O;clear O;have aK:=qh hR;clear hR;clear bT e1 D;go_wp2_with (at_builtin;refine wpList_append_lies _ rfl _ _ _ rfl _ 3 i0 (.int .i64 0) 1 8 Tryz.underlying38 bG.o U.o aE.o aA.o rfl (by omega) _ k _ rfl aK.o ⟨w5.heap.size,0,none⟩ 1 1 [.int .i64 ((x:Nat):Int)] rfl rfl (World.news_of_block (heap_alloc_new w5 _)) ZbX (by omega) (by unfold maxLen;omega) (by omega) I.o.size _ rfl ?_;intro g6 c6 w6 F E J T;have D:=qh (I.o.app 2 rfl F E J);clear F E J T);go_roundw
     case rel =>refine⟨k+1,g6,c6,by go_num,rfl,by omega,?_⟩;rw[R.o,Zaz];exact D.o
     case measure=>simp[intOf];omega
    obtain rfl:L=k:=by omega
    rw[bO.o] at hS;have D:=qh (hS.pick [2] (by decide));clear hS;go_wp2;go_ret;exact⟨gf,cf,rfl,D.o⟩
theorem Ze2 (d:DfaD) (v:Value) (w:World) (h:DfaR 0 w v d) (r:Bool) (hr:Zac d.next d.ends=r) :
  Calls Tryz.prog 46 #[v] w fun e w'=>e = .returned (.bool r)∧Below w.heap.size w w':=by
 obtain⟨v1,v2,rfl,B,C⟩:=h;exact Zcy d.next d.ends v1 v2 w B C r hr
theorem Zp5 {d:DfaD} {F:List Int} {k x:Nat} (hx:F.getD k 0=(x:Int)) (hk:k<F.length) (hn:∀ c,c<3→dnx d (x:Int) c=(nxD d x c:Nat)) (hm:∀ c,c<3→((nxD d x c:Nat):Int)∈F) :
  (F.take (k+1)).map (Zai (dnx d) F)=(F.take k).map (Zai (dnx d) F)++[(List.range 3).map fun c=>Zdr F (nxD d x c:Nat)]∧(F.take (k+1)).map (den d)=(F.take k).map (den d)++[enD d x]:=by
 have e:F[k]=(x:Int):=by simpa [hk] using hx
 rw[List.take_succ_eq_append_getElem hk,e,List.map_append,List.map_append];refine⟨?_,by simp[den,enD]⟩;congr 1;simp only[List.map_cons,List.map_nil,Zai];congr 1;refine List.map_congr_left fun c hc => ?_
 have hc:c<3:=List.mem_range.1 hc;rw[hn c hc,ZmZ (hm c hc)]
theorem Zle {α:Type} (f:Nat→α) (c:Nat):(List.range (c+1)).map f=(List.range c).map f++[f c]:=by rw[List.range_succ,List.map_append];rfl
theorem Zf7 (d:DfaD) (v:Value) (w:World) (hd:Zac d.next d.ends=true) (h:DfaR 0 w v d) :
  Calls Tryz.prog 88 #[v] w fun e w'=>RD (Zbj d) w e w':=by
 have HR:=qh h;obtain⟨b1,o1,cv,b2,o2,cw,rfl,hC⟩:=Zcb hd h;obtain⟨F,hF⟩:=eI ((bat (dnx d) 0 d.next.length).met);have bV:0<F.length:=by rw[hF];exact ZcZ _
 have bA:=(ZbL (ZaS hd) d.next.length).2;rw[← hF] at bA;have Z:=fun (k:Nat) (hk:k<F.length)=>ZrU hd (k:=k) (by rw[← hF];exact hk)
 rw[← hF] at Z;have aU:Zbj d=⟨F.map (Zai (dnx d) F),F.map (den d)⟩:=by unfold Zbj;rw[← hF];rfl
 rw[aU];obtain⟨L,hL⟩:=eI (d.next.length);have cZ:=hC.l2;rw[← hL] at cZ bA;have bM:=((St.start w).alloc _ rfl #[.slice (some ⟨b1,o1,none⟩) L cv,.slice (some ⟨b2,o2,none⟩) L cw] 44).alloc (w.heap.size+1) (by simp) #[.slice none 0 0,.slice none 0 0] 44;rw[← hL] at HR;rw[← hL];obtain⟨i0,hi,cQ,cS,cP⟩:=info_parts Tryz.infoBool;obtain⟨j0,hj,bU,bE,bL⟩:=info_parts Tryz.infoInt;obtain⟨k0,hk,cO,cK,cD⟩:=info_parts Tryz.infoInts;have HC:=qh hC;have bQ:=qh Z;replace hF:=qh hF;have cA:=qh hd;clear hd;have cU:=qh hL;clear hL;have aC:=qh bM;clear bM;have dJ:=qh aU;clear aU;have dC:=qh hi;clear hi;have cE:=qh cQ;clear cQ;have bH:=qh cS;clear cS;have bG:=qh cP;clear cP;have dE:=qh hj;clear hj;have bB:=qh bU;clear bU;have cT:=qh bE;clear bE;have cI:=qh bL;clear bL;have dD:=qh hk;clear hk;have bT:=qh cO;clear cO;have bW:=qh cK;clear cK;have bS:=qh cD;clear cD;clear hC Z h
 go_enter Tryz.func88, Tryz.ntmps88
 go_wp2_with fail;refine(Ze2 d _ _ (HR.o.below aC.o.bel) true cA.o).mono ?_;rintro e w1 ⟨rfl,hb1⟩;have q:=aC.o.call hb1;have c0:=q.cell (v:=.slice (some ⟨b1,o1,none⟩) L cv) 0 0 rfl rfl;have c1:=q.cell (v:=.slice (some ⟨b2,o2,none⟩) L cw) 0 1 rfl rfl;have aE:=qh q;clear q;clear hb1;go_wp2_with fail;refine(Zlt d _ _ cA.o (HR.o.below aE.o.bel) F (by rw[hF.o])).mono ?_;rintro e w2 ⟨a,c,rfl,cH⟩;have X:=aE.o.cat cH;obtain⟨g,cg,hv⟩:=X.rowform 2 rfl bV;simp only[Value.slice.injEq,true_and] at hv;obtain⟨rfl,rfl⟩:=hv;have bR:=(((X.alloc _ rfl #[.slice none 0 0,.slice none 0 0] 44).nilRow 38 1).norows 4 rfl 3).nilRow 4 1;have bY:=qh bR;clear bR;clear X cH c0 c1;go_wp2
 go_loopw [5] (fun i wr=>∃ (k:Nat) (a1 a2:Option Addr) (c1 c2:Nat) (vs:List Value),i = .int .i64 k∧k≤F.length ∧
   St w wr [Ent.box w.heap.size #[.slice (some ⟨b1,o1,none⟩) L cv,.slice (some ⟨b2,o2,none⟩) L cw] 44,Ent.box (w.heap.size+1) #[.slice none 0 0,.slice none 0 0] 44,
    Ent.row 3 1 (.slice (some ⟨g,0,none⟩) F.length c) F.length (intCells F),Ent.box w2.heap.size #[.slice a1 k c1,.slice a2 k c2] 44,
    Ent.rows 38 3 (.slice a1 k c1) vs (((F.take k).map (Zai (dnx d) F)).map intCells),Ent.row 4 1 (.slice a2 k c2) k (boolCells ((F.take k).map (den d)))])
  (fun i _=>F.length-(intOf i).toNat)
 case atStart=>exact⟨0,none,none,0,0,[],rfl,Nat.zero_le _,bY.o⟩
 case round =>
  obtain⟨k,a1,a2,c1,c2,vs,rfl,hk,hS⟩:=hrel;by_cases hlt:k<F.length
  ·have hlt2:(k:Int)<F.length:=by omega
   obtain⟨x,hx,aP,aV⟩:=bQ.o k hlt;have aB:=Zp5 (d:=d) hx hlt (fun c hc=>HC.o.dx x c aP hc) aV;obtain⟨b3,o3,c3,dA,hc3,dK,bO,aI⟩:=HC.o.row x aP;have hen:=HC.o.en x aP;have dM:(x:Int)<L:=by have:=cU.o;omega
   have bX:=(hS.alloc _ rfl #[] 3).boxrow 6 0 1 [] rfl rfl (Nat.zero_le _);obtain⟨R,hR⟩:=eI ((List.range 3).map fun c=>Zdr F (nxD d x c:Nat));rw[← hR] at aB;have aD:=aB.1;have aK:=aB.2;have bF:∀ c,c<3→R.take (c+1)=R.take c++[Zdr F (nxD d x c:Nat)]:=fun c hc=>by rw[hR,List.take_succ_eq_append_getElem (by simp;omega)];simp
   have cR:R.take 3=R:=List.take_of_length_le (by rw[hR];simp);have bD:=qh aI;have bK:=qh hen;have aZ:=qh hS;clear hS;have aL:=qh hx;clear hx;have dI:=qh aV;clear aV;have cB:=qh bO;clear bO;have bI:=qh bX;clear bX;have aQ:=qh aD;clear aD;have aR:=qh aK;clear aK;have aY:=qh bF;clear bF;have cF:=qh cR;clear cR;have dP:=qh hR;clear hR;clear aI hen aB;go_wp2
   go_loopw [6,7] (fun rv i wi=>∃ (n:Nat) (l c4:Nat),i = .int .i64 n∧rv = .slice (some ⟨l,0,none⟩) n c4∧n≤3 ∧
     St w wi [Ent.box w.heap.size #[.slice (some ⟨b1,o1,none⟩) L cv,.slice (some ⟨b2,o2,none⟩) L cw] 44,Ent.box (w.heap.size+1) #[.slice none 0 0,.slice none 0 0] 44,
      Ent.row 3 1 (.slice (some ⟨g,0,none⟩) F.length c) F.length (intCells F),Ent.box w2.heap.size #[.slice a1 k c1,.slice a2 k c2] 44,
      Ent.rows 38 3 (.slice a1 k c1) vs (((F.take k).map (Zai (dnx d) F)).map intCells),Ent.row 4 1 (.slice a2 k c2) k (boolCells ((F.take k).map (den d))),
      Ent.row 3 1 (.slice (some ⟨l,0,none⟩) n c4) n (intCells (R.take n))])
    (fun _ i _=>3-(intOf i).toNat)
   case atStart=>exact⟨0,_,_,rfl,rfl,by omega,bI.o⟩
   case round =>
    obtain⟨n,l,c4,rfl,rfl,hn3,E⟩:=hrel;obtain⟨wo,dB⟩:∃ wo:World,wo=wr:=⟨_,rfl⟩;subst dB;by_cases hn:n<3
    ·have dN:(n:Int)<3:=by omega
     have e0:=E.cell (v:=.slice (some ⟨b1,o1,none⟩) L cv) 0 0 rfl rfl;have e1:=E.rcell (v:=.int .i64 (x:Int)) 2 k rfl (by omega) (by rw[← aL.o];simp[intCells,hlt]);have e2:=(bcell E.bel b1 _ HC.o.hb1).trans cB.o;have e3:=(bcell E.bel b3 _ dA).trans (bD.o n hn);have hname:=fun (w':World) (hb:Below w.heap.size w w') (h2:Ints 0 w' (.slice (some ⟨g,0,none⟩) F.length c) F)=>ZiD F (nxD d x n:Nat) (.slice (some ⟨g,0,none⟩) F.length c) w' (by omega) h2
     have m:=aY.o n hn;obtain⟨y,hy⟩:=eI (nxD d x n);rw[← hy] at e3 hname m;obtain⟨z,hz⟩:=eI (Zdr F (y:Nat));rw[← hz] at hname m;have aS:=qh hname;have T:=qh E;clear E;have dL:=qh hy;clear hy;have dO:=qh hz;clear hz;have bN:=qh m;clear m;clear hname;go_wp2
     go_region_law (first
      | (go_simp;go_at_call 128;refine(aS.o _ T.o.drew.bel (T.o.drew.intsR 2 rfl)).mono ?_;rintro e u ⟨rfl,cL⟩;have aT:=qh ((T.o.drew.call cL).alloc_ (.cells #[.int .i64 z] 3));clear cL)
      | (refine step_append_lies _ (by rfl) _ _ _ (by rfl) w.heap.size 3 j0 (.int .i64 0) 1 8 Tryz.underlying38 dE.o bB.o cT.o cI.o (by rfl) (by omega) (.slice (some ⟨l,0,none⟩) n c4) n (intCells (R.take n)) (by rfl) (aT.o.row 6 rfl) ⟨u.heap.size,0,none⟩ 1 1 [.int .i64 z] (by rfl) (by rfl) (World.news_of_block (heap_alloc_new u _)) ZbX (by omega) (by unfold maxLen;omega) (by omega) aT.o.size (u.heap.size+1) (by simp) ?_;intro I H w7 b P aG dF;have cY:=qh (aT.o.app 6 rfl b P (by rw[World.size_alloc];exact aG));clear b P aG))
     all_goals
      go_wp2;go_roundw
      case rel =>refine⟨n+1,I,H,by go_num,rfl,by omega,?_⟩;rw[bN.o,Zaz];exact cY.o
      case measure=>simp[intOf];omega
    obtain rfl:n=3:=by omega
    rw[cF.o] at E;have aN:(((F.take k).map (Zai (dnx d) F)).map intCells).length=k:=by rw[ZcF,List.length_take];omega
    have aW:=E.alloc_ (.cells #[.slice (some ⟨l,0,none⟩) 3 c4] 38);have aO:=(aW.rows 4 rfl).1;rw[aN] at aO;have e0:=E.cell (v:=.slice a1 k c1) 3 0 rfl rfl;have bP:=qh aN;clear aN;have T:=qh E;clear E;have aF:=qh aW;clear aW;have cM:=qh aO;clear aO;go_wp2_with (at_builtin;refine wpList_append_lies _ rfl _ _ _ rfl _ 38 k0 (.slice none 0 0) 1 24 Tryz.underlying41 dD.o bT.o bW.o bS.o rfl (by omega) _ k _ rfl cM.o ⟨wo.heap.size,0,none⟩ 1 1 [.slice (some ⟨l,0,none⟩) 3 c4] rfl rfl (World.news_of_block (heap_alloc_new wo _)) ZcT (by omega) (by unfold maxLen;omega) (by omega) aF.o.size _ rfl ?_;intro g6 c6 w6 j U aJ cC;have s:=qh (aF.o.snoc 4 6 (by decide) rfl rfl (by decide) U (by rw[bP.o];exact j) (Zgh aJ));have y1:=s.o.cell (v:=.slice a1 k c1) 3 0 rfl rfl;have y2:=s.o.fr 3 0 rfl;clear j U aJ cC);have aM:=(s.o.set 3 rfl 0 (.slice (some ⟨g6,0,none⟩) (k+1) c6)).pick [0,1,2,3,4,5] (by decide);obtain⟨wq,p⟩:=eI (w6.setCell ⟨w2.heap.size,0,none⟩ (.slice (some ⟨g6,0,none⟩) (k+1) c6));rw[← p] at aM
    have J:St w wq [Ent.box w.heap.size #[.slice (some ⟨b1,o1,none⟩) L cv,.slice (some ⟨b2,o2,none⟩) L cw] 44,Ent.box (w.heap.size+1) #[.slice none 0 0,.slice none 0 0] 44,
      Ent.row 3 1 (.slice (some ⟨g,0,none⟩) F.length c) F.length (intCells F),Ent.box w2.heap.size #[.slice (some ⟨g6,0,none⟩) (k+1) c6,.slice a2 k c2] 44,
      Ent.rows 38 3 (.slice (some ⟨g6,0,none⟩) (k+1) c6) (vs++[.slice (some ⟨l,0,none⟩) 3 c4]) (((F.take (k+1)).map (Zai (dnx d) F)).map intCells),Ent.row 4 1 (.slice a2 k c2) k (boolCells ((F.take k).map (den d)))]:=by
     rw[aQ.o,List.map_append];exact aM
    rw[← p];have q0:=J.cell (v:=.slice (some ⟨b2,o2,none⟩) L cw) 0 1 rfl rfl;have q1:=J.rcell (v:=.int .i64 (x:Int)) 2 k rfl (by omega) (by rw[← aL.o];simp[intCells,hlt]);have q2:=(bcell J.bel b2 _ HC.o.hb2).trans bK.o;have q3:=J.cell (v:=.slice a2 k c2) 3 1 rfl rfl;obtain⟨r,hr⟩:=eI (enD d x);rw[← hr] at q2;have cN:(intCells F)[k]? = some (.int .i64 (x:Int)):=by rw[← aL.o];simp[intCells,hlt]
    have cG:w.cell? ⟨b2,o2+x,none⟩=some (.bool r):=by rw[hr];exact bK.o
    have cW:=qh J;have dH:=qh p;clear p;have cV:=qh hr;clear hr;have bZ:=qh cN;clear cN;have cJ:=qh cG;clear cG;clear aM J y1 y2 e0 s q0 q1 q2 q3;refine wp_region_any (by kernel_rfl) ?_
    refine Zay (fun A listed a w'=>∃ (l0 l1 l2 l3 l4 l5 l6 l7 l8 l9 V M aA O:Bool) (I:Nat) (H:Nat) (N:Nat),listed=#[l0,l1,l2,l3,l4,l5,l6,l7,l8,l9,V,M,aA,O]∧(M=true→l1=true∧V=true)∧(O=true→M=true∧l1=true) ∧
      a=⟨(((((((((((((A.tmps.setIfInBounds 48 (if l0=true then .pointer (some ⟨w2.heap.size,1,none⟩) else A.tmps.getD 48 undef)).setIfInBounds 49 (if l1=true then .slice a2 k c2 else A.tmps.getD 49 undef)).setIfInBounds 50 (if l2=true then .pointer (some ⟨w.heap.size,1,none⟩) else A.tmps.getD 50 undef)).setIfInBounds 51 (if l3=true then .slice (some ⟨b2,o2,none⟩) L cw else A.tmps.getD 51 undef)).setIfInBounds 52 (if l4=true then .slice (some ⟨g,0,none⟩) F.length c else A.tmps.getD 52 undef)).setIfInBounds 53 (if l5=true then .int .i64 (k:Int) else A.tmps.getD 53 undef)).setIfInBounds 54 (if l6=true then .pointer (some ⟨g,k,none⟩) else A.tmps.getD 54 undef)).setIfInBounds 55 (if l7=true then .int .i64 (x:Int) else A.tmps.getD 55 undef)).setIfInBounds 56 (if l8=true then .pointer (some ⟨b2,o2+x,none⟩) else A.tmps.getD 56 undef)).setIfInBounds 57 (if l9=true then .bool r else A.tmps.getD 57 undef)).setIfInBounds 58 (if V=true then .slice (some ⟨N,0,none⟩) 1 1 else A.tmps.getD 58 undef)).setIfInBounds 59 (if M=true then .slice (some ⟨I,0,none⟩) (k+1) H else A.tmps.getD 59 undef)).setIfInBounds 60 (if aA=true then .pointer (some ⟨w2.heap.size,1,none⟩) else A.tmps.getD 60 undef)),A.defers⟩ ∧
      St w w' [Ent.box w.heap.size #[.slice (some ⟨b1,o1,none⟩) L cv,.slice (some ⟨b2,o2,none⟩) L cw] 44,Ent.box (w.heap.size+1) #[.slice none 0 0,.slice none 0 0] 44,Ent.row 3 1 (.slice (some ⟨g,0,none⟩) F.length c) F.length (intCells F),Ent.box w2.heap.size #[.slice (some ⟨g6,0,none⟩) (k+1) c6,(if O=true then .slice (some ⟨I,0,none⟩) (k+1) H else .slice a2 k c2)] 44,Ent.rows 38 3 (.slice (some ⟨g6,0,none⟩) (k+1) c6) (vs++[.slice (some ⟨l,0,none⟩) 3 c4]) (((F.take (k+1)).map (Zai (dnx d) F)).map intCells),(if M=true then Ent.row 4 1 (.slice (some ⟨I,0,none⟩) (k+1) H) (k+1) ((boolCells ((F.take k).map (den d)))++[.bool r]) else Ent.row 4 1 (.slice a2 k c2) k (boolCells ((F.take k).map (den d)))),(if V=true then Ent.box N #[.bool r] 4 else Ent.nil)]) ?_ ?_ ?_
    ·rintro listed a w' ⟨l0,l1,l2,l3,l4,l5,l6,l7,l8,l9,V,M,aA,O,I,H,N,rfl,C,B,rfl,hS⟩ i hi;obtain⟨D,o,ho,hall⟩:=mem_ready.1 hi;have hlt:=(Array.getElem?_eq_some_iff.1 ho).1;refine wpOp_step ho (fun K S => ?_);clear hi;have G:=qh hS;clear hS;simp only[w_1,w_2,w_3,w_4,w_5,w_6,w_7,w_8];obtain h|h|h|h|h|h|h|h|h|h|h|h|h|h:i=0∨i=1∨i=2∨i=3∨i=4∨i=5∨i=6∨i=7∨i=8∨i=9∨i=10∨i=11∨i=12∨i=13:=by simp at hlt;omega
     all_goals subst h
     all_goals simp only[w_5,w_6,w_7,w_9] at ho
     all_goals subst ho
     all_goals simp[Region.binds] at D hall
     ·subst D;go_simp;exact S _ _ ⟨_,_,_,_,_,_,_,_,_,_,_,_,_,_,I,H,N,rfl,C,B,(by simp),G.o⟩
     ·obtain rfl:=hall;subst D;obtain rfl:M=false:=offL C rfl;obtain rfl:O=false:=offL B rfl;have e0:=G.o.cell (v:=.slice a2 k c2) 3 1 rfl rfl;go_simp;exact S _ _ ⟨_,_,_,_,_,_,_,_,_,_,_,_,_,_,I,H,N,rfl,by simp,by simp,(by simp),G.o⟩
     ·subst D;go_simp;exact S _ _ ⟨_,_,_,_,_,_,_,_,_,_,_,_,_,_,I,H,N,rfl,C,B,(by simp),G.o⟩
     ·obtain rfl:=hall;subst D;have e0:=G.o.cell (v:=.slice (some ⟨b2,o2,none⟩) L cw) 0 1 rfl rfl;go_simp;exact S _ _ ⟨_,_,_,_,_,_,_,_,_,_,_,_,_,_,I,H,N,rfl,C,B,(by simp),G.o⟩
     ·subst D;go_simp;exact S _ _ ⟨_,_,_,_,_,_,_,_,_,_,_,_,_,_,I,H,N,rfl,C,B,(by simp),G.o⟩
     ·subst D;go_simp;exact S _ _ ⟨_,_,_,_,_,_,_,_,_,_,_,_,_,_,I,H,N,rfl,C,B,(by simp),G.o⟩
     ·obtain⟨rfl,rfl⟩:=hall;subst D;go_simp;exact S _ _ ⟨_,_,_,_,_,_,_,_,_,_,_,_,_,_,I,H,N,rfl,C,B,(by simp),G.o⟩
     ·obtain rfl:=hall;subst D;have e0:=G.o.rcell (v:=.int .i64 (x:Int)) 2 k rfl (by omega) bZ.o;go_simp;exact S _ _ ⟨_,_,_,_,_,_,_,_,_,_,_,_,_,_,I,H,N,rfl,C,B,(by simp),G.o⟩
     ·obtain⟨rfl,rfl⟩:=hall;subst D;go_simp;exact S _ _ ⟨_,_,_,_,_,_,_,_,_,_,_,_,_,_,I,H,N,rfl,C,B,(by simp),G.o⟩
     ·obtain rfl:=hall;subst D;have e0:=(bcell G.o.bel b2 _ HC.o.hb2).trans cJ.o;go_simp;exact S _ _ ⟨_,_,_,_,_,_,_,_,_,_,_,_,_,_,I,H,N,rfl,C,B,(by simp),G.o⟩
     ·obtain rfl:=hall;subst D;obtain rfl:M=false:=offR C rfl;obtain rfl:O=false:=offL B rfl;have X:=(G.o.alloc _ rfl #[.bool r] 4).pick [0,1,2,3,4,5,7] (by decide);have bJ:=qh X;clear X;go_simp;exact S _ _ ⟨_,_,_,_,_,_,_,_,_,_,_,_,_,_,I,H,_,rfl,by simp,by simp,(by simp),bJ.o⟩
     ·obtain⟨rfl,rfl⟩:=hall;subst D;obtain rfl:O=false:=offL B rfl;refine step_append_lies (a:=⟨_,_⟩) _ (by rfl) _ _ _ (by rfl) w.heap.size 4 i0 (.bool false) 1 1 Tryz.underlying42 dC.o cE.o bH.o bG.o (by rfl) (by omega) (.slice a2 k c2) k (boolCells ((F.take k).map (den d))) (by rfl) (G.o.row 5 rfl) ⟨N,0,none⟩ 1 1 [.bool r] (by rfl) (by rfl) (World.news_of_block (G.o.box 6 rfl)) Zc3 (by omega) (by unfold maxLen;omega) (by omega) G.o.size _ rfl ?_;intro g8 c8 w8 Y Q aH dG;have cX:=qh (G.o.app 5 rfl Y Q aH);clear Y Q aH;go_simp;exact S _ _ ⟨_,_,_,_,_,_,_,_,_,_,_,_,_,_,g8,c8,N,rfl,by simp,by simp,(by simp),cX.o⟩
     ·obtain⟨rfl,rfl,rfl,rfl,rfl,rfl,rfl,rfl,rfl,rfl,rfl,rfl⟩:=hall;subst D;go_simp;exact S _ _ ⟨_,_,_,_,_,_,_,_,_,_,_,_,_,_,I,H,N,rfl,by simp,B,(by simp only[↓reduceIte,w_1,w_2,w_3]),G.o⟩
     obtain⟨rfl,rfl,rfl,rfl,rfl,rfl,rfl,rfl,rfl,rfl,rfl,rfl,rfl,-⟩:=hall;subst D;have f0:=G.o.fr 3 1 rfl;have k0:=G.o.cell (v:=.slice a2 k c2) 3 1 rfl rfl;go_simp;exact S _ _ ⟨_,_,_,_,_,_,_,_,_,_,_,_,_,_,I,H,N,rfl,by simp,by simp,(by simp only[↓reduceIte,w_1,w_2,w_3]),(G.o.set 3 rfl 1 (.slice (some ⟨I,0,none⟩) (k+1) H))⟩
    ·rintro listed a w' ⟨l0,l1,l2,l3,l4,l5,l6,l7,l8,l9,V,M,aA,O,I,H,N,rfl,C,B,rfl,hS⟩ hr;obtain⟨rfl,rfl,rfl,rfl,rfl,rfl,rfl,rfl,rfl,rfl,rfl,rfl,rfl,rfl,-⟩:=zA (ZbK (by kernel_rfl) rfl hr) rfl;clear hr C B;simp only[↓reduceIte] at hS ⊢;simp only[w_1,w_2,w_3];have bC:=hS.pick [0,1,2,3,4,5] (by decide);have aX:=qh bC;clear bC;clear hS;go_wp2;go_roundw
     case rel =>refine⟨k+1,some ⟨g6,0,none⟩,some ⟨I,0,none⟩,c6,H,vs++[.slice (some ⟨l,0,none⟩) 3 c4],by go_num,by omega,?_⟩;rw[aR.o,ZbO,← cV.o];exact aX.o
     case measure=>simp[intOf];omega
    refine⟨false,false,false,false,false,false,false,false,false,false,false,false,false,false,0,0,0,rfl,by simp,by simp,(by simp),?_⟩;exact cW.o.drew.pick [0,1,2,3,4,5,6] (by decide)
  obtain rfl:k=F.length:=by omega
  rw[List.take_length] at hS;have d0:=hS.cell (v:=.slice a1 F.length c1) 3 0 rfl rfl;have d1:=hS.cell (v:=.slice a2 F.length c2) 3 1 rfl rfl;have f0:=hS.fr 1 0 rfl;have f1:=hS.fr 1 1 rfl;have k0:=hS.cell (v:=.slice none 0 0) 1 0 rfl rfl;have k1:=hS.cell (v:=.slice none 0 0) 1 1 rfl rfl;have aZ:=qh hS;clear hS;go_wp2;have hq:=(aZ.o.set 1 rfl 0 (.slice a1 F.length c1)).set 1 rfl 1 (.slice a2 F.length c2);have q0:=hq.cell (v:=.slice a1 F.length c1) 1 0 rfl rfl;have q1:=hq.cell (v:=.slice a2 F.length c2) 1 1 rfl rfl;refine bodyPost_ret (v:=.agg #[.slice a1 F.length c1,.slice a2 F.length c2]) (by simp[results,Tryz.results88,go_sem,q0,q1]) rfl ?_;refine⟨a1,c1,a2,c2,by simp only[List.length_map],⟨.slice a1 F.length c1,.slice a2 F.length c2,by simp only[List.length_map],(hq.intSS 4 rfl).intSS,?_⟩,hq.bel⟩;exact Za8 (hq.row 5 rfl)
theorem Zb0 (d:DfaD) (v:Value) (w:World) (hd:Zac d.next d.ends=true) (h:DfaR 0 w v d) :
  Calls Tryz.prog 47 #[v] w fun e w'=>RD (Zao d) w e w':=by
 have HR:=qh h;obtain⟨v1,v2,rfl,-,-⟩:=h;obtain⟨X,hX⟩:=eI (Zbj d);have Y:=(ZkW hd).1;rw[← hX] at Y;have aR:Zao d=Zbj (Zdi X):=by unfold Zao;rw[hX]
 rw[aR];have cD:=Zpf Y;have U:=((St.start w).alloc _ rfl #[v1,v2] 44).alloc (w.heap.size+1) (by simp) #[.slice none 0 0,.slice none 0 0] 44;obtain⟨i0,hi,cJ,cK,cI⟩:=info_parts Tryz.infoBool;obtain⟨j0,hj,bN,aY,bG⟩:=info_parts Tryz.infoInt;obtain⟨k0,hk,cH,cE,bU⟩:=info_parts Tryz.infoInts;obtain⟨fr,b⟩:∃ fr:Nat→List Int,fr=fun k=>(List.range 3).map fun c=>((clD X (nxD X k c):Nat):Int):=⟨_,rfl⟩
 have cL:Zdi X=⟨(List.range X.next.length).map fr,X.ends⟩:=by unfold Zdi;rw[b]
 have bP:∀ k c,c<3→(fr k).take (c+1)=(fr k).take c++[((clD X (nxD X k c):Nat):Int)]:=fun k c hc=>by rw[b,List.take_succ_eq_append_getElem (by simp;omega)];simp
 have aZ:∀ k,(fr k).take 3=fr k:=fun k=>List.take_of_length_le (by rw[b];simp)
 have dF:=qh bP;have cW:=qh aZ;replace hd:=qh hd;replace hX:=qh hX;have dG:=qh aR;clear aR;have cC:=qh cD;clear cD;have dK:=qh b;clear b;have bW:=qh cL;clear cL;replace U:=qh U;have dC:=qh hi;clear hi;have bV:=qh cJ;clear cJ;have bD:=qh cK;clear cK;have bB:=qh cI;clear cI;have dE:=qh hj;clear hj;have aW:=qh bN;clear bN;have cB:=qh aY;clear aY;have bZ:=qh bG;clear bG;have dD:=qh hk;clear hk;have bM:=qh cH;clear cH;have bO:=qh cE;clear cE;have bL:=qh bU;clear bU;clear bP aZ
 go_enter Tryz.func47, Tryz.ntmps47
 have e0:=U.o.cell (v:=v1) 0 0 rfl rfl;have e1:=U.o.cell (v:=v2) 0 1 rfl rfl;go_wp2_with fail;refine(Zf7 d _ _ hd.o (HR.o.below U.o.bel)).mono ?_;rintro e w1 ⟨a1,c1,a2,c2,rfl,E,hb1⟩;replace E:=E.mono (Nat.zero_le _);rw[← hX.o] at E;rw[← hX.o];obtain⟨b1,o1,cv,b2,o2,cw,hv,hC⟩:=Zcb Y E;rw[hv] at E;rw[hv];have aU:=U.o.call hb1;obtain⟨L,s⟩:=eI (X.next.length);have cN:=hC.l1;have cV:=hC.l2;rw[← s] at E cN cV;rw[← s];have aA:=(St.start w1).alloc _ rfl #[.slice (some ⟨b1,o1,none⟩) L cv,.slice (some ⟨b2,o2,none⟩) L cw] 44;have cX:=qh E;have u:=qh hC;have aS:=qh aU;have bK:=qh aA;replace s:=qh s;have bC:=qh Y;clear Y;have d0:=aA.cell (v:=.slice (some ⟨b1,o1,none⟩) L cv) 0 0 rfl rfl;have d1:=aA.cell (v:=.slice (some ⟨b2,o2,none⟩) L cw) 0 1 rfl rfl;clear aU aA E hC hv hb1 e0 e1;go_wp2_with fail;refine(Zh6 X _ _ bC.o (cX.o.below bK.o.bel)).mono ?_;unfold RCl;rw[← s.o];rintro e w2 ⟨g,cg,rfl,bY⟩;have q:=bK.o.cat bY;have bJ:=(((q.alloc _ rfl #[.slice none 0 0,.slice none 0 0] 44).nilRow 38 1).norows 3 rfl 3).nilRow 4 1;have cS:=qh bJ;clear q bJ bY d0 d1;go_wp2
 go_loopw [6] (fun i wr=>∃ (k:Nat) (a1 a2:Option Addr) (c1 c2:Nat) (vs:List Value),i = .int .i64 k∧k≤L ∧
   St w1 wr [Ent.box w1.heap.size #[.slice (some ⟨b1,o1,none⟩) L cv,.slice (some ⟨b2,o2,none⟩) L cw] 44,Ent.row 3 1 (.slice (some ⟨g,0,none⟩) L cg) L (intCells (clsL L (clD X))),Ent.box w2.heap.size #[.slice a1 k c1,.slice a2 k c2] 44,
    Ent.rows 38 3 (.slice a1 k c1) vs (((List.range k).map fr).map intCells),Ent.row 4 1 (.slice a2 k c2) k (boolCells (X.ends.take k))])
  (fun i _=>L-(intOf i).toNat)
 case atStart=>exact⟨0,none,none,0,0,[],rfl,Nat.zero_le _,cS.o⟩
 case round =>
  obtain⟨k,a1,a2,c1,c2,vs,rfl,hk,hS⟩:=hrel;have d0:=hS.cell (v:=.slice (some ⟨b1,o1,none⟩) L cv) 0 0 rfl rfl;by_cases hlt:k<L
  ·have hlt2:(k:Int)<L:=by omega
   have hkn:k<X.next.length:=by have:=s.o;omega
   obtain⟨b3,o3,c3,dA,hc3,dM,bH,aH⟩:=u.o.row k hkn;have hen:=u.o.en k hkn;have bQ:=(hS.alloc _ rfl #[] 3).boxrow 5 0 1 [] rfl rfl (Nat.zero_le _);have aD:=Zle fr k;have aJ:X.ends.take (k+1)=X.ends.take k++[enD X k]:=by rw[List.take_succ_eq_append_getElem (by have:=u.o.le;omega)];simp[enD,show k<X.ends.length by have:=u.o.le;omega]
   have aX:=qh aH;have cP:=qh hen;have dN:=qh hS;clear hS;have bS:=qh bH;clear bH;have bE:=qh bQ;clear bQ;have aO:=qh aD;clear aD;have aP:=qh aJ;clear aJ;clear aH hen;go_wp2
   go_loopw [7,8] (fun rv i wi=>∃ (n:Nat) (b4 V:Nat),i = .int .i64 n∧rv = .slice (some ⟨b4,0,none⟩) n V∧n≤3 ∧
     St w1 wi [Ent.box w1.heap.size #[.slice (some ⟨b1,o1,none⟩) L cv,.slice (some ⟨b2,o2,none⟩) L cw] 44,Ent.row 3 1 (.slice (some ⟨g,0,none⟩) L cg) L (intCells (clsL L (clD X))),Ent.box w2.heap.size #[.slice a1 k c1,.slice a2 k c2] 44,
      Ent.rows 38 3 (.slice a1 k c1) vs (((List.range k).map fr).map intCells),Ent.row 4 1 (.slice a2 k c2) k (boolCells (X.ends.take k)),
      Ent.row 3 1 (.slice (some ⟨b4,0,none⟩) n V) n (intCells ((fr k).take n))])
    (fun _ i _=>3-(intOf i).toNat)
   case atStart=>exact⟨0,_,_,rfl,rfl,by omega,bE.o⟩
   case round =>
    obtain⟨n,b4,V,rfl,rfl,hn3,D⟩:=hrel;obtain⟨wo,dB⟩:∃ wo:World,wo=wr:=⟨_,rfl⟩;subst dB;by_cases hn:n<3
    ·have dS:(n:Int)<3:=by omega
     have e0:=D.cell (v:=.slice (some ⟨b1,o1,none⟩) L cv) 0 0 rfl rfl;have e2:=(bcell D.bel b1 _ u.o.hb1).trans bS.o;have e3:=(bcell D.bel b3 _ dA).trans (aX.o n hn);have aQ:=u.o.lt k n hkn hn;rw[← s.o] at aQ;have hT:=dF.o k n hn;obtain⟨y,hy⟩:=eI (nxD X k n);rw[← hy] at e3 aQ hT;have e4:=D.rcell (v:=.int .i64 ((clD X y:Nat):Int)) 1 y rfl (by omega) (Za6 (clD X) aQ);obtain⟨z,hz⟩:=eI (clD X y);rw[← hz] at e4 hT;have dR:(y:Int)<L:=by omega
     have Q:=D.alloc_ (.cells #[.int .i64 ((z:Nat):Int)] 3);have hR:=Q.row 5 rfl;have cG:=qh D;clear D;have N:=qh Q;clear Q;have cZ:=qh hR;clear hR;have dP:=qh hy;clear hy;have dT:=qh hz;clear hz;have cY:=qh hT;clear hT;go_wp2_with (at_builtin;refine wpList_append_lies _ rfl _ _ _ rfl _ 3 j0 (.int .i64 0) 1 8 Tryz.underlying38 dE.o aW.o cB.o bZ.o rfl (by omega) _ n _ rfl cZ.o ⟨wo.heap.size,0,none⟩ 1 1 [.int .i64 ((z:Nat):Int)] rfl rfl (World.news_of_block (heap_alloc_new wo _)) ZbX (by omega) (by unfold maxLen;omega) (by omega) N.o.size _ rfl ?_;intro I H w7 l R aF bA;have cT:=qh (N.o.app 5 rfl l R aF);clear l R aF bA);go_roundw
     case rel =>refine⟨n+1,I,H,by go_num,rfl,by omega,?_⟩;rw[cY.o,Zaz];exact cT.o
     case measure=>simp[intOf];omega
    obtain rfl:n=3:=by omega
    rw[cW.o] at D;have aL:(((List.range k).map fr).map intCells).length=k:=by simp
    have Q:=D.alloc_ (.cells #[.slice (some ⟨b4,0,none⟩) 3 V] 38);have aM:=(Q.rows 3 rfl).1;rw[aL] at aM;have e0:=D.cell (v:=.slice a1 k c1) 2 0 rfl rfl;have bI:=qh aL;clear aL;have cG:=qh D;clear D;have N:=qh Q;clear Q;have cF:=qh aM;clear aM;go_wp2_with (at_builtin;refine wpList_append_lies _ rfl _ _ _ rfl _ 38 k0 (.slice none 0 0) 1 24 Tryz.underlying41 dD.o bM.o bO.o bL.o rfl (by omega) _ k _ rfl cF.o ⟨wo.heap.size,0,none⟩ 1 1 [.slice (some ⟨b4,0,none⟩) 3 V] rfl rfl (World.news_of_block (heap_alloc_new wo _)) ZcT (by omega) (by unfold maxLen;omega) (by omega) N.o.size _ rfl ?_;intro g6 c6 w6 p T aI bT;have aB:=qh (N.o.snoc 3 5 (by decide) rfl rfl (by decide) T (by rw[bI.o];exact p) (Zgh aI));have y1:=aB.o.cell (v:=.slice a1 k c1) 2 0 rfl rfl;have y2:=aB.o.fr 2 0 rfl;clear p T aI bT);have aK:=(aB.o.set 2 rfl 0 (.slice (some ⟨g6,0,none⟩) (k+1) c6)).pick [0,1,2,3,4] (by decide);obtain⟨wq,x⟩:=eI (w6.setCell ⟨w2.heap.size,0,none⟩ (.slice (some ⟨g6,0,none⟩) (k+1) c6));rw[← x] at aK
    have aE:St w1 wq [Ent.box w1.heap.size #[.slice (some ⟨b1,o1,none⟩) L cv,.slice (some ⟨b2,o2,none⟩) L cw] 44,Ent.row 3 1 (.slice (some ⟨g,0,none⟩) L cg) L (intCells (clsL L (clD X))),Ent.box w2.heap.size #[.slice (some ⟨g6,0,none⟩) (k+1) c6,.slice a2 k c2] 44,
      Ent.rows 38 3 (.slice (some ⟨g6,0,none⟩) (k+1) c6) (vs++[.slice (some ⟨b4,0,none⟩) 3 V]) (((List.range (k+1)).map fr).map intCells),Ent.row 4 1 (.slice a2 k c2) k (boolCells (X.ends.take k))]:=by
     rw[aO.o,List.map_append];exact aK
    rw[← x];obtain⟨r,hr⟩:=eI (enD X k);have bX:w1.cell? ⟨b2,o2+k,none⟩=some (.bool r):=by rw[hr];exact cP.o
    have cQ:=qh aE;have dI:=qh x;clear x;have cO:=qh hr;clear hr;have cA:=qh bX;clear bX;clear aK aE y1 y2 e0 aB;refine wp_region_any (by kernel_rfl) ?_
    refine Zay (fun A listed a w'=>∃ (l0 l1 l2 l3 l4 l5 l6 l7 l8 l9 O:Bool) (I:Nat) (H:Nat) (P:Nat),listed=#[l0,l1,l2,l3,l4,l5,l6,l7,l8,l9,O]∧(l8=true→l1=true∧l7=true)∧(O=true→l8=true∧l1=true) ∧
      a=⟨((((((((((A.tmps.setIfInBounds 46 (if l0=true then .pointer (some ⟨w2.heap.size,1,none⟩) else A.tmps.getD 46 undef)).setIfInBounds 47 (if l1=true then .slice a2 k c2 else A.tmps.getD 47 undef)).setIfInBounds 48 (if l2=true then .pointer (some ⟨w1.heap.size,1,none⟩) else A.tmps.getD 48 undef)).setIfInBounds 49 (if l3=true then .slice (some ⟨b2,o2,none⟩) L cw else A.tmps.getD 49 undef)).setIfInBounds 50 (if l4=true then .int .i64 (k:Int) else A.tmps.getD 50 undef)).setIfInBounds 51 (if l5=true then .pointer (some ⟨b2,o2+k,none⟩) else A.tmps.getD 51 undef)).setIfInBounds 52 (if l6=true then .bool r else A.tmps.getD 52 undef)).setIfInBounds 53 (if l7=true then .slice (some ⟨P,0,none⟩) 1 1 else A.tmps.getD 53 undef)).setIfInBounds 54 (if l8=true then .slice (some ⟨I,0,none⟩) (k+1) H else A.tmps.getD 54 undef)).setIfInBounds 55 (if l9=true then .pointer (some ⟨w2.heap.size,1,none⟩) else A.tmps.getD 55 undef)),A.defers⟩ ∧
      St w1 w' [Ent.box w1.heap.size #[.slice (some ⟨b1,o1,none⟩) L cv,.slice (some ⟨b2,o2,none⟩) L cw] 44,Ent.row 3 1 (.slice (some ⟨g,0,none⟩) L cg) L (intCells (clsL L (clD X))),Ent.box w2.heap.size #[.slice (some ⟨g6,0,none⟩) (k+1) c6,(if O=true then .slice (some ⟨I,0,none⟩) (k+1) H else .slice a2 k c2)] 44,Ent.rows 38 3 (.slice (some ⟨g6,0,none⟩) (k+1) c6) (vs++[.slice (some ⟨b4,0,none⟩) 3 V]) (((List.range (k+1)).map fr).map intCells),(if l8=true then Ent.row 4 1 (.slice (some ⟨I,0,none⟩) (k+1) H) (k+1) ((boolCells (X.ends.take k))++[.bool r]) else Ent.row 4 1 (.slice a2 k c2) k (boolCells (X.ends.take k))),(if l7=true then Ent.box P #[.bool r] 4 else Ent.nil)]) ?_ ?_ ?_
    ·rintro listed a w' ⟨l0,l1,l2,l3,l4,l5,l6,l7,l8,l9,O,I,H,P,rfl,F,B,rfl,hS⟩ i hi;obtain⟨C,o,ho,hall⟩:=mem_ready.1 hi;have hlt:=(Array.getElem?_eq_some_iff.1 ho).1;refine wpOp_step ho (fun K m => ?_);clear hi;have J:=qh hS;clear hS;simp only[w_1,w_2,w_3,w_4,w_5,w_6,w_7,w_8];obtain h|h|h|h|h|h|h|h|h|h|h:i=0∨i=1∨i=2∨i=3∨i=4∨i=5∨i=6∨i=7∨i=8∨i=9∨i=10:=by simp at hlt;omega
     all_goals subst h
     all_goals simp only[w_5,w_6,w_7,w_9] at ho
     all_goals subst ho
     all_goals simp[Region.binds] at C hall
     ·subst C;go_simp;exact m _ _ ⟨_,_,_,_,_,_,_,_,_,_,_,I,H,P,rfl,F,B,(by simp),J.o⟩
     ·obtain rfl:=hall;subst C;obtain rfl:l8=false:=offL F rfl;obtain rfl:O=false:=offL B rfl;have e0:=J.o.cell (v:=.slice a2 k c2) 2 1 rfl rfl;go_simp;exact m _ _ ⟨_,_,_,_,_,_,_,_,_,_,_,I,H,P,rfl,by simp,by simp,(by simp),J.o⟩
     ·subst C;go_simp;exact m _ _ ⟨_,_,_,_,_,_,_,_,_,_,_,I,H,P,rfl,F,B,(by simp),J.o⟩
     ·obtain rfl:=hall;subst C;have e0:=J.o.cell (v:=.slice (some ⟨b2,o2,none⟩) L cw) 0 1 rfl rfl;go_simp;exact m _ _ ⟨_,_,_,_,_,_,_,_,_,_,_,I,H,P,rfl,F,B,(by simp),J.o⟩
     ·subst C;go_simp;exact m _ _ ⟨_,_,_,_,_,_,_,_,_,_,_,I,H,P,rfl,F,B,(by simp),J.o⟩
     ·obtain⟨rfl,rfl⟩:=hall;subst C;go_simp;exact m _ _ ⟨_,_,_,_,_,_,_,_,_,_,_,I,H,P,rfl,F,B,(by simp),J.o⟩
     ·obtain rfl:=hall;subst C;have e0:=(bcell J.o.bel b2 _ u.o.hb2).trans cA.o;go_simp;exact m _ _ ⟨_,_,_,_,_,_,_,_,_,_,_,I,H,P,rfl,F,B,(by simp),J.o⟩
     ·obtain rfl:=hall;subst C;obtain rfl:l8=false:=offR F rfl;obtain rfl:O=false:=offL B rfl;have q:=(J.o.alloc _ rfl #[.bool r] 4).pick [0,1,2,3,4,6] (by decide);have bF:=qh q;clear q;go_simp;exact m _ _ ⟨_,_,_,_,_,_,_,_,_,_,_,I,H,_,rfl,by simp,by simp,(by simp),bF.o⟩
     ·obtain⟨rfl,rfl⟩:=hall;subst C;obtain rfl:O=false:=offL B rfl;refine step_append_lies (a:=⟨_,_⟩) _ (by rfl) _ _ _ (by rfl) w1.heap.size 4 i0 (.bool false) 1 1 Tryz.underlying42 dC.o bV.o bD.o bB.o (by rfl) (by omega) (.slice a2 k c2) k (boolCells (X.ends.take k)) (by rfl) (J.o.row 4 rfl) ⟨P,0,none⟩ 1 1 [.bool r] (by rfl) (by rfl) (World.news_of_block (J.o.box 5 rfl)) Zc3 (by omega) (by unfold maxLen;omega) (by omega) J.o.size _ rfl ?_;intro g8 c8 w8 Z S aG dH;have j:=qh (J.o.app 4 rfl Z S aG);clear Z S aG;go_simp;exact m _ _ ⟨_,_,_,_,_,_,_,_,_,_,_,g8,c8,P,rfl,by simp,by simp,(by simp),j.o⟩
     ·obtain⟨rfl,rfl,rfl,rfl,rfl,rfl,rfl,rfl,rfl⟩:=hall;subst C;go_simp;exact m _ _ ⟨_,_,_,_,_,_,_,_,_,_,_,I,H,P,rfl,by simp,B,(by simp only[↓reduceIte,w_1,w_2,w_3]),J.o⟩
     obtain⟨rfl,rfl,rfl,rfl,rfl,rfl,rfl,rfl,rfl,rfl,-⟩:=hall;subst C;have f0:=J.o.fr 2 1 rfl;have k0:=J.o.cell (v:=.slice a2 k c2) 2 1 rfl rfl;go_simp;exact m _ _ ⟨_,_,_,_,_,_,_,_,_,_,_,I,H,P,rfl,by simp,by simp,(by simp only[↓reduceIte,w_1,w_2,w_3]),(J.o.set 2 rfl 1 (.slice (some ⟨I,0,none⟩) (k+1) H))⟩
    ·rintro listed a w' ⟨l0,l1,l2,l3,l4,l5,l6,l7,l8,l9,O,I,H,P,rfl,F,B,rfl,hS⟩ hr;obtain⟨rfl,rfl,rfl,rfl,rfl,rfl,rfl,rfl,rfl,rfl,rfl,-⟩:=zA (ZbK (by kernel_rfl) rfl hr) rfl;clear hr F B;simp only[↓reduceIte] at hS ⊢;simp only[w_1,w_2,w_3];have G:=hS.pick [0,1,2,3,4] (by decide);have aV:=qh G;clear G;clear hS;go_wp2;go_roundw
     case rel =>refine⟨k+1,some ⟨g6,0,none⟩,some ⟨I,0,none⟩,c6,H,vs++[.slice (some ⟨b4,0,none⟩) 3 V],by go_num,by omega,?_⟩;rw[aP.o,ZbO,← cO.o];exact aV.o
     case measure=>simp[intOf];omega
    refine⟨false,false,false,false,false,false,false,false,false,false,false,0,0,0,rfl,by simp,by simp,(by simp),?_⟩;exact cQ.o.drew.pick [0,1,2,3,4,5] (by decide)
  obtain rfl:L=k:=by omega
  have aN:X.ends.take L=X.ends:=List.take_of_length_le (by have:=u.o.le;have:=s.o;omega);rw[aN] at hS
  have bR:DfaR 0 wr (.agg #[.slice a1 L c1,.slice a2 L c2]) (Zdi X):=by
   rw[bW.o,← s.o];refine⟨.slice a1 L c1,.slice a2 L c2,rfl,(hS.intSS 3 rfl).intSS.mono (Nat.zero_le _),?_⟩;have hb:=hS.row 4 rfl;have he:L=X.ends.length:=by have:=u.o.le;have:=s.o;omega
   have hb2:wr.ownsRow w1.heap.size 4 1 (.slice a2 L c2) X.ends.length (boolCells X.ends):=by rw[← he];exact hb
   exact(Za8 hb2).mono (Nat.zero_le _)
  have z0:=hS.cell (v:=.slice a1 L c1) 2 0 rfl rfl;have z1:=hS.cell (v:=.slice a2 L c2) 2 1 rfl rfl;have cM:=qh bR;have j:=qh hS;have dJ:=qh aN;clear aN;clear hS bR;go_wp2_with fail;refine(Zf7 (Zdi X) _ _ cC.o cM.o).mono ?_;rintro e w9 ⟨a3,c3,a4,V,rfl,E,aT⟩;have G:=aS.o.call (j.o.bel.trans (aT.mono j.o.bel.size));have f0:=G.fr 1 0 rfl;have f1:=G.fr 1 1 rfl;have k0:=G.cell (v:=.slice none 0 0) 1 0 rfl rfl;have k1:=G.cell (v:=.slice none 0 0) 1 1 rfl rfl;have dQ:=(G.boxlt 1 rfl).2;have dU:=(aS.o.boxlt 1 rfl).2;have cU:=qh G;have aC:=qh E;have dO:=qh aT;obtain⟨M,hM⟩:=eI (Zbj (Zdi X));rw[← hM] at aC;rw[← hM];have cR:=qh hM;clear hM;clear G E aT z0 z1;go_wp2;have hq:=(cU.o.set 1 rfl 0 (.slice a3 M.next.length c3)).set 1 rfl 1 (.slice a4 M.ends.length V);have q0:=hq.cell (v:=.slice a3 M.next.length c3) 1 0 rfl rfl;have q1:=hq.cell (v:=.slice a4 M.ends.length V) 1 1 rfl rfl;refine bodyPost_ret (v:=.agg #[.slice a3 M.next.length c3,.slice a4 M.ends.length V]) (by simp[results,Tryz.results47,go_sem,q0,q1]) rfl ?_;rw[← cR.o];have hle:=j.o.bel.size;have dL:=aS.o.bel.size;exact⟨a3,c3,a4,V,rfl,((aC.o.far (by omega) 0 _).far (by omega) 1 _).mono (by omega),hq.bel⟩
def DfaV (B H:Nat) (v1 v2:Value) (D:DfaD):Ent:=⟨fun k=>B≤k∧k<H,fun u=>∃ w:World,w.heap.size=H∧DfaR B w (.agg #[v1,v2]) D∧∀ k,B≤k→k<H→u.heap[k]? = w.heap[k]?,
 fun _ _ ⟨w,h1,h2,h3⟩ hk=>⟨w,h1,h2,fun k p q=>(hk k ⟨p,q⟩).trans (h3 k p q)⟩⟩
def RDs (D:DfaD) (w:World) (e:Ending) (w':World):Prop:=∃ a1 c1 a2 c2,e = .returned (.agg #[.slice a1 D.next.length c1,.slice a2 D.ends.length c2])∧DfaR w.heap.size w' (.agg #[.slice a1 D.next.length c1,.slice a2 D.ends.length c2]) D∧Below w.heap.size w w'
def minQ (d:DfaD):DfaD:=if Zac d.next d.ends=true then minD d else⟨[],[]⟩
def subV (v u:Nat):Prop:=∀ s,v.testBit s=true→u.testBit s=true
theorem Ze0 (v:Nat):subV v v:=fun _ h=>h
theorem Zim {a b c:Nat} (h:subV a b) (B:subV b c):subV a c:=fun s hs=>B s (h s hs)
theorem ZnJ {a b:Nat} (h:subV a b) (B:subV b a):a=b:=by apply Nat.eq_of_testBit_eq;intro i;have h1:=h i;have h2:=B i;cases ha:a.testBit i<;>cases hb:b.testBit i<;>simp_all
theorem Zqg (v s:Nat):subV v (adj v s):=fun t ht=>by rw[ZcB,ht];rfl
theorem ZiM (v:Nat) (m:Int × Int × Int):subV v (Zau v m):=by
 unfold Zau
 split
 ·exact Zqg _ _
 exact Ze0 _
theorem Zf0:∀ (ms:List (Int × Int × Int)) (v:Nat),subV v (ms.foldl Zau v)
 | [],v=>Ze0 v
 | m::ms,v=>Zim (ZiM v m) (Zf0 ms _)
theorem Zmx (ms:List (Int × Int × Int)) (v:Nat):∀ k,subV v (clIt ms v k)
 | 0=>Ze0 v
 | k+1=>Zim (Zmx ms v k) (Zf0 ms _)
def Zcn (ms:List (Int × Int × Int)) (u:Nat):Prop:=∀ m∈ms,m.2.1 = -1→u.testBit m.1.toNat=true→u.testBit m.2.2.toNat=true
theorem ZpH {ms:List (Int × Int × Int)} {u v:Nat} (hu:Zcn ms u) (h:subV v u) {m:Int × Int × Int} (hm:m∈ms):subV (Zau v m) u:=by
 unfold Zau
 split
 ·rename_i hc;simp only[Bool.and_eq_true,decide_eq_true_eq] at hc;intro s hs;rw[ZcB,Bool.or_eq_true] at hs;rcases hs with hs|hs
  ·exact h s hs
  rw[← of_decide_eq_true hs];exact hu m hm hc.1.1 (h _ hc.1.2)
 exact h
theorem ZkI {ms:List (Int × Int × Int)} {u:Nat} (hu:Zcn ms u):∀ (l:List (Int × Int × Int)) (v:Nat),(∀ m∈l,m∈ms)→subV v u→subV (l.foldl Zau v) u
 | [],_,_,h=>h
 | m::l,v,hl,h=>ZkI hu l _ (fun x hx=>hl x (by simp[hx])) (ZpH hu h (hl m (by simp)))
theorem ZpI {ms:List (Int × Int × Int)} {u v:Nat} (hu:Zcn ms u) (h:subV v u):∀ k,subV (clIt ms v k) u
 | 0=>h
 | k+1=>ZkI hu ms _ (fun _ hx=>hx) (ZpI hu h k)
theorem Zsb {n:Nat} {ms:List (Int × Int × Int)} (h:mvIn n ms) (v:Nat):ZkG ms (clV n ms v)=clV n ms v:=by
 rcases Zfy h v n with h1|h1
 ·exact h1
 have:=ZpB n v;omega
theorem Zmk:∀ {l:List (Int × Int × Int)} {v:Nat},l.foldl Zau v=v→∀ m∈l,Zau v m=v
 | [],_,_,_,hm=>by cases hm
 | m::l,v,h,x,hx=>by
  have h1:Zau v m=v:=ZnJ (by have:=Zf0 l (Zau v m);rw[List.foldl_cons] at h;rw[h] at this;exact this) (ZiM v m);rw[List.foldl_cons,h1] at h;rcases List.mem_cons.1 hx with rfl|hx
  ·exact h1
  exact Zmk h x hx
theorem ZcM {n:Nat} {ms:List (Int × Int × Int)} (h:mvIn n ms) (v:Nat):Zcn ms (clV n ms v):=by
 intro m hm hl hf;have h1:=Zmk (Zsb h v) m hm;cases ht:(clV n ms v).testBit m.2.2.toNat with
 | true=>rfl
 | false =>exfalso;unfold Zau at h1;rw[if_pos (by simp[hl,hf,ht])] at h1;have:=ZcB (clV n ms v) m.2.2.toNat m.2.2.toNat;rw[h1,ht] at this;simp at this
theorem ZhP (n:Nat) (ms:List (Int × Int × Int)) (v:Nat):subV v (clV n ms v):=Zmx ms v n
theorem ZpE {n:Nat} {ms:List (Int × Int × Int)} {u v:Nat} (hu:Zcn ms u) (h:subV v u):subV (clV n ms v) u:=ZpI hu h n
theorem ZgR {n:Nat} {ms:List (Int × Int × Int)} {u:Nat} (hu:Zcn ms u):clV n ms u=u:=ZnJ (ZpE hu (Ze0 u)) (ZhP n ms u)
theorem ZlY:∀ (l:List Int) (v t:Nat),(l.foldl (fun v s=>adj v s.toNat) v).testBit t=(v.testBit t||l.any fun s=>decide (s.toNat=t))
 | [],v,t=>by simp
 | s::l,v,t=>by rw[List.foldl_cons,ZlY l,ZcB,List.any_cons,Bool.or_assoc]
theorem Zi7 (l:List Int) (t:Nat):(setV l).testBit t=l.any fun s=>decide (s.toNat=t):=by unfold setV;rw[ZlY];simp
theorem ZlX {l:List Int} {x:Int} (hx:x∈l):(setV l).testBit x.toNat=true:=by rw[Zi7,List.any_eq_true];exact⟨x,hx,by simp⟩
def txB (l:List Nat):ByteArray:=⟨(l.map UInt8.ofNat).toArray⟩
def isT (l:List Nat):Prop:=∀ b∈l,b<256
theorem ZaE (l:List Nat):(txB l).size=l.length:=by simp[txB,ByteArray.size]
theorem ZbN {l:List Nat} {i:Nat} (hi:i<l.length):l.getD i 0∈l:=by rw[List.getD_eq_getElem?_getD,List.getElem?_eq_getElem hi];exact List.getElem_mem hi
theorem Zsk {l:List Nat} {i:Nat} (hi:i<l.length) (ht:isT l) (h:i<(txB l).size):(((txB l)[i]'h).toNat:Int)=(l.getD i 0:Nat):=by
 have hc:l.getD i 0<256:=ht _ (ZbN hi);have e:(txB l)[i]'h=UInt8.ofNat (l.getD i 0):=by show(txB l).data[i]=_;simp[txB,hi]
 rw[e,UInt8.toNat_ofNat'];omega
theorem Zbx {l:List Nat} {i:Nat} (hi:i<l.length) (ht:isT l) (w:World):(Instr.index 9 (.string (txB l)) (.int .i64 (i:Int))).run Tryz.prog w = .ok (.int .u8 ((l.getD i 0:Nat):Int)) w:=by have hs:(txB l).size=l.length:=ZaE l;rw[run_index_string w 9 (txB l) .i64 i Tryz.underlying9,dif_pos (by omega)];congr 2;exact Zsk hi ht _
def okT (l:List Nat) (k:Nat):Bool:=(List.range k).all fun i=>inB ((l.getD i 0:Nat):Int) 97 99
def wdOk (l:List Nat):Bool:=okT l l.length&&decide (l.length≤8)
theorem Zqu {l:List Nat} {k:Nat} (h:okT l k=true) (h1:inB ((l.getD k 0:Nat):Int) 97 99=true):okT l (k+1)=true:=ZmQ h h1
theorem ZrK {l:List Nat} {k:Nat} (hk:k<l.length) (h1:inB ((l.getD k 0:Nat):Int) 97 99=false):wdOk l=false:=by
 unfold wdOk okT;have:((List.range l.length).all fun i=>inB ((l.getD i 0:Nat):Int) 97 99)=false:=by rw[List.all_eq_false];exact⟨k,List.mem_range.2 hk,by rw[h1];simp⟩
 rw[this];rfl
theorem Zii (l:List Nat) (w:World) (ht:isT l) (hl:l.length≤2000000) (r:Bool) (hr:wdOk l=r) :
  Calls Tryz.prog 113 #[.string (txB l),.int .i64 8] w fun e w'=>e = .returned (.bool r)∧w=w':=by
 have hs:(txB l).size=l.length:=ZaE l;replace hr:=qh hr;have H:=qh ht;clear ht
 go_enter Tryz.func113, Tryz.ntmps113
 go_wp2
 go_loopw [8] (fun i wr=>∃ k:Nat,i = .int .i64 k∧k≤l.length∧okT l k=true∧w=wr) (fun i _=>l.length-(intOf i).toNat)
 case atStart=>exact⟨0,rfl,Nat.zero_le _,rfl,rfl⟩
 case round =>
  obtain⟨k,rfl,hk,hok,rfl⟩:=hrel;by_cases hlt:k<l.length
  ·have I:(k:Int)<l.length:=by omega
   have E:=Zbx hlt H.o;have hb:=H.o _ (ZbN hlt);obtain⟨c,C⟩:=eI (l.getD k 0);rw[← C] at E hb;have J:IntKind.i64.wrap (c:Int)=(c:Int):=IntWalk.i64_in _ (by omega);have D:=qh hok;clear hok;replace C:=qh C;cases hin:inB (c:Int) 97 99
   ·have B:=qh hin;clear hin;go_wp2_with (go_at_call 110;refine(Zbd _ _ _ _ _ B.o).mono ?_;rintro e w' ⟨rfl,rfl⟩);go_ret;exact⟨by rw[← hr.o,ZrK hlt (by rw[← C.o];exact B.o)];rfl,rfl⟩
   have B:=qh hin;clear hin;go_wp2_with (go_at_call 110;refine(Zbd _ _ _ _ _ B.o).mono ?_;rintro e w' ⟨rfl,rfl⟩);go_roundw
   case rel=>exact⟨k+1,by go_num,by omega,Zqu D.o (by rw[← C.o];exact B.o),trivial⟩
   case measure=>simp[intOf];omega
  obtain rfl:k=l.length:=by omega
  have G:decide ((l.length:Int)≤8)=r:=by rw[← hr.o];unfold wdOk;rw[hok,Bool.true_and];exact decide_eq_decide.2 (by omega)
  have D:=qh hok;clear hok;have F:=qh G;clear G;go_wp2;go_ret;exact⟨by rw[← F.o];rfl,rfl⟩
theorem Zdt (l:List Nat) (w:World) (ht:isT l) (hl:l.length≤2000000) (r:Bool) (hr:wdOk l=r) :
  Calls Tryz.prog 67 #[.string (txB l)] w fun e w'=>e = .returned (.bool r)∧w=w':=by
 replace hr:=qh hr;have B:=qh ht;clear ht
 go_enter Tryz.func67, Tryz.ntmps67
 go_wp2_with (go_at_call 113;refine(Zii l _ B.o hl _ hr.o).mono ?_;rintro e w' ⟨rfl,rfl⟩);go_ret;exact⟨rfl,rfl⟩
theorem ZeU (l:List Nat) (i:Nat) (hi:i<l.length) (ht:isT l) (E:97≤l.getD i 0) (w:World):Calls Tryz.prog 68 #[.string (txB l),.int .i64 i] w fun e w'=>e = .returned (.int .i64 ((l.getD i 0-97:Nat):Int))∧w=w':=by
 have hb:=ht _ (ZbN hi);have D:=Zbx hi ht;obtain⟨c,B⟩:=eI (l.getD i 0-97);have C:((l.getD i 0:Nat):Int)=97+(c:Int):=by omega
 rw[C] at D;rw[← B]
 have G:IntKind.u8.wrap (97+(c:Int)-97)=(c:Int):=by
  have:97+(c:Int)-97=(c:Int):=by omega
  rw[this];exact IntWalk.u8_in _ (by omega)
 have F:IntKind.i64.wrap (c:Int)=(c:Int):=IntWalk.i64_in _ (by omega);replace B:=qh B;clear C E hb
 go_enter Tryz.func68, Tryz.ntmps68
 go_wp2;go_ret;exact⟨rfl,rfl⟩
def shF:Nat→Nat
 | 0=>0
 | k+1=>shF k+3 ^ k
theorem Zoj {k:Nat} (h:k≤9):3 ^ k≤19683:=Nat.pow_le_pow_right (by omega) h
theorem Zrp:∀ k,shF k≤3 ^ k
 | 0=>by decide
 | k+1=>by show shF k+3 ^ k≤3 ^ (k+1);have:=Zrp k;rw[Nat.pow_succ];omega
theorem ZkU (n:Nat) (w:World) (hn:n≤9):Calls Tryz.prog 114 #[.int .i64 n] w fun e w'=>e = .returned (.int .i64 ((3 ^ n:Nat):Int))∧w=w':=by
 go_enter Tryz.func114, Tryz.ntmps114
 go_wp2
 go_loopw [3,5] (fun p i wr=>∃ k q:Nat,i = .int .i64 k∧p = .int .i64 q∧k≤n∧3 ^ k=q∧w=wr) (fun _ i _=>n-(intOf i).toNat)
 case atStart=>exact⟨0,1,rfl,rfl,Nat.zero_le _,rfl,rfl⟩
 case round =>
  obtain⟨k,q,rfl,rfl,hk,hq,rfl⟩:=hrel;have B:=Zoj (k:=k) (by omega);rw[hq] at B;by_cases hlt:k<n
  ·have C:(k:Int)<n:=by omega
   replace hq:=qh hq;go_wp2;go_roundw
   case rel=>exact⟨k+1,q*3,by go_num,by go_num,by omega,by rw[Nat.pow_succ,hq.o],trivial⟩
   case measure=>simp[intOf];omega
  obtain rfl:k=n:=by omega
  replace hq:=qh hq;go_wp2;go_ret;exact⟨by rw[hq.o];rfl,rfl⟩
theorem Zk7 (n:Nat) (w:World) (hn:n≤9):Calls Tryz.prog 69 #[.int .i64 n] w fun e w'=>e = .returned (.int .i64 ((shF n:Nat):Int))∧w=w':=by
 go_enter Tryz.func69, Tryz.ntmps69
 go_wp2
 go_loopw [3,6] (fun p i wr=>∃ k q:Nat,i = .int .i64 k∧p = .int .i64 q∧k≤n∧shF k=q∧w=wr) (fun _ i _=>n-(intOf i).toNat)
 case atStart=>exact⟨0,0,rfl,rfl,Nat.zero_le _,rfl,rfl⟩
 case round =>
  obtain⟨k,q,rfl,rfl,hk,hq,rfl⟩:=hrel;have D:=Zoj (k:=k) (by omega);have C:=Zrp k;rw[hq] at C;obtain⟨t,B⟩:=eJ (3 ^ k);rw[B] at D C;by_cases hlt:k<n
  ·have E:(k:Int)<n:=by omega
   replace hq:=qh hq;replace B:=qh B;go_wp2_with (go_at_call 114;refine(ZkU k _ (by omega)).mono ?_;rintro e w' ⟨rfl,rfl⟩;rw[B.o]);go_roundw
   case rel=>exact⟨k+1,q+t,by go_num,by go_num,by omega,by rw[← hq.o,← B.o];rfl,trivial⟩
   case measure=>simp[intOf];omega
  obtain rfl:k=n:=by omega
  replace hq:=qh hq;replace B:=qh B;go_wp2;go_ret;exact⟨by rw[hq.o];rfl,rfl⟩
theorem ZmP (w:World):Calls Tryz.prog 28 #[.string { data:=#[97,98] }] w fun e w'=>e = .returned (.int .i64 5)∧w=w':=by
 have F:({ data:=#[97,98] }:ByteArray)=txB [97,98]:=rfl;have B:isT [97,98]:=fun b hb=>by simp at hb;omega
 have M:(txB [97,98]).size=2:=rfl;have G:=fun w=>ZeU [97,98] 0 (by decide) B (by decide) w
 have l1:=fun w=>ZeU [97,98] 1 (by decide) B (by decide) w
 have H:∀ w,Calls Tryz.prog 69 #[.int .i64 2] w fun e w'=>e = .returned (.int .i64 4)∧w=w':=fun w=>Zk7 2 w (by omega)
 have I:=fun w=>Zdt [97,98] w B (by decide) true rfl
 rw[F];have N:=qh G;have L:=qh l1;have J:=qh H;have O:=qh I;clear G l1 H F B I
 go_enter Tryz.func28, Tryz.ntmps28
 go_wp2_with (go_at_call 67;refine(O.o _).mono ?_;rintro e w' ⟨rfl,rfl⟩)
 go_loopw [3,10] (fun n i wr=>∃ k q:Nat,i = .int .i64 k∧n = .int .i64 q∧k≤2∧q≤1∧(k<2→q=0)∧(k=2→q=1)∧w=wr) (fun _ i _=>2-(intOf i).toNat)
 case atStart=>exact⟨0,0,rfl,rfl,by omega,by omega,fun _=>rfl,fun h=>by omega,rfl⟩
 case round =>
  obtain⟨k,q,rfl,rfl,hk,E,C,D,rfl⟩:=hrel;obtain rfl|rfl|rfl:k=0∨k=1∨k=2:=by omega
  ·obtain rfl:=C (by omega);clear E C D hk;go_wp2_with (go_at_call 68;refine(N.o _).mono ?_;rintro e w' ⟨rfl,rfl⟩);go_roundw
   case rel=>exact⟨1,0,rfl,rfl,by omega,by omega,fun _=>rfl,fun h=>by omega,trivial⟩
   case measure=>simp[intOf]
  ·obtain rfl:=C (by omega);clear E C D hk;go_wp2_with (go_at_call 68;refine(L.o _).mono ?_;rintro e w' ⟨rfl,rfl⟩);go_roundw
   case rel=>exact⟨2,1,rfl,rfl,by omega,by omega,fun h=>by omega,fun _=>rfl,trivial⟩
   case measure=>simp[intOf]
  obtain rfl:=D rfl;clear E C D hk;go_wp2_with (go_at_call 69;refine(J.o _).mono ?_;rintro e w' ⟨rfl,rfl⟩);go_ret;exact⟨rfl,rfl⟩
theorem ZpV (w:World):Calls Tryz.prog 10 #[] w fun e w'=>e = .returned (.bool true)∧w=w':=by
 go_enter Tryz.func10, Tryz.ntmps10
 go_wp2_with (go_at_call 28;refine(ZmP _).mono ?_;rintro e w' ⟨rfl,rfl⟩);go_ret;exact⟨rfl,rfl⟩
end Go.Proofs.YtncekbbhgipdlaaGreat
