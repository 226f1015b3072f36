/-
  The walks over the program's joinNfa and NfaJoin.
  Conditions: the automata are readable.
-/
import Derived.Test.YtehmjmjedopkkaaGreatPn29Cst
import Derived.Test.YtehmjmjedopkkaaGreatPn30Ij
set_option maxHeartbeats 16000000
set_option maxRecDepth 100000
namespace Go.Proofs.YtehmjmjedopkkaaGreat
open Go.RowKit
def jm (p q:NfaD) (S k:Nat):List (Int × Int × Int):=(p.moves++q.moves.map (shM (S:Int)))++(p.ends.take k).flatMap fun s=>q.firsts.map fun t=>(s,(-1:Int),t+(S:Int))
theorem ZmI {p q:NfaD} {S:Nat}:jm p q S 0=p.moves++q.moves.map (shM (S:Int)):=by simp[jm]
theorem Zo6 {p q:NfaD} {S k:Nat} (hk:k<p.ends.length):jm p q S (k+1)=jm p q S k++q.firsts.map fun t=>(p.ends.getD k 0,(-1:Int),t+(S:Int)):=by unfold jm;rw[List.take_succ_eq_append_getElem hk,List.flatMap_append,← List.append_assoc];simp[hk]
theorem Zob {p q:NfaD} {S Q:Nat} (hS:p.states=(S:Int)) (hQ:q.states=(Q:Int)):Zdh p q=⟨(S:Int)+(Q:Int),jm p q S p.ends.length,p.firsts,q.ends.map (·+(S:Int))⟩:=by unfold Zdh jm shN;rw[hS,hQ,List.take_length];simp only[List.map_map,NfaD.mk.injEq,and_true];refine⟨by omega,rfl⟩
theorem ZjJ (p q:NfaD) (v1 v2 v3 u1 u2 u3:Value) (w:World) (hp:Zhy p=true) (hq:Zhy q=true) (h1:Moves 0 w v1 p.moves) (h2:Ints 0 w v2 p.firsts) (h3:Ints 0 w v3 p.ends) (g1:Moves 0 w u1 q.moves) (g2:Ints 0 w u2 q.firsts) (g3:Ints 0 w u3 q.ends) :
  Calls Tryz.prog 107 #[.agg #[.int .i64 p.states,v1,v2,v3],.agg #[.int .i64 q.states,u1,u2,u3]] w fun e w'=>RNfaS (Zdh p q) w e w':=by
 obtain⟨S,hSp,hS40,hpm,hpl,hpf,hpfl,hpe,hpel⟩:=Zc0 hp;obtain⟨Q,hQq,hQ40,hqm,hql,hqf,hqfl,hqe,hqel⟩:=Zc0 hq;have hsm:=fun (u:World) (hu:Below w.heap.size w u)=>Ze2 p q S v1 v2 v3 u1 u2 u3 u hSp hS40 (by omega) (by omega) (Zmt hqm hQ40) (h1.below hu) (g1.below hu)
 have hcf:=fun (u:World) (hu:Below w.heap.size w u)=>Znh p.firsts v2 u (by omega) (h2.below hu)
 have hse:=fun (u:World) (hu:Below w.heap.size w u)=>Zjl q.ends u3 (S:Int) u (by omega) (fun x hx=>by have:=hqe x hx;omega) (by omega) (g3.below hu)
 obtain⟨pa1,pc1,rfl,-,-,-⟩:=h1.form;obtain⟨pa2,pc2,rfl,-,-,-⟩:=h2.form;obtain⟨pa3,pc3,rfl,-,-,hr3⟩:=h3.form;obtain⟨qa1,qc1,rfl,-,-,-⟩:=g1.form;obtain⟨qa2,qc2,rfl,-,-,hr2⟩:=g2.form;obtain⟨qa3,qc3,rfl,-,-,-⟩:=g3.form;obtain⟨i0,hi,hz0,hz1,hz2⟩:=info_parts Tryz.infoMv;obtain⟨L1,hL1⟩:∃ L,L=p.moves.length:=⟨_,rfl⟩;obtain⟨F1,hF1⟩:∃ L,L=p.firsts.length:=⟨_,rfl⟩;obtain⟨E1,hE1⟩:∃ L,L=p.ends.length:=⟨_,rfl⟩;obtain⟨L2,hL2⟩:∃ L,L=q.moves.length:=⟨_,rfl⟩;obtain⟨F2,hF2⟩:∃ L,L=q.firsts.length:=⟨_,rfl⟩;obtain⟨E2,hE2⟩:∃ L,L=q.ends.length:=⟨_,rfl⟩;have hS0:=(((St.start w).alloc _ rfl #[.int .i64 p.states,.slice pa1 p.moves.length pc1,.slice pa2 p.firsts.length pc2,.slice pa3 p.ends.length pc3] 91).alloc (w.heap.size+1) (by simp) #[.int .i64 q.states,.slice qa1 q.moves.length qc1,.slice qa2 q.firsts.length qc2,.slice qa3 q.ends.length qc3] 91).alloc (w.heap.size+1+1) (by simp) #[.int .i64 0,.slice none 0 0,.slice none 0 0,.slice none 0 0] 91;rw[hSp,hQq,← hL1,← hF1,← hE1,← hL2,← hF2,← hE2] at hS0;rw[hSp,hQq,← hL1,← hF1,← hE1,← hL2,← hF2,← hE2];rw[hSp,hQq,← hL1,← hF1,← hE1,← hL2,← hF2,← hE2] at hsm;rw[← hL1] at hpl;rw[← hF1] at hpfl hcf;rw[← hE1] at hpel hr3;rw[← hL2] at hql;rw[← hF2] at hqfl hr2;rw[← hE2] at hqel hse;have hS1:=hS0.call (Below.refl _ _)
 have HS0:Hid (St w _ [Ent.box w.heap.size #[.int .i64 (S:Int),.slice pa1 L1 pc1,.slice pa2 F1 pc2,.slice pa3 E1 pc3] 91,Ent.box (w.heap.size+1) #[.int .i64 (Q:Int),.slice qa1 L2 qc1,.slice qa2 F2 qc2,.slice qa3 E2 qc3] 91,Ent.box (w.heap.size+1+1) #[.int .i64 0,.slice none 0 0,.slice none 0 0,.slice none 0 0] 91,Ent.nil,Ent.nil,Ent.nil,Ent.nil]):=qh (hS1.pick [0,1,2,3,4,5,6] (by decide));have Hsm:=qh hsm;have Hcf:=qh hcf;have Hse:=qh hse;have Hr3:=qh hr3;have Hr2:=qh hr2;replace hL1:=qh hL1;replace hF1:=qh hF1;replace hE1:=qh hE1;have HhL2:=qh hL2;clear hL2;have HhF2:=qh hF2;clear hF2;have HhE2:=qh hE2;clear hE2;have HhSp:=qh hSp;clear hSp;have HhQq:=qh hQq;clear hQq;have Hhqf:=qh hqf;clear hqf;have Hhi:=qh hi;clear hi;have Hhz0:=qh hz0;clear hz0;have Hhz1:=qh hz1;clear hz1;have Hhz2:=qh hz2;clear hz2;clear h1 h2 h3 g1 g2 g3 hr3 hr2 hsm hcf hse hS0 hS1 hpm hpf hpe hqm hqe hp hq
 go_enter Tryz.func107, Tryz.ntmps107
 go_wp2_with fail;refine wp_region_any (by kernel_rfl) ?_
 refine Zap (fun A listed a w'=>∃ (l0 l1 l2 l3 l4 l5 l6 l7 l8 l9 l10 l11 l12 l13 l14 l15 l16 l17 l18:Bool) (am:Option Addr) (cm:Nat) (af:Option Addr) (cf:Nat) (ae:Option Addr) (ce:Nat) (bo:Nat),listed=#[l0,l1,l2,l3,l4,l5,l6,l7,l8,l9,l10,l11,l12,l13,l14,l15,l16,l17,l18]∧(l16=true→l4=true∧l7=true∧l10=true∧l15=true)∧(l18=true→l17=true∧l16=true) ∧
   a=⟨((((((((((((((((((A.tmps.setIfInBounds 10 (if l0=true then .pointer (some ⟨w.heap.size,0,none⟩) else A.tmps.getD 10 undef)).setIfInBounds 11 (if l1=true then .int .i64 (S:Int) else A.tmps.getD 11 undef)).setIfInBounds 12 (if l2=true then .pointer (some ⟨w.heap.size+1,0,none⟩) else A.tmps.getD 12 undef)).setIfInBounds 13 (if l3=true then .int .i64 (Q:Int) else A.tmps.getD 13 undef)).setIfInBounds 14 (if l4=true then .int .i64 ((S:Int)+(Q:Int)) else A.tmps.getD 14 undef)).setIfInBounds 15 (if l5=true then .agg #[.int .i64 (S:Int),.slice pa1 L1 pc1,.slice pa2 F1 pc2,.slice pa3 E1 pc3] else A.tmps.getD 15 undef)).setIfInBounds 16 (if l6=true then .agg #[.int .i64 (Q:Int),.slice qa1 L2 qc1,.slice qa2 F2 qc2,.slice qa3 E2 qc3] else A.tmps.getD 16 undef)).setIfInBounds 17 (if l7=true then .slice am (L1+L2) cm else A.tmps.getD 17 undef)).setIfInBounds 18 (if l8=true then .pointer (some ⟨w.heap.size,2,none⟩) else A.tmps.getD 18 undef)).setIfInBounds 19 (if l9=true then .slice pa2 F1 pc2 else A.tmps.getD 19 undef)).setIfInBounds 20 (if l10=true then .slice af F1 cf else A.tmps.getD 20 undef)).setIfInBounds 21 (if l11=true then .pointer (some ⟨w.heap.size+1,3,none⟩) else A.tmps.getD 21 undef)).setIfInBounds 22 (if l12=true then .slice qa3 E2 qc3 else A.tmps.getD 22 undef)).setIfInBounds 23 (if l13=true then .pointer (some ⟨w.heap.size,0,none⟩) else A.tmps.getD 23 undef)).setIfInBounds 24 (if l14=true then .int .i64 (S:Int) else A.tmps.getD 24 undef)).setIfInBounds 25 (if l15=true then .slice ae E2 ce else A.tmps.getD 25 undef)).setIfInBounds 26 (if l16=true then .agg #[.int .i64 ((S:Int)+(Q:Int)),.slice am (L1+L2) cm,.slice af F1 cf,.slice ae E2 ce] else A.tmps.getD 26 undef)).setIfInBounds 5 (if l17=true then .pointer (some ⟨bo,0,none⟩) else A.tmps.getD 5 undef)),A.defers⟩ ∧
   St w w' [Ent.box w.heap.size #[.int .i64 (S:Int),.slice pa1 L1 pc1,.slice pa2 F1 pc2,.slice pa3 E1 pc3] 91,Ent.box (w.heap.size+1) #[.int .i64 (Q:Int),.slice qa1 L2 qc1,.slice qa2 F2 qc2,.slice qa3 E2 qc3] 91,Ent.box (w.heap.size+1+1) #[.int .i64 0,.slice none 0 0,.slice none 0 0,.slice none 0 0] 91,(if l17=true then Ent.box bo #[(if l18=true then .int .i64 ((S:Int)+(Q:Int)) else .int .i64 0),(if l18=true then .slice am (L1+L2) cm else .slice none 0 0),(if l18=true then .slice af F1 cf else .slice none 0 0),(if l18=true then .slice ae E2 ce else .slice none 0 0)] 91 else Ent.nil),(if l7=true then Ent.row 122 3 (.slice am (L1+L2) cm) (L1+L2) ((p.moves++q.moves.map (shM (S:Int))).flatMap Zac) else Ent.nil),(if l10=true then Ent.row 3 1 (.slice af F1 cf) F1 (intCells p.firsts) else Ent.nil),(if l15=true then Ent.row 3 1 (.slice ae E2 ce) E2 (intCells (q.ends.map (·+(S:Int)))) else Ent.nil)]) ?_ ?_ ?_
 ·rintro listed a w' ⟨l0,l1,l2,l3,l4,l5,l6,l7,l8,l9,l10,l11,l12,l13,l14,l15,l16,l17,l18,am,cm,af,cf,ae,ce,bo,rfl,hd16,hd18,rfl,hS⟩ i hi;obtain⟨hun,o,ho,hall⟩:=mem_ready.1 hi;have hlt:=(Array.getElem?_eq_some_iff.1 ho).1;refine wpOp_step ho (fun K hK => ?_);clear hi;have HS:=qh hS;clear hS;simp only[List.setIfInBounds_toArray,List.set_cons_zero,List.set_cons_succ,Array.getD_eq_getD_getElem?,List.getElem?_toArray,List.getElem?_cons_zero,List.getElem?_cons_succ,Option.getD_some];obtain h|h|h|h|h|h|h|h|h|h|h|h|h|h|h|h|h|h|h:i=0∨i=1∨i=2∨i=3∨i=4∨i=5∨i=6∨i=7∨i=8∨i=9∨i=10∨i=11∨i=12∨i=13∨i=14∨i=15∨i=16∨i=17∨i=18:=by simp at hlt;omega
  all_goals subst h
  all_goals simp only[List.getElem?_toArray,List.getElem?_cons_zero,List.getElem?_cons_succ,Option.some.injEq] at ho
  all_goals subst ho
  all_goals simp[Region.binds] at hun hall
  ·subst hun;go_simp;exact hK _ _ ⟨true,l1,l2,l3,l4,l5,l6,l7,l8,l9,l10,l11,l12,l13,l14,l15,l16,l17,l18,am,cm,af,cf,ae,ce,bo,rfl,hd16,hd18,(by simp),HS.out⟩
  ·obtain rfl:=hall;subst hun;have e0:=HS.out.cell (v:=.int .i64 (S:Int)) 0 0 rfl rfl;go_simp;exact hK _ _ ⟨true,true,l2,l3,l4,l5,l6,l7,l8,l9,l10,l11,l12,l13,l14,l15,l16,l17,l18,am,cm,af,cf,ae,ce,bo,rfl,hd16,hd18,(by simp),HS.out⟩
  ·subst hun;go_simp;exact hK _ _ ⟨l0,l1,true,l3,l4,l5,l6,l7,l8,l9,l10,l11,l12,l13,l14,l15,l16,l17,l18,am,cm,af,cf,ae,ce,bo,rfl,hd16,hd18,(by simp),HS.out⟩
  ·obtain rfl:=hall;subst hun;have e0:=HS.out.cell (v:=.int .i64 (Q:Int)) 1 0 rfl rfl;go_simp;exact hK _ _ ⟨l0,l1,true,true,l4,l5,l6,l7,l8,l9,l10,l11,l12,l13,l14,l15,l16,l17,l18,am,cm,af,cf,ae,ce,bo,rfl,hd16,hd18,(by simp),HS.out⟩
  ·obtain⟨rfl,rfl⟩:=hall;subst hun;obtain rfl:l16=false:=by cases l16 with|false=>rfl|true=>simpa using hd16 rfl
   obtain rfl:l18=false:=offR hd18 rfl;have hw:IntKind.i64.wrap ((S:Int)+(Q:Int))=(S:Int)+(Q:Int):=IntWalk.i64_in _ (by omega);go_simp;exact hK _ _ ⟨l0,true,l2,true,true,l5,l6,l7,l8,l9,l10,l11,l12,l13,l14,l15,false,l17,false,am,cm,af,cf,ae,ce,bo,rfl,by simp,by simp,(by simp),HS.out⟩
  ·subst hun;have e0:=HS.out.cell (v:=.int .i64 (S:Int)) 0 0 rfl rfl;have e1:=HS.out.cell (v:=.slice pa1 L1 pc1) 0 1 rfl rfl;have e2:=HS.out.cell (v:=.slice pa2 F1 pc2) 0 2 rfl rfl;have e3:=HS.out.cell (v:=.slice pa3 E1 pc3) 0 3 rfl rfl;go_simp;exact hK _ _ ⟨l0,l1,l2,l3,l4,true,l6,l7,l8,l9,l10,l11,l12,l13,l14,l15,l16,l17,l18,am,cm,af,cf,ae,ce,bo,rfl,hd16,hd18,(by simp),HS.out⟩
  ·subst hun;have e0:=HS.out.cell (v:=.int .i64 (Q:Int)) 1 0 rfl rfl;have e1:=HS.out.cell (v:=.slice qa1 L2 qc1) 1 1 rfl rfl;have e2:=HS.out.cell (v:=.slice qa2 F2 qc2) 1 2 rfl rfl;have e3:=HS.out.cell (v:=.slice qa3 E2 qc3) 1 3 rfl rfl;go_simp;exact hK _ _ ⟨l0,l1,l2,l3,l4,l5,true,l7,l8,l9,l10,l11,l12,l13,l14,l15,l16,l17,l18,am,cm,af,cf,ae,ce,bo,rfl,hd16,hd18,(by simp),HS.out⟩
  ·obtain⟨rfl,rfl⟩:=hall;subst hun;obtain rfl:l16=false:=by cases l16 with|false=>rfl|true=>simpa using hd16 rfl
   obtain rfl:l18=false:=offR hd18 rfl;go_simp
   go_at_call 142
   refine(Hsm.out _ HS.out.bel).mono ?_;rintro e u1 ⟨x1,d1,rfl,hb⟩;have hS2:=(HS.out.cat hb).pick [0,1,2,3,7,5,6] (by decide);have HhS2:=qh hS2;clear hS2;go_simp;exact hK _ _ ⟨l0,l1,l2,l3,l4,true,true,true,l8,l9,l10,l11,l12,l13,l14,l15,false,l17,false,x1,d1,af,cf,ae,ce,bo,rfl,by simp,by simp,(by simp),HhS2.out⟩
  ·subst hun;go_simp;exact hK _ _ ⟨l0,l1,l2,l3,l4,l5,l6,l7,true,l9,l10,l11,l12,l13,l14,l15,l16,l17,l18,am,cm,af,cf,ae,ce,bo,rfl,hd16,hd18,(by simp),HS.out⟩
  ·obtain rfl:=hall;subst hun;have e0:=HS.out.cell (v:=.slice pa2 F1 pc2) 0 2 rfl rfl;go_simp;exact hK _ _ ⟨l0,l1,l2,l3,l4,l5,l6,l7,true,true,l10,l11,l12,l13,l14,l15,l16,l17,l18,am,cm,af,cf,ae,ce,bo,rfl,hd16,hd18,(by simp),HS.out⟩
  ·obtain⟨rfl,rfl⟩:=hall;subst hun;obtain rfl:l16=false:=by cases l16 with|false=>rfl|true=>simpa using hd16 rfl
   obtain rfl:l18=false:=offR hd18 rfl;go_simp
   go_at_call 143
   refine(Hcf.out _ HS.out.bel).mono ?_;rintro e u1 ⟨x1,d1,rfl,hb⟩;have hS2:=(HS.out.cat hb).pick [0,1,2,3,4,7,6] (by decide);have HhS2:=qh hS2;clear hS2;go_simp;exact hK _ _ ⟨l0,l1,l2,l3,l4,l5,l6,true,l8,true,true,l11,l12,l13,l14,l15,false,l17,false,am,cm,x1,d1,ae,ce,bo,rfl,by simp,by simp,(by simp),HhS2.out⟩
  ·subst hun;go_simp;exact hK _ _ ⟨l0,l1,l2,l3,l4,l5,l6,l7,l8,l9,l10,true,l12,l13,l14,l15,l16,l17,l18,am,cm,af,cf,ae,ce,bo,rfl,hd16,hd18,(by simp),HS.out⟩
  ·obtain rfl:=hall;subst hun;have e0:=HS.out.cell (v:=.slice qa3 E2 qc3) 1 3 rfl rfl;go_simp;exact hK _ _ ⟨l0,l1,l2,l3,l4,l5,l6,l7,l8,l9,l10,true,true,l13,l14,l15,l16,l17,l18,am,cm,af,cf,ae,ce,bo,rfl,hd16,hd18,(by simp),HS.out⟩
  ·subst hun;go_simp;exact hK _ _ ⟨l0,l1,l2,l3,l4,l5,l6,l7,l8,l9,l10,l11,l12,true,l14,l15,l16,l17,l18,am,cm,af,cf,ae,ce,bo,rfl,hd16,hd18,(by simp),HS.out⟩
  ·obtain rfl:=hall;subst hun;have e0:=HS.out.cell (v:=.int .i64 (S:Int)) 0 0 rfl rfl;go_simp;exact hK _ _ ⟨l0,l1,l2,l3,l4,l5,l6,l7,l8,l9,l10,l11,l12,true,true,l15,l16,l17,l18,am,cm,af,cf,ae,ce,bo,rfl,hd16,hd18,(by simp),HS.out⟩
  ·obtain⟨rfl,rfl,rfl⟩:=hall;subst hun;obtain rfl:l16=false:=by cases l16 with|false=>rfl|true=>simpa using hd16 rfl
   obtain rfl:l18=false:=offR hd18 rfl;go_simp
   go_at_call 144
   refine(Hse.out _ HS.out.bel).mono ?_;rintro e u1 ⟨x1,d1,rfl,hb⟩;have hS2:=(HS.out.cat hb).pick [0,1,2,3,4,5,7] (by decide);have HhS2:=qh hS2;clear hS2;go_simp;exact hK _ _ ⟨l0,l1,l2,l3,l4,l5,l6,l7,l8,l9,true,l11,true,l13,true,true,false,l17,false,am,cm,af,cf,x1,d1,bo,rfl,by simp,by simp,(by simp),HhS2.out⟩
  ·obtain⟨rfl,rfl,rfl,rfl⟩:=hall;subst hun;obtain rfl:l18=false:=offR hd18 rfl;go_simp;exact hK _ _ ⟨l0,l1,l2,l3,true,l5,l6,true,l8,l9,true,l11,l12,l13,l14,true,true,l17,false,am,cm,af,cf,ae,ce,bo,rfl,by simp,by simp,(by simp),HS.out⟩
  ·subst hun;obtain rfl:l18=false:=offL hd18 rfl;have hS2:=(HS.out.alloc _ rfl #[.int .i64 0,.slice none 0 0,.slice none 0 0,.slice none 0 0] 91).pick [0,1,2,7,4,5,6] (by decide);have HhS2:=qh hS2;clear hS2;go_simp;exact hK _ _ ⟨l0,l1,l2,l3,l4,l5,l6,l7,l8,l9,l10,l11,l12,l13,l14,l15,l16,true,false,am,cm,af,cf,ae,ce,w'.heap.size,rfl,hd16,by simp,(by simp),HhS2.out⟩
  obtain⟨rfl,rfl,rfl,rfl,rfl,rfl,rfl,rfl,rfl,rfl,rfl,rfl,rfl,rfl,rfl,rfl,rfl,rfl,-,-,-⟩:=hall;subst hun;have f0:=HS.out.fr 3 0 rfl;have k0:=HS.out.cell (v:=.int .i64 0) 3 0 rfl rfl;have f1:=HS.out.fr 3 1 rfl;have k1:=HS.out.cell (v:=.slice none 0 0) 3 1 rfl rfl;have f2:=HS.out.fr 3 2 rfl;have k2:=HS.out.cell (v:=.slice none 0 0) 3 2 rfl rfl;have f3:=HS.out.fr 3 3 rfl;have k3:=HS.out.cell (v:=.slice none 0 0) 3 3 rfl rfl;go_simp;exact hK _ _ ⟨true,true,true,true,true,true,true,true,true,true,true,true,true,true,true,true,true,true,true,am,cm,af,cf,ae,ce,bo,rfl,by simp,by simp,(by simp only[↓reduceIte,List.setIfInBounds_toArray,List.set_cons_zero,List.set_cons_succ]),((((HS.out.set 3 rfl 0 (.int .i64 ((S:Int)+(Q:Int)))).set 3 rfl 1 (.slice am (L1+L2) cm)).set 3 rfl 2 (.slice af F1 cf)).set 3 rfl 3 (.slice ae E2 ce))⟩
 ·rintro listed a w' ⟨l0,l1,l2,l3,l4,l5,l6,l7,l8,l9,l10,l11,l12,l13,l14,l15,l16,l17,l18,am,cm,af,cf,ae,ce,bo,rfl,hd16,hd18,rfl,hS⟩ hr;have hall:=ZaH (by kernel_rfl) rfl hr;obtain rfl:l0=true:=by simpa using hall 0 (by simp)
  obtain rfl:l1=true:=by simpa using hall 1 (by simp)
  obtain rfl:l2=true:=by simpa using hall 2 (by simp)
  obtain rfl:l3=true:=by simpa using hall 3 (by simp)
  obtain rfl:l4=true:=by simpa using hall 4 (by simp)
  obtain rfl:l5=true:=by simpa using hall 5 (by simp)
  obtain rfl:l6=true:=by simpa using hall 6 (by simp)
  obtain rfl:l7=true:=by simpa using hall 7 (by simp)
  obtain rfl:l8=true:=by simpa using hall 8 (by simp)
  obtain rfl:l9=true:=by simpa using hall 9 (by simp)
  obtain rfl:l10=true:=by simpa using hall 10 (by simp)
  obtain rfl:l11=true:=by simpa using hall 11 (by simp)
  obtain rfl:l12=true:=by simpa using hall 12 (by simp)
  obtain rfl:l13=true:=by simpa using hall 13 (by simp)
  obtain rfl:l14=true:=by simpa using hall 14 (by simp)
  obtain rfl:l15=true:=by simpa using hall 15 (by simp)
  obtain rfl:l16=true:=by simpa using hall 16 (by simp)
  obtain rfl:l17=true:=by simpa using hall 17 (by simp)
  obtain rfl:l18=true:=by simpa using hall 18 (by simp)
  clear hall hr hd16 hd18;simp only[↓reduceIte] at hS ⊢;simp only[List.setIfInBounds_toArray,List.set_cons_zero,List.set_cons_succ];have HS1:=qh (hS.pick [0,1,2,3,4,5,6] (by decide));clear hS;have e9:=HS1.out.cell (v:=.slice pa3 E1 pc3) 0 3 rfl rfl;go_wp2
  go_loopw [30] (fun i wr=>∃ (k N c1:Nat) (a1:Option Addr),i = .int .i64 k∧k≤E1∧N=(jm p q S k).length∧N≤2000+40*k∧St w wr [Ent.box w.heap.size #[.int .i64 (S:Int),.slice pa1 L1 pc1,.slice pa2 F1 pc2,.slice pa3 E1 pc3] 91,Ent.box (w.heap.size+1) #[.int .i64 (Q:Int),.slice qa1 L2 qc1,.slice qa2 F2 qc2,.slice qa3 E2 qc3] 91,Ent.box (w.heap.size+1+1) #[.int .i64 0,.slice none 0 0,.slice none 0 0,.slice none 0 0] 91,Ent.box bo #[.int .i64 ((S:Int)+(Q:Int)),.slice a1 N c1,.slice af F1 cf,.slice ae E2 ce] 91,Ent.row 122 3 (.slice a1 N c1) N ((jm p q S k).flatMap Zac),Ent.row 3 1 (.slice af F1 cf) F1 (intCells p.firsts),Ent.row 3 1 (.slice ae E2 ce) E2 (intCells (q.ends.map (·+(S:Int))))]) (fun i _=>E1-(intOf i).toNat)
  case atStart =>
   refine⟨0,L1+L2,cm,am,rfl,Nat.zero_le _,?_,by omega,?_⟩
   ·rw[ZmI,List.length_append,List.length_map,← hL1.out,← HhL2.out]
   rw[ZmI];exact HS1.out
  case round =>
   obtain⟨k,N,c1,a1,rfl,hk,hN,hNb,hS⟩:=hrel;by_cases hlt:k<E1
   ·have hlt2:(k:Int)<E1:=by omega
    have hkn:k<p.ends.length:=by have:=hE1.out;omega
    obtain⟨b1,o1,rfl,-,hb1,hcs⟩:=Hr3.out (by omega);have m0:=hcs k hlt;have hsn:=Zo6 (q:=q) (S:=S) hkn;obtain⟨s,hs⟩:=eI (p.ends.getD k 0);rw[← hs] at m0 hsn;have m1:=(bcell hS.bel b1 _ hb1).trans m0;have e1:=hS.cell (v:=.slice qa2 F2 qc2) 1 2 rfl rfl;have HSo:=qh hS;obtain⟨wo,hwo⟩:∃ wo:World,wo=wr:=⟨_,rfl⟩;subst hwo;have HhN:=qh hN;clear hN;have Hhs:=qh hs;clear hs;have Hhsn:=qh hsn;clear hsn;clear hS hcs m0 e9;go_wp2
    go_loopw [37] (fun i wi=>∃ (j c2:Nat) (a2:Option Addr),i = .int .i64 j∧j≤F2∧St w wi [Ent.box w.heap.size #[.int .i64 (S:Int),.slice pa1 L1 pc1,.slice pa2 F1 pc2,.slice (some ⟨b1,o1,none⟩) E1 pc3] 91,Ent.box (w.heap.size+1) #[.int .i64 (Q:Int),.slice qa1 L2 qc1,.slice qa2 F2 qc2,.slice qa3 E2 qc3] 91,Ent.box (w.heap.size+1+1) #[.int .i64 0,.slice none 0 0,.slice none 0 0,.slice none 0 0] 91,Ent.box bo #[.int .i64 ((S:Int)+(Q:Int)),.slice a2 (N+j) c2,.slice af F1 cf,.slice ae E2 ce] 91,Ent.row 122 3 (.slice a2 (N+j) c2) (N+j) ((jm p q S k++(q.firsts.take j).map fun t=>(s,(-1:Int),t+(S:Int))).flatMap Zac),Ent.row 3 1 (.slice af F1 cf) F1 (intCells p.firsts),Ent.row 3 1 (.slice ae E2 ce) E2 (intCells (q.ends.map (·+(S:Int))))]) (fun i _=>F2-(intOf i).toNat)
    case atStart =>refine⟨0,c1,a1,rfl,Nat.zero_le _,?_⟩;rw[List.take_zero,List.map_nil,List.append_nil];exact HSo.out
    case round =>
     obtain⟨j,c2,a2,rfl,hj,hS⟩:=hrel;clear e1;by_cases hjl:j<F2
     ·have hjl2:(j:Int)<F2:=by omega
      have hjn:j<q.firsts.length:=by have:=HhF2.out;omega
      obtain⟨b2,o2,rfl,-,hb2,hcs2⟩:=Hr2.out (by omega);have n0:=hcs2 j hjl;have hsj:=Zby (fun t=>(s,(-1:Int),t+(S:Int))) (d:=0) hjn rfl;have hxx:=Hhqf.out _ (memD (d:=0) hjn);obtain⟨p0,hp⟩:=eI (q.firsts.getD j 0);rw[← hp] at n0 hsj hxx;obtain⟨hx0,hx1⟩:=hxx;have n1:=(bcell hS.bel b2 _ hb2).trans n0;have e0:=hS.cell (v:=.int .i64 (S:Int)) 0 0 rfl rfl;have y0:=hS.cell (v:=.slice a2 (N+j) c2) 3 1 rfl rfl;have hw:IntKind.i64.wrap (p0+(S:Int))=p0+(S:Int):=IntWalk.i64_in _ (by omega);have hSa:=hS.alloc_ (.cells #[.int .i64 s,.int .i64 (-1),.int .i64 (p0+(S:Int))] 122);have HSa:=qh hSa;have HRa:=qh (hSa.row 4 rfl);have Hhp:=qh hp;clear hp;have Hhsj:=qh hsj;clear hsj;clear hS hSa hcs2 n0;go_wp2_with (at_builtin;refine wpList_append_lies _ rfl _ _ _ rfl _ 122 i0 (.agg #[.int .i64 0,.int .i64 0,.int .i64 0]) 3 24 Tryz.underlying89 Hhi.out Hhz0.out Hhz1.out Hhz2.out rfl (by omega) _ (N+j) _ rfl HRa.out ⟨wr.heap.size,0,none⟩ 1 1 [.int .i64 s,.int .i64 (-1),.int .i64 (p0+(S:Int))] rfl rfl (World.news_of_block (heap_alloc_new wr _)) ZdD (by omega) (by unfold maxLen;omega) (by omega) HSa.out.size _ rfl ?_;intro g6 c6 w6 hown6 hgrow6 hat6 hlt6;have HS6:=qh (HSa.out.app 4 rfl hown6 hgrow6 hat6);have y1:=HS6.out.cell (v:=.slice a2 (N+j) c2) 3 1 rfl rfl;have y2:=HS6.out.fr 3 1 rfl;clear hown6 hgrow6 hat6 hlt6);go_roundw
      case rel =>refine⟨j+1,c6,some ⟨g6,0,none⟩,by go_num,by omega,?_⟩;rw[Hhsj.out,← List.append_assoc,List.flatMap_append (xs:=_++_)];exact HS6.out.set 3 rfl 1 (.slice (some ⟨g6,0,none⟩) (N+j+1) c6)
      case measure=>simp[intOf];omega
     obtain rfl:F2=j:=by omega
     rw[show q.firsts.take F2=q.firsts from List.take_of_length_le (by have:=HhF2.out;omega),← Hhsn.out] at hS;have HSi:=qh hS;clear hS;go_wp2;go_roundw
     case rel=>exact⟨k+1,N+F2,c2,a2,by go_num,by omega,by rw[Hhsn.out,List.length_append,List.length_map,← HhN.out,← HhF2.out],by omega,HSi.out⟩
     case measure=>simp[intOf];omega
   obtain rfl:E1=k:=by omega
   have HSe:=qh hS;have HhN:=qh hN;clear hN;clear hS;have e0:=HSe.out.cell (v:=.int .i64 ((S:Int)+(Q:Int))) 3 0 rfl rfl;have e1:=HSe.out.cell (v:=.slice a1 N c1) 3 1 rfl rfl;have e2:=HSe.out.cell (v:=.slice af F1 cf) 3 2 rfl rfl;have e3:=HSe.out.cell (v:=.slice ae E2 ce) 3 3 rfl rfl;have f0:=HSe.out.fr 2 0 rfl;have k0:=HSe.out.cell (v:=.int .i64 0) 2 0 rfl rfl;have f1:=HSe.out.fr 2 1 rfl;have k1:=HSe.out.cell (v:=.slice none 0 0) 2 1 rfl rfl;have f2:=HSe.out.fr 2 2 rfl;have k2:=HSe.out.cell (v:=.slice none 0 0) 2 2 rfl rfl;have f3:=HSe.out.fr 2 3 rfl;have k3:=HSe.out.cell (v:=.slice none 0 0) 2 3 rfl rfl;have HSr:=qh ((((HSe.out.set 2 rfl 0 (.int .i64 ((S:Int)+(Q:Int)))).set 2 rfl 1 (.slice a1 N c1)).set 2 rfl 2 (.slice af F1 cf)).set 2 rfl 3 (.slice ae E2 ce));have q0:=HSr.out.cell (v:=.int .i64 ((S:Int)+(Q:Int))) 2 0 rfl rfl;have q1:=HSr.out.cell (v:=.slice a1 N c1) 2 1 rfl rfl;have q2:=HSr.out.cell (v:=.slice af F1 cf) 2 2 rfl rfl;have q3:=HSr.out.cell (v:=.slice ae E2 ce) 2 3 rfl rfl;go_wp2;refine bodyPost_ret (v:=.agg #[.int .i64 ((S:Int)+(Q:Int)),.slice a1 N c1,.slice af F1 cf,.slice ae E2 ce]) (by simp[results,Tryz.results107,go_sem,q0,q1,q2,q3]) rfl ?_;have hj:Zdh p q=⟨(S:Int)+(Q:Int),jm p q S E1,p.firsts,q.ends.map (·+(S:Int))⟩:=by rw[hE1.out];exact Zob HhSp.out HhQq.out
   have hl1:(jm p q S E1).length=N:=HhN.out.symm;rw[hj];refine⟨a1,c1,af,cf,ae,ce,?_,?_⟩
   ·simp only[List.length_map,hl1,← hF1.out,← HhE2.out]
   simp only[List.length_map,hl1,← hF1.out,← HhE2.out];exact HSr.out.pick [4,5,6] (by decide)
 refine⟨false,false,false,false,false,false,false,false,false,false,false,false,false,false,false,false,false,false,false,none,0,none,0,none,0,0,rfl,by simp,by simp,(by simp),?_⟩;exact HS0.out.drew.pick [0,1,2,3,4,5,6] (by decide)
end Go.Proofs.YtehmjmjedopkkaaGreat
namespace Go.Proofs.YtehmjmjedopkkaaGreat
open Go.RowKit
def subV (v u:Nat):Prop:=∀ s,v.testBit s=true→u.testBit s=true
theorem ZdR (v:Nat):subV v v:=fun _ h=>h
theorem ZgL {a b c:Nat} (h:subV a b) (h':subV b c):subV a c:=fun s hs=>h' s (h s hs)
theorem ZlL {a b:Nat} (h:subV a b) (h':subV b a):a=b:=by apply Nat.eq_of_testBit_eq;intro i;have h1:=h i;have h2:=h' i;cases ha:a.testBit i<;>cases hb:b.testBit i<;>simp_all
theorem ZnH (v s:Nat):subV v (adj v s):=fun t ht=>by rw[Zb2,ht];rfl
theorem Zg7 (v:Nat) (m:Int × Int × Int):subV v (Zaq v m):=by
 unfold Zaq
 split
 ·exact ZnH _ _
 exact ZdR _
theorem ZeK:∀ (ms:List (Int × Int × Int)) (v:Nat),subV v (ms.foldl Zaq v)
 | [],v=>ZdR v
 | m::ms,v=>ZgL (Zg7 v m) (ZeK ms _)
theorem ZkG (ms:List (Int × Int × Int)) (v:Nat):∀ k,subV v (clIt ms v k)
 | 0=>ZdR v
 | k+1=>ZgL (ZkG ms v k) (ZeK ms _)
def ZbM (ms:List (Int × Int × Int)) (u:Nat):Prop:=∀ m∈ms,m.2.1 = -1→u.testBit m.1.toNat=true→u.testBit m.2.2.toNat=true
theorem Znm {ms:List (Int × Int × Int)} {u v:Nat} (hu:ZbM ms u) (h:subV v u) {m:Int × Int × Int} (hm:m∈ms):subV (Zaq v m) u:=by
 unfold Zaq
 split
 ·rename_i hc;simp only[Bool.and_eq_true,decide_eq_true_eq] at hc;intro s hs;rw[Zb2,Bool.or_eq_true] at hs;rcases hs with hs|hs
  ·exact h s hs
  rw[← of_decide_eq_true hs];exact hu m hm hc.1.1 (h _ hc.1.2)
 exact h
theorem Zi4 {ms:List (Int × Int × Int)} {u:Nat} (hu:ZbM ms u):∀ (l:List (Int × Int × Int)) (v:Nat),(∀ m∈l,m∈ms)→subV v u→subV (l.foldl Zaq v) u
 | [],_,_,h=>h
 | m::l,v,hl,h=>Zi4 hu l _ (fun x hx=>hl x (by simp[hx])) (Znm hu h (hl m (by simp)))
theorem Znn {ms:List (Int × Int × Int)} {u v:Nat} (hu:ZbM ms u) (h:subV v u):∀ k,subV (clIt ms v k) u
 | 0=>h
 | k+1=>Zi4 hu ms _ (fun _ hx=>hx) (Znn hu h k)
theorem Zpg {n:Nat} {ms:List (Int × Int × Int)} (h:mvIn n ms) (v:Nat):Zi2 ms (clV n ms v)=clV n ms v:=by
 rcases Zei h v n with h1|h1
 ·exact h1
 have:=Zng n v;omega
theorem Zkt:∀ {l:List (Int × Int × Int)} {v:Nat},l.foldl Zaq v=v→∀ m∈l,Zaq v m=v
 | [],_,_,_,hm=>by cases hm
 | m::l,v,h,x,hx=>by
  have h1:Zaq v m=v:=ZlL (by have:=ZeK l (Zaq v m);rw[List.foldl_cons] at h;rw[h] at this;exact this) (Zg7 v m);rw[List.foldl_cons,h1] at h;rcases List.mem_cons.1 hx with rfl|hx
  ·exact h1
  exact Zkt h x hx
theorem Zcg {n:Nat} {ms:List (Int × Int × Int)} (h:mvIn n ms) (v:Nat):ZbM ms (clV n ms v):=by
 intro m hm hl hf;have h1:=Zkt (Zpg h v) m hm;cases ht:(clV n ms v).testBit m.2.2.toNat with
 | true=>rfl
 | false =>exfalso;unfold Zaq at h1;rw[if_pos (by simp[hl,hf,ht])] at h1;have:=Zb2 (clV n ms v) m.2.2.toNat m.2.2.toNat;rw[h1,ht] at this;simp at this
theorem Zgk (n:Nat) (ms:List (Int × Int × Int)) (v:Nat):subV v (clV n ms v):=ZkG ms v n
theorem Znj {n:Nat} {ms:List (Int × Int × Int)} {u v:Nat} (hu:ZbM ms u) (h:subV v u):subV (clV n ms v) u:=Znn hu h n
theorem Zfp {n:Nat} {ms:List (Int × Int × Int)} {u:Nat} (hu:ZbM ms u):clV n ms u=u:=ZlL (Znj hu (ZdR u)) (Zgk n ms u)
theorem Zj4:∀ (l:List Int) (v t:Nat),(l.foldl (fun v s=>adj v s.toNat) v).testBit t=(v.testBit t||l.any fun s=>decide (s.toNat=t))
 | [],v,t=>by simp
 | s::l,v,t=>by rw[List.foldl_cons,Zj4 l,Zb2,List.any_cons,Bool.or_assoc]
theorem Zhm (l:List Int) (t:Nat):(setV l).testBit t=l.any fun s=>decide (s.toNat=t):=by unfold setV;rw[Zj4];simp
theorem Zj3 {l:List Int} {x:Int} (hx:x∈l):(setV l).testBit x.toNat=true:=by rw[Zhm,List.any_eq_true];exact⟨x,hx,by simp⟩
inductive Pth (ms:List (Int × Int × Int)):Int→List Nat→Int→Prop
 | here (s:Int):Pth ms s [] s
 | eps {s t u:Int} {w:List Nat}:(s,-1,t)∈ms→Pth ms t w u→Pth ms s w u
 | step {s t u:Int} {c:Nat} {w:List Nat}:(s,(c:Int),t)∈ms→Pth ms t w u→Pth ms s (c::w) u
theorem Pth.append {ms:List (Int × Int × Int)} {s t u:Int} {x y:List Nat} (h:Pth ms s x t) (h':Pth ms t y u):Pth ms s (x++y) u:=by
 induction h with
 | here s=>exact h'
 | eps hm _ ih=>exact .eps hm (ih h')
 | step hm _ ih=>exact .step hm (ih h')
theorem Pth.mono {ms ns:List (Int × Int × Int)} (hs:∀ m∈ms,m∈ns) {s t:Int} {x:List Nat} (h:Pth ms s x t):Pth ns s x t:=by
 induction h with
 | here s=>exact .here s
 | eps hm _ ih=>exact .eps (hs _ hm) ih
 | step hm _ ih=>exact .step (hs _ hm) ih
theorem Pth.map {ms ns:List (Int × Int × Int)} (f:Int→Int) (hs:∀ m∈ms,(f m.1,m.2.1,f m.2.2)∈ns∨(m.2.1 = -1∧f m.1=f m.2.2)) {s t:Int} {x:List Nat} (h:Pth ms s x t):Pth ns (f s) x (f t):=by
 induction h with
 | here s=>exact .here _
 | eps hm _ ih =>
  rcases hs _ hm with h|⟨_,h⟩
  ·exact .eps h ih
  exact h ▸ ih
 | step hm _ ih =>
  rcases hs _ hm with h|⟨h,_⟩
  ·exact .step h ih
  simp only at h;omega
theorem Pth.in {ms:List (Int × Int × Int)} {n:Nat} (hm:mvIn n ms) {s t:Int} {x:List Nat} (h:Pth ms s x t) (hs:0≤s∧s<(n:Int)):0≤t∧t<(n:Int):=by
 induction h with
 | here s=>exact hs
 | eps h _ ih=>exact ih (hm _ h).2
 | step h _ ih=>exact ih (hm _ h).2
def runS (n:NfaD) (cs:List Nat):Nat:=cs.foldl (fun v (c:Nat)=>stV 40 n.moves v (c:Int)) (clV 40 n.moves (setV n.firsts))
def accS (n:NfaD) (cs:List Nat):Bool:=n.ends.any fun s=>(runS n cs).testBit s.toNat
theorem Zmq (P:Nat→Prop):∀ n:Nat,∃ u:Nat,∀ t,u.testBit t=true↔t<n∧P t
 | 0=>⟨0,fun t=>by simp⟩
 | n+1=>by
  obtain⟨u,hu⟩:=Zmq P n;by_cases hp:P n
  ·refine⟨adj u n,fun t => ?_⟩;rw[Zb2,Bool.or_eq_true,hu,decide_eq_true_eq];constructor
   ·rintro(⟨h1,h2⟩|rfl)
    ·exact⟨by omega,h2⟩
    exact⟨by omega,hp⟩
   rintro⟨h1,h2⟩;by_cases h:n=t
   ·exact .inr h
   exact .inl ⟨by omega,h2⟩
  refine⟨u,fun t => ?_⟩;rw[hu];constructor
  ·rintro⟨h1,h2⟩;exact⟨by omega,h2⟩
  rintro⟨h1,h2⟩;by_cases h:t=n
  ·subst h;exact absurd h2 hp
  exact⟨by omega,h2⟩
theorem Pth.closed {ms:List (Int × Int × Int)} {u:Nat} (hu:ZbM ms u) {s t:Int} {x:List Nat} (h:Pth ms s x t) (hx:x=[]) (hs:u.testBit s.toNat=true):u.testBit t.toNat=true:=by
 induction h with
 | here s=>exact hs
 | eps hm _ ih=>exact ih hx (hu _ hm rfl hs)
 | step hm _ ih=>cases hx
theorem Zni {ms:List (Int × Int × Int)} (hm:mvIn 40 ms) {v t:Nat} (hv:v<2 ^ 40):(clV 40 ms v).testBit t=true↔∃ s:Nat,s<40∧v.testBit s=true∧Pth ms s [] t:=by
 constructor
 ·intro h;obtain⟨u,hu⟩:=Zmq (fun t=>∃ s:Nat,s<40∧v.testBit s=true∧Pth ms s [] t) 40
  have hc:ZbM ms u:=by
   intro m hmm he hf;obtain⟨h1,s,hs,hvs,hp⟩:=(hu _).1 hf;have h2:=hm m hmm;refine(hu _).2 ⟨by omega,s,hs,hvs,?_⟩;have e1:((m.1.toNat:Nat):Int)=m.1:=by omega
   have e2:((m.2.2.toNat:Nat):Int)=m.2.2:=by omega
   rw[e1] at hp;rw[e2];refine hp.append (y:=[]) (.eps ?_ (.here _));rw[← he];exact hmm
  have hsub:subV v u:=by
   intro s hs
   have:s<40:=by
    by_cases h:s<40
    ·exact h
    rw[Nat.testBit_lt_two_pow (Nat.lt_of_lt_of_le hv (Nat.pow_le_pow_right (by omega) (by omega)))] at hs;cases hs
   exact(hu s).2 ⟨this,s,this,hs,.here _⟩
  exact((hu t).1 (Znj hc hsub t h)).2
 rintro⟨s,hs,hvs,hp⟩;have:=hp.closed (Zcg hm v) rfl (by rw[Int.toNat_natCast];exact Zgk 40 ms v s hvs)
 rwa [Int.toNat_natCast] at this
theorem ZbJ {c:Int} {v:Nat}:∀ (l:List (Int × Int × Int)) (u t:Nat),(l.foldl (ZaL v c) u).testBit t=true↔u.testBit t=true∨∃ m∈l,m.2.1=c∧v.testBit m.1.toNat=true∧m.2.2.toNat=t
 | [],u,t=>by simp
 | m::l,u,t=>by
  rw[List.foldl_cons,ZbJ l,ZaL]
  split
  ·rename_i h;rw[Bool.and_eq_true,decide_eq_true_eq] at h;rw[Zb2,Bool.or_eq_true,decide_eq_true_eq];constructor
   ·rintro((h1|h1)|⟨x,hx,h1⟩)
    ·exact .inl h1
    ·exact .inr ⟨m,by simp,h.1,h.2,h1⟩
    exact .inr ⟨x,by simp[hx],h1⟩
   rintro(h1|⟨x,hx,h1⟩)
   ·exact .inl (.inl h1)
   rcases List.mem_cons.1 hx with rfl|hx
   ·exact .inl (.inr h1.2.2)
   exact .inr ⟨x,hx,h1⟩
  rename_i h;rw[Bool.and_eq_true,decide_eq_true_eq] at h;constructor
  ·rintro(h1|⟨x,hx,h1⟩)
   ·exact .inl h1
   exact .inr ⟨x,by simp[hx],h1⟩
  rintro(h1|⟨x,hx,h1⟩)
  ·exact .inl h1
  rcases List.mem_cons.1 hx with rfl|hx
  ·exact absurd ⟨h1.1,h1.2.1⟩ h
  exact .inr ⟨x,hx,h1⟩
theorem ZfQ {v s n:Nat} (hv:v<2 ^ n) (hs:v.testBit s=true):s<n:=by
 by_cases h:s<n
 ·exact h
 rw[Nat.testBit_lt_two_pow (Nat.lt_of_lt_of_le hv (Nat.pow_le_pow_right (by omega) (by omega)))] at hs;cases hs
theorem ZlU {ms:List (Int × Int × Int)} (hm:mvIn 40 ms) {v t:Nat} (c:Nat):(stV 40 ms v (c:Int)).testBit t=true↔∃ x,x∈ms∧x.2.1=(c:Int)∧v.testBit x.1.toNat=true∧Pth ms x.2.2 [] t:=by
 have hlt:ms.foldl (ZaL v c) 0<2 ^ 40:=ZbD _ (fun u=>u<2 ^ 40) (fun _ _ hx hu=>Zch hm hx hu) (by decide);unfold stV;rw[Zni hm hlt];constructor
 ·rintro⟨s,hs,hb,hp⟩;rw[ZbJ] at hb;rcases hb with hb|⟨m,hmm,h1,h2,h3⟩
  ·simp at hb
  refine⟨m,hmm,h1,h2,?_⟩;have e:m.2.2=(s:Int):=by have:=(hm m hmm).2;omega
  rw[e];exact hp
 rintro⟨x,hx,h1,h2,hp⟩;have h4:=(hm x hx).2;refine⟨x.2.2.toNat,by omega,?_,?_⟩
 ·rw[ZbJ];exact .inr ⟨x,hx,h1,h2,rfl⟩
 have e:((x.2.2.toNat:Nat):Int)=x.2.2:=by omega
 rw[e];exact hp
theorem Pth.split {ms:List (Int × Int × Int)} {s u:Int} {x:List Nat} (h:Pth ms s x u):∀ {c:Nat} {w:List Nat},x=c::w→∃ m,m∈ms∧m.2.1=(c:Int)∧Pth ms s [] m.1∧Pth ms m.2.2 w u:=by
 induction h with
 | here s=>intro c w h;cases h
 | eps hm _ ih =>intro c w h;obtain⟨m,h1,h2,h3,h4⟩:=ih h;exact⟨m,h1,h2,.eps hm h3,h4⟩
 | step hm hp ih =>
  intro c w h
  injection h with h1 h2
  subst h1;subst h2;exact⟨_,hm,rfl,.here _,hp⟩
theorem ZkV {ms:List (Int × Int × Int)} (hm:mvIn 40 ms) (v:Nat) (c:Int):ZbM ms (stV 40 ms v c):=Zcg hm _
theorem ZiQ {ms:List (Int × Int × Int)} (hm:mvIn 40 ms):∀ (cs:List Nat) (V:Nat),V<2 ^ 40→ZbM ms V→∀ t,(cs.foldl (fun v (c:Nat)=>stV 40 ms v (c:Int)) V).testBit t=true↔∃ s:Nat,s<40∧V.testBit s=true∧Pth ms s cs t
 | [],V,hV,hc,t=>by
  rw[List.foldl_nil];constructor
  ·intro h;exact⟨t,ZfQ hV h,h,.here _⟩
  rintro⟨s,hs,h1,h2⟩;have:=h2.closed hc rfl (by rwa [Int.toNat_natCast])
  rwa [Int.toNat_natCast] at this
 | c::cs,V,hV,hc,t=>by
  rw[List.foldl_cons,ZiQ hm cs _ (ZlV hm V c) (ZkV hm V c)];constructor
  ·rintro⟨s,hs,h1,h2⟩;rw[ZlU hm] at h1;obtain⟨x,hx,h3,h4,h5⟩:=h1;have h6:=(hm x hx).1;refine⟨x.1.toNat,by omega,h4,?_⟩;have e:((x.1.toNat:Nat):Int)=x.1:=by omega
   rw[e];refine .step (t:=x.2.2) ?_ (h5.append h2);rw[← h3];exact hx
  rintro⟨s,hs,h1,h2⟩;obtain⟨m,h3,h4,h5,h6⟩:=h2.split rfl;have h7:=(hm m h3).2;refine⟨m.2.2.toNat,by omega,?_,?_⟩
  ·rw[ZlU hm];have:=h5.closed hc rfl (by rwa [Int.toNat_natCast]);refine⟨m,h3,h4,this,?_⟩;have e:((m.2.2.toNat:Nat):Int)=m.2.2:=by omega
   rw[e];exact .here _
  have e:((m.2.2.toNat:Nat):Int)=m.2.2:=by omega
  rw[e];exact h6
theorem Zos {n:NfaD} (hn:Zhy n=true) (cs:List Nat):accS n cs=true↔∃ f∈n.firsts,∃ e∈n.ends,Pth n.moves f cs e:=by
 obtain⟨m,hm,hm40,hmv,-,hf,-,he,-⟩:=Zc0 hn;have hm4:=Zmt hmv hm40;have hfi:inN 40 n.firsts:=fun s hs=>by have:=hf s hs;omega
 have hlt:clV 40 n.moves (setV n.firsts)<2 ^ 40:=Zc5 hm4 (ZcU hfi) 40;have hrun:=ZiQ hm4 cs _ hlt (Zcg hm4 (setV n.firsts));unfold accS runS;rw[List.any_eq_true];constructor
 ·rintro⟨e,hee,hb⟩;obtain⟨s,hs,h1,h2⟩:=(hrun _).1 hb;rw[Zni hm4 (ZcU hfi)] at h1;obtain⟨r,hr,h3,h4⟩:=h1;rw[Zhm,List.any_eq_true] at h3;obtain⟨f,hff,h5⟩:=h3;have h5:=of_decide_eq_true h5;have h6:=hf f hff;have h7:=he e hee;refine⟨f,hff,e,hee,?_⟩;have e1:(r:Int)=f:=by omega
  have e2:((e.toNat:Nat):Int)=e:=by omega
  rw[e1] at h4;rw[e2] at h2;exact h4.append h2
 rintro⟨f,hff,e,hee,hp⟩;have h6:=hf f hff;have h7:=he e hee;refine⟨e,hee,(hrun _).2 ⟨f.toNat,by omega,?_,?_⟩⟩
 ·exact Zgk 40 n.moves _ _ (Zj3 hff)
 have e1:((f.toNat:Nat):Int)=f:=by omega
 have e2:((e.toNat:Nat):Int)=e:=by omega
 rw[e1,e2];exact hp
theorem Pth.up {ms:List (Int × Int × Int)} (d:Int) {s t:Int} {x:List Nat} (h:Pth ms s x t):Pth (ms.map (shM d)) (s+d) x (t+d) :=
 h.map (·+d) fun m hm => .inl (List.mem_map.2 ⟨m,hm,rfl⟩)
theorem Pth.cross {p q:NfaD} {a b:Nat} (ha:p.states=(a:Int)) (hpm:mvIn a p.moves) (hqm:mvIn b q.moves) (hpe:inN a p.ends) (hqf:inN b q.firsts) {s t:Int} {x:List Nat} (h:Pth (Zdh p q).moves s x t) (ht:p.states≤t):(s<p.states→∃ k,k≤x.length∧∃ e∈p.ends,∃ f∈q.firsts,Pth p.moves s (x.take k) e∧Pth q.moves f (x.drop k) (t-p.states))∧(p.states≤s→Pth q.moves (s-p.states) x (t-p.states)):=by
 induction h with
 | here s=>exact⟨fun h=>by omega,fun _ => .here _⟩
 | @eps s' t' u w hm _ ih =>
  obtain⟨i1,i2⟩:=ih ht;rcases List.mem_append.1 hm with hm|hm
  ·rcases List.mem_append.1 hm with hm|hm
   ·have h1:=hpm _ hm;simp only at h1;refine⟨fun h => ?_,fun h=>by omega⟩;obtain⟨k,hk,e,he,f,hf,h2,h3⟩:=i1 (by omega);exact⟨k,hk,e,he,f,hf,.eps hm h2,h3⟩
   obtain⟨y,hy,e⟩:=List.mem_map.1 (show _∈q.moves.map (shM p.states) from hm);have h1:=hqm _ hy
   injection e with e1 e2
   injection e2 with e2 e3
   refine⟨fun h=>by omega,fun h => .eps (t:=t'-p.states) ?_ (i2 (by omega))⟩;rw[← e1,← e3,show y.1+p.states-p.states=y.1 by omega,show y.2.2+p.states-p.states=y.2.2 by omega,← e2];exact hy
  obtain⟨y,hy,e⟩:=List.mem_flatMap.1 hm;obtain⟨z,hz,e⟩:=List.mem_map.1 e;obtain⟨z,hz',rfl⟩:=List.mem_map.1 (show z∈q.firsts.map (·+p.states) from hz)
  injection e with e1 e2
  injection e2 with e2 e3
  have h1:=hpe y hy;have h2:=hqf z hz';refine⟨fun h=>⟨0,Nat.zero_le _,y,hy,z,hz',?_,?_⟩,fun h=>by omega⟩
  ·rw[e1];exact .here _
  have:=i2 (by omega);rw[← e3,show z+p.states-p.states=z by omega] at this;exact this
 | @step s' t' u c w hm _ ih =>
  obtain⟨i1,i2⟩:=ih ht;rcases List.mem_append.1 hm with hm|hm
  ·rcases List.mem_append.1 hm with hm|hm
   ·have h1:=hpm _ hm;simp only at h1;refine⟨fun h => ?_,fun h=>by omega⟩;obtain⟨k,hk,e,he,f,hf,h2,h3⟩:=i1 (by omega);exact⟨k+1,by simp only[List.length_cons];omega,e,he,f,hf,.step hm h2,h3⟩
   obtain⟨y,hy,e⟩:=List.mem_map.1 (show _∈q.moves.map (shM p.states) from hm);have h1:=hqm _ hy
   injection e with e1 e2
   injection e2 with e2 e3
   refine⟨fun h=>by omega,fun h => .step (t:=t'-p.states) ?_ (i2 (by omega))⟩;rw[← e1,← e3,show y.1+p.states-p.states=y.1 by omega,show y.2.2+p.states-p.states=y.2.2 by omega,← e2];exact hy
  obtain⟨y,hy,e⟩:=List.mem_flatMap.1 hm;obtain⟨z,hz,e⟩:=List.mem_map.1 e
  injection e with e1 e2
  injection e2 with e2 e3
  omega
end Go.Proofs.YtehmjmjedopkkaaGreat
namespace Go.Proofs.YtehmjmjedopkkaaGreat
open Go.RowKit
theorem Zj0 (l:List Nat) (k:Nat):(txB l).extract 0 k=txB (l.take k):=by apply ByteArray.ext;simp[txB,ByteArray.data_extract,List.map_take]
theorem ZlI (l:List Nat):(txB l).toList.isEmpty=l.isEmpty:=by rw[ByteArray.toList_eq];cases l<;>rfl
end Go.Proofs.YtehmjmjedopkkaaGreat
namespace Go.Proofs.YtehmjmjedopkkaaGreat
open Go.RowKit
theorem Zpc {K:Nat} {n:NfaD} {D:DfaD} (h:detK K n=some D):Zhy n=true∧(metS n K).length≤K∧D=Zat (nxS n) (enS n) (metS n K):=by
 unfold detK at h
 split at h
 ·rename_i h1;exact⟨h1.1,h1.2,(Option.some.inj h).symm⟩
 cases h
theorem ZiR {n:NfaD}:∀ (w:List Nat) (v:Nat),w.foldl (nxS n) (((v:Nat):Int),0)=(((w.foldl (fun v (c:Nat)=>stV 40 n.moves v (c:Int)) v:Nat):Int),0)
 | [],_=>rfl
 | c::w,v=>by rw[List.foldl_cons,List.foldl_cons,← ZiR w];rfl
theorem Zoo {K:Nat} {n:NfaD} {D:DfaD} (h:detK K n=some D) {w:List Nat} (hw:isW w):accD D w=accS n w:=by obtain⟨-,h2,rfl⟩:=Zpc h;rw[Zeo h2 hw,ZiR];rfl
end Go.Proofs.YtehmjmjedopkkaaGreat
namespace Go.Proofs.YtehmjmjedopkkaaGreat
open Go.RowKit
theorem Zj2 {l:List Int} {m:Int} (h:∀ j,j<l.length→(0≤l.getD j 0∧l.getD j 0≤m-1)∧(0<j→l.getD (j-1) 0<l.getD j 0)):stOk l m=true:=by
 unfold stOk;rw[List.all_eq_true];intro j hj;obtain⟨h1,h2⟩:=h j (List.mem_range.1 hj);unfold okAt;rw[Bool.and_eq_true,Bool.or_eq_true];refine⟨by simp only[inB,Bool.and_eq_true,decide_eq_true_eq];exact h1,?_⟩;by_cases h0:j=0
 ·exact .inl (decide_eq_true h0)
 exact .inr (decide_eq_true (h2 (by omega)))
theorem Zdp {s t:Nat}:(2 ^ s).testBit t=decide (s=t):=by rw[Nat.testBit_two_pow]
theorem ZdK {d:DfaD}:∀ {k:Nat} {m:Int × Int × Int},m∈mvs d k↔∃ s c:Nat,s<k∧c<3∧m=((s:Int),(c:Int),(d.next.getD s []).getD c 0)
 | 0,m=>by simp[mvs]
 | k+1,m=>by
  rw[show mvs d (k+1)=mvs d k++rowM d k from rfl,List.mem_append,ZdK];constructor
  ·rintro(⟨s,c,h1,h2,h3⟩|h)
   ·exact⟨s,c,by omega,h2,h3⟩
   obtain⟨c,hc,rfl⟩:=List.mem_map.1 h;exact⟨k,c,by omega,List.mem_range.1 hc,rfl⟩
  rintro⟨s,c,h1,h2,h3⟩;by_cases h:s=k
  ·subst h;exact .inr (List.mem_map.2 ⟨c,List.mem_range.2 h2,h3.symm⟩)
  exact .inl ⟨s,c,by omega,h2,h3⟩
theorem Zcq {d:DfaD} (k u:Nat):ZbM (mvs d k) u:=by intro m hm he;obtain⟨s,c,-,-,rfl⟩:=ZdK.1 hm;simp only at he;omega
theorem Zns {a b:Nat} (h:∀ t,a.testBit t=true↔b.testBit t=true):a=b:=by apply Nat.eq_of_testBit_eq;intro t;rw[Bool.eq_iff_iff];exact h t
theorem ZoQ {d:DfaD} (hd:Zaf d.next d.ends=true) {s c:Nat} (hs:s<d.next.length) (hc:c<3):∃ q:Nat,q<d.next.length∧stV 40 (mvs d d.next.length) (2 ^ s) (c:Int)=2 ^ q:=by
 have hr:=(ZaG hd hs).2 c hc;obtain⟨q,hq⟩:=Int.eq_ofNat_of_zero_le hr.1;refine⟨q,by omega,?_⟩;unfold stV;rw[Zfp (Zcq _ _)];apply Zns;intro t;rw[ZbJ,Zdp,decide_eq_true_eq];constructor
 ·rintro(h|⟨m,hm,h1,h2,h3⟩)
  ·simp at h
  obtain⟨s',c',h4,h5,rfl⟩:=ZdK.1 hm;rw[Zdp,decide_eq_true_eq] at h2;simp only[Int.toNat_natCast] at h2;subst h2;have:c'=c:=by simp only at h1;omega
  subst this;simp only[hq] at h3;omega
 rintro rfl;right;refine⟨_,ZdK.2 ⟨s,c,hs,hc,rfl⟩,rfl,?_,?_⟩
 ·rw[Zdp];simp
 simp only[hq];omega
theorem Zo1 {d:DfaD} (hd:Zaf d.next d.ends=true) (K:Nat):(metS (ZaD d) K).length≤d.next.length:=by
 have hl:=Zad hd;have hf:fstV (ZaD d)=2 ^ 0:=by unfold fstV;rw[show(ZaD d).moves=mvs d d.next.length from rfl,Zfp (Zcq _ _)];rfl
 have hall:∀ x∈metS (ZaD d) K,∃ s:Nat,s<d.next.length∧x=(((2 ^ s:Nat):Int),0):=by refine ZbN (Q:=fun x=>∃ s:Nat,s<d.next.length∧x=(((2 ^ s:Nat):Int),0)) ⟨0,by omega,by rw[hf]⟩ ?_ K;rintro x c hc ⟨s,hs,rfl⟩;obtain⟨q,hq,h⟩:=ZoQ hd hs hc;refine⟨q,hq,?_⟩;unfold nxS;rw[show(ZaD d).moves=mvs d d.next.length from rfl];simp only[Int.toNat_natCast];rw[h]
 have:=Zdw (Zbd (nx:=nxS (ZaD d)) (a:=(((fstV (ZaD d):Nat):Int),0)) K).1 (m:=(List.range d.next.length).map fun s=>(((2 ^ s:Nat):Int),(0:Int))) fun x hx=>by obtain⟨s,hs,rfl⟩:=hall x hx;exact List.mem_map.2 ⟨s,List.mem_range.2 hs,rfl⟩
 simpa using this
theorem ZhX (d:DfaD):∀ k,(eds d k).Pairwise (·<·)
 | 0=>List.Pairwise.nil
 | k+1=>by
  unfold eds
  split
  ·rw[List.pairwise_append];refine⟨ZhX d k,List.pairwise_singleton _ _,fun x hx y hy => ?_⟩;rw[List.mem_singleton.1 hy];exact(ZeX d k x hx).2
  exact ZhX d k
theorem ZdX {d:DfaD} (hd:Zaf d.next d.ends=true):Zhy (ZaD d)=true:=by
 have hl:=Zad hd;unfold Zhy;simp only[Bool.and_eq_true,decide_eq_true_eq];refine⟨⟨⟨⟨?_,?_⟩,?_⟩,?_⟩,?_⟩
 ·show inB (d.next.length:Int) 0 40=true;simp only[inB,Bool.and_eq_true,decide_eq_true_eq];exact⟨by omega,by omega⟩
 ·show(mvs d d.next.length).length≤400;rw[Zb1];omega
 ·refine Zj2 fun j hj => ?_
  have hj:j<1:=hj;obtain rfl:j=0:=by omega
  refine⟨?_,fun h=>by omega⟩;simp only[ZaD,List.getD_cons_zero];omega
 ·refine Zj2 fun j hj => ?_
  have hj:j<(eds d d.next.length).length:=hj;have h1:=ZeX d _ _ (memD (d:=(0:Int)) hj);refine⟨?_,fun h => ?_⟩
  ·show 0≤(eds d d.next.length).getD j 0∧(eds d d.next.length).getD j 0≤(d.next.length:Int)-1;omega
  have:=List.pairwise_iff_getElem.1 (ZhX d d.next.length) (j-1) j (by omega) hj (by omega);show(eds d d.next.length).getD (j-1) 0<(eds d d.next.length).getD j 0;rw[Za4 (by omega),Za4 hj];exact this
 rw[List.all_eq_true];intro m hm;obtain⟨s,c,h1,h2,rfl⟩:=ZdK.1 (show m∈mvs d d.next.length from hm);have hr:=(ZaG hd h1).2 c h2;show mvOk (d.next.length:Int) _=true;simp only[mvOk,inB,Bool.and_eq_true,decide_eq_true_eq];exact⟨⟨⟨by omega,by omega⟩,by omega,by omega⟩,by omega,by omega⟩
end Go.Proofs.YtehmjmjedopkkaaGreat
namespace Go.Proofs.YtehmjmjedopkkaaGreat
open Go.RowKit
theorem Zpo {d:DfaD} (hd:Zaf d.next d.ends=true) {s c:Nat} (hs:s<d.next.length) (hc:c<3):stV 40 (mvs d d.next.length) (2 ^ s) (c:Int)=2 ^ nxD d s c:=by
 have hr:=(ZaG hd hs).2 c hc;unfold stV;rw[Zfp (Zcq _ _)];apply Zns;intro t;rw[ZbJ,Zdp,decide_eq_true_eq];constructor
 ·rintro(h|⟨m,hm,h1,h2,h3⟩)
  ·simp at h
  obtain⟨s',c',h4,h5,rfl⟩:=ZdK.1 hm;rw[Zdp,decide_eq_true_eq] at h2;simp only[Int.toNat_natCast] at h2;subst h2;have:c'=c:=by simp only at h1;omega
  subst this;exact h3
 rintro rfl;right;refine⟨_,ZdK.2 ⟨s,c,hs,hc,rfl⟩,rfl,?_,rfl⟩;rw[Zdp];simp
theorem ZmU (d:DfaD):fstV (ZaD d)=2 ^ 0:=by unfold fstV;rw[show(ZaD d).moves=mvs d d.next.length from rfl,Zfp (Zcq _ _)];rfl
theorem ZjO {d:DfaD}:∀ {k:Nat} {x:Int},x∈eds d k↔∃ s:Nat,x=(s:Int)∧s<k∧enD d s=true
 | 0,x=>by simp[eds]
 | k+1,x=>by
  have ih:=ZjO (d:=d) (k:=k) (x:=x);unfold eds;by_cases h:d.ends.getD k false=true
  ·rw[if_pos h,List.mem_append,ih,List.mem_singleton];constructor
   ·rintro(⟨s,h1,h2,h3⟩|rfl)
    ·exact⟨s,h1,by omega,h3⟩
    exact⟨k,rfl,by omega,h⟩
   rintro⟨s,h1,h2,h3⟩;by_cases hk:s=k
   ·subst hk;exact .inr h1
   exact .inl ⟨s,h1,by omega,h3⟩
  rw[if_neg h,ih];constructor
  ·rintro⟨s,h1,h2,h3⟩;exact⟨s,h1,by omega,h3⟩
  rintro⟨s,h1,h2,h3⟩;by_cases hk:s=k
  ·subst hk;exact absurd h3 h
  exact⟨s,h1,by omega,h3⟩
theorem Zna {d:DfaD} (hd:Zaf d.next d.ends=true) {K:Nat} (hK:d.next.length≤K):detK K (ZaD d)=some (ZaY d):=by
 have hl:=Zad hd;have hf:=Zaw hd;unfold detK;rw[if_pos ⟨ZdX hd,Nat.le_trans (Zo1 hd K) hK⟩];congr 1
 let f:Int→Int × Int:=fun x=>(((2 ^ x.toNat:Nat):Int),0)
 let Q:Int→Prop:=fun x=>∃ s:Nat,x=(s:Int)∧s<d.next.length
 have hm:=ZcZ (nx:=dnx d) (nx':=nxS (ZaD d)) (a:=(0:Int)) (f:=f) (Q:=Q) (en:=den d) (en':=enS (ZaD d)) (K:=K) ⟨0,rfl,by omega⟩ (by
  rintro x c hc ⟨s,rfl,hs⟩;obtain⟨h3,h4⟩:=Zbu hf hs hc;exact⟨_,h4,h3⟩) (by
  rintro x y ⟨s,rfl,hs⟩ ⟨t,rfl,ht⟩ h;have h1:((2 ^ s:Nat):Int)=((2 ^ t:Nat):Int):=congrArg Prod.fst h;have:s=t:=(Nat.pow_right_inj (show 1<2 by omega)).1 (Int.ofNat_inj.1 h1);rw[this]) (by
  rintro x c hc ⟨s,rfl,hs⟩;obtain⟨h3,h4⟩:=Zbu hf hs hc;simp only[f,h4,nxS,Int.toNat_natCast];rw[show(ZaD d).moves=mvs d d.next.length from rfl,Zpo hd hs hc]) (by
  rintro x ⟨s,rfl,hs⟩;rw[Za0];simp only[f,enS,Int.toNat_natCast];unfold endV;rw[show(ZaD d).ends=eds d d.next.length from rfl,Bool.eq_iff_iff,List.any_eq_true];constructor
  ·rintro⟨x,hx,hb⟩;obtain⟨t,rfl,ht,he⟩:=ZjO.1 hx;rw[Zdp,decide_eq_true_eq] at hb;simp only[Int.toNat_natCast] at hb;rw[hb];exact he
  intro he;refine⟨(s:Int),ZjO.2 ⟨s,rfl,hs,he⟩,?_⟩;rw[Zdp];simp)
 have h0:f 0=((((fstV (ZaD d):Nat):Int),0):Int × Int):=by rw[ZmU];rfl
 rw[h0] at hm;refine hm.trans ?_;unfold ZaY;rw[Zbr (Zbi hf _).2 hK]
theorem Zmo {d:DfaD} (hd:Zaf d.next d.ends=true) {w:List Nat} (hw:isW w):accS (ZaD d) w=accD d w:=by rw[← Zoo (Zna hd (Nat.le_refl _)) hw,ZnG (Zaw hd) hw]
end Go.Proofs.YtehmjmjedopkkaaGreat
