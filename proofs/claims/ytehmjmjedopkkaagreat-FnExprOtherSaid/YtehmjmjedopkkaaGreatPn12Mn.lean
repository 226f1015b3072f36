/-
  The walks over the program's minimize and the functions that it hands to explored.
  Condition: the automaton is valid and reads as such.
-/
import Derived.Test.YtehmjmjedopkkaaGreatPn11Ss
set_option maxHeartbeats 4000000
set_option maxRecDepth 100000
namespace Go.Proofs.YtehmjmjedopkkaaGreat
open Go.RowKit
theorem ZnV (d:DfaD) (cl:Nat→Nat) (b1 o1 cv b2 o2 cw bc bd g cg x c:Nat) (w:World) (hC:DfaC w d b1 o1 cv b2 o2 cw) (hx:x<d.next.length) (hc:c<3) (hb:Bx w bd #[.slice (some ⟨b1,o1,none⟩) d.next.length cv,.slice (some ⟨b2,o2,none⟩) d.next.length cw] 32)
  (hbc:Bx w bc #[.slice (some ⟨g,0,none⟩) d.next.length cg] 59) (hcl:∀ s,s<d.next.length→w.cell? ⟨g,s,none⟩=some (.int .i64 ((cl s:Nat):Int))) :
  Calls Tryz.prog 78 #[.int .i64 (x:Nat),.int .i64 (c:Nat),.pointer (some ⟨bc,0,none⟩),.pointer (some ⟨bd,0,none⟩)] w fun e w'=>e = .returned (.int .i64 ((cl (nxD d x c):Nat):Int))∧Below w.heap.size w w':=by
 have c0:=hb.cell 0;have c1:=hbc.cell 0;simp only[List.getElem?_toArray,List.getElem?_cons_zero] at c0 c1;obtain⟨b3,o3,c3,p1,p2,p3,p4,p5⟩:=hC.row x hx;have p6:=p5 c hc;have hyl:=hC.lt x c hx hc;obtain⟨y,hy⟩:=eI (nxD d x c);rw[← hy] at p6 hyl;rw[← hy];have c2:=hcl y hyl;obtain⟨z,hz⟩:=eI (cl y);rw[← hz] at c2;rw[← hz];have hc3:(c:Int)<3:=by omega
 have hxL:(x:Int)<d.next.length:=by omega
 have hyL:(y:Int)<d.next.length:=by omega
 have hl2:=hC.l2;replace hy:=qh hy;have Hhz:=qh hz;clear hz;clear p5 hC hb hbc hcl
 go_enter Tryz.func78, Tryz.ntmps78
 go_wp2
 go_quiet (fail)
 go_wp2;go_ret;exact⟨rfl,below_drewN (Below.refl _ _) _⟩
theorem ZnU (d:DfaD) (b1 o1 cv b2 o2 cw bd x:Nat) (w:World) (hC:DfaC w d b1 o1 cv b2 o2 cw) (hx:x<d.next.length) (hb:Bx w bd #[.slice (some ⟨b1,o1,none⟩) d.next.length cv,.slice (some ⟨b2,o2,none⟩) d.next.length cw] 32) :
  Calls Tryz.prog 79 #[.int .i64 (x:Nat),.pointer (some ⟨bd,0,none⟩)] w fun e w'=>e = .returned (.bool (den d (x:Int)))∧Below w.heap.size w w':=by
 have c0:=hb.cell 1;simp only[List.getElem?_toArray,List.getElem?_cons_zero,List.getElem?_cons_succ] at c0;have p6:=hC.en x hx;have hz:den d (x:Int)=enD d x:=by simp[den,enD]
 rw[hz];obtain⟨y,hy⟩:=eI (enD d x);rw[← hy] at p6;rw[← hy];have hxL:(x:Int)<d.next.length:=by omega
 have hl2:=hC.l2;replace hy:=qh hy;have Hhz:=qh hz;clear hz;clear hC hb
 go_enter Tryz.func79, Tryz.ntmps79
 go_wp2;go_ret;exact⟨rfl,Below.refl _ _⟩
theorem Zk8 {d:DfaD} (hd:Zaf d.next d.ends=true) (K:Nat):(∀ x∈(bat (nxM d) ((clD d 0:Nat):Int) K).met,0≤x∧x<(d.next.length:Int))∧(bat (nxM d) ((clD d 0:Nat):Int) K).met.length≤d.next.length:=by
 have hf:=Zaw hd;have hl:=Zad hd
 have h1:∀ x∈(bat (nxM d) ((clD d 0:Nat):Int) K).met,0≤x∧x<(d.next.length:Int):=by
  refine ZbN (Q:=fun x=>0≤x∧x<(d.next.length:Int)) ?_ (fun x c hc hx => ?_) K
  ·have:=(Zbe (d:=d) 0 (by omega)).1;omega
  have h2:=(ZbI hf (s:=x.toNat) (c:=c) (by omega) hc).1;have h3:=(Zbe (d:=d) (nxD d x.toNat c) h2).1;unfold nxM;omega
 refine⟨h1,?_⟩
 have h2:=Zdw (Zbd (nx:=nxM d) (a:=((clD d 0:Nat):Int)) K).1 (m:=ZaW d.next.length) (fun x hx=>by
  have:=h1 x hx;have e:x=((x.toNat:Nat):Int):=by omega
  rw[e,Zcb];omega)
 rw[Zb8] at h2;exact h2
theorem Za6 (d:DfaD) (v:Value) (w:World) (hd:Zaf d.next d.ends=true) (h:DfaR 0 w v d) :
  Calls Tryz.prog 40 #[v] w fun e w'=>RDo (minD d) w e w':=by
 have HR:=qh h;obtain⟨b1,o1,cv,b2,o2,cw,rfl,hC⟩:=ZbE hd h;have hl1:=hC.l1;have hl2:=hC.l2;have hFl:=(Zk8 hd d.next.length).2;have hS0:=((St.start w).alloc _ rfl #[.slice (some ⟨b1,o1,none⟩) d.next.length cv,.slice (some ⟨b2,o2,none⟩) d.next.length cw] 32).alloc (w.heap.size+1) (by simp) #[.slice none 0 0,.slice none 0 0] 32
 have hex:=fun (W:World) (bc g cg:Nat) (hbx:Bx W w.heap.size #[.slice (some ⟨b1,o1,none⟩) d.next.length cv,.slice (some ⟨b2,o2,none⟩) d.next.length cw] 32) (hbc:Bx W bc #[.slice (some ⟨g,0,none⟩) d.next.length cg] 59)
   (hg:g<W.heap.size) (hcl:∀ s,s<d.next.length→W.cell? ⟨g,s,none⟩=some (.int .i64 ((clD d s:Nat):Int))) (hb:Below w.heap.size w W) =>
  ZhV ((clD d 0:Nat):Int) bc w.heap.size (nxM d) (den d) (fun x=>0≤x∧x<(d.next.length:Int)) d.next.length W
   (by have:=(Zbe (d:=d) 0 (by omega)).1;omega)
   (fun x c hc hx=>by have h2:=(ZbI (Zaw hd) (s:=x.toNat) (c:=c) (by omega) hc).1;have h3:=(Zbe (d:=d) (nxD d x.toNat c) h2).1;unfold nxM;omega)
   (fun x hx=>by unfold fitI;omega) (by omega) (by omega) hFl
   (fun x c w' hx hc hb'=>by obtain⟨n,rfl⟩:∃ n:Nat,x=(n:Int):=⟨x.toNat,by omega⟩;exact ZnV d (clD d) b1 o1 cv b2 o2 cw bc w.heap.size g cg n c w' ((hC.below hb).below hb') (by omega) hc (hbx.below hb' hbx.lt) (hbc.below hb' hbc.lt) (fun s hs=>(bcell hb' g _ hg).trans (hcl s hs)))
   (fun x w' hx hb'=>by obtain⟨n,rfl⟩:∃ n:Nat,x=(n:Int):=⟨x.toNat,by omega⟩;exact ZnU d b1 o1 cv b2 o2 cw w.heap.size n w' ((hC.below hb).below hb') (by omega) (hbx.below hb' hbx.lt))
 obtain⟨F,hF⟩:=eI ((bat (nxM d) ((clD d 0:Nat):Int) d.next.length).met);rw[← hF] at hex hFl;have htr:minD d=⟨F.map (Zae (nxM d) F),F.map (den d)⟩:=by unfold minD;rw[← hF];rfl
 rw[htr];have hsm:=fun (W:World) (hb:Below w.heap.size w W)=>Zgu d (.agg #[.slice (some ⟨b1,o1,none⟩) d.next.length cv,.slice (some ⟨b2,o2,none⟩) d.next.length cw]) W hd (HR.out.below hb)
 unfold RCl at hsm;obtain⟨L,hL⟩:=eI (d.next.length);obtain⟨C,hK⟩:=eI (clD d);rw[← hL,← hK] at hex hsm;rw[← hL] at hS0 hFl hl1 hl2;rw[← hL];obtain⟨k0,hk0⟩:=eI (C 0);rw[← hk0] at hex;have Hex:=qh hex;have Hsm:=qh hsm;replace hS0:=qh hS0;replace hF:=qh hF;have Hhtr:=qh htr;clear htr;have HhL:=qh hL;clear hL;have HhK:=qh hK;clear hK;have Hhk0:=qh hk0;clear hk0;clear hex hsm hC h
 go_enter Tryz.func40, Tryz.ntmps40
 have e0:=hS0.out.cell (v:=.slice (some ⟨b1,o1,none⟩) L cv) 0 0 rfl rfl;have e1:=hS0.out.cell (v:=.slice (some ⟨b2,o2,none⟩) L cw) 0 1 rfl rfl;go_wp2_with fail;refine(Hsm.out _ hS0.out.bel).mono ?_;rintro e w1 ⟨g,cg,rfl,hS'⟩;have hS2:=(hS0.out.cat hS').alloc _ rfl #[.slice (some ⟨g,0,none⟩) L cg] 59;have HS:=qh hS2;clear hS2 hS' e0 e1;go_wp2;have hc0:=ZaV (n:=L) (s:=0) C (by omega);rw[← Hhk0.out] at hc0;have hL0:(0:Int)<L:=by omega
 have hL00:0<L:=by omega
 have Hhc0:=qh hc0;clear hc0;refine wp_region_any (by kernel_rfl) ?_
 refine Zap (fun A listed a w'=>∃ (l0 l1 l2 l3 l4 l5 l6 l7 l8 l9 l10 l11 l12 l13 l14 l15 l16:Bool) (a1:Option Addr) (c1:Nat) (a2:Option Addr) (c2:Nat) (a3:Option Addr) (c3:Nat) (vs:List Value) (b:Nat),listed=#[l0,l1,l2,l3,l4,l5,l6,l7,l8,l9,l10,l11,l12,l13,l14,l15,l16]∧(l8=true→l7=true∧l6=true)∧(l9=true→l8=true∧l7=true)∧(l10=true→l9=true∧l8=true)∧(l11=true→l9=true∧l8=true)∧(l14=true→l10=true∧l13=true)∧(l15=true→l11=true∧l14=true) ∧
   a=⟨((((((((((((((((A.tmps.setIfInBounds 10 (if l0=true then .slice (some ⟨g,0,none⟩) L cg else A.tmps.getD 10 undef)).setIfInBounds 11 (if l1=true then .pointer (some ⟨g,0,none⟩) else A.tmps.getD 11 undef)).setIfInBounds 12 (if l2=true then .int .i64 ((k0:Nat):Int) else A.tmps.getD 12 undef)).setIfInBounds 13 (if l3=true then .pointer (some ⟨w.heap.size,0,none⟩) else A.tmps.getD 13 undef)).setIfInBounds 14 (if l4=true then .slice (some ⟨b1,o1,none⟩) L cv else A.tmps.getD 14 undef)).setIfInBounds 15 (if l5=true then .int .i64 (L:Int) else A.tmps.getD 15 undef)).setIfInBounds 16 (if l6=true then .func (.func 78) #[] #[.pointer (some ⟨w1.heap.size,0,none⟩),.pointer (some ⟨w.heap.size,0,none⟩)] else A.tmps.getD 16 undef)).setIfInBounds 17 (if l7=true then .func (.func 79) #[] #[.pointer (some ⟨w.heap.size,0,none⟩)] else A.tmps.getD 17 undef)).setIfInBounds 18 (if l8=true then .tuple #[.agg #[.slice a1 F.length c1,.slice a2 F.length c2],.slice a3 F.length c3,.bool true] else A.tmps.getD 18 undef)).setIfInBounds 9 (if l9=true then .tuple #[.agg #[.slice a1 F.length c1,.slice a2 F.length c2],.slice a3 F.length c3,.bool true] else A.tmps.getD 9 undef)).setIfInBounds 19 (if l10=true then .agg #[.slice a1 F.length c1,.slice a2 F.length c2] else A.tmps.getD 19 undef)).setIfInBounds 20 (if l11=true then .slice a3 F.length c3 else A.tmps.getD 20 undef)).setIfInBounds 21 (if l12=true then .bool true else A.tmps.getD 21 undef)).setIfInBounds 4 (if l13=true then .pointer (some ⟨b,0,none⟩) else A.tmps.getD 4 undef)).setIfInBounds 5 (if l15=true then .slice a3 F.length c3 else A.tmps.getD 5 undef)).setIfInBounds 6 (if l16=true then .bool true else A.tmps.getD 6 undef)),A.defers⟩ ∧
   St w w' [Ent.box w.heap.size #[.slice (some ⟨b1,o1,none⟩) L cv,.slice (some ⟨b2,o2,none⟩) L cw] 32,Ent.box (w.heap.size+1) #[.slice none 0 0,.slice none 0 0] 32,Ent.row 3 1 (.slice (some ⟨g,0,none⟩) L cg) L (intCells (clsL L C)),Ent.box w1.heap.size #[.slice (some ⟨g,0,none⟩) L cg] 59,(if l13=true then Ent.box b (if l14=true then #[.slice a1 F.length c1,.slice a2 F.length c2] else #[.slice none 0 0,.slice none 0 0]) 32 else Ent.nil),(if l8=true then Ent.rows 59 3 (.slice a1 F.length c1) vs ((F.map (Zae (nxM d) F)).map intCells) else Ent.nil),(if l8=true then Ent.row 4 1 (.slice a2 F.length c2) F.length (boolCells (F.map (den d))) else Ent.nil),(if l8=true then Ent.row 3 1 (.slice a3 F.length c3) F.length (intCells F) else Ent.nil)]) ?_ ?_ ?_
 ·rintro listed a w' ⟨l0,l1,l2,l3,l4,l5,l6,l7,l8,l9,l10,l11,l12,l13,l14,l15,l16,a1,c1,a2,c2,a3,c3,vs,b,rfl,hd8,hd9,hd10,hd11,hd14,hd15,rfl,hS⟩ i hi;obtain⟨hun,o,ho,hall⟩:=mem_ready.1 hi;have hlt:=(Array.getElem?_eq_some_iff.1 ho).1;refine wpOp_step ho (fun K hK => ?_);clear hi;have HS:=qh hS;clear hS;simp only[List.setIfInBounds_toArray,List.set_cons_zero,List.set_cons_succ,Array.getD_eq_getD_getElem?,List.getElem?_toArray,List.getElem?_cons_zero,List.getElem?_cons_succ,Option.getD_some];obtain h|h|h|h|h|h|h|h|h|h|h|h|h|h|h|h|h:i=0∨i=1∨i=2∨i=3∨i=4∨i=5∨i=6∨i=7∨i=8∨i=9∨i=10∨i=11∨i=12∨i=13∨i=14∨i=15∨i=16:=by simp at hlt;omega
  all_goals subst h
  all_goals simp only[List.getElem?_toArray,List.getElem?_cons_zero,List.getElem?_cons_succ,Option.some.injEq] at ho
  all_goals subst ho
  all_goals simp[Region.binds] at hun hall
  ·subst hun;have e0:=HS.out.cell (v:=.slice (some ⟨g,0,none⟩) L cg) 3 0 rfl rfl;go_simp;exact hK _ _ ⟨true,l1,l2,l3,l4,l5,l6,l7,l8,l9,l10,l11,l12,l13,l14,l15,l16,a1,c1,a2,c2,a3,c3,vs,b,rfl,hd8,hd9,hd10,hd11,hd14,hd15,(by simp),HS.out⟩
  ·obtain rfl:=hall;subst hun;go_simp;exact hK _ _ ⟨true,true,l2,l3,l4,l5,l6,l7,l8,l9,l10,l11,l12,l13,l14,l15,l16,a1,c1,a2,c2,a3,c3,vs,b,rfl,hd8,hd9,hd10,hd11,hd14,hd15,(by simp),HS.out⟩
  ·obtain rfl:=hall;subst hun;have e0:=HS.out.rcell (v:=.int .i64 ((k0:Nat):Int)) 2 0 rfl (by omega) Hhc0.out;go_simp;exact hK _ _ ⟨l0,true,true,l3,l4,l5,l6,l7,l8,l9,l10,l11,l12,l13,l14,l15,l16,a1,c1,a2,c2,a3,c3,vs,b,rfl,hd8,hd9,hd10,hd11,hd14,hd15,(by simp),HS.out⟩
  ·subst hun;go_simp;exact hK _ _ ⟨l0,l1,l2,true,l4,l5,l6,l7,l8,l9,l10,l11,l12,l13,l14,l15,l16,a1,c1,a2,c2,a3,c3,vs,b,rfl,hd8,hd9,hd10,hd11,hd14,hd15,(by simp),HS.out⟩
  ·obtain rfl:=hall;subst hun;have e0:=HS.out.cell (v:=.slice (some ⟨b1,o1,none⟩) L cv) 0 0 rfl rfl;go_simp;exact hK _ _ ⟨l0,l1,l2,true,true,l5,l6,l7,l8,l9,l10,l11,l12,l13,l14,l15,l16,a1,c1,a2,c2,a3,c3,vs,b,rfl,hd8,hd9,hd10,hd11,hd14,hd15,(by simp),HS.out⟩
  ·obtain rfl:=hall;subst hun;go_simp;exact hK _ _ ⟨l0,l1,l2,l3,true,true,l6,l7,l8,l9,l10,l11,l12,l13,l14,l15,l16,a1,c1,a2,c2,a3,c3,vs,b,rfl,hd8,hd9,hd10,hd11,hd14,hd15,(by simp),HS.out⟩
  ·subst hun;obtain rfl:l8=false:=offR hd8 rfl;obtain rfl:l9=false:=offL hd9 rfl;obtain rfl:l10=false:=offL hd10 rfl;obtain rfl:l11=false:=offL hd11 rfl;obtain rfl:l14=false:=offL hd14 rfl;obtain rfl:l15=false:=offL hd15 rfl;go_simp;exact hK _ _ ⟨l0,l1,l2,l3,l4,l5,true,l7,false,false,false,false,l12,l13,false,false,l16,a1,c1,a2,c2,a3,c3,vs,b,rfl,by simp,by simp,by simp,by simp,by simp,by simp,(by simp),HS.out⟩
  ·subst hun;obtain rfl:l8=false:=offL hd8 rfl;obtain rfl:l9=false:=offL hd9 rfl;obtain rfl:l10=false:=offL hd10 rfl;obtain rfl:l11=false:=offL hd11 rfl;obtain rfl:l14=false:=offL hd14 rfl;obtain rfl:l15=false:=offL hd15 rfl;go_simp;exact hK _ _ ⟨l0,l1,l2,l3,l4,l5,l6,true,false,false,false,false,l12,l13,false,false,l16,a1,c1,a2,c2,a3,c3,vs,b,rfl,by simp,by simp,by simp,by simp,by simp,by simp,(by simp),HS.out⟩
  ·obtain⟨rfl,rfl,rfl,rfl⟩:=hall;subst hun;obtain rfl:l9=false:=offL hd9 rfl;obtain rfl:l10=false:=offL hd10 rfl;obtain rfl:l11=false:=offL hd11 rfl;obtain rfl:l14=false:=offL hd14 rfl;obtain rfl:l15=false:=offL hd15 rfl;go_simp
   go_at_call 74
   refine(Hex.out _ _ _ _ (HS.out.box 0 rfl) (HS.out.box 3 rfl) (HS.out.rowlt 2 rfl).2 (fun x hx=>HS.out.rcell 2 x rfl (by omega) (ZaV C hx)) HS.out.bel).mono ?_;rintro e u1 ⟨a1,c1,a2,c2,a3,c3,vs,rfl,hSx⟩;have hS2:=(HS.out.cat hSx).pick [0,1,2,3,4,8,9,10] (by decide);have HhS2:=qh hS2;clear hS2;go_simp;exact hK _ _ ⟨l0,l1,true,l3,l4,true,true,true,true,false,false,false,l12,l13,false,false,l16,a1,c1,a2,c2,a3,c3,vs,b,rfl,by simp,by simp,by simp,by simp,by simp,by simp,(by simp),HhS2.out⟩
  ·obtain rfl:=hall;subst hun;obtain⟨rfl,rfl⟩:=hd8 rfl;obtain rfl:l10=false:=offL hd10 rfl;obtain rfl:l11=false:=offL hd11 rfl;obtain rfl:l14=false:=offL hd14 rfl;obtain rfl:l15=false:=offL hd15 rfl;go_simp;exact hK _ _ ⟨l0,l1,l2,l3,l4,l5,true,true,true,true,false,false,l12,l13,false,false,l16,a1,c1,a2,c2,a3,c3,vs,b,rfl,by simp,by simp,by simp,by simp,by simp,by simp,(by simp),HS.out⟩
  ·obtain rfl:=hall;subst hun;obtain⟨rfl,rfl⟩:=hd9 rfl;obtain⟨-,rfl⟩:=hd8 rfl;obtain rfl:l14=false:=offL hd14 rfl;obtain rfl:l15=false:=offR hd15 rfl;go_simp;exact hK _ _ ⟨l0,l1,l2,l3,l4,l5,true,true,true,true,true,l11,l12,l13,false,false,l16,a1,c1,a2,c2,a3,c3,vs,b,rfl,by simp,by simp,by simp,hd11,by simp,by simp,(by simp),HS.out⟩
  ·obtain rfl:=hall;subst hun;obtain⟨rfl,rfl⟩:=hd9 rfl;obtain⟨-,rfl⟩:=hd8 rfl;obtain rfl:l15=false:=offL hd15 rfl;go_simp;exact hK _ _ ⟨l0,l1,l2,l3,l4,l5,true,true,true,true,l10,true,l12,l13,l14,false,l16,a1,c1,a2,c2,a3,c3,vs,b,rfl,by simp,by simp,hd10,by simp,hd14,by simp,(by simp),HS.out⟩
  ·obtain rfl:=hall;subst hun;obtain⟨rfl,rfl⟩:=hd9 rfl;obtain⟨-,rfl⟩:=hd8 rfl;go_simp;exact hK _ _ ⟨l0,l1,l2,l3,l4,l5,true,true,true,true,l10,l11,true,l13,l14,l15,l16,a1,c1,a2,c2,a3,c3,vs,b,rfl,by simp,by simp,hd10,hd11,hd14,hd15,(by simp),HS.out⟩
  ·subst hun;obtain rfl:l14=false:=offR hd14 rfl;obtain rfl:l15=false:=offR hd15 rfl;have hS2:=(HS.out.alloc _ rfl #[.slice none 0 0,.slice none 0 0] 32).pick [0,1,2,3,8,5,6,7] (by decide);have HhS2:=qh hS2;clear hS2;go_simp;exact hK _ _ ⟨l0,l1,l2,l3,l4,l5,l6,l7,l8,l9,l10,l11,l12,true,false,false,l16,a1,c1,a2,c2,a3,c3,vs,_,rfl,hd8,hd9,hd10,hd11,by simp,by simp,(by simp),HhS2.out⟩
  ·obtain⟨rfl,rfl,rfl,rfl,rfl,rfl,rfl,rfl,rfl,rfl,rfl,-,rfl,-⟩:=hall;subst hun;obtain rfl:l15=false:=offR hd15 rfl;have f0:=HS.out.fr 4 0 rfl;have f1:=HS.out.fr 4 1 rfl;have k0:=HS.out.cell (v:=.slice none 0 0) 4 0 rfl rfl;have k1:=HS.out.cell (v:=.slice none 0 0) 4 1 rfl rfl;go_simp;exact hK _ _ ⟨true,true,true,true,true,true,true,true,true,true,true,l11,l12,true,true,false,l16,a1,c1,a2,c2,a3,c3,vs,b,rfl,by simp,by simp,by simp,hd11,by simp,by simp,(by simp),((HS.out.set 4 rfl 0 (.slice a1 F.length c1)).set 4 rfl 1 (.slice a2 F.length c2))⟩
  ·obtain⟨rfl,rfl,rfl,rfl,rfl,rfl,rfl,rfl,rfl,rfl,rfl,rfl,rfl,-,rfl,-⟩:=hall;subst hun;go_simp;exact hK _ _ ⟨true,true,true,true,true,true,true,true,true,true,true,true,l12,true,true,true,l16,a1,c1,a2,c2,a3,c3,vs,b,rfl,by simp,by simp,by simp,by simp,by simp,by simp,(by simp),HS.out⟩
  obtain⟨rfl,rfl,rfl,rfl,rfl,rfl,rfl,rfl,rfl,rfl,rfl,rfl,rfl,rfl,-,rfl,rfl,-⟩:=hall;subst hun;go_simp;exact hK _ _ ⟨true,true,true,true,true,true,true,true,true,true,true,true,true,true,true,true,true,a1,c1,a2,c2,a3,c3,vs,b,rfl,by simp,by simp,by simp,by simp,by simp,by simp,(by simp only[↓reduceIte,List.setIfInBounds_toArray,List.set_cons_zero,List.set_cons_succ]),HS.out⟩
 ·rintro listed a w' ⟨l0,l1,l2,l3,l4,l5,l6,l7,l8,l9,l10,l11,l12,l13,l14,l15,l16,a1,c1,a2,c2,a3,c3,vs,b,rfl,hd8,hd9,hd10,hd11,hd14,hd15,rfl,hS⟩ hr;have hall:=ZaH (by kernel_rfl) rfl hr;obtain rfl:l0=true:=by simpa using hall 0 (by simp)
  obtain rfl:l1=true:=by simpa using hall 1 (by simp)
  obtain rfl:l2=true:=by simpa using hall 2 (by simp)
  obtain rfl:l3=true:=by simpa using hall 3 (by simp)
  obtain rfl:l4=true:=by simpa using hall 4 (by simp)
  obtain rfl:l5=true:=by simpa using hall 5 (by simp)
  obtain rfl:l6=true:=by simpa using hall 6 (by simp)
  obtain rfl:l7=true:=by simpa using hall 7 (by simp)
  obtain rfl:l8=true:=by simpa using hall 8 (by simp)
  obtain rfl:l9=true:=by simpa using hall 9 (by simp)
  obtain rfl:l10=true:=by simpa using hall 10 (by simp)
  obtain rfl:l11=true:=by simpa using hall 11 (by simp)
  obtain rfl:l12=true:=by simpa using hall 12 (by simp)
  obtain rfl:l13=true:=by simpa using hall 13 (by simp)
  obtain rfl:l14=true:=by simpa using hall 14 (by simp)
  obtain rfl:l15=true:=by simpa using hall 15 (by simp)
  obtain rfl:l16=true:=by simpa using hall 16 (by simp)
  clear hall hr hd8 hd9 hd10 hd11 hd14 hd15;simp only[↓reduceIte] at hS ⊢;simp only[List.setIfInBounds_toArray,List.set_cons_zero,List.set_cons_succ];have d0:=hS.cell (v:=.slice a1 F.length c1) 4 0 rfl rfl;have d1:=hS.cell (v:=.slice a2 F.length c2) 4 1 rfl rfl;have f0:=hS.fr 1 0 rfl;have f1:=hS.fr 1 1 rfl;have k0:=hS.cell (v:=.slice none 0 0) 1 0 rfl rfl;have k1:=hS.cell (v:=.slice none 0 0) 1 1 rfl rfl;have HS9:=qh hS;clear hS;go_wp2;have hq:=(HS9.out.set 1 rfl 0 (.slice a1 F.length c1)).set 1 rfl 1 (.slice a2 F.length c2);have q0:=hq.cell (v:=.slice a1 F.length c1) 1 0 rfl rfl;have q1:=hq.cell (v:=.slice a2 F.length c2) 1 1 rfl rfl;refine bodyPost_ret (v:=.agg #[.slice a1 F.length c1,.slice a2 F.length c2]) (by simp[results,Tryz.results40,go_sem,q0,q1]) rfl ?_;refine⟨a1,c1,a2,c2,by simp only[List.length_map],⟨.slice a1 F.length c1,.slice a2 F.length c2,by simp only[List.length_map],hq.intSS 5 rfl,?_⟩,hq.bel⟩;have hb:=Zaa (hq.row 6 rfl);unfold OBools;simpa only [List.length_map] using hb
 refine⟨false,false,false,false,false,false,false,false,false,false,false,false,false,false,false,false,false,none,0,none,0,none,0,[],0,rfl,by simp,by simp,by simp,by simp,by simp,by simp,(by simp),?_⟩;exact HS.out.drew.pick [0,1,2,3,4,5,6,7] (by decide)
end Go.Proofs.YtehmjmjedopkkaaGreat
