/-
  The walks over the program's minimize and the functions that it hands to explored.
  Condition: the automaton is valid and reads as such.
-/
import Derived.Test.YtehmjmjedopkkaaGreatPo08Ss
set_option maxHeartbeats 8000000
set_option maxRecDepth 100000
namespace Go.Proofs.YtehmjmjedopkkaaGreat
open Go.RowKit
theorem Zpg (d:DfaD) (cl:Nat→Nat) (b1 o1 cv b2 o2 cw bc bd g cg x c:Nat) (w:World) (hC:DfaC w d b1 o1 cv b2 o2 cw) (hx:x<d.next.length) (hc:c<3) (hb:Bx w bd #[.slice (some ⟨b1,o1,none⟩) d.next.length cv,.slice (some ⟨b2,o2,none⟩) d.next.length cw] 32)
  (hbc:Bx w bc #[.slice (some ⟨g,0,none⟩) d.next.length cg] 59) (hcl:∀ s,s<d.next.length→w.cell? ⟨g,s,none⟩=some (.int .i64 ((cl s:Nat):Int))) :
  Calls Tryz.prog 78 #[.int .i64 (x:Nat),.int .i64 (c:Nat),.pointer (some ⟨bc,0,none⟩),.pointer (some ⟨bd,0,none⟩)] w fun e w'=>e = .returned (.int .i64 ((cl (nxD d x c):Nat):Int))∧Below w.heap.size w w':=by
 have c0:=hb.cell 0;have c1:=hbc.cell 0;simp only[w_5,w_6] at c0 c1;obtain⟨b3,o3,c3,p1,p2,p3,p4,p5⟩:=hC.row x hx;have p6:=p5 c hc;have hyl:=hC.lt x c hx hc;obtain⟨y,hy⟩:=eI (nxD d x c);rw[← hy] at p6 hyl;rw[← hy];have c2:=hcl y hyl;obtain⟨z,hz⟩:=eI (cl y);rw[← hz] at c2;rw[← hz];have hc3:(c:Int)<3:=by omega
 have hxL:(x:Int)<d.next.length:=by omega
 have hyL:(y:Int)<d.next.length:=by omega
 have hl2:=hC.l2;replace hy:=qh hy;have Hhz:=qh hz;clear hz;clear p5 hC hb hbc hcl
 go_enter Tryz.func78, Tryz.ntmps78
 go_wp2
 go_quiet (fail)
 go_wp2;go_ret;exact⟨rfl,below_drewN (Below.refl _ _) _⟩
theorem Zpf (d:DfaD) (b1 o1 cv b2 o2 cw bd x:Nat) (w:World) (hC:DfaC w d b1 o1 cv b2 o2 cw) (hx:x<d.next.length) (hb:Bx w bd #[.slice (some ⟨b1,o1,none⟩) d.next.length cv,.slice (some ⟨b2,o2,none⟩) d.next.length cw] 32) :
  Calls Tryz.prog 79 #[.int .i64 (x:Nat),.pointer (some ⟨bd,0,none⟩)] w fun e w'=>e = .returned (.bool (den d (x:Int)))∧Below w.heap.size w w':=by
 have c0:=hb.cell 1;simp only[w_5,w_6,w_7] at c0;have p6:=hC.en x hx;have hz:den d (x:Int)=enD d x:=by simp[den,enD]
 rw[hz];obtain⟨y,hy⟩:=eI (enD d x);rw[← hy] at p6;rw[← hy];have hxL:(x:Int)<d.next.length:=by omega
 have hl2:=hC.l2;replace hy:=qh hy;have Hhz:=qh hz;clear hz;clear hC hb
 go_enter Tryz.func79, Tryz.ntmps79
 go_wp2;go_ret;exact⟨rfl,Below.refl _ _⟩
theorem Zl3 {d:DfaD} (hd:Zae d.next d.ends=true) (K:Nat):(∀ x∈(bat (nxM d) ((clD d 0:Nat):Int) K).met,0≤x∧x<(d.next.length:Int))∧(bat (nxM d) ((clD d 0:Nat):Int) K).met.length≤d.next.length:=by
 have hf:=Zaz hd;have hl:=Zad hd
 have h1:∀ x∈(bat (nxM d) ((clD d 0:Nat):Int) K).met,0≤x∧x<(d.next.length:Int):=by
  refine ZbZ (Q:=fun x=>0≤x∧x<(d.next.length:Int)) ?_ (fun x c hc hx => ?_) K
  ·have:=(Zbm (d:=d) 0 (by omega)).1;omega
  have h2:=(ZbT hf (s:=x.toNat) (c:=c) (by omega) hc).1;have h3:=(Zbm (d:=d) (nxD d x.toNat c) h2).1;unfold nxM;omega
 refine⟨h1,?_⟩
 have h2:=ZdQ (Zbl (nx:=nxM d) (a:=((clD d 0:Nat):Int)) K).1 (m:=Za1 d.next.length) (fun x hx=>by
  have:=h1 x hx;have e:x=((x.toNat:Nat):Int):=by omega
  rw[e,Zcs];omega)
 rw[Zcp] at h2;exact h2
theorem Zbd (d:DfaD) (v:Value) (w:World) (hd:Zae d.next d.ends=true) (h:DfaR 0 w v d) :
  Calls Tryz.prog 40 #[v] w fun e w'=>RDo (minD d) w e w':=by
 have HR:=qh h;obtain⟨b1,o1,cv,b2,o2,cw,rfl,hC⟩:=ZbP hd h;have hl1:=hC.l1;have hl2:=hC.l2;have hFl:=(Zl3 hd d.next.length).2;have hS0:=((St.start w).alloc _ rfl #[.slice (some ⟨b1,o1,none⟩) d.next.length cv,.slice (some ⟨b2,o2,none⟩) d.next.length cw] 32).alloc (w.heap.size+1) (by simp) #[.slice none 0 0,.slice none 0 0] 32
 have hex:=fun (W:World) (bc g cg:Nat) (hbx:Bx W w.heap.size #[.slice (some ⟨b1,o1,none⟩) d.next.length cv,.slice (some ⟨b2,o2,none⟩) d.next.length cw] 32) (hbc:Bx W bc #[.slice (some ⟨g,0,none⟩) d.next.length cg] 59)
   (hg:g<W.heap.size) (hcl:∀ s,s<d.next.length→W.cell? ⟨g,s,none⟩=some (.int .i64 ((clD d s:Nat):Int))) (hb:Below w.heap.size w W) =>
  ZiB ((clD d 0:Nat):Int) bc w.heap.size (nxM d) (den d) (fun x=>0≤x∧x<(d.next.length:Int)) d.next.length W
   (by have:=(Zbm (d:=d) 0 (by omega)).1;omega)
   (fun x c hc hx=>by have h2:=(ZbT (Zaz hd) (s:=x.toNat) (c:=c) (by omega) hc).1;have h3:=(Zbm (d:=d) (nxD d x.toNat c) h2).1;unfold nxM;omega)
   (fun x hx=>by unfold fitI;omega) (by omega) (by omega) hFl
   (fun x c w' hx hc hb'=>by obtain⟨n,rfl⟩:∃ n:Nat,x=(n:Int):=⟨x.toNat,by omega⟩;exact Zpg d (clD d) b1 o1 cv b2 o2 cw bc w.heap.size g cg n c w' ((hC.below hb).below hb') (by omega) hc (hbx.below hb' hbx.lt) (hbc.below hb' hbc.lt) (fun s hs=>(bcell hb' g _ hg).trans (hcl s hs)))
   (fun x w' hx hb'=>by obtain⟨n,rfl⟩:∃ n:Nat,x=(n:Int):=⟨x.toNat,by omega⟩;exact Zpf d b1 o1 cv b2 o2 cw w.heap.size n w' ((hC.below hb).below hb') (by omega) (hbx.below hb' hbx.lt))
 obtain⟨F,hF⟩:=eI ((bat (nxM d) ((clD d 0:Nat):Int) d.next.length).met);rw[← hF] at hex hFl;have htr:minD d=⟨F.map (Zaf (nxM d) F),F.map (den d)⟩:=by unfold minD;rw[← hF];rfl
 rw[htr];have hsm:=fun (W:World) (hb:Below w.heap.size w W)=>Zg0 d (.agg #[.slice (some ⟨b1,o1,none⟩) d.next.length cv,.slice (some ⟨b2,o2,none⟩) d.next.length cw]) W hd (HR.out.below hb)
 unfold RCl at hsm;obtain⟨L,hL⟩:=eI (d.next.length);obtain⟨C,hK⟩:=eI (clD d);rw[← hL,← hK] at hex hsm;rw[← hL] at hS0 hFl hl1 hl2;rw[← hL];obtain⟨k0,hk0⟩:=eI (C 0);rw[← hk0] at hex;have Hex:=qh hex;have Hsm:=qh hsm;replace hS0:=qh hS0;replace hF:=qh hF;have Hhtr:=qh htr;clear htr;have HhL:=qh hL;clear hL;have HhK:=qh hK;clear hK;have Hhk0:=qh hk0;clear hk0;clear hex hsm hC h
 go_enter Tryz.func40, Tryz.ntmps40
 have e0:=hS0.out.cell (v:=.slice (some ⟨b1,o1,none⟩) L cv) 0 0 rfl rfl;have e1:=hS0.out.cell (v:=.slice (some ⟨b2,o2,none⟩) L cw) 0 1 rfl rfl;go_wp2_with fail;refine(Hsm.out _ hS0.out.bel).mono ?_;rintro e w1 ⟨g,cg,rfl,hS'⟩;have hS2:=(hS0.out.cat hS').alloc _ rfl #[.slice (some ⟨g,0,none⟩) L cg] 59;have HS:=qh hS2;clear hS2 hS' e0 e1;go_wp2;have hc0:=Za0 (n:=L) (s:=0) C (by omega);rw[← Hhk0.out] at hc0;have hL0:(0:Int)<L:=by omega
 have hL00:0<L:=by omega
 have Hhc0:=qh hc0;clear hc0;refine wp_region_any (by kernel_rfl) ?_
 refine Zao (fun A listed a w'=>∃ (l0 l1 l2 l3 l4 l5 l6 l7 l8 l9 l10 l11 l12 l13 l14 l15 l16:Bool) (a1:Option Addr) (c1:Nat) (a2:Option Addr) (c2:Nat) (a3:Option Addr) (c3:Nat) (vs:List Value) (b:Nat),listed=#[l0,l1,l2,l3,l4,l5,l6,l7,l8,l9,l10,l11,l12,l13,l14,l15,l16]∧(l8=true→l7=true∧l6=true)∧(l9=true→l8=true∧l7=true)∧(l10=true→l9=true∧l8=true)∧(l11=true→l9=true∧l8=true)∧(l14=true→l10=true∧l13=true)∧(l15=true→l11=true∧l14=true) ∧
   a=⟨((((((((((((((((A.tmps.setIfInBounds 10 (if l0=true then .slice (some ⟨g,0,none⟩) L cg else A.tmps.getD 10 undef)).setIfInBounds 11 (if l1=true then .pointer (some ⟨g,0,none⟩) else A.tmps.getD 11 undef)).setIfInBounds 12 (if l2=true then .int .i64 ((k0:Nat):Int) else A.tmps.getD 12 undef)).setIfInBounds 13 (if l3=true then .pointer (some ⟨w.heap.size,0,none⟩) else A.tmps.getD 13 undef)).setIfInBounds 14 (if l4=true then .slice (some ⟨b1,o1,none⟩) L cv else A.tmps.getD 14 undef)).setIfInBounds 15 (if l5=true then .int .i64 (L:Int) else A.tmps.getD 15 undef)).setIfInBounds 16 (if l6=true then .func (.func 78) #[] #[.pointer (some ⟨w1.heap.size,0,none⟩),.pointer (some ⟨w.heap.size,0,none⟩)] else A.tmps.getD 16 undef)).setIfInBounds 17 (if l7=true then .func (.func 79) #[] #[.pointer (some ⟨w.heap.size,0,none⟩)] else A.tmps.getD 17 undef)).setIfInBounds 18 (if l8=true then .tuple #[.agg #[.slice a1 F.length c1,.slice a2 F.length c2],.slice a3 F.length c3,.bool true] else A.tmps.getD 18 undef)).setIfInBounds 9 (if l9=true then .tuple #[.agg #[.slice a1 F.length c1,.slice a2 F.length c2],.slice a3 F.length c3,.bool true] else A.tmps.getD 9 undef)).setIfInBounds 19 (if l10=true then .agg #[.slice a1 F.length c1,.slice a2 F.length c2] else A.tmps.getD 19 undef)).setIfInBounds 20 (if l11=true then .slice a3 F.length c3 else A.tmps.getD 20 undef)).setIfInBounds 21 (if l12=true then .bool true else A.tmps.getD 21 undef)).setIfInBounds 4 (if l13=true then .pointer (some ⟨b,0,none⟩) else A.tmps.getD 4 undef)).setIfInBounds 5 (if l15=true then .slice a3 F.length c3 else A.tmps.getD 5 undef)).setIfInBounds 6 (if l16=true then .bool true else A.tmps.getD 6 undef)),A.defers⟩ ∧
   St w w' [Ent.box w.heap.size #[.slice (some ⟨b1,o1,none⟩) L cv,.slice (some ⟨b2,o2,none⟩) L cw] 32,Ent.box (w.heap.size+1) #[.slice none 0 0,.slice none 0 0] 32,Ent.row 3 1 (.slice (some ⟨g,0,none⟩) L cg) L (intCells (clsL L C)),Ent.box w1.heap.size #[.slice (some ⟨g,0,none⟩) L cg] 59,(if l13=true then Ent.box b (if l14=true then #[.slice a1 F.length c1,.slice a2 F.length c2] else #[.slice none 0 0,.slice none 0 0]) 32 else Ent.nil),(if l8=true then Ent.rows 59 3 (.slice a1 F.length c1) vs ((F.map (Zaf (nxM d) F)).map intCells) else Ent.nil),(if l8=true then Ent.row 4 1 (.slice a2 F.length c2) F.length (boolCells (F.map (den d))) else Ent.nil),(if l8=true then Ent.row 3 1 (.slice a3 F.length c3) F.length (intCells F) else Ent.nil)]) ?_ ?_ ?_
 ·rintro listed a w' ⟨l0,l1,l2,l3,l4,l5,l6,l7,l8,l9,l10,l11,l12,l13,l14,l15,l16,a1,c1,a2,c2,a3,c3,vs,b,rfl,hd8,hd9,hd10,hd11,hd14,hd15,rfl,hS⟩ i hi;obtain⟨hun,o,ho,hall⟩:=mem_ready.1 hi;have hlt:=(Array.getElem?_eq_some_iff.1 ho).1;refine wpOp_step ho (fun K hK => ?_);clear hi;have HS:=qh hS;clear hS;simp only[w_1,w_2,w_3,w_4,w_5,w_6,w_7,w_8];obtain h|h|h|h|h|h|h|h|h|h|h|h|h|h|h|h|h:i=0∨i=1∨i=2∨i=3∨i=4∨i=5∨i=6∨i=7∨i=8∨i=9∨i=10∨i=11∨i=12∨i=13∨i=14∨i=15∨i=16:=by simp at hlt;omega
  all_goals subst h
  all_goals simp only[w_5,w_6,w_7,w_9] at ho
  all_goals subst ho
  all_goals simp[Region.binds] at hun hall
  ·subst hun;have e0:=HS.out.cell (v:=.slice (some ⟨g,0,none⟩) L cg) 3 0 rfl rfl;go_simp;exact hK _ _ ⟨_,_,_,_,_,_,_,_,_,_,_,_,_,_,_,_,_,a1,c1,a2,c2,a3,c3,vs,b,rfl,hd8,hd9,hd10,hd11,hd14,hd15,(by simp),HS.out⟩
  ·obtain rfl:=hall;subst hun;go_simp;exact hK _ _ ⟨_,_,_,_,_,_,_,_,_,_,_,_,_,_,_,_,_,a1,c1,a2,c2,a3,c3,vs,b,rfl,hd8,hd9,hd10,hd11,hd14,hd15,(by simp),HS.out⟩
  ·obtain rfl:=hall;subst hun;have e0:=HS.out.rcell (v:=.int .i64 ((k0:Nat):Int)) 2 0 rfl (by omega) Hhc0.out;go_simp;exact hK _ _ ⟨_,_,_,_,_,_,_,_,_,_,_,_,_,_,_,_,_,a1,c1,a2,c2,a3,c3,vs,b,rfl,hd8,hd9,hd10,hd11,hd14,hd15,(by simp),HS.out⟩
  ·subst hun;go_simp;exact hK _ _ ⟨_,_,_,_,_,_,_,_,_,_,_,_,_,_,_,_,_,a1,c1,a2,c2,a3,c3,vs,b,rfl,hd8,hd9,hd10,hd11,hd14,hd15,(by simp),HS.out⟩
  ·obtain rfl:=hall;subst hun;have e0:=HS.out.cell (v:=.slice (some ⟨b1,o1,none⟩) L cv) 0 0 rfl rfl;go_simp;exact hK _ _ ⟨_,_,_,_,_,_,_,_,_,_,_,_,_,_,_,_,_,a1,c1,a2,c2,a3,c3,vs,b,rfl,hd8,hd9,hd10,hd11,hd14,hd15,(by simp),HS.out⟩
  ·obtain rfl:=hall;subst hun;go_simp;exact hK _ _ ⟨_,_,_,_,_,_,_,_,_,_,_,_,_,_,_,_,_,a1,c1,a2,c2,a3,c3,vs,b,rfl,hd8,hd9,hd10,hd11,hd14,hd15,(by simp),HS.out⟩
  ·subst hun;obtain rfl:l8=false:=offR hd8 rfl;obtain rfl:l9=false:=offL hd9 rfl;obtain rfl:l10=false:=offL hd10 rfl;obtain rfl:l11=false:=offL hd11 rfl;obtain rfl:l14=false:=offL hd14 rfl;obtain rfl:l15=false:=offL hd15 rfl;go_simp;exact hK _ _ ⟨_,_,_,_,_,_,_,_,_,_,_,_,_,_,_,_,_,a1,c1,a2,c2,a3,c3,vs,b,rfl,by simp,by simp,by simp,by simp,by simp,by simp,(by simp),HS.out⟩
  ·subst hun;obtain rfl:l8=false:=offL hd8 rfl;obtain rfl:l9=false:=offL hd9 rfl;obtain rfl:l10=false:=offL hd10 rfl;obtain rfl:l11=false:=offL hd11 rfl;obtain rfl:l14=false:=offL hd14 rfl;obtain rfl:l15=false:=offL hd15 rfl;go_simp;exact hK _ _ ⟨_,_,_,_,_,_,_,_,_,_,_,_,_,_,_,_,_,a1,c1,a2,c2,a3,c3,vs,b,rfl,by simp,by simp,by simp,by simp,by simp,by simp,(by simp),HS.out⟩
  ·obtain⟨rfl,rfl,rfl,rfl⟩:=hall;subst hun;obtain rfl:l9=false:=offL hd9 rfl;obtain rfl:l10=false:=offL hd10 rfl;obtain rfl:l11=false:=offL hd11 rfl;obtain rfl:l14=false:=offL hd14 rfl;obtain rfl:l15=false:=offL hd15 rfl;go_simp
   go_at_call 74
   refine(Hex.out _ _ _ _ (HS.out.box 0 rfl) (HS.out.box 3 rfl) (HS.out.rowlt 2 rfl).2 (fun x hx=>HS.out.rcell 2 x rfl (by omega) (Za0 C hx)) HS.out.bel).mono ?_;rintro e u1 ⟨a1,c1,a2,c2,a3,c3,vs,rfl,hSx⟩;have hS2:=(HS.out.cat hSx).pick [0,1,2,3,4,8,9,10] (by decide);have HhS2:=qh hS2;clear hS2;go_simp;exact hK _ _ ⟨_,_,_,_,_,_,_,_,_,_,_,_,_,_,_,_,_,a1,c1,a2,c2,a3,c3,vs,b,rfl,by simp,by simp,by simp,by simp,by simp,by simp,(by simp),HhS2.out⟩
  ·obtain rfl:=hall;subst hun;obtain⟨rfl,rfl⟩:=hd8 rfl;obtain rfl:l10=false:=offL hd10 rfl;obtain rfl:l11=false:=offL hd11 rfl;obtain rfl:l14=false:=offL hd14 rfl;obtain rfl:l15=false:=offL hd15 rfl;go_simp;exact hK _ _ ⟨_,_,_,_,_,_,_,_,_,_,_,_,_,_,_,_,_,a1,c1,a2,c2,a3,c3,vs,b,rfl,by simp,by simp,by simp,by simp,by simp,by simp,(by simp),HS.out⟩
  ·obtain rfl:=hall;subst hun;obtain⟨rfl,rfl⟩:=hd9 rfl;obtain⟨-,rfl⟩:=hd8 rfl;obtain rfl:l14=false:=offL hd14 rfl;obtain rfl:l15=false:=offR hd15 rfl;go_simp;exact hK _ _ ⟨_,_,_,_,_,_,_,_,_,_,_,_,_,_,_,_,_,a1,c1,a2,c2,a3,c3,vs,b,rfl,by simp,by simp,by simp,hd11,by simp,by simp,(by simp),HS.out⟩
  ·obtain rfl:=hall;subst hun;obtain⟨rfl,rfl⟩:=hd9 rfl;obtain⟨-,rfl⟩:=hd8 rfl;obtain rfl:l15=false:=offL hd15 rfl;go_simp;exact hK _ _ ⟨_,_,_,_,_,_,_,_,_,_,_,_,_,_,_,_,_,a1,c1,a2,c2,a3,c3,vs,b,rfl,by simp,by simp,hd10,by simp,hd14,by simp,(by simp),HS.out⟩
  ·obtain rfl:=hall;subst hun;obtain⟨rfl,rfl⟩:=hd9 rfl;obtain⟨-,rfl⟩:=hd8 rfl;go_simp;exact hK _ _ ⟨_,_,_,_,_,_,_,_,_,_,_,_,_,_,_,_,_,a1,c1,a2,c2,a3,c3,vs,b,rfl,by simp,by simp,hd10,hd11,hd14,hd15,(by simp),HS.out⟩
  ·subst hun;obtain rfl:l14=false:=offR hd14 rfl;obtain rfl:l15=false:=offR hd15 rfl;have hS2:=(HS.out.alloc _ rfl #[.slice none 0 0,.slice none 0 0] 32).pick [0,1,2,3,8,5,6,7] (by decide);have HhS2:=qh hS2;clear hS2;go_simp;exact hK _ _ ⟨_,_,_,_,_,_,_,_,_,_,_,_,_,_,_,_,_,a1,c1,a2,c2,a3,c3,vs,_,rfl,hd8,hd9,hd10,hd11,by simp,by simp,(by simp),HhS2.out⟩
  ·obtain⟨rfl,rfl,rfl,rfl,rfl,rfl,rfl,rfl,rfl,rfl,rfl,-,rfl,-⟩:=hall;subst hun;obtain rfl:l15=false:=offR hd15 rfl;have f0:=HS.out.fr 4 0 rfl;have f1:=HS.out.fr 4 1 rfl;have k0:=HS.out.cell (v:=.slice none 0 0) 4 0 rfl rfl;have k1:=HS.out.cell (v:=.slice none 0 0) 4 1 rfl rfl;go_simp;exact hK _ _ ⟨_,_,_,_,_,_,_,_,_,_,_,_,_,_,_,_,_,a1,c1,a2,c2,a3,c3,vs,b,rfl,by simp,by simp,by simp,hd11,by simp,by simp,(by simp),((HS.out.set 4 rfl 0 (.slice a1 F.length c1)).set 4 rfl 1 (.slice a2 F.length c2))⟩
  ·obtain⟨rfl,rfl,rfl,rfl,rfl,rfl,rfl,rfl,rfl,rfl,rfl,rfl,rfl,-,rfl,-⟩:=hall;subst hun;go_simp;exact hK _ _ ⟨_,_,_,_,_,_,_,_,_,_,_,_,_,_,_,_,_,a1,c1,a2,c2,a3,c3,vs,b,rfl,by simp,by simp,by simp,by simp,by simp,by simp,(by simp),HS.out⟩
  obtain⟨rfl,rfl,rfl,rfl,rfl,rfl,rfl,rfl,rfl,rfl,rfl,rfl,rfl,rfl,-,rfl,rfl,-⟩:=hall;subst hun;go_simp;exact hK _ _ ⟨_,_,_,_,_,_,_,_,_,_,_,_,_,_,_,_,_,a1,c1,a2,c2,a3,c3,vs,b,rfl,by simp,by simp,by simp,by simp,by simp,by simp,(by simp only[↓reduceIte,w_1,w_2,w_3]),HS.out⟩
 ·rintro listed a w' ⟨l0,l1,l2,l3,l4,l5,l6,l7,l8,l9,l10,l11,l12,l13,l14,l15,l16,a1,c1,a2,c2,a3,c3,vs,b,rfl,hd8,hd9,hd10,hd11,hd14,hd15,rfl,hS⟩ hr;obtain⟨rfl,rfl,rfl,rfl,rfl,rfl,rfl,rfl,rfl,rfl,rfl,rfl,rfl,rfl,rfl,rfl,rfl,-⟩:=zA (ZaG (by kernel_rfl) rfl hr) rfl;clear hr hd8 hd9 hd10 hd11 hd14 hd15;simp only[↓reduceIte] at hS ⊢;simp only[w_1,w_2,w_3];have d0:=hS.cell (v:=.slice a1 F.length c1) 4 0 rfl rfl;have d1:=hS.cell (v:=.slice a2 F.length c2) 4 1 rfl rfl;have f0:=hS.fr 1 0 rfl;have f1:=hS.fr 1 1 rfl;have k0:=hS.cell (v:=.slice none 0 0) 1 0 rfl rfl;have k1:=hS.cell (v:=.slice none 0 0) 1 1 rfl rfl;have HS9:=qh hS;clear hS;go_wp2;have hq:=(HS9.out.set 1 rfl 0 (.slice a1 F.length c1)).set 1 rfl 1 (.slice a2 F.length c2);have q0:=hq.cell (v:=.slice a1 F.length c1) 1 0 rfl rfl;have q1:=hq.cell (v:=.slice a2 F.length c2) 1 1 rfl rfl;refine bodyPost_ret (v:=.agg #[.slice a1 F.length c1,.slice a2 F.length c2]) (by simp[results,Tryz.results40,go_sem,q0,q1]) rfl ?_;refine⟨a1,c1,a2,c2,by simp only[List.length_map],⟨.slice a1 F.length c1,.slice a2 F.length c2,by simp only[List.length_map],hq.intSS 5 rfl,?_⟩,hq.bel⟩;have hb:=Zaa (hq.row 6 rfl);unfold OBools;simpa only [List.length_map] using hb
 refine⟨false,false,false,false,false,false,false,false,false,false,false,false,false,false,false,false,false,none,0,none,0,none,0,[],0,rfl,by simp,by simp,by simp,by simp,by simp,by simp,(by simp),?_⟩;exact HS.out.drew.pick [0,1,2,3,4,5,6,7] (by decide)
def dif (a b:Nat→Nat) (j k:Nat):Bool:=decide (a j=a k) != decide (b j=b k)
def difs (a b:Nat→Nat) (k m:Nat):Bool:=(List.range m).any fun j=>dif a b j k
def difK (a b:Nat→Nat) (k:Nat):Bool:=(List.range k).any fun x=>difs a b x x
theorem Zog (a b:Nat→Nat) (k m:Nat):difs a b k (m+1)=(difs a b k m||dif a b m k):=by unfold difs;rw[List.range_succ,List.any_append];simp
theorem Zoh (a b:Nat→Nat) (k:Nat):difK a b (k+1)=(difK a b k||difs a b k k):=by unfold difK;rw[List.range_succ,List.any_append];simp
theorem Zmv {a b:Nat→Nat} {n:Nat}:difK a b n=false↔∀ k j,k<n→j<k→(a j=a k↔b j=b k):=by
 constructor
 ·intro h k j hk hj;have h1:difs a b k k=false:=by simpa using List.any_eq_false.1 h k (List.mem_range.2 hk)
  have h2:dif a b j k=false:=by simpa using List.any_eq_false.1 h1 j (List.mem_range.2 hj)
  simpa [dif] using h2
 intro h;refine List.any_eq_false.2 fun k hk => ?_
 simp only[Bool.not_eq_true];refine List.any_eq_false.2 fun j hj => ?_
 simp only[Bool.not_eq_true];have:=h k j (List.mem_range.1 hk) (List.mem_range.1 hj);simpa [dif] using this
def apart (n:Nat) (cl:Nat→Nat):Nat:=((List.range (n*n)).filter fun x=>decide (cl (x / n)≠cl (x % n))).length
theorem ZlJ (n:Nat) (cl:Nat→Nat):apart n cl≤n*n:=by have:=List.length_filter_le (fun x=>decide (cl (x / n)≠cl (x % n))) (List.range (n*n));simpa [apart] using this
theorem ZmB {n:Nat} {nx:Nat→Nat→Nat} {cl:Nat→Nat} {j k:Nat} (hj:j<n) (hk:k<n) (h0:cl j=cl k) (h1:Zat n nx cl j≠Zat n nx cl k):apart n cl<apart n (Zat n nx cl):=by
 have hn:0<n:=by omega
 have e1:(k+n*j) / n=j:=by rw[Nat.add_mul_div_left _ _ hn,Nat.div_eq_of_lt hk,Nat.zero_add]
 have e2:(k+n*j) % n=k:=by rw[Nat.add_mul_mod_self_left,Nat.mod_eq_of_lt hk]
 refine ZdD (a:=k+n*j) (by rw[e1,e2];simpa using h0) (by rw[e1,e2];simpa using h1) ?_ fun x hx h => ?_
 ·rw[List.mem_range]
  have:n*j+n≤n*n:=by
   have:=Nat.mul_le_mul_left n (show j+1≤n by omega)
   rwa [Nat.mul_add,Nat.mul_one] at this
  omega
 have hx:=List.mem_range.1 hx;have h2:x / n<n:=(Nat.div_lt_iff_lt_mul hn).2 hx;have h3:x % n<n:=Nat.mod_lt _ hn;simp only[decide_eq_true_eq] at h ⊢;intro he;exact h ((Zay nx).1 ((ZbK h2 h3).1 he)).1
theorem ZkM {n:Nat} {nx:Nat→Nat→Nat} {en:Nat→Bool} (hnx:∀ s c,s<n→c<3→nx s c<n) {i:Nat} (h:¬ stays n nx en i):apart n (clR n nx en i)<apart n (clR n nx en (i+1)):=by
 have hp:=Zhm hnx en i;have hex:∃ k j,k<n∧j<k∧¬ (clR n nx en i j=clR n nx en i k↔clR n nx en (i+1) j=clR n nx en (i+1) k):=by apply Classical.byContradiction;intro hc;refine h (hp.2 fun k j hk hj => ?_);apply Classical.byContradiction;intro hcx;exact hc ⟨k,j,hk,hj,hcx⟩
 obtain⟨k,j,hk,hj,hne⟩:=hex;have hdown:clR n nx en (i+1) j=clR n nx en (i+1) k→clR n nx en i j=clR n nx en i k:=fun he=>((Zay nx).1 ((ZbK (by omega) hk).1 he)).1
 by_cases h0:clR n nx en i j=clR n nx en i k
 ·refine ZmB (j:=j) (k:=k) (by omega) hk h0 fun h1=>hne ⟨fun _=>h1,fun _=>h0⟩
 exact absurd ⟨fun h1=>absurd h1 h0,fun h1=>absurd (hdown h1) h0⟩ hne
def ZoI (w:World) (b n:Nat):Nat:=((List.range (n*n)).filter fun x=>decide (Zl1 w b (x / n)≠Zl1 w b (x % n))).length
theorem ZjS {w:World} {b n:Nat} {cl:Nat→Nat} (h:∀ s,s<n→w.cell? ⟨b,s,none⟩=some (.int .i64 ((cl s:Nat):Int))):ZoI w b n=apart n cl:=by
 unfold ZoI apart;congr 1;refine List.filter_congr fun x hx => ?_
 have hx:=List.mem_range.1 hx
 have hn:0<n:=by
  rcases Nat.eq_zero_or_pos n with e|e
  ·rw[e] at hx;simp at hx
  exact e
 rw[Zdg (h _ ((Nat.div_lt_iff_lt_mul hn).2 hx)),Zdg (h _ (Nat.mod_lt _ hn))]
theorem Zo1 {l:List Value} {k:Nat} {x y:Value} (h:l.length=k):(l++[x]).set k y=l++[y]:=by rw[List.set_append_right _ _ (by omega),show k-l.length=0 by omega];rfl
theorem Zg4 (d:DfaD) (v:Value) (w:World) (hd:Zae d.next d.ends=true) (h:DfaR 0 w v d) :
  Calls Tryz.prog 90 #[v] w fun e w'=>RCl d w e w':=by
 obtain⟨b1,o1,cv,b2,o2,cw,rfl,hC⟩:=ZbP hd h;have hnx:∀ s c,s<d.next.length→c<3→nxD d s c<d.next.length:=fun s c hs hc=>hC.lt s c hs hc
 obtain⟨N,hN,hNs,hNo⟩:=ZhT (n:=d.next.length) (nx:=nxD d) (enD d);have hap:=fun (i:Nat) (h:¬ stays d.next.length (nxD d) (enD d) i)=>ZkM hnx h
 have hpt:=fun (i:Nat)=>Zhm hnx (enD d) i
 obtain⟨C,hCC⟩:=eI (clR d.next.length (nxD d) (enD d));rw[← hCC] at hap hpt;have hfin:∀ s,s<d.next.length→C (N+1) s=clD d s:=fun s hs=>by rw[hCC,(Zly hnx (enD d) (N+1)).2 (by omega) s hs,hNs s hs];exact(ZlA hnx hN hNs hs).symm
 have hgood:GoodC d.next.length (C (N+1)):=by rw[hCC];exact Zd5
 have hc0:∀ s,C 0 s=if enD d s=true then 1 else 0:=fun s=>by rw[hCC];rfl
 have hstep:∀ i,C (i+1)=Zat d.next.length (nxD d) (C i):=fun i=>by rw[hCC];rfl
 obtain⟨L,hL⟩:=eI (d.next.length);have hl1:=hC.l1;have hl2:=hC.l2;have hS0:=(((St.start w).alloc _ rfl #[.slice (some ⟨b1,o1,none⟩) L cv,.slice (some ⟨b2,o2,none⟩) L cw] 32).alloc (w.heap.size+1) (by simp) #[] 3).boxrow 1 0 1 [] rfl rfl (Nat.zero_le _);unfold RCl;rw[← hL] at hl1 hl2 hN hgood hfin hap hpt hstep;rw[← hL];obtain⟨i0,hi,hz0,hz1,hz2⟩:=info_parts Tryz.infoInt;have HC:=qh hC;have Hgood:=qh hgood;have Hc0:=qh hc0;have Hfin:=qh hfin;have HNo:=qh hNo;have HNs:=qh hNs;have Hap:=qh hap;have Hpt:=qh hpt;have Hstep:=qh hstep;replace hS0:=qh hS0;replace hL:=qh hL;replace hCC:=qh hCC;have Hhi:=qh hi;clear hi;have Hhz0:=qh hz0;clear hz0;have Hhz1:=qh hz1;clear hz1;have Hhz2:=qh hz2;clear hz2;clear hC hgood hc0 hfin hNo hNs hnx hap hpt hstep h
 go_enter Tryz.func90, Tryz.ntmps90
 go_wp2
 go_loopw [3,4] (fun vc i wr=>∃ (k g c:Nat),i = .int .i64 k∧vc = .slice (some ⟨g,0,none⟩) k c∧k≤L∧St w wr [Ent.box w.heap.size #[.slice (some ⟨b1,o1,none⟩) L cv,.slice (some ⟨b2,o2,none⟩) L cw] 32,Ent.row 3 1 (.slice (some ⟨g,0,none⟩) k c) k (intCells (clsL k (C 0)))]) (fun _ i _=>L-(intOf i).toNat)
 case atStart=>exact⟨0,_,_,rfl,rfl,Nat.zero_le _,hS0.out⟩
 case round =>
  obtain⟨k,g,c,rfl,rfl,hk,hS⟩:=hrel;have e0:=hS.cell (v:=.slice (some ⟨b1,o1,none⟩) L cv) 0 0 rfl rfl;by_cases hlt:k<L
  ·have hlt2:(k:Int)<L:=by omega
   have hkn:k<d.next.length:=by have:=hL.out;omega
   have hen:=HC.out.en k hkn;have hck:=Hc0.out k;have hcs:=ZeH k (C 0);have hil:(intCells (clsL k (C 0))).length=k:=by simp[intCells,Zbx]
   obtain⟨z,hz⟩:=eI (enD d k);rw[← hz] at hen hck;have hSa:=hS.alloc_ (.cells #[.int .i64 0] 3);have hR:=hSa.row 1 rfl;have Hen:=qh hen;have HhS:=qh hS;clear hS;have HhSa:=qh hSa;clear hSa;have HhR:=qh hR;clear hR;have Hhz:=qh hz;clear hz;have Hhck:=qh hck;clear hck;have Hhcs:=qh hcs;clear hcs;have Hhil:=qh hil;clear hil;clear hen;cases z
   all_goals go_wp2_with (at_builtin;refine wpList_append_lies _ rfl _ _ _ rfl _ 3 i0 (.int .i64 0) 1 8 Tryz.underlying59 Hhi.out Hhz0.out Hhz1.out Hhz2.out rfl (by omega) _ k _ rfl HhR.out ⟨wr.heap.size,0,none⟩ 1 1 [.int .i64 0] rfl rfl (World.news_of_block (heap_alloc_new wr _)) Zbn (by omega) (by unfold maxLen;omega) (by omega) HhSa.out.size _ rfl ?_;intro g6 c6 w6 hown6 hgrow6 hat6 hlt6;have HS6:=qh (HhSa.out.app 1 rfl hown6 hgrow6 hat6);have e1:=HS6.out.cell (v:=.slice (some ⟨b2,o2,none⟩) L cw) 0 1 rfl rfl;have e2:=(bcell HS6.out.bel b2 _ HC.out.hb2).trans Hen.out;have f6:=HS6.out.rfr 1 k rfl;have e6:=HS6.out.rcell (v:=.int .i64 0) 1 k rfl (by omega) (by rw[List.getElem?_append_right (by rw[Hhil.out];exact Nat.le_refl _),Hhil.out,Nat.sub_self];rfl);clear hown6 hgrow6 hat6 hlt6)
   ·go_roundw
    case rel =>refine⟨k+1,g6,c6,by go_num,rfl,by omega,?_⟩;have hck:C 0 k=0:=Hhck.out;rw[Hhcs.out,Zax,hck];exact HS6.out
    case measure=>simp[intOf];omega
   go_roundw
   case rel =>refine⟨k+1,g6,c6,by go_num,rfl,by omega,?_⟩;have hck:C 0 k=1:=Hhck.out;have h:=HS6.out.store 1 rfl k (.int .i64 1);rw[Zo1 Hhil.out] at h;rw[Hhcs.out,Zax,hck];exact h
   case measure=>simp[intOf];omega
  obtain rfl:L=k:=by omega
  have HS2:=qh hS;clear hS;go_wp2
  go_loopw [3,5] (fun vc va wr=>∃ (i gc cc:Nat) (ag:Bool),vc = .slice (some ⟨gc,0,none⟩) L cc∧va = .bool ag∧((ag=true∧i≤N)∨(ag=false∧i=N+1)) ∧
    St w wr [Ent.box w.heap.size #[.slice (some ⟨b1,o1,none⟩) L cv,.slice (some ⟨b2,o2,none⟩) L cw] 32,Ent.row 3 1 (.slice (some ⟨gc,0,none⟩) L cc) L (intCells (clsL L (C i)))])
   (fun vc va wr=>if Zmi va=true then L*L+1-ZoI wr (Zfb vc) L else 0)
  case atStart=>exact⟨0,_,_,true,rfl,rfl,Or.inl ⟨rfl,Nat.zero_le _⟩,HS2.out⟩
  case round =>
   obtain⟨i,gc,cc,ag,rfl,rfl,hag,hS⟩:=hrel;obtain⟨wo,hwo⟩:∃ wo:World,wo=wr:=⟨_,rfl⟩;subst hwo;rcases hag with⟨rfl,hiN⟩|⟨rfl,rfl⟩
   ·have hSn:=(hS.alloc _ rfl #[] 3).boxrow 2 0 1 [] rfl rfl (Nat.zero_le _);have HS3:=qh hS;have HS4:=qh hSn;have hcells:∀ (w':World) (_:St w w' [Ent.box w.heap.size #[.slice (some ⟨b1,o1,none⟩) L cv,.slice (some ⟨b2,o2,none⟩) L cw] 32,Ent.row 3 1 (.slice (some ⟨gc,0,none⟩) L cc) L (intCells (clsL L (C i)))]) x,x<L→w'.cell? ⟨gc,x,none⟩=some (.int .i64 ((C i x:Nat):Int)):=fun w' h' x hx=>h'.rcell 1 x rfl (by omega) (Za0 (C i) hx)
    have hm0:=ZjS (w:=wo) (b:=gc) (n:=L) (cl:=C i) (hcells wo hS);have Hcells:=qh hcells;have Hm0:=qh hm0;clear hS hSn hcells hm0;go_wp2
    go_loopw [6,7] (fun vn j wi=>∃ (k gn cn:Nat),j = .int .i64 k∧vn = .slice (some ⟨gn,0,none⟩) k cn∧k≤L∧St w wi [Ent.box w.heap.size #[.slice (some ⟨b1,o1,none⟩) L cv,.slice (some ⟨b2,o2,none⟩) L cw] 32,Ent.row 3 1 (.slice (some ⟨gc,0,none⟩) L cc) L (intCells (clsL L (C i))),Ent.row 3 1 (.slice (some ⟨gn,0,none⟩) k cn) k (intCells (clsL k (C (i+1))))]) (fun _ j _=>L-(intOf j).toNat)
    case atStart=>exact⟨0,_,_,rfl,rfl,Nat.zero_le _,HS4.out⟩
    case round =>
     obtain⟨k,gn,cn,rfl,rfl,hk,hS⟩:=hrel;by_cases hlt:k<L
     ·have HS5:=qh hS;have hlt2:(k:Int)<L:=by omega
      have hkn:k<d.next.length:=by have:=hL.out;omega
      clear hS;go_wp2
      go_loopw [8,9] (fun vs j wj=>∃ (m x:Nat),vs = .int .i64 x∧j = .int .i64 ((m:Int)-1)∧m≤k∧lowK L (nxD d) (C i) k m x∧x≤L∧St w wj [Ent.box w.heap.size #[.slice (some ⟨b1,o1,none⟩) L cv,.slice (some ⟨b2,o2,none⟩) L cw] 32,Ent.row 3 1 (.slice (some ⟨gc,0,none⟩) L cc) L (intCells (clsL L (C i))),Ent.row 3 1 (.slice (some ⟨gn,0,none⟩) k cn) k (intCells (clsL k (C (i+1))))]) (fun _ j _=>(intOf j+1).toNat)
      case atStart=>exact⟨k,k,rfl,rfl,Nat.le_refl _,Zl5 _ _,by omega,HS5.out⟩
      case round =>
       obtain⟨m,x,rfl,rfl,hm,hlow,hxL,hS⟩:=hrel;obtain⟨wm,hwm⟩:∃ wm:World,wm=wr:=⟨_,rfl⟩;subst hwm;by_cases hm0:0<m
       ·obtain⟨j,rfl⟩:∃ j,m=j+1:=⟨m-1,by omega⟩;rw[show(((j+1:Nat):Int)-1)=(j:Int) by omega];have hjk:j<k:=by omega
        have hjL:j<L:=by omega
        have hj0:(0:Int)≤j:=by omega
        have hjI:(j:Int)<L:=by omega
        have hjkI:(j:Int)<k:=by omega
        have hjn:j<d.next.length:=by omega
        obtain⟨b3,o3,c3,hb3,-,-,r1,r2⟩:=HC.out.row j hjn;obtain⟨b4,o4,c4,hb4,-,-,r3,r4⟩:=HC.out.row k hkn;have c1:=Hcells.out _ (hS.pick [0,1] (by decide)) j hjL;have c2:=Hcells.out _ (hS.pick [0,1] (by decide)) k hlt;obtain⟨z0,hz0⟩:=eI (decide (C i j=C i k));obtain⟨p,hp⟩:=eI (C i j);obtain⟨q,hq⟩:=eI (C i k);rw[← hp] at c1;rw[← hq] at c2;have g1:((p:Int)==(q:Int))=z0:=by rw[hz0,hp,hq,Bool.eq_iff_iff];simp only[beq_iff_eq,decide_eq_true_eq];omega
        have g2:decide ((p:Int)=(q:Int))=z0:=by rw[hz0,hp,hq,decide_eq_decide];omega
        have HS6:=qh hS;have Hlow:=qh hlow;have Hr1:=qh r1;have Hr2:=qh r2;have Hr3:=qh r3;have Hr4:=qh r4;have Hhz0:=qh hz0;clear hz0;have Hhp:=qh hp;clear hp;have Hhq:=qh hq;clear hq;clear hS hlow r1 r2 r3 r4;go_wp2
        go_quiet (fail)
        go_wp2;have HS7:=qh (HS6.out.drewN nq);clear HS6 c1 c2 g1 g2
        go_loopw [10,11] (fun vz ic wc=>∃ c:Nat,ic = .int .i64 c∧c≤3∧vz = .bool (z0&&Zd2 d (C i) j k c)∧St w wc [Ent.box w.heap.size #[.slice (some ⟨b1,o1,none⟩) L cv,.slice (some ⟨b2,o2,none⟩) L cw] 32,Ent.row 3 1 (.slice (some ⟨gc,0,none⟩) L cc) L (intCells (clsL L (C i))),Ent.row 3 1 (.slice (some ⟨gn,0,none⟩) k cn) k (intCells (clsL k (C (i+1))))]) (fun _ ic _=>3-(intOf ic).toNat)
        case atStart=>exact⟨0,rfl,by omega,by simp[Zd2],HS7.out⟩
        case round =>
         obtain⟨c,rfl,hc,rfl,hS⟩:=hrel;obtain⟨wc,hwc⟩:∃ wc:World,wc=wr:=⟨_,rfl⟩;subst hwc;by_cases hc3:c<3
         ·have hc4:(c:Int)<3:=by omega
          have hsu:=Zhr d (C i) j k c;obtain⟨z,hz⟩:=eI ((z0&&Zd2 d (C i) j k c));rw[← hz];have hnew:(z0&&Zd2 d (C i) j k (c+1))=(z&&decide (C i (nxD d j c)=C i (nxD d k c))):=by rw[hsu,hz,Bool.and_assoc]
          have e0:=hS.cell (v:=.slice (some ⟨b1,o1,none⟩) L cv) 0 0 rfl rfl;have e1:=(bcell hS.bel b1 _ HC.out.hb1).trans Hr1.out;have e2:=(bcell hS.bel b3 _ hb3).trans (Hr2.out c hc3);have e3:=(bcell hS.bel b1 _ HC.out.hb1).trans Hr3.out;have e4:=(bcell hS.bel b4 _ hb4).trans (Hr4.out c hc3);have hy1:=HC.out.lt j c hjn hc3;have hy2:=HC.out.lt k c hkn hc3;rw[← hL.out] at hy1 hy2;obtain⟨y1,hyy1⟩:=eI (nxD d j c);obtain⟨y2,hyy2⟩:=eI (nxD d k c);rw[← hyy1] at e2 hy1 hnew;rw[← hyy2] at e4 hy2 hnew;have e5:=Hcells.out _ (hS.pick [0,1] (by decide)) y1 hy1;have e6:=Hcells.out _ (hS.pick [0,1] (by decide)) y2 hy2;obtain⟨p1,hp1⟩:=eI (C i y1);obtain⟨p2,hp2⟩:=eI (C i y2);rw[← hp1] at e5 hnew;rw[← hp2] at e6 hnew;have hyI1:(y1:Int)<L:=by omega
          have hyI2:(y2:Int)<L:=by omega
          have HS8:=qh hS;have Hhyy1:=qh hyy1;clear hyy1;have Hhyy2:=qh hyy2;clear hyy2;have Hhp1:=qh hp1;clear hp1;have Hhp2:=qh hp2;clear hp2;have Hhz:=qh hz;clear hz;clear hS hsu;cases z
          ·have Hnew:=qh hnew;clear hnew;go_wp2
           go_quiet (fail)
           go_wp2;go_roundw
           case rel=>exact⟨c+1,by go_num,by omega,by rw[Hnew.out];rfl,HS8.out.drewN _⟩
           case measure=>simp[intOf];omega
          by_cases he:p1=p2
          ·have g1:((p1:Int)==(p2:Int))=true:=by rw[he];simp
           have g2:((p1:Int)=(p2:Int))=True:=by simp[he]
           rw[decide_eq_true he] at hnew;have Hnew:=qh hnew;have Hhe:=qh he;clear he;clear hnew;go_wp2
           go_quiet (fail)
           go_wp2;go_roundw
           case rel=>exact⟨c+1,by go_num,by omega,by rw[Hnew.out];rfl,HS8.out.drewN _⟩
           case measure=>simp[intOf];omega
          have g1:((p1:Int)==(p2:Int))=false:=by simp;omega
          have g2:((p1:Int)=(p2:Int))=False:=by simp;omega
          rw[decide_eq_false he] at hnew;have Hnew:=qh hnew;have Hhe:=qh he;clear he;clear hnew;go_wp2
          go_quiet (fail)
          go_wp2;go_roundw
          case rel=>exact⟨c+1,by go_num,by omega,by rw[Hnew.out];rfl,HS8.out.drewN _⟩
          case measure=>simp[intOf];omega
         obtain rfl:c=3:=by omega
         have hsa:ZbE (nxD d) (C i) j k=(z0&&Zd2 d (C i) j k 3):=by rw[Zk0,Hhz0.out]
         obtain⟨z,hz⟩:=eI ((z0&&Zd2 d (C i) j k 3));rw[← hz] at hsa;rw[← hz];have e7:=hS.rcell (v:=.int .i64 ((C (i+1) j:Nat):Int)) 2 j rfl (by omega) (Za0 (C (i+1)) hjk);have hCj:C (i+1) j=Zat L (nxD d) (C i) j:=by rw[Hstep.out i]
         have hCjL:C (i+1) j≤L:=by rw[hCj];have:=(ZaT (nx:=nxD d) (cl:=C i) hjL).1;omega
         obtain⟨u,hu⟩:=eI (C (i+1) j);rw[← hu] at e7 hCj hCjL;have HS8:=qh hS;have Hsa:=qh hsa;have HhCj:=qh hCj;clear hCj;have Hhu:=qh hu;clear hu;have Hhz:=qh hz;clear hz;clear hS hsa;cases z
         ·go_wp2;go_roundw
          case rel=>exact⟨j,x,rfl,by go_num,by omega,Zqu Hsa.out Hlow.out,hxL,HS8.out⟩
          case measure=>simp[intOf]
         go_wp2;go_roundw
         case rel=>exact⟨j,u,rfl,by go_num,by omega,by rw[HhCj.out];exact Zpl hlt hjL Hsa.out,hCjL,HS8.out⟩
         case measure=>simp[intOf]
       obtain rfl:m=0:=by omega
       have hx:=Zpm hlt hlow;rw[← Hstep.out i] at hx;rw[show(((0:Nat):Int)-1)=(-1:Int) by omega];have hcs:=ZeH k (C (i+1));rw[← hx] at hcs;have hSa:=hS.alloc_ (.cells #[.int .i64 ((x:Nat):Int)] 3);have hR:=hSa.row 2 rfl;have Hhx:=qh hx;clear hx;have Hhcs:=qh hcs;clear hcs;have HhSa:=qh hSa;clear hSa;have HhR:=qh hR;clear hR;clear hS hlow;go_wp2_with (at_builtin;refine wpList_append_lies _ rfl _ _ _ rfl _ 3 i0 (.int .i64 0) 1 8 Tryz.underlying59 Hhi.out Hhz0.out Hhz1.out Hhz2.out rfl (by omega) _ k _ rfl HhR.out ⟨wm.heap.size,0,none⟩ 1 1 [.int .i64 ((x:Nat):Int)] rfl rfl (World.news_of_block (heap_alloc_new wm _)) Zbn (by omega) (by unfold maxLen;omega) (by omega) HhSa.out.size _ rfl ?_;intro g6 c6 w6 hown6 hgrow6 hat6 hlt6;have HS6:=qh (HhSa.out.app 2 rfl hown6 hgrow6 hat6);clear hown6 hgrow6 hat6 hlt6);go_roundw
       case rel =>refine⟨k+1,g6,c6,by go_num,rfl,by omega,?_⟩;rw[Hhcs.out,Zax];exact HS6.out
       case measure=>simp[intOf];omega
     obtain rfl:L=k:=by omega
     have HS5:=qh hS;clear hS;go_wp2
     go_loopw [5,12] (fun va jk w6=>∃ k:Nat,jk = .int .i64 k∧k≤L∧va = .bool (difK (C i) (C (i+1)) k)∧St w w6 [Ent.box w.heap.size #[.slice (some ⟨b1,o1,none⟩) L cv,.slice (some ⟨b2,o2,none⟩) L cw] 32,Ent.row 3 1 (.slice (some ⟨gc,0,none⟩) L cc) L (intCells (clsL L (C i))),Ent.row 3 1 (.slice (some ⟨gn,0,none⟩) L cn) L (intCells (clsL L (C (i+1))))]) (fun _ jk _=>L-(intOf jk).toNat)
     case atStart=>exact⟨0,rfl,Nat.zero_le _,rfl,HS5.out⟩
     case round =>
      obtain⟨k,rfl,hk,rfl,hS⟩:=hrel;by_cases hlt:k<L
      ·have hlt2:(k:Int)<L:=by omega
       obtain⟨zk,hzk⟩:=eI (difK (C i) (C (i+1)) k);rw[← hzk];have HS6:=qh hS;have Hhzk:=qh hzk;clear hzk;clear hS;go_wp2
       go_loopw [5,13] (fun va jm w7=>∃ m:Nat,jm = .int .i64 m∧m≤k∧va = .bool (zk||difs (C i) (C (i+1)) k m)∧St w w7 [Ent.box w.heap.size #[.slice (some ⟨b1,o1,none⟩) L cv,.slice (some ⟨b2,o2,none⟩) L cw] 32,Ent.row 3 1 (.slice (some ⟨gc,0,none⟩) L cc) L (intCells (clsL L (C i))),Ent.row 3 1 (.slice (some ⟨gn,0,none⟩) L cn) L (intCells (clsL L (C (i+1))))]) (fun _ jm _=>k-(intOf jm).toNat)
       case atStart=>exact⟨0,rfl,Nat.zero_le _,by simp[difs],HS6.out⟩
       case round =>
        obtain⟨m,rfl,hm,rfl,hS⟩:=hrel;by_cases hmk:m<k
        ·have hmI:(m:Int)<k:=by omega
         have hmL:(m:Int)<L:=by omega
         have hsu:=Zog (C i) (C (i+1)) k m;obtain⟨z,hz⟩:=eI ((zk||difs (C i) (C (i+1)) k m));rw[← hz];have hnew:(zk||difs (C i) (C (i+1)) k (m+1))=(z||dif (C i) (C (i+1)) m k):=by rw[hsu,hz,Bool.or_assoc]
         have e1:=Hcells.out _ (hS.pick [0,1] (by decide)) m (by omega);have e2:=Hcells.out _ (hS.pick [0,1] (by decide)) k hlt;have e3:=hS.rcell (v:=.int .i64 ((C (i+1) m:Nat):Int)) 2 m rfl (by omega) (Za0 (C (i+1)) (by omega));have e4:=hS.rcell (v:=.int .i64 ((C (i+1) k:Nat):Int)) 2 k rfl (by omega) (Za0 (C (i+1)) hlt);unfold dif at hnew;obtain⟨p1,hp1⟩:=eI (C i m);obtain⟨p2,hp2⟩:=eI (C i k);obtain⟨p3,hp3⟩:=eI (C (i+1) m);obtain⟨p4,hp4⟩:=eI (C (i+1) k);rw[← hp1] at e1 hnew;rw[← hp2] at e2 hnew;rw[← hp3] at e3 hnew;rw[← hp4] at e4 hnew;have HS8:=qh hS;have Hhp1:=qh hp1;clear hp1;have Hhp2:=qh hp2;clear hp2;have Hhp3:=qh hp3;clear hp3;have Hhp4:=qh hp4;clear hp4;have Hhz:=qh hz;clear hz;clear hS hsu;cases z
         ·obtain⟨u1,hu1⟩:=eI (decide (p1=p2));obtain⟨u2,hu2⟩:=eI (decide (p3=p4));rw[← hu1,← hu2] at hnew;have g1:((p1:Int)==(p2:Int))=u1:=by rw[hu1,Bool.eq_iff_iff];simp only[beq_iff_eq,decide_eq_true_eq];omega
          have g2:decide ((p1:Int)=(p2:Int))=u1:=by rw[hu1,decide_eq_decide];omega
          have g3:((p3:Int)==(p4:Int))=u2:=by rw[hu2,Bool.eq_iff_iff];simp only[beq_iff_eq,decide_eq_true_eq];omega
          have g4:decide ((p3:Int)=(p4:Int))=u2:=by rw[hu2,decide_eq_decide];omega
          have Hnew:=qh hnew;have Hhu1:=qh hu1;clear hu1;have Hhu2:=qh hu2;clear hu2;clear hnew;cases u1<;>cases u2
          all_goals
           go_wp2
           go_quiet (fail)
           go_wp2;go_roundw
           case rel=>exact⟨m+1,by go_num,by omega,by rw[Hnew.out];rfl,HS8.out.drewN _⟩
           case measure=>simp[intOf];omega
         have Hnew:=qh hnew;clear hnew;go_wp2
         go_quiet (fail)
         go_wp2;go_roundw
         case rel=>exact⟨m+1,by go_num,by omega,by rw[Hnew.out];rfl,HS8.out.drewN _⟩
         case measure=>simp[intOf];omega
        obtain rfl:m=k:=by omega
        have hsu:=Zoh (C i) (C (i+1)) m;rw[← Hhzk.out] at hsu;rw[← hsu];have HS8:=qh hS;have Hhsu:=qh hsu;clear hsu;clear hS;go_wp2;go_roundw
        case rel=>exact⟨m+1,by go_num,by omega,rfl,HS8.out⟩
        case measure=>simp[intOf];omega
      obtain rfl:L=k:=by omega
      have HS6:=qh hS;clear hS;have hdk:difK (C i) (C (i+1)) L=false↔stays L (nxD d) (enD d) i:=Zmv.trans (Hpt.out i).symm;by_cases hiN:i=N
      ·have h0:difK (C i) (C (i+1)) L=false:=by rw[hdk,hiN,hL.out];exact HNs.out
       rw[h0];have Hh0:=qh h0;clear h0 hdk;go_wp2;go_roundw
       case rel=>exact⟨i+1,_,_,false,rfl,rfl,Or.inr ⟨rfl,by omega⟩,HS6.out.pick [0,2] (by decide)⟩
       case measure =>have:=ZlJ L (C i);simp only[Zmi,Zfb,↓reduceIte,Bool.false_eq_true,Hm0.out];omega
      have hns:¬ stays L (nxD d) (enD d) i:=by rw[hL.out];exact HNo.out i (by omega)
      have h0:difK (C i) (C (i+1)) L=true:=by
       cases h:difK (C i) (C (i+1)) L
       ·exact absurd (hdk.1 h) hns
       rfl
      have hmore:=Hap.out i hns;rw[h0];have Hh0:=qh h0;have Hmore:=qh hmore;have Hhns:=qh hns;clear hns;clear h0 hdk hmore;go_wp2;go_roundw
      case rel=>exact⟨i+1,_,_,true,rfl,rfl,Or.inl ⟨rfl,by omega⟩,HS6.out.pick [0,2] (by decide)⟩
      case measure =>
       have h2:=ZjS (w:=wr) (b:=gn) (n:=L) (cl:=C (i+1)) fun x hx=>HS6.out.rcell 2 x rfl (by omega) (Za0 (C (i+1)) hx)
       have h3:=Hmore.out;have h4:=ZlJ L (C (i+1));simp only[Zmi,Zfb,↓reduceIte,Hm0.out,h2];omega
   have hcl:intCells (clsL L (C (N+1)))=intCells (clsL L (clD d)):=by rw[Ze7 Hfin.out]
   have HS3:=qh hS;have Hhcl:=qh hcl;clear hcl;clear hS;go_wp2;have HSf:=qh ((HS3.out.alloc _ rfl #[] 3).boxrow 2 0 1 [] rfl rfl (Nat.zero_le _))
   go_loopw [14,15] (fun vf jk w8=>∃ (k gf cf:Nat),jk = .int .i64 k∧vf = .slice (some ⟨gf,0,none⟩) k cf∧k≤L∧St w w8 [Ent.box w.heap.size #[.slice (some ⟨b1,o1,none⟩) L cv,.slice (some ⟨b2,o2,none⟩) L cw] 32,Ent.row 3 1 (.slice (some ⟨gc,0,none⟩) L cc) L (intCells (clsL L (C (N+1)))),Ent.row 3 1 (.slice (some ⟨gf,0,none⟩) k cf) k (intCells (clsL k (C (N+1))))]) (fun _ jk _=>L-(intOf jk).toNat)
   case atStart=>exact⟨0,_,_,rfl,rfl,Nat.zero_le _,HSf.out⟩
   case round =>
    obtain⟨k,gf,cf,rfl,rfl,hk,hS⟩:=hrel;by_cases hlt:k<L
    ·have hlt2:(k:Int)<L:=by omega
     have e1:=hS.rcell (v:=.int .i64 ((C (N+1) k:Nat):Int)) 1 k rfl (by omega) (Za0 (C (N+1)) hlt);have hnm:=Zny (cl:=C (N+1)) Hgood.out (k:=k) hlt;have hcall:=Zhy (clsL L (C (N+1))) ((C (N+1) k:Nat):Int) (.slice (some ⟨gc,0,none⟩) L cc) wr (by rw[Zbx];omega) (hS.intsC 1 rfl);rw[hnm] at hcall;have hcs:=ZeH k (C (N+1));obtain⟨x,hx⟩:=eI (C (N+1) k);rw[← hx] at hcall hcs e1;have Hcall:=qh hcall;have HS6:=qh hS;have Hhx:=qh hx;clear hx;have Hhnm:=qh hnm;clear hnm;have Hhcs:=qh hcs;clear hcs;clear hcall hS;go_wp2_with fail;refine Hcall.out.mono ?_;rintro e w5 ⟨rfl,hb5⟩;have hSa:=(HS6.out.call hb5).alloc_ (.cells #[.int .i64 ((x:Nat):Int)] 3);have hR:=hSa.row 2 rfl;have HhSa:=qh hSa;clear hSa;have HhR:=qh hR;clear hR;clear hb5 e1 HS6;go_wp2_with (at_builtin;refine wpList_append_lies _ rfl _ _ _ rfl _ 3 i0 (.int .i64 0) 1 8 Tryz.underlying59 Hhi.out Hhz0.out Hhz1.out Hhz2.out rfl (by omega) _ k _ rfl HhR.out ⟨w5.heap.size,0,none⟩ 1 1 [.int .i64 ((x:Nat):Int)] rfl rfl (World.news_of_block (heap_alloc_new w5 _)) Zbn (by omega) (by unfold maxLen;omega) (by omega) HhSa.out.size _ rfl ?_;intro g6 c6 w6 hown6 hgrow6 hat6 hlt6;have HS6:=qh (HhSa.out.app 2 rfl hown6 hgrow6 hat6);clear hown6 hgrow6 hat6 hlt6);go_roundw
     case rel =>refine⟨k+1,g6,c6,by go_num,rfl,by omega,?_⟩;rw[Hhcs.out,Zax];exact HS6.out
     case measure=>simp[intOf];omega
    obtain rfl:L=k:=by omega
    rw[Hhcl.out] at hS;have HS6:=qh (hS.pick [2] (by decide));clear hS;go_wp2;go_ret;exact⟨gf,cf,rfl,HS6.out⟩
theorem Zef (d:DfaD) (v:Value) (w:World) (h:DfaR 0 w v d) (r:Bool) (hr:Zae d.next d.ends=r) :
  Calls Tryz.prog 47 #[v] w fun e w'=>e = .returned (.bool r)∧Below w.heap.size w w':=by
 obtain⟨v1,v2,rfl,q1,q2⟩:=h;exact Zbs d.next d.ends v1 v2 w q1 q2 r hr
end Go.Proofs.YtehmjmjedopkkaaGreat
