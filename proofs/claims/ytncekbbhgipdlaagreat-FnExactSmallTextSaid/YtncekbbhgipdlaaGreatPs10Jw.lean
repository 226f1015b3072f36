/-
  The walks over the program's minimize and the functions that it hands to explored.
  Condition: the automaton is valid and reads as such.
-/
import Derived.Test.YtncekbbhgipdlaaGreatPs06ExpM
import Derived.Test.YtncekbbhgipdlaaGreatPs09Ss
set_option maxHeartbeats 4000000
set_option maxRecDepth 100000
namespace Go.Proofs.YtncekbbhgipdlaaGreat
open Go.RowKit
theorem Zoi (d:DfaD) (cl:Nat→Nat) (b1 o1 cv b2 o2 cw bc bd g cg x c:Nat) (w:World) (hC:DfaC w d b1 o1 cv b2 o2 cw) (hx:x<d.next.length) (hc:c<3) (hb:Bx w bd #[.slice (some ⟨b1,o1,none⟩) d.next.length cv,.slice (some ⟨b2,o2,none⟩) d.next.length cw] 44)
  (hbc:Bx w bc #[.slice (some ⟨g,0,none⟩) d.next.length cg] 38) (hcl:∀ s,s<d.next.length→w.cell? ⟨g,s,none⟩=some (.int .i64 ((cl s:Nat):Int))) :
  Calls Tryz.prog 106 #[.int .i64 (x:Nat),.int .i64 (c:Nat),.pointer (some ⟨bc,0,none⟩),.pointer (some ⟨bd,0,none⟩)] w fun e w'=>e = .returned (.int .i64 ((cl (nxD d x c):Nat):Int))∧Below w.heap.size w w':=by
 have c0:=hb.cell 0;have c1:=hbc.cell 0;simp only[w_5,w_6] at c0 c1;obtain⟨b3,o3,c3,p1,p2,p3,p4,p5⟩:=hC.row x hx;have p6:=p5 c hc;have hyl:=hC.lt x c hx hc;obtain⟨y,hy⟩:=eI (nxD d x c);rw[← hy] at p6 hyl;rw[← hy];have c2:=hcl y hyl;obtain⟨z,hz⟩:=eI (cl y);rw[← hz] at c2;rw[← hz];have hc3:(c:Int)<3:=by omega
 have hxL:(x:Int)<d.next.length:=by omega
 have hyL:(y:Int)<d.next.length:=by omega
 have hl2:=hC.l2;replace hy:=qh hy;have Hhz:=qh hz;clear hz;clear p5 hC hb hbc hcl
 go_enter Tryz.func106, Tryz.ntmps106
 go_wp2
 go_quiet (fail)
 go_wp2;go_ret;exact⟨rfl,below_drewN (Below.refl _ _) _⟩
theorem Zoh (d:DfaD) (b1 o1 cv b2 o2 cw bd x:Nat) (w:World) (hC:DfaC w d b1 o1 cv b2 o2 cw) (hx:x<d.next.length) (hb:Bx w bd #[.slice (some ⟨b1,o1,none⟩) d.next.length cv,.slice (some ⟨b2,o2,none⟩) d.next.length cw] 44) :
  Calls Tryz.prog 107 #[.int .i64 (x:Nat),.pointer (some ⟨bd,0,none⟩)] w fun e w'=>e = .returned (.bool (den d (x:Int)))∧Below w.heap.size w w':=by
 have c0:=hb.cell 1;simp only[w_5,w_6,w_7] at c0;have p6:=hC.en x hx;have hz:den d (x:Int)=enD d x:=by simp[den,enD]
 rw[hz];obtain⟨y,hy⟩:=eI (enD d x);rw[← hy] at p6;rw[← hy];have hxL:(x:Int)<d.next.length:=by omega
 have hl2:=hC.l2;replace hy:=qh hy;have Hhz:=qh hz;clear hz;clear hC hb
 go_enter Tryz.func107, Tryz.ntmps107
 go_wp2;go_ret;exact⟨rfl,Below.refl _ _⟩
theorem Zlw {d:DfaD} (hd:Zah d.next d.ends=true) (K:Nat):(∀ x∈(bat (nxM d) ((clD d 0:Nat):Int) K).met,0≤x∧x<(d.next.length:Int))∧(bat (nxM d) ((clD d 0:Nat):Int) K).met.length≤d.next.length:=by
 have hf:=ZaJ hd;have hl:=Zaj hd
 have h1:∀ x∈(bat (nxM d) ((clD d 0:Nat):Int) K).met,0≤x∧x<(d.next.length:Int):=by
  refine Zce (Q:=fun x=>0≤x∧x<(d.next.length:Int)) ?_ (fun x c hc hx => ?_) K
  ·have:=(Zbl (d:=d) 0 (by omega)).1;omega
  have h2:=(ZbV hf (s:=x.toNat) (c:=c) (by omega) hc).1;have h3:=(Zbl (d:=d) (nxD d x.toNat c) h2).1;unfold nxM;omega
 refine⟨h1,?_⟩
 have h2:=ZfK (Zby (nx:=nxM d) (a:=((clD d 0:Nat):Int)) K).1 (m:=Za2 d.next.length) (fun x hx=>by
  have:=h1 x hx;have e:x=((x.toNat:Nat):Int):=by omega
  rw[e,Zcp];omega)
 rw[Zcm] at h2;exact h2
theorem ZbC (d:DfaD) (v:Value) (w:World) (hd:Zah d.next d.ends=true) (h:DfaR 0 w v d) :
  Calls Tryz.prog 63 #[v] w fun e w'=>RDo (minD d) w e w':=by
 have HR:=qh h;obtain⟨b1,o1,cv,b2,o2,cw,rfl,hC⟩:=ZbP hd h;have hl1:=hC.l1;have hl2:=hC.l2;have hFl:=(Zlw hd d.next.length).2;have hS0:=((St.start w).alloc _ rfl #[.slice (some ⟨b1,o1,none⟩) d.next.length cv,.slice (some ⟨b2,o2,none⟩) d.next.length cw] 44).alloc (w.heap.size+1) (by simp) #[.slice none 0 0,.slice none 0 0] 44
 have hex:=fun (W:World) (bc g cg:Nat) (hbx:Bx W w.heap.size #[.slice (some ⟨b1,o1,none⟩) d.next.length cv,.slice (some ⟨b2,o2,none⟩) d.next.length cw] 44) (hbc:Bx W bc #[.slice (some ⟨g,0,none⟩) d.next.length cg] 38)
   (hg:g<W.heap.size) (hcl:∀ s,s<d.next.length→W.cell? ⟨g,s,none⟩=some (.int .i64 ((clD d s:Nat):Int))) (hb:Below w.heap.size w W) =>
  Zir ((clD d 0:Nat):Int) bc w.heap.size (nxM d) (den d) (fun x=>0≤x∧x<(d.next.length:Int)) d.next.length W
   (by have:=(Zbl (d:=d) 0 (by omega)).1;omega)
   (fun x c hc hx=>by have h2:=(ZbV (ZaJ hd) (s:=x.toNat) (c:=c) (by omega) hc).1;have h3:=(Zbl (d:=d) (nxD d x.toNat c) h2).1;unfold nxM;omega)
   (fun x hx=>by unfold fitI;omega) (by omega) (by omega) hFl
   (fun x c w' hx hc hb'=>by obtain⟨n,rfl⟩:∃ n:Nat,x=(n:Int):=⟨x.toNat,by omega⟩;exact Zoi d (clD d) b1 o1 cv b2 o2 cw bc w.heap.size g cg n c w' ((hC.below hb).below hb') (by omega) hc (hbx.below hb' hbx.lt) (hbc.below hb' hbc.lt) (fun s hs=>(bcell hb' g _ hg).trans (hcl s hs)))
   (fun x w' hx hb'=>by obtain⟨n,rfl⟩:∃ n:Nat,x=(n:Int):=⟨x.toNat,by omega⟩;exact Zoh d b1 o1 cv b2 o2 cw w.heap.size n w' ((hC.below hb).below hb') (by omega) (hbx.below hb' hbx.lt))
 obtain⟨F,hF⟩:=eI ((bat (nxM d) ((clD d 0:Nat):Int) d.next.length).met);rw[← hF] at hex hFl;have htr:minD d=⟨F.map (Zaf (nxM d) F),F.map (den d)⟩:=by unfold minD;rw[← hF];rfl
 rw[htr];have hsm:=fun (W:World) (hb:Below w.heap.size w W)=>Zg2 d (.agg #[.slice (some ⟨b1,o1,none⟩) d.next.length cv,.slice (some ⟨b2,o2,none⟩) d.next.length cw]) W hd (HR.out.below hb)
 unfold RCl at hsm;obtain⟨L,hL⟩:=eI (d.next.length);obtain⟨C,hK⟩:=eI (clD d);rw[← hL,← hK] at hex hsm;rw[← hL] at hS0 hFl hl1 hl2;rw[← hL];obtain⟨k0,hk0⟩:=eI (C 0);rw[← hk0] at hex;have Hex:=qh hex;have Hsm:=qh hsm;replace hS0:=qh hS0;replace hF:=qh hF;have Hhtr:=qh htr;clear htr;have HhL:=qh hL;clear hL;have HhK:=qh hK;clear hK;have Hhk0:=qh hk0;clear hk0;clear hex hsm hC h
 go_enter Tryz.func63, Tryz.ntmps63
 have e0:=hS0.out.cell (v:=.slice (some ⟨b1,o1,none⟩) L cv) 0 0 rfl rfl;have e1:=hS0.out.cell (v:=.slice (some ⟨b2,o2,none⟩) L cw) 0 1 rfl rfl;go_wp2_with fail;refine(Hsm.out _ hS0.out.bel).mono ?_;rintro e w1 ⟨g,cg,rfl,hS'⟩;have hS2:=(hS0.out.cat hS').alloc _ rfl #[.slice (some ⟨g,0,none⟩) L cg] 38;have HS:=qh hS2;clear hS2 hS' e0 e1;go_wp2;have hc0:=ZaW (n:=L) (s:=0) C (by omega);rw[← Hhk0.out] at hc0;have hL0:(0:Int)<L:=by omega
 have hL00:0<L:=by omega
 have Hhc0:=qh hc0;clear hc0;refine wp_region_any (by kernel_rfl) ?_
 refine Zar (fun A listed a w'=>∃ (l0 l1 l2 l3 l4 l5 l6 l7 l8 l9 l10 l11 l12 l13 l14 l15 l16:Bool) (a1:Option Addr) (c1:Nat) (a2:Option Addr) (c2:Nat) (a3:Option Addr) (c3:Nat) (vs:List Value) (b:Nat),listed=#[l0,l1,l2,l3,l4,l5,l6,l7,l8,l9,l10,l11,l12,l13,l14,l15,l16]∧(l8=true→l7=true∧l6=true)∧(l9=true→l8=true∧l7=true)∧(l10=true→l9=true∧l8=true)∧(l11=true→l9=true∧l8=true)∧(l14=true→l10=true∧l13=true)∧(l15=true→l11=true∧l14=true) ∧
   a=⟨((((((((((((((((A.tmps.setIfInBounds 10 (if l0=true then .slice (some ⟨g,0,none⟩) L cg else A.tmps.getD 10 undef)).setIfInBounds 11 (if l1=true then .pointer (some ⟨g,0,none⟩) else A.tmps.getD 11 undef)).setIfInBounds 12 (if l2=true then .int .i64 ((k0:Nat):Int) else A.tmps.getD 12 undef)).setIfInBounds 13 (if l3=true then .pointer (some ⟨w.heap.size,0,none⟩) else A.tmps.getD 13 undef)).setIfInBounds 14 (if l4=true then .slice (some ⟨b1,o1,none⟩) L cv else A.tmps.getD 14 undef)).setIfInBounds 15 (if l5=true then .int .i64 (L:Int) else A.tmps.getD 15 undef)).setIfInBounds 16 (if l6=true then .func (.func 106) #[] #[.pointer (some ⟨w1.heap.size,0,none⟩),.pointer (some ⟨w.heap.size,0,none⟩)] else A.tmps.getD 16 undef)).setIfInBounds 17 (if l7=true then .func (.func 107) #[] #[.pointer (some ⟨w.heap.size,0,none⟩)] else A.tmps.getD 17 undef)).setIfInBounds 18 (if l8=true then .tuple #[.agg #[.slice a1 F.length c1,.slice a2 F.length c2],.slice a3 F.length c3,.bool true] else A.tmps.getD 18 undef)).setIfInBounds 9 (if l9=true then .tuple #[.agg #[.slice a1 F.length c1,.slice a2 F.length c2],.slice a3 F.length c3,.bool true] else A.tmps.getD 9 undef)).setIfInBounds 19 (if l10=true then .agg #[.slice a1 F.length c1,.slice a2 F.length c2] else A.tmps.getD 19 undef)).setIfInBounds 20 (if l11=true then .slice a3 F.length c3 else A.tmps.getD 20 undef)).setIfInBounds 21 (if l12=true then .bool true else A.tmps.getD 21 undef)).setIfInBounds 4 (if l13=true then .pointer (some ⟨b,0,none⟩) else A.tmps.getD 4 undef)).setIfInBounds 5 (if l15=true then .slice a3 F.length c3 else A.tmps.getD 5 undef)).setIfInBounds 6 (if l16=true then .bool true else A.tmps.getD 6 undef)),A.defers⟩ ∧
   St w w' [Ent.box w.heap.size #[.slice (some ⟨b1,o1,none⟩) L cv,.slice (some ⟨b2,o2,none⟩) L cw] 44,Ent.box (w.heap.size+1) #[.slice none 0 0,.slice none 0 0] 44,Ent.row 3 1 (.slice (some ⟨g,0,none⟩) L cg) L (intCells (clsL L C)),Ent.box w1.heap.size #[.slice (some ⟨g,0,none⟩) L cg] 38,(if l13=true then Ent.box b (if l14=true then #[.slice a1 F.length c1,.slice a2 F.length c2] else #[.slice none 0 0,.slice none 0 0]) 44 else Ent.nil),(if l8=true then Ent.rows 38 3 (.slice a1 F.length c1) vs ((F.map (Zaf (nxM d) F)).map intCells) else Ent.nil),(if l8=true then Ent.row 4 1 (.slice a2 F.length c2) F.length (boolCells (F.map (den d))) else Ent.nil),(if l8=true then Ent.row 3 1 (.slice a3 F.length c3) F.length (intCells F) else Ent.nil)]) ?_ ?_ ?_
 ·rintro listed a w' ⟨l0,l1,l2,l3,l4,l5,l6,l7,l8,l9,l10,l11,l12,l13,l14,l15,l16,a1,c1,a2,c2,a3,c3,vs,b,rfl,hd8,hd9,hd10,hd11,hd14,hd15,rfl,hS⟩ i hi;obtain⟨hun,o,ho,hall⟩:=mem_ready.1 hi;have hlt:=(Array.getElem?_eq_some_iff.1 ho).1;refine wpOp_step ho (fun K hK => ?_);clear hi;have HS:=qh hS;clear hS;simp only[w_1,w_2,w_3,w_4,w_5,w_6,w_7,w_8];obtain h|h|h|h|h|h|h|h|h|h|h|h|h|h|h|h|h:i=0∨i=1∨i=2∨i=3∨i=4∨i=5∨i=6∨i=7∨i=8∨i=9∨i=10∨i=11∨i=12∨i=13∨i=14∨i=15∨i=16:=by simp at hlt;omega
  all_goals subst h
  all_goals simp only[w_5,w_6,w_7,w_9] at ho
  all_goals subst ho
  all_goals simp[Region.binds] at hun hall
  ·subst hun;have e0:=HS.out.cell (v:=.slice (some ⟨g,0,none⟩) L cg) 3 0 rfl rfl;go_simp;exact hK _ _ ⟨_,_,_,_,_,_,_,_,_,_,_,_,_,_,_,_,_,a1,c1,a2,c2,a3,c3,vs,b,rfl,hd8,hd9,hd10,hd11,hd14,hd15,(by simp),HS.out⟩
  ·obtain rfl:=hall;subst hun;go_simp;exact hK _ _ ⟨_,_,_,_,_,_,_,_,_,_,_,_,_,_,_,_,_,a1,c1,a2,c2,a3,c3,vs,b,rfl,hd8,hd9,hd10,hd11,hd14,hd15,(by simp),HS.out⟩
  ·obtain rfl:=hall;subst hun;have e0:=HS.out.rcell (v:=.int .i64 ((k0:Nat):Int)) 2 0 rfl (by omega) Hhc0.out;go_simp;exact hK _ _ ⟨_,_,_,_,_,_,_,_,_,_,_,_,_,_,_,_,_,a1,c1,a2,c2,a3,c3,vs,b,rfl,hd8,hd9,hd10,hd11,hd14,hd15,(by simp),HS.out⟩
  ·subst hun;go_simp;exact hK _ _ ⟨_,_,_,_,_,_,_,_,_,_,_,_,_,_,_,_,_,a1,c1,a2,c2,a3,c3,vs,b,rfl,hd8,hd9,hd10,hd11,hd14,hd15,(by simp),HS.out⟩
  ·obtain rfl:=hall;subst hun;have e0:=HS.out.cell (v:=.slice (some ⟨b1,o1,none⟩) L cv) 0 0 rfl rfl;go_simp;exact hK _ _ ⟨_,_,_,_,_,_,_,_,_,_,_,_,_,_,_,_,_,a1,c1,a2,c2,a3,c3,vs,b,rfl,hd8,hd9,hd10,hd11,hd14,hd15,(by simp),HS.out⟩
  ·obtain rfl:=hall;subst hun;go_simp;exact hK _ _ ⟨_,_,_,_,_,_,_,_,_,_,_,_,_,_,_,_,_,a1,c1,a2,c2,a3,c3,vs,b,rfl,hd8,hd9,hd10,hd11,hd14,hd15,(by simp),HS.out⟩
  ·subst hun;obtain rfl:l8=false:=offR hd8 rfl;obtain rfl:l9=false:=offL hd9 rfl;obtain rfl:l10=false:=offL hd10 rfl;obtain rfl:l11=false:=offL hd11 rfl;obtain rfl:l14=false:=offL hd14 rfl;obtain rfl:l15=false:=offL hd15 rfl;go_simp;exact hK _ _ ⟨_,_,_,_,_,_,_,_,_,_,_,_,_,_,_,_,_,a1,c1,a2,c2,a3,c3,vs,b,rfl,by simp,by simp,by simp,by simp,by simp,by simp,(by simp),HS.out⟩
  ·subst hun;obtain rfl:l8=false:=offL hd8 rfl;obtain rfl:l9=false:=offL hd9 rfl;obtain rfl:l10=false:=offL hd10 rfl;obtain rfl:l11=false:=offL hd11 rfl;obtain rfl:l14=false:=offL hd14 rfl;obtain rfl:l15=false:=offL hd15 rfl;go_simp;exact hK _ _ ⟨_,_,_,_,_,_,_,_,_,_,_,_,_,_,_,_,_,a1,c1,a2,c2,a3,c3,vs,b,rfl,by simp,by simp,by simp,by simp,by simp,by simp,(by simp),HS.out⟩
  ·obtain⟨rfl,rfl,rfl,rfl⟩:=hall;subst hun;obtain rfl:l9=false:=offL hd9 rfl;obtain rfl:l10=false:=offL hd10 rfl;obtain rfl:l11=false:=offL hd11 rfl;obtain rfl:l14=false:=offL hd14 rfl;obtain rfl:l15=false:=offL hd15 rfl;go_simp
   go_at_call 105
   refine(Hex.out _ _ _ _ (HS.out.box 0 rfl) (HS.out.box 3 rfl) (HS.out.rowlt 2 rfl).2 (fun x hx=>HS.out.rcell 2 x rfl (by omega) (ZaW C hx)) HS.out.bel).mono ?_;rintro e u1 ⟨a1,c1,a2,c2,a3,c3,vs,rfl,hSx⟩;have hS2:=(HS.out.cat hSx).pick [0,1,2,3,4,8,9,10] (by decide);have HhS2:=qh hS2;clear hS2;go_simp;exact hK _ _ ⟨_,_,_,_,_,_,_,_,_,_,_,_,_,_,_,_,_,a1,c1,a2,c2,a3,c3,vs,b,rfl,by simp,by simp,by simp,by simp,by simp,by simp,(by simp),HhS2.out⟩
  ·obtain rfl:=hall;subst hun;obtain⟨rfl,rfl⟩:=hd8 rfl;obtain rfl:l10=false:=offL hd10 rfl;obtain rfl:l11=false:=offL hd11 rfl;obtain rfl:l14=false:=offL hd14 rfl;obtain rfl:l15=false:=offL hd15 rfl;go_simp;exact hK _ _ ⟨_,_,_,_,_,_,_,_,_,_,_,_,_,_,_,_,_,a1,c1,a2,c2,a3,c3,vs,b,rfl,by simp,by simp,by simp,by simp,by simp,by simp,(by simp),HS.out⟩
  ·obtain rfl:=hall;subst hun;obtain⟨rfl,rfl⟩:=hd9 rfl;obtain⟨-,rfl⟩:=hd8 rfl;obtain rfl:l14=false:=offL hd14 rfl;obtain rfl:l15=false:=offR hd15 rfl;go_simp;exact hK _ _ ⟨_,_,_,_,_,_,_,_,_,_,_,_,_,_,_,_,_,a1,c1,a2,c2,a3,c3,vs,b,rfl,by simp,by simp,by simp,hd11,by simp,by simp,(by simp),HS.out⟩
  ·obtain rfl:=hall;subst hun;obtain⟨rfl,rfl⟩:=hd9 rfl;obtain⟨-,rfl⟩:=hd8 rfl;obtain rfl:l15=false:=offL hd15 rfl;go_simp;exact hK _ _ ⟨_,_,_,_,_,_,_,_,_,_,_,_,_,_,_,_,_,a1,c1,a2,c2,a3,c3,vs,b,rfl,by simp,by simp,hd10,by simp,hd14,by simp,(by simp),HS.out⟩
  ·obtain rfl:=hall;subst hun;obtain⟨rfl,rfl⟩:=hd9 rfl;obtain⟨-,rfl⟩:=hd8 rfl;go_simp;exact hK _ _ ⟨_,_,_,_,_,_,_,_,_,_,_,_,_,_,_,_,_,a1,c1,a2,c2,a3,c3,vs,b,rfl,by simp,by simp,hd10,hd11,hd14,hd15,(by simp),HS.out⟩
  ·subst hun;obtain rfl:l14=false:=offR hd14 rfl;obtain rfl:l15=false:=offR hd15 rfl;have hS2:=(HS.out.alloc _ rfl #[.slice none 0 0,.slice none 0 0] 44).pick [0,1,2,3,8,5,6,7] (by decide);have HhS2:=qh hS2;clear hS2;go_simp;exact hK _ _ ⟨_,_,_,_,_,_,_,_,_,_,_,_,_,_,_,_,_,a1,c1,a2,c2,a3,c3,vs,_,rfl,hd8,hd9,hd10,hd11,by simp,by simp,(by simp),HhS2.out⟩
  ·obtain⟨rfl,rfl,rfl,rfl,rfl,rfl,rfl,rfl,rfl,rfl,rfl,-,rfl,-⟩:=hall;subst hun;obtain rfl:l15=false:=offR hd15 rfl;have f0:=HS.out.fr 4 0 rfl;have f1:=HS.out.fr 4 1 rfl;have k0:=HS.out.cell (v:=.slice none 0 0) 4 0 rfl rfl;have k1:=HS.out.cell (v:=.slice none 0 0) 4 1 rfl rfl;go_simp;exact hK _ _ ⟨_,_,_,_,_,_,_,_,_,_,_,_,_,_,_,_,_,a1,c1,a2,c2,a3,c3,vs,b,rfl,by simp,by simp,by simp,hd11,by simp,by simp,(by simp),((HS.out.set 4 rfl 0 (.slice a1 F.length c1)).set 4 rfl 1 (.slice a2 F.length c2))⟩
  ·obtain⟨rfl,rfl,rfl,rfl,rfl,rfl,rfl,rfl,rfl,rfl,rfl,rfl,rfl,-,rfl,-⟩:=hall;subst hun;go_simp;exact hK _ _ ⟨_,_,_,_,_,_,_,_,_,_,_,_,_,_,_,_,_,a1,c1,a2,c2,a3,c3,vs,b,rfl,by simp,by simp,by simp,by simp,by simp,by simp,(by simp),HS.out⟩
  obtain⟨rfl,rfl,rfl,rfl,rfl,rfl,rfl,rfl,rfl,rfl,rfl,rfl,rfl,rfl,-,rfl,rfl,-⟩:=hall;subst hun;go_simp;exact hK _ _ ⟨_,_,_,_,_,_,_,_,_,_,_,_,_,_,_,_,_,a1,c1,a2,c2,a3,c3,vs,b,rfl,by simp,by simp,by simp,by simp,by simp,by simp,(by simp only[↓reduceIte,w_1,w_2,w_3]),HS.out⟩
 ·rintro listed a w' ⟨l0,l1,l2,l3,l4,l5,l6,l7,l8,l9,l10,l11,l12,l13,l14,l15,l16,a1,c1,a2,c2,a3,c3,vs,b,rfl,hd8,hd9,hd10,hd11,hd14,hd15,rfl,hS⟩ hr;obtain⟨rfl,rfl,rfl,rfl,rfl,rfl,rfl,rfl,rfl,rfl,rfl,rfl,rfl,rfl,rfl,rfl,rfl,-⟩:=zA (ZaK (by kernel_rfl) rfl hr) rfl;clear hr hd8 hd9 hd10 hd11 hd14 hd15;simp only[↓reduceIte] at hS ⊢;simp only[w_1,w_2,w_3];have d0:=hS.cell (v:=.slice a1 F.length c1) 4 0 rfl rfl;have d1:=hS.cell (v:=.slice a2 F.length c2) 4 1 rfl rfl;have f0:=hS.fr 1 0 rfl;have f1:=hS.fr 1 1 rfl;have k0:=hS.cell (v:=.slice none 0 0) 1 0 rfl rfl;have k1:=hS.cell (v:=.slice none 0 0) 1 1 rfl rfl;have HS9:=qh hS;clear hS;go_wp2;have hq:=(HS9.out.set 1 rfl 0 (.slice a1 F.length c1)).set 1 rfl 1 (.slice a2 F.length c2);have q0:=hq.cell (v:=.slice a1 F.length c1) 1 0 rfl rfl;have q1:=hq.cell (v:=.slice a2 F.length c2) 1 1 rfl rfl;refine bodyPost_ret (v:=.agg #[.slice a1 F.length c1,.slice a2 F.length c2]) (by simp[results,Tryz.results63,go_sem,q0,q1]) rfl ?_;refine⟨a1,c1,a2,c2,by simp only[List.length_map],⟨.slice a1 F.length c1,.slice a2 F.length c2,by simp only[List.length_map],hq.intSS 5 rfl,?_⟩,hq.bel⟩;have hb:=Zab (hq.row 6 rfl);unfold OBools;simpa only [List.length_map] using hb
 refine⟨false,false,false,false,false,false,false,false,false,false,false,false,false,false,false,false,false,none,0,none,0,none,0,[],0,rfl,by simp,by simp,by simp,by simp,by simp,by simp,(by simp),?_⟩;exact HS.out.drew.pick [0,1,2,3,4,5,6,7] (by decide)
def pOk (p:Int × Int):Bool:=inB p.1 1 8&&(decide (p.1=3)&&inB p.2 0 2||(!decide (p.1=3)&&decide (p.2=0)))
def Zae (p:Int × Int):Int:=if pOk p=true then(if p.1=1∨p.1=2∨p.1=3 then 0 else if p.1=7∨p.1=8 then 1 else 2) else -1
theorem Zcv (p:Int × Int):-1≤Zae p∧Zae p≤2:=by
 unfold Zae
 split<;>(try split)<;>(try split)<;>omega
theorem Zgh {p:Int × Int} (h:0≤Zae p):pOk p=true:=by
 unfold Zae at h
 split at h
 ·assumption
 omega
def dep (es:List (Int × Int)):Nat→Int
 | 0=>0
 | k+1=>dep es k-Zae (es.getD k (0,0))+1
theorem ZgO (es:List (Int × Int)):∀ k:Nat,-(2*k:Int)≤dep es k∧dep es k≤2*k
 | 0=>by simp[dep]
 | k+1=>by have ih:=ZgO es k;have:=Zcv (es.getD k (0,0));unfold dep;omega
def exAt (es:List (Int × Int)) (k:Nat):Bool:=decide (0≤Zae (es.getD k (0,0)))&&decide (Zae (es.getD k (0,0))≤dep es k)
def exOk (es:List (Int × Int)):Bool:=(List.range es.length).all (exAt es)&&decide (dep es es.length=1)&&decide (es.length≤60)
theorem Zbk {es:List (Int × Int)} (h:exOk es=true):(∀ k,k<es.length→0≤Zae (es.getD k (0,0))∧Zae (es.getD k (0,0))≤dep es k)∧dep es es.length=1∧1≤es.length∧es.length≤60:=by
 simp only[exOk,exAt,Bool.and_eq_true,List.all_eq_true,List.mem_range,decide_eq_true_eq] at h;refine⟨h.1.1,h.1.2,?_,h.2⟩;cases es with
 | nil=>have:=h.1.2;simp[dep] at this
 | cons=>simp
theorem ZkT {es:List (Int × Int)} {k:Nat} (hk:k<es.length) (h:exAt es k=false):exOk es=false:=by
 cases he:exOk es with
 | false=>rfl
 | true =>obtain⟨h1,-⟩:=Zbk he;obtain⟨a,b⟩:=h1 k hk;simp only[exAt,decide_eq_true a,decide_eq_true b,Bool.and_self] at h;cases h
theorem ZpC {es:List (Int × Int)} (h:∀ k,k<es.length→0≤Zae (es.getD k (0,0))∧Zae (es.getD k (0,0))≤dep es k):∀ k,0<k→k≤es.length→1≤dep es k
 | 0,h0,_=>by omega
 | k+1,_,hk=>by have:=h k (by omega);unfold dep;omega
def Zcl (es:List (Int × Int)) (n a:Nat):Prop:=a<n∧dep es a=dep es n-1∧∀ j,a<j→j<n→dep es j≠dep es n-1
theorem ZnG {es:List (Int × Int)} {n:Nat} (h:∀ k,k<n→0≤Zae (es.getD k (0,0))) (hn:1≤dep es n):∃ a,Zcl es n a:=by
 have key:∀ m,m≤n→(∀ j,m≤j→j<n→dep es j≠dep es n-1)→(m=n∨dep es n≤dep es m)→∃ a,Zcl es n a:=by
  intro m
  induction m with
  | zero =>
   intro _ hj hm;exfalso;have h0:dep es 0=0:=rfl;rcases hm with hm|hm
   ·subst hm;omega
   omega
  | succ m ih =>
   intro hmn hj hm;have hs:dep es (m+1)=dep es m-Zae (es.getD m (0,0))+1:=rfl;have hp:=h m (by omega)
   have hge:dep es n≤dep es (m+1):=by
    rcases hm with hm|hm
    ·rw[hm];exact Int.le_refl _
    exact hm
   by_cases he:dep es m=dep es n-1
   ·exact⟨m,by omega,he,fun j h1 h2=>hj j (by omega) h2⟩
   exact ih (by omega) (fun j h1 h2=>by
    by_cases hjm:j=m
    ·rw[hjm];exact he
    exact hj j (by omega) h2) (Or.inr (by omega))
 exact key n (Nat.le_refl _) (fun j h1 h2=>by omega) (Or.inl rfl)
end Go.Proofs.YtncekbbhgipdlaaGreat
namespace Go.Proofs.YtncekbbhgipdlaaGreat
open Go.RowKit
theorem ZaH {a b:Int} (h:a≠b):(a==b)=false∧(a=b)=False∧(a != b)=true∧(!(a==b))=true:=by simp[h]
theorem Zei (k l:Int) (w:World) (r:Bool) (hr:pOk (k,l)=r) :
  Calls Tryz.prog 121 #[.agg #[.int .i64 k,.int .i64 l]] w fun e w'=>e = .returned (.bool r)∧Below w.heap.size w w':=by
 unfold pOk at hr;simp only at hr;cases h1:inB k 1 8
 ·rw[h1,Bool.false_and] at hr;subst hr;have H1:=qh h1;clear h1
  go_enter Tryz.func121, Tryz.ntmps121
  go_wp2_with (go_at_call 87;refine(Zb4 _ _ _ _ _ H1.out).mono ?_;rintro e w' ⟨rfl,rfl⟩);go_ret;exact⟨rfl,(Below.refl _ _).alloc (Nat.le_refl _) _⟩
 rw[h1,Bool.true_and] at hr;have H1:=qh h1;clear h1;by_cases h3:k=3
 ·subst h3;cases h2:inB l 0 2
  ·rw[h2] at hr;have hr:false=r:=hr;subst hr;have H2:=qh h2;clear h2
   go_enter Tryz.func121, Tryz.ntmps121
   go_wp2_with (go_at_call 87;(first|(with_reducible refine(Zb4 _ _ _ _ _ H1.out).mono ?_)|(with_reducible refine(Zb4 _ _ _ _ _ H2.out).mono ?_));rintro e w' ⟨rfl,rfl⟩);go_ret;exact⟨rfl,(Below.refl _ _).alloc (Nat.le_refl _) _⟩
  rw[h2] at hr;have hr:true=r:=hr;subst hr;have H2:=qh h2;clear h2
  go_enter Tryz.func121, Tryz.ntmps121
  go_wp2_with (go_at_call 87;(first|(with_reducible refine(Zb4 _ _ _ _ _ H1.out).mono ?_)|(with_reducible refine(Zb4 _ _ _ _ _ H2.out).mono ?_));rintro e w' ⟨rfl,rfl⟩);go_ret;exact⟨rfl,(Below.refl _ _).alloc (Nat.le_refl _) _⟩
 obtain⟨q1,q2,q3,q4⟩:=ZaH h3;rw[decide_eq_false h3] at hr;replace h3:=qh h3;by_cases h0:l=0
 ·subst h0;have hr:true=r:=hr;subst hr
  go_enter Tryz.func121, Tryz.ntmps121
  go_wp2_with (go_at_call 87;refine(Zb4 _ _ _ _ _ H1.out).mono ?_;rintro e w' ⟨rfl,rfl⟩);go_ret;exact⟨rfl,(Below.refl _ _).alloc (Nat.le_refl _) _⟩
 obtain⟨p1,p2,p3,p4⟩:=ZaH h0;rw[decide_eq_false h0] at hr;have hr:false=r:=hr;subst hr;replace h0:=qh h0
 go_enter Tryz.func121, Tryz.ntmps121
 go_wp2_with (go_at_call 87;refine(Zb4 _ _ _ _ _ H1.out).mono ?_;rintro e w' ⟨rfl,rfl⟩);go_ret;exact⟨rfl,(Below.refl _ _).alloc (Nat.le_refl _) _⟩
theorem ZbI (k l:Int) (w:World) (n:Int) (hn:Zae (k,l)=n) :
  Calls Tryz.prog 80 #[.agg #[.int .i64 k,.int .i64 l]] w fun e w'=>e = .returned (.int .i64 n)∧Below w.heap.size w w':=by
 have hS0:=(St.start w).alloc _ rfl #[.int .i64 k,.int .i64 l] 62;have e0:=hS0.cell (v:=.int .i64 k) 0 0 rfl rfl;have e1:=hS0.cell (v:=.int .i64 l) 0 1 rfl rfl;cases h:pOk (k,l)
 ·have hn1:n = -1:=by rw[← hn];unfold Zae;rw[if_neg (by simp[h])]
  subst hn1;have H:=qh h;replace hS0:=qh hS0;clear hn h
  go_enter Tryz.func80, Tryz.ntmps80
  go_wp2_with fail;refine(Zei k l _ _ H.out).mono ?_;rintro e w1 ⟨rfl,hb1⟩;have HS1:=qh (hS0.out.call hb1);clear hb1;go_wp2;go_ret;exact⟨rfl,HS1.out.bel⟩
 have hk:k=1∨k=2∨k=3∨k=4∨k=5∨k=6∨k=7∨k=8:=by have h':=h;unfold pOk at h';simp only[Bool.and_eq_true] at h';have:=Zet h'.1;omega
 have hn1:n=if k=1∨k=2∨k=3 then 0 else if k=7∨k=8 then 1 else 2:=by rw[← hn];unfold Zae;rw[if_pos h]
 have H:=qh h;replace hS0:=qh hS0;clear hn h;rcases hk with rfl|rfl|rfl|rfl|rfl|rfl|rfl|rfl
 all_goals
  simp at hn1;subst hn1
  go_enter Tryz.func80, Tryz.ntmps80
  go_wp2_with fail;refine(Zei _ l _ _ H.out).mono ?_;rintro e w1 ⟨rfl,hb1⟩;have c0:=(hS0.out.call hb1).cell (v:=.int .i64 _) 0 0 rfl rfl;have HS1:=qh (hS0.out.call hb1);clear hb1;go_wp2;go_ret;exact⟨rfl,HS1.out.bel⟩
theorem Zjp (xs:List (Int × Int)):∀ n:Nat,(xs.take n).flatMap Zaa=(xs.flatMap Zaa).take (n*2):=by
 induction xs with
 | nil=>intro n;simp
 | cons x l ih =>
  intro n;cases n with
  | zero=>simp
  | succ n =>rw[List.take_succ_cons,List.flatMap_cons,List.flatMap_cons,ih n,show(n+1)*2=n*2+2 by omega];rfl
theorem Zjq (xs:List (Int × Int)):∀ n:Nat,(xs.drop n).flatMap Zaa=(xs.flatMap Zaa).drop (n*2):=by
 induction xs with
 | nil=>intro n;simp
 | cons x l ih =>
  intro n;cases n with
  | zero=>simp
  | succ n =>rw[List.drop_succ_cons,List.flatMap_cons,ih n,show(n+1)*2=n*2+2 by omega];rfl
theorem Pairs.take {w:World} {a:Option Addr} {len cap:Nat} {xs:List (Int × Int)} (h:Pairs 0 w (.slice a len cap) xs) {n:Nat} (hn:n≤xs.length):Pairs 0 w (.slice a n cap) (xs.take n):=by
 obtain⟨hl,a',cap',hv,h1,h2,h3⟩:=h;simp only[Value.slice.injEq] at hv;obtain⟨rfl,rfl,rfl⟩:=hv;have e:(xs.take n).length=n:=by rw[List.length_take];omega
 unfold Pairs;rw[e];refine⟨by rw[Zjp,List.length_take];omega,a,cap,rfl,by omega,h2,fun hn0 => ?_⟩;obtain⟨b,off,ha,hb,hlt,hc⟩:=h3 (by omega);refine⟨b,off,ha,hb,hlt,fun j hj => ?_⟩;rw[hc j (by omega),Zjp,List.getElem?_take_of_lt hj]
theorem Pairs.drop {w:World} {b off len cap:Nat} {xs:List (Int × Int)} (h:Pairs 0 w (.slice (some ⟨b,off,none⟩) len cap) xs) {n:Nat} (hn:n<xs.length):Pairs 0 w (.slice (some ⟨b,off+n*2,none⟩) (xs.length-n) (cap-n)) (xs.drop n):=by obtain⟨hl,a',cap',hv,h1,h2,h3⟩:=h;simp only[Value.slice.injEq] at hv;obtain⟨rfl,rfl,rfl⟩:=hv;unfold Pairs;rw[List.length_drop];refine⟨by rw[Zjq,List.length_drop];omega,_,_,rfl,by omega,by omega,fun hn0 => ?_⟩;obtain⟨b',off',ha,hb,hlt,hc⟩:=h3 (by omega);simp only[w_9,Addr.mk.injEq,and_true] at ha;obtain⟨rfl,rfl⟩:=ha;refine⟨b,off+n*2,rfl,hb,hlt,fun j hj => ?_⟩;rw[show off+n*2+j=off+(n*2+j) by omega,hc _ (by omega),Zjq,List.getElem?_drop]
theorem Zbj (es:List (Int × Int)) (v:Value) (w:World) (hlen:es.length≤2000000) (h:Pairs 0 w v es) (r:Bool) (hr:exOk es=r) :
  Calls Tryz.prog 42 #[v] w fun e w'=>e = .returned (.bool r)∧Below w.heap.size w w':=by
 obtain⟨a,c,rfl,hc1,hc2,hrd⟩:=h.form;have Hrd:=qh hrd;have Hr:=qh hr;clear h hr hrd
 go_enter Tryz.func42, Tryz.ntmps42
 go_wp2
 go_loopw [3,4] (fun vd i wr=>∃ k:Nat,i = .int .i64 k∧k≤es.length∧vd = .int .i64 (dep es k)∧(∀ j,j<k→exAt es j=true)∧Below w.heap.size w wr) (fun _ i _=>es.length-(intOf i).toNat)
 case atStart=>exact⟨0,rfl,Nat.zero_le _,rfl,fun j hj=>absurd hj (by omega),Below.refl _ _⟩
 case round =>
  obtain⟨k,rfl,hk,rfl,hall,hb⟩:=hrel;have hdi:=ZgO es k;have hds:dep es (k+1)=dep es k-Zae (es.getD k (0,0))+1:=rfl;have hpi:=Zcv (es.getD k (0,0));have hex:exAt es k=(decide (0≤Zae (es.getD k (0,0)))&&decide (Zae (es.getD k (0,0))≤dep es k)):=rfl;have Hall:=qh hall;have Hb:=qh hb;clear hall hb;by_cases hlt:k<es.length
  ·have hlt2:(k:Int)<es.length:=by omega
   obtain⟨b,o,rfl,-,hbl,hcs⟩:=Hrd.out (by omega);obtain⟨g1,g2⟩:=hcs k hlt;have k1:=(bcell Hb.out b _ hbl).trans g1;have k2:=(bcell Hb.out b _ hbl).trans g2;obtain⟨p,hp⟩:=eI (es.getD k (0,0));rw[← hp] at k1 k2 hds hpi hex;obtain⟨p1,p2⟩:=p;simp only at k1 k2;obtain⟨n,hn⟩:=eI (Zae (p1,p2));rw[← hn] at hds hpi hex;obtain⟨D,hD⟩:=eI (dep es k);rw[← hD] at hds hdi hex;rw[← hD];obtain⟨hd1,hd2⟩:=hdi;obtain⟨hp1,hp2⟩:=hpi;have Hds:=qh hds;have Hex:=qh hex;replace hp:=qh hp;replace hn:=qh hn;replace hD:=qh hD;clear hds hex hcs g1 g2;go_wp2_with fail;refine(ZbI p1 p2 _ _ hn.out.symm).mono ?_;rintro e w1 ⟨rfl,hb1⟩;have Hb1:=qh (Hb.out.trans (hb1.mono Hb.out.size));clear hb1 k1 k2;by_cases hn0:n<0
   ·have q1:(n<0)=True:=by simp[hn0]
    have hrf:false=r:=by rw[← Hr.out];exact(ZkT hlt (by rw[Hex.out,decide_eq_false (by omega)];rfl)).symm
    subst hrf;go_wp2;go_ret;exact⟨rfl,Hb1.out⟩
   have q1:(n<0)=False:=by simp;omega
   have hn1:0≤n:=by omega
   clear hn0;by_cases hDn:D<n
   ·have q2:(D<n)=True:=by simp[hDn]
    have hrf:false=r:=by rw[← Hr.out];exact(ZkT hlt (by rw[Hex.out,decide_eq_false (show ¬ n≤D by omega),Bool.and_false])).symm
    subst hrf;go_wp2;go_ret;exact⟨rfl,Hb1.out⟩
   have q2:(D<n)=False:=by simp;omega
   have hDn1:n≤D:=by omega
   clear hDn;go_wp2;go_roundw
   case rel =>
    refine⟨k+1,by go_num,by omega,by rw[Hds.out],fun j hj => ?_,Hb1.out⟩;by_cases e:j=k
    ·rw[e,Hex.out,decide_eq_true hn1,decide_eq_true hDn1];rfl
    exact Hall.out j (by omega)
   case measure=>simp[intOf];omega
  obtain rfl:k=es.length:=by omega
  have hro:exOk es=(decide (dep es es.length=1)&&decide (es.length≤60)):=by unfold exOk;rw[List.all_eq_true.2 (fun j hj=>Hall.out j (List.mem_range.1 hj)),Bool.true_and]
  obtain⟨D,hD⟩:=eI (dep es es.length);rw[← hD] at hro;rw[← hD];rw[Hr.out] at hro;have Hro:=qh hro;replace hD:=qh hD;clear hro hdi hds hpi hex;by_cases hD1:D=1
  ·subst hD1;by_cases h60:es.length≤60
   ·have q1:((es.length:Int)≤60)=True:=by simp;omega
    have hrt:true=r:=by rw[Hro.out,decide_eq_true h60];rfl
    subst hrt;go_wp2;go_ret;exact⟨rfl,Hb.out⟩
   have q1:((es.length:Int)≤60)=False:=by simp;omega
   have hrt:false=r:=by rw[Hro.out,decide_eq_false h60];rfl
   subst hrt;clear h60;go_wp2;go_ret;exact⟨rfl,Hb.out⟩
  obtain⟨q1,q2,q3,q4⟩:=ZaH hD1;have hrt:false=r:=by rw[Hro.out,decide_eq_false hD1];rfl
  subst hrt;clear hD1;go_wp2;go_ret;exact⟨rfl,Hb.out⟩
theorem Zj7 (es:List (Int × Int)) (en at':Nat) (v:Value) (w:World) (hlen:es.length≤1000000) (hen:en<es.length) (h:Pairs 0 w v es) (ha:Zcl es (en+1) at') :
  Calls Tryz.prog 122 #[v,.int .i64 ((en:Nat):Int)] w fun e w'=>e = .returned (.int .i64 ((at':Nat):Int))∧Below w.heap.size w w':=by
 obtain⟨a,c,rfl,hc1,hc2,hrd⟩:=h.form;obtain⟨b,o,rfl,-,hbl,hcs⟩:=hrd (by omega);obtain⟨ha1,ha2,ha3⟩:=ha;have Hcs:=qh hcs;have Ha2:=qh ha2;have Ha3:=qh ha3;have hde:=ZgO es (en+1);obtain⟨hde1,hde2⟩:=hde;obtain⟨E,hE⟩:=eI (dep es (en+1));rw[← hE] at hde1 hde2;replace hE:=qh hE;clear h hcs hrd ha2 ha3
 go_enter Tryz.func122, Tryz.ntmps122
 go_wp2
 go_loopw [5,6] (fun vn i wr=>∃ k:Nat,i = .int .i64 k∧at'≤k∧k≤en∧vn = .int .i64 (1+dep es (k+1)-E)∧Below w.heap.size w wr) (fun _ i _=>(intOf i).toNat)
 case atStart=>exact⟨en,rfl,by omega,Nat.le_refl _,by rw[hE.out];congr 1;omega,Below.refl _ _⟩
 case round =>
  obtain⟨k,rfl,hak,hk,rfl,hb⟩:=hrel;have hlt2:(k:Int)<es.length:=by omega
  have hdi:=ZgO es (k+1);have hdk:=ZgO es k;have hds:dep es (k+1)=dep es k-Zae (es.getD k (0,0))+1:=rfl;have hpi:=Zcv (es.getD k (0,0));obtain⟨g1,g2⟩:=Hcs.out k (by omega);have k1:=(bcell hb b _ hbl).trans g1;have k2:=(bcell hb b _ hbl).trans g2;obtain⟨p,hp⟩:=eI (es.getD k (0,0));rw[← hp] at k1 k2 hds hpi;obtain⟨p1,p2⟩:=p;simp only at k1 k2;obtain⟨n,hn⟩:=eI (Zae (p1,p2));rw[← hn] at hds hpi;obtain⟨D1,hD1⟩:=eI (dep es (k+1));rw[← hD1] at hds hdi;rw[← hD1];obtain⟨D,hD⟩:=eI (dep es k);rw[← hD] at hds hdk;obtain⟨hd1,hd2⟩:=hdi;obtain⟨hd3,hd4⟩:=hdk;obtain⟨hp1,hp2⟩:=hpi;have hsum:1+D1-E-1+n=1+D-E:=by omega
  have Hb:=qh hb;have Hds:=qh hds;have Hsum:=qh hsum;have Hhp:=qh hp;clear hp;have Hhn:=qh hn;clear hn;replace hD:=qh hD;have HhD1:=qh hD1;clear hD1;clear hds hsum g1 g2 hb;go_wp2_with fail;refine(ZbI p1 p2 _ _ Hhn.out.symm).mono ?_;rintro e w1 ⟨rfl,hb1⟩;have Hb1:=qh (Hb.out.trans (hb1.mono Hb.out.size));clear hb1 k1 k2;by_cases hka:k=at'
  ·subst hka;have hz:1+D1-E-1+n=0:=by rw[Hsum.out,hD.out,Ha2.out,← hE.out];omega
   go_wp2;go_ret;exact⟨rfl,Hb1.out⟩
  have hz:1+D1-E-1+n≠0:=by rw[Hsum.out];intro he;have h:=Ha3.out k (by omega) (by omega);rw[← hE.out,← hD.out] at h;omega
  obtain⟨z1,z2,z3,z4⟩:=ZaH hz;have hsm:1+D1-E-1+n=1+dep es ((k-1)+1)-E:=by rw[Hsum.out,show(k-1)+1=k by omega,hD.out]
  have Hsm:=qh hsm;have hk0:1≤k:=by omega
  clear hz hsm;go_wp2;go_roundw
  case rel=>exact⟨k-1,by congr 1;omega,by omega,by omega,by rw[Hsm.out],Hb1.out⟩
  case measure=>simp[intOf];omega
def splits (es:List (Int × Int)) (xs ys:List (Int × Int)):Prop:=(Zae (es.getD (es.length-1) (0,0))=0→xs=[]∧ys=[])∧(Zae (es.getD (es.length-1) (0,0))=1→xs=es.take (es.length-1)∧ys=[]) ∧
 (Zae (es.getD (es.length-1) (0,0))=2→∃ a,Zcl es (es.length-1) a∧xs=es.take a∧ys=(es.drop a).take (es.length-1-a))
theorem Zgg (w:World) (a:Option Addr) {c:Nat} (hc:c≤maxLen):Pairs 0 w (.slice a 0 c) []:=⟨rfl,_,_,rfl,Nat.zero_le _,hc,fun h=>by simp at h⟩
theorem ZaC (es:List (Int × Int)) (v:Value) (w:World) (hok:exOk es=true) (h:Pairs 0 w v es) :
  Calls Tryz.prog 82 #[v] w fun e w'=>∃ vx vy xs ys,splits es xs ys∧e = .returned (.tuple #[vx,vy])∧Pairs 0 w' vx xs∧Pairs 0 w' vy ys∧Below w.heap.size w w':=by
 obtain⟨hall,hd1,hl1,hl60⟩:=Zbk hok;have Hp:=qh h;obtain⟨a,c,rfl,hc1,hc2,hrd⟩:=h.form;obtain⟨b,o,rfl,-,hbl,hcs⟩:=hrd (by omega);obtain⟨m,hm⟩:∃ m,es.length=m+1:=⟨es.length-1,by omega⟩;obtain⟨g1,g2⟩:=hcs m (by omega);have hpn:=hall m (by omega);have hpi:=Zcv (es.getD m (0,0));have hdm:dep es (m+1)=dep es m-Zae (es.getD m (0,0))+1:=rfl;rw[← hm,hd1] at hdm;have hbeg:Zae (es.getD m (0,0))=2→∃ a,Zcl es m a:=fun h2=>ZnG (fun k hk=>(hall k (by omega)).1) (by omega)
 have hsp:∀ xs ys,splits es xs ys↔(Zae (es.getD m (0,0))=0→xs=[]∧ys=[])∧(Zae (es.getD m (0,0))=1→xs=es.take m∧ys=[])∧(Zae (es.getD m (0,0))=2→∃ a,Zcl es m a∧xs=es.take a∧ys=(es.drop a).take (m-a)):=fun xs ys=>by unfold splits;rw[show es.length-1=m by omega]
 obtain⟨p,hp⟩:=eI (es.getD m (0,0));rw[← hp] at g1 g2 hpi hpn hbeg hsp;obtain⟨p1,p2⟩:=p;simp only at g1 g2;obtain⟨n,hn⟩:=eI (Zae (p1,p2));rw[← hn] at hpi hpn hbeg hsp;have hn3:n=0∨n=1∨n=2:=by omega
 have Hbeg:=qh hbeg;have Hsp:=qh hsp;have hml:(m:Int)<es.length:=by omega
 replace hn:=qh hn;have Hhp:=qh hp;clear hp;clear hall hd1 h hok hcs hrd hdm hbeg hsp hpn hpi;have hlen:(es.length:Int)-1=(m:Int):=by omega
 replace hm:=qh hm
 go_enter Tryz.func82, Tryz.ntmps82
 rcases hn3 with rfl|rfl|rfl
 ·go_wp2_with fail;refine(ZbI p1 p2 _ _ hn.out.symm).mono ?_;rintro e w1 ⟨rfl,hb1⟩;have HS:=qh (((((St.start w).call hb1).alloc_ (.cells #[] 62)).alloc_ (.cells #[] 62)).bel);clear hb1;go_wp2;refine bodyPost_ret (v:=.tuple #[.slice (some ⟨w1.heap.size,0,none⟩) 0 0,.slice (some ⟨w1.heap.size+1,0,none⟩) 0 0]) (by simp[results,Tryz.results82,go_sem]) rfl ?_;exact⟨_,_,[],[],(Hsp.out _ _).2 ⟨fun _=>⟨rfl,rfl⟩,fun h=>absurd h (by omega),fun h=>absurd h (by omega)⟩,rfl,Zgg _ _ (by unfold maxLen;omega),Zgg _ _ (by unfold maxLen;omega),HS.out⟩
 ·have hcI:(m:Int)≤c:=by omega
  go_wp2_with fail;refine(ZbI p1 p2 _ _ hn.out.symm).mono ?_;rintro e w1 ⟨rfl,hb1⟩;have HS:=qh ((((St.start w).call hb1).alloc_ (.cells #[] 62)).bel);clear hb1;go_wp2;refine bodyPost_ret (v:=.tuple #[.slice (some ⟨b,o,none⟩) m c,.slice (some ⟨w1.heap.size,0,none⟩) 0 0]) (by simp[results,Tryz.results82,go_sem]) rfl ?_;exact⟨_,_,es.take m,[],(Hsp.out _ _).2 ⟨fun h=>absurd h (by omega),fun _=>⟨rfl,rfl⟩,fun h=>absurd h (by omega)⟩,rfl,(Hp.out.below HS.out).take (by have:=hm.out;omega),Zgg _ _ (by unfold maxLen;omega),HS.out⟩
 obtain⟨at',hat⟩:=Hbeg.out rfl;have ha1:=hat.1;obtain⟨q,hqm⟩:∃ q,m=q+1:=⟨m-1,by omega⟩;have hq:(m:Int)-1=(q:Int):=by omega
 have haI:(at':Int)≤(m:Int):=by omega
 have haC:(at':Int)≤c:=by omega
 have hqC:(m:Int)≤c:=by omega
 rw[hqm] at hat;have Hhqm:=qh hqm;clear hqm;have Hat:=qh hat;clear hat;go_wp2_with fail;refine(ZbI p1 p2 _ _ hn.out.symm).mono ?_;rintro e w1 ⟨rfl,hb1⟩;have HS:=qh ((St.start w).call hb1);clear hb1;go_wp2_with fail;refine(Zj7 es q at' _ _ (by have:=hm.out;omega) (by have:=hm.out;have:=Hhqm.out;omega) (Hp.out.below HS.out.bel) Hat.out).mono ?_;rintro e w2 ⟨rfl,hb2⟩;have HS2:=qh (HS.out.call hb2);clear hb2;go_wp2
 go_quiet (fail)
 go_wp2;have HS3:=qh (HS2.out.drewN nq);refine bodyPost_ret (v:=.tuple #[.slice (some ⟨b,o,none⟩) at' c,.slice (some ⟨b,o+at'*2,none⟩) (m-at') (c-at')]) (by simp[results,Tryz.results82,go_sem]) rfl ?_;have hml2:=hm.out
 exact⟨_,_,es.take at',(es.drop at').take (m-at'),(Hsp.out _ _).2 ⟨fun h=>absurd h (by omega),fun h=>absurd h (by omega),fun _=>⟨at',by rw[Hhqm.out];exact Hat.out,rfl,rfl⟩⟩,rfl,
  (Hp.out.below HS3.out.bel).take (by omega),((Hp.out.below HS3.out.bel).drop (by omega)).take (by rw[List.length_drop];omega),HS3.out.bel⟩
end Go.Proofs.YtncekbbhgipdlaaGreat
namespace Go.Proofs.YtncekbbhgipdlaaGreat
inductive Ex where
 | zero|one|ltr (c:Fin 3)|join (a b:Ex)|alt (a b:Ex)|both (a b:Ex)|neg (a:Ex)|star (a:Ex)
 deriving DecidableEq
def Ex.post:Ex→List (Int × Int)
 | .zero=>[(1,0)]
 | .one=>[(2,0)]
 | .ltr c=>[(3,(c.val:Int))]
 | .join a b=>a.post++b.post++[(4,0)]
 | .alt a b=>a.post++b.post++[(5,0)]
 | .both a b=>a.post++b.post++[(6,0)]
 | .neg a=>a.post++[(7,0)]
 | .star a=>a.post++[(8,0)]
theorem Zeh:Zae (1,0)=0:=by decide
theorem Zeg:Zae (2,0)=0:=by decide
theorem ZdI (c:Fin 3):Zae (3,(c.val:Int))=0:=by
 have:c=0∨c=1∨c=2:=by omega
 rcases this with rfl|rfl|rfl<;>decide
theorem Zd2:Zae (4,0)=2:=by decide
theorem Zge:Zae (5,0)=2:=by decide
theorem Zd3:Zae (6,0)=2:=by decide
theorem Zgd:Zae (7,0)=1:=by decide
theorem Zd1:Zae (8,0)=1:=by decide
theorem Zao:∀ t:Ex,1≤t.post.length:=by intro t;cases t<;>simp[Ex.post]<;>omega
theorem ZcG (xs ys:List (Int × Int)):∀ k,k≤xs.length→dep (xs++ys) k=dep xs k
 | 0,_=>rfl
 | k+1,h=>by
  have ih:=ZcG xs ys k (by omega);have e:(xs++ys).getD k (0,0)=xs.getD k (0,0):=by simp[List.getD_eq_getElem?_getD,List.getElem?_append_left (show k<xs.length by omega)]
  unfold dep;rw[ih,e]
theorem ZgP (xs ys:List (Int × Int)):∀ k,dep (xs++ys) (xs.length+k)=dep xs xs.length+dep ys k
 | 0=>by rw[Nat.add_zero,ZcG xs ys _ (Nat.le_refl _)];simp[dep]
 | k+1=>by
  have ih:=ZgP xs ys k;have e:(xs++ys).getD (xs.length+k) (0,0)=ys.getD k (0,0):=by simp[List.getD_eq_getElem?_getD,List.getElem?_append_right (show xs.length≤xs.length+k by omega)]
  show dep (xs++ys) (xs.length+k)-Zae ((xs++ys).getD (xs.length+k) (0,0))+1=dep xs xs.length+(dep ys k-Zae (ys.getD k (0,0))+1);rw[ih,e];omega
theorem Zin {xs ys:List (Int × Int)} {k:Nat} (h:k<xs.length):(xs++ys).getD k (0,0)=xs.getD k (0,0):=by simp[List.getD_eq_getElem?_getD,List.getElem?_append_left h]
theorem Zhd (xs ys:List (Int × Int)) (k:Nat):(xs++ys).getD (xs.length+k) (0,0)=ys.getD k (0,0):=by simp[List.getD_eq_getElem?_getD,List.getElem?_append_right (show xs.length≤xs.length+k by omega)]
def Zcx (m:Int) (es:List (Int × Int)):Prop:=∀ k,k<es.length→0≤Zae (es.getD k (0,0))∧Zae (es.getD k (0,0))≤m+dep es k
theorem ZjX {m m':Int} {es:List (Int × Int)} (h:Zcx m es) (hm:m≤m'):Zcx m' es:=fun k hk=>by have:=h k hk;omega
theorem ZeT {m:Int} {xs ys:List (Int × Int)} (h:Zcx m xs) (h':Zcx (m+dep xs xs.length) ys):Zcx m (xs++ys):=fun k hk=>by
 by_cases hx:k<xs.length
 ·rw[Zin hx,ZcG _ _ _ (by omega)];exact h k hx
 obtain⟨j,rfl⟩:=Nat.exists_eq_add_of_le (Nat.le_of_not_lt hx);rw[Zhd,ZgP];have:=h' j (by simp at hk;omega);omega
theorem ZeS {m:Int} {p:Int × Int} (h0:0≤Zae p) (h1:Zae p≤m):Zcx m [p]:=fun k hk=>by
 obtain rfl:k=0:=by simpa using hk
 simp[dep];omega
theorem Znt (p:Int × Int):dep [p] 1=1-Zae p:=by simp[dep];omega
theorem Zk1 (xs:List (Int × Int)) (p:Int × Int):dep (xs++[p]) (xs++[p]).length=dep xs xs.length+(1-Zae p):=by rw[List.length_append,ZgP];show dep xs xs.length+dep [p] 1=_;rw[Znt]
theorem ZpD (xs ys:List (Int × Int)):dep (xs++ys) (xs++ys).length=dep xs xs.length+dep ys ys.length:=by rw[List.length_append,ZgP]
theorem ZjV:∀ t:Ex,Zcx 0 t.post∧dep t.post t.post.length=1:=by
 intro t;have leaf:∀ p,Zae p=0→Zcx 0 [p]∧dep [p] [p].length=1:=fun p hp=>⟨ZeS (by omega) (by omega),by show dep [p] 1=1;rw[Znt];omega⟩
 have two:∀ (xs ys:List (Int × Int)) p,Zae p=2→Zcx 0 xs→dep xs xs.length=1→Zcx 0 ys→dep ys ys.length=1→Zcx 0 (xs++ys++[p])∧dep (xs++ys++[p]) (xs++ys++[p]).length=1:=fun xs ys p hp h1 h2 h3 h4=>by have hc:=ZpD xs ys;refine⟨ZeT (ZeT h1 (ZjX h3 (by omega))) (ZeS (by omega) (by omega)),?_⟩;rw[Zk1];omega
 have one:∀ (xs:List (Int × Int)) p,Zae p=1→Zcx 0 xs→dep xs xs.length=1→Zcx 0 (xs++[p])∧dep (xs++[p]) (xs++[p]).length=1:=fun xs p hp h1 h2=>by refine⟨ZeT h1 (ZeS (by omega) (by omega)),?_⟩;rw[Zk1];omega
 induction t with
 | zero=>exact leaf _ Zeh
 | one=>exact leaf _ Zeg
 | ltr c=>exact leaf _ (ZdI c)
 | join a b ha hb=>exact two _ _ _ Zd2 ha.1 ha.2 hb.1 hb.2
 | alt a b ha hb=>exact two _ _ _ Zge ha.1 ha.2 hb.1 hb.2
 | both a b ha hb=>exact two _ _ _ Zd3 ha.1 ha.2 hb.1 hb.2
 | neg a ha=>exact one _ _ Zgd ha.1 ha.2
 | star a ha=>exact one _ _ Zd1 ha.1 ha.2
theorem Zau (t:Ex) (h:t.post.length≤60):exOk t.post=true:=by obtain⟨h1,h2⟩:=ZjV t;simp only[exOk,exAt,Bool.and_eq_true,List.all_eq_true,List.mem_range,decide_eq_true_eq];refine⟨⟨fun k hk => ?_,h2⟩,h⟩;have:=h1 k hk;omega
theorem Zf2 {α:Type}:∀ (l:List α),1≤l.length→∃ L b,l=L++[b]
 | [],h=>by simp at h
 | [a],_=>⟨[],a,rfl⟩
 | a::b::l,_=>by obtain⟨L,c,h⟩:=Zf2 (b::l) (by simp);exact⟨a::L,c,by rw[h];rfl⟩
def cat (st:List Ex):List (Int × Int):=st.flatMap Ex.post
theorem Ziy (a b:List Ex):cat (a++b)=cat a++cat b:=by simp[cat]
theorem ZgV (a:Ex):cat [a]=a.post:=by simp[cat]
theorem ZkB {es:List (Int × Int)} (h:Zcx 0 es):∀ k,k≤es.length→∃ st:List Ex,cat st=es.take k∧(st.length:Int)=dep es k
 | 0,_=>⟨[],rfl,rfl⟩
 | k+1,hk=>by
  obtain⟨st,h1,h2⟩:=ZkB h k (by omega);obtain⟨h3,h4⟩:=h k (by omega);have ht:es.take (k+1)=es.take k++[es.getD k (0,0)]:=by rw[List.take_succ_eq_append_getElem (by omega)];simp[show k<es.length by omega]
  have hd:dep es (k+1)=dep es k-Zae (es.getD k (0,0))+1:=rfl;obtain⟨p,hp⟩:=eI (es.getD k (0,0));rw[← hp] at h3 h4 ht hd;have hok:=Zgh h3;obtain⟨p1,p2⟩:=p;rw[ht,hd,← h1];have leaf:∀ t:Ex,t.post=[(p1,p2)]→Zae (p1,p2)=0→∃ st':List Ex,cat st'=cat st++[(p1,p2)]∧(st'.length:Int)=dep es k-Zae (p1,p2)+1:=fun t e0 e1=>⟨st++[t],by rw[Ziy,ZgV,e0],by simp;omega⟩
  have one:∀ f:Ex→Ex,(∀ a,(f a).post=a.post++[(p1,p2)])→Zae (p1,p2)=1→∃ st':List Ex,cat st'=cat st++[(p1,p2)]∧(st'.length:Int)=dep es k-Zae (p1,p2)+1:=fun f e0 e1=>by obtain⟨L,a,rfl⟩:=Zf2 st (by omega);refine⟨L++[f a],by rw[Ziy,Ziy,ZgV,ZgV,e0];simp,?_⟩;simp at h2 ⊢;omega
  have two:∀ f:Ex→Ex→Ex,(∀ a b,(f a b).post=a.post++b.post++[(p1,p2)])→Zae (p1,p2)=2→∃ st':List Ex,cat st'=cat st++[(p1,p2)]∧(st'.length:Int)=dep es k-Zae (p1,p2)+1:=fun f e0 e1=>by obtain⟨L,b,rfl⟩:=Zf2 st (by omega);obtain⟨L,a,rfl⟩:=Zf2 L (by simp at h2;omega);refine⟨L++[f a b],by simp only[Ziy,ZgV,e0,List.append_assoc],?_⟩;simp at h2 ⊢;omega
  simp only[pOk,inB,Bool.and_eq_true,Bool.or_eq_true,decide_eq_true_eq,Bool.not_eq_true',decide_eq_false_iff_not] at hok;obtain⟨⟨q1,q2⟩,q3⟩:=hok;have hc:(p1=1∧p2=0)∨(p1=2∧p2=0)∨(p1=3∧0≤p2∧p2≤2)∨(p1=4∧p2=0)∨(p1=5∧p2=0)∨(p1=6∧p2=0)∨(p1=7∧p2=0)∨(p1=8∧p2=0):=by omega
  rcases hc with⟨rfl,rfl⟩|⟨rfl,rfl⟩|⟨rfl,g1,g2⟩|⟨rfl,rfl⟩|⟨rfl,rfl⟩|⟨rfl,rfl⟩|⟨rfl,rfl⟩|⟨rfl,rfl⟩
  ·exact leaf .zero rfl Zeh
  ·exact leaf .one rfl Zeg
  ·obtain⟨c,rfl⟩:=Int.eq_ofNat_of_zero_le g1;exact leaf (.ltr ⟨c,by omega⟩) rfl (ZdI ⟨c,by omega⟩)
  ·exact two .join (fun _ _=>rfl) Zd2
  ·exact two .alt (fun _ _=>rfl) Zge
  ·exact two .both (fun _ _=>rfl) Zd3
  ·exact one .neg (fun _=>rfl) Zgd
  exact one .star (fun _=>rfl) Zd1
theorem parse {es:List (Int × Int)} (h:exOk es=true):∃ t:Ex,t.post=es:=by
 obtain⟨h1,h2,h3,h4⟩:=Zbk h;obtain⟨st,e1,e2⟩:=ZkB (es:=es) (fun k hk=>by have:=h1 k hk;omega) es.length (Nat.le_refl _);rw[h2] at e2;rw[List.take_length] at e1;obtain⟨L,t,rfl⟩:=Zf2 st (by omega)
 have hL:L=[]:=by
  cases L with
  | nil=>rfl
  | cons=>simp at e2;omega
 subst hL;exact⟨t,by simpa [ZgV] using e1⟩
theorem Zbq (xs:List (Int × Int)) (p:Int × Int):(xs++[p]).getD ((xs++[p]).length-1) (0,0)=p:=by simp[List.getD_eq_getElem?_getD]
theorem ZiB {es:List (Int × Int)} {n a b:Nat} (h:Zcl es n a) (h':Zcl es n b):a=b:=by
 obtain⟨h1,h2,h3⟩:=h;obtain⟨g1,g2,g3⟩:=h';rcases Nat.lt_trichotomy a b with hl|hl|hl
 ·exact absurd g2 (h3 b hl g1)
 ·exact hl
 exact absurd h2 (g3 a hl h1)
theorem Zlr {es:List (Int × Int)} (h:Zcx 0 es) {k:Nat} (h0:0<k) (hk:k≤es.length):1≤dep es k:=ZpC (fun j hj=>by have:=h j hj;omega) k h0 hk
theorem Zdl {a b:Ex} {p:Int × Int} (hp:Zae p=2) {xs ys:List (Int × Int)} (h:splits (a.post++b.post++[p]) xs ys):xs=a.post∧ys=b.post:=by
 obtain⟨-,-,h3⟩:=h;rw[Zbq] at h3;obtain⟨at',hb,rfl,rfl⟩:=h3 hp;obtain⟨a1,a2⟩:=ZjV a;obtain⟨b1,b2⟩:=ZjV b;have hl:(a.post++b.post++[p]).length-1=a.post.length+b.post.length:=by simp
 rw[hl] at hb ⊢
 have hbeg:Zcl (a.post++b.post++[p]) (a.post.length+b.post.length) a.post.length:=by
  have hd:∀ j,j≤b.post.length→dep (a.post++b.post++[p]) (a.post.length+j)=1+dep b.post j:=fun j hj=>by rw[ZcG _ _ _ (by simp;omega),ZgP,a2]
  have h0:=hd 0 (Nat.zero_le _);have hn:=hd b.post.length (Nat.le_refl _);rw[b2] at hn;rw[Nat.add_zero] at h0;refine⟨by have:=Zao b;omega,by rw[h0,hn];rfl,fun j h1 h2 => ?_⟩;obtain⟨i,rfl⟩:=Nat.exists_eq_add_of_le (Nat.le_of_lt h1);rw[hd i (by omega),hn];have:=Zlr b1 (show 0<i by omega) (by omega);omega
 obtain rfl:=ZiB hb hbeg;constructor
 ·rw[List.append_assoc,List.take_left'];rfl
 rw[List.append_assoc,List.drop_left' rfl,Nat.add_sub_cancel_left,List.take_left' rfl]
theorem Zdm {a:Ex} {p:Int × Int} (hp:Zae p=1) {xs ys:List (Int × Int)} (h:splits (a.post++[p]) xs ys):xs=a.post∧ys=[]:=by obtain⟨-,h2,-⟩:=h;rw[Zbq] at h2;obtain⟨rfl,rfl⟩:=h2 hp;simp
theorem ZdH {p:Int × Int} (hp:Zae p=0) {xs ys:List (Int × Int)} (h:splits [p] xs ys):xs=[]∧ys=[]:=h.1 (by simpa using hp)
end Go.Proofs.YtncekbbhgipdlaaGreat
namespace Go.Proofs.YtncekbbhgipdlaaGreat
open Go.RowKit
def shJ (n:Nat) (m:Int × Int × Int):Int × Int × Int:=(m.1+(n:Int),m.2.1,m.2.2+(n:Int))
def ZdP (a b:DfaD):NfaD :=
 ⟨((a.next.length+b.next.length:Nat):Int),mvs a a.next.length++(mvs b b.next.length).map (shJ a.next.length)++(eds a a.next.length).map (fun e=>(e,-1,(a.next.length:Int))),[0],(eds b b.next.length).map (fun e=>e+(a.next.length:Int))⟩
def Zeb (a:DfaD):NfaD :=
 ⟨((a.next.length+1:Nat):Int),mvs a a.next.length++[((a.next.length:Int),-1,0)]++(eds a a.next.length).map (fun e=>(e,-1,(a.next.length:Int))),[(a.next.length:Int)],[(a.next.length:Int)]⟩
def detM (M K:Nat) (n:NfaD):Option DfaD:=if (metSM M n K).length≤K then some (Zat (nxSM M n) (enS n) (metSM M n K)) else none
def ZbJ (K:Nat) (f:Bool→Bool→Bool) (a b:DfaD):Option DfaD:=if (metP a b K).length≤K then some (Zat (Zaz a b) (Zca f a b) (metP a b K)) else none
def Zgm:DfaD:=⟨[[0,0,0]],[false]⟩
def oneD:DfaD:=⟨[[1,1,1],[1,1,1]],[true,false]⟩
def ltrD (c:Fin 3):DfaD:=⟨[[2,2,2].set c.val 1,[2,2,2],[2,2,2]],[false,true,false]⟩
def negD (a:DfaD):DfaD:=⟨a.next,a.ends.map (fun x => !x)⟩
def Zaq (K:Nat):Ex→Option DfaD
 | .zero=>some (Zak Zgm)
 | .one=>some (Zak oneD)
 | .ltr c=>some (Zak (ltrD c))
 | .join a b=>(Zaq K a).bind fun x=>(Zaq K b).bind fun y=>(detM 81 K (ZdP x y)).map Zak
 | .alt a b=>(Zaq K a).bind fun x=>(Zaq K b).bind fun y=>(ZbJ K (fun p q=>p||q) x y).map Zak
 | .both a b=>(Zaq K a).bind fun x=>(Zaq K b).bind fun y=>(ZbJ K (fun p q=>p&&q) x y).map Zak
 | .neg a=>(Zaq K a).map fun x=>Zak (negD x)
 | .star a=>(Zaq K a).bind fun x=>(detM 81 K (Zeb x)).map Zak
theorem ZoY {α:Type} [DecidableEq α] {nx:α→Nat→α} {a:α} {en:α→Bool} {K:Nat} (hK:K=40) (h:(bat nx a K).met.length≤K):Zah (Zat nx en (bat nx a K).met).next (Zat nx en (bat nx a K).met).ends=true:=by obtain⟨h1,h2,h3,h4⟩:=ZfS (en:=en) (nx:=nx) (a:=a) h (by omega);exact Ziu h1 (by rw[ZaS];omega) h3 fun i hi=>h4 i hi
theorem Zdz {M K:Nat} (hK:K=40) {n:NfaD} {d:DfaD} (h:detM M K n=some d):Zah d.next d.ends=true:=by
 unfold detM at h
 split at h
 ·rename_i hle;simp only[w_9] at h;subst h;exact ZoY hK hle
 cases h
theorem Zb2 {K:Nat} (hK:K=40) {f:Bool→Bool→Bool} {a b d:DfaD} (h:ZbJ K f a b=some d):Zah d.next d.ends=true:=by
 unfold ZbJ at h
 split at h
 ·rename_i hle;simp only[w_9] at h;subst h;exact ZoY hK hle
 cases h
theorem Zb1 {d:DfaD} (h:Zah d.next d.ends=true):Zah (Zak d).next (Zak d).ends=true :=
 (ZjI (Znj (ZjI h).1)).1
theorem ZfJ:Zah Zgm.next Zgm.ends=true:=by decide
theorem Zh5:Zah oneD.next oneD.ends=true:=by decide
theorem ZeV (c:Fin 3):Zah (ltrD c).next (ltrD c).ends=true:=by
 have:c=0∨c=1∨c=2:=by omega
 rcases this with rfl|rfl|rfl<;>decide
theorem Zh8 {d:DfaD} (h:Zah d.next d.ends=true):Zah (negD d).next (negD d).ends=true:=by simp only[Zah,Bool.and_eq_true,decide_eq_true_eq] at h ⊢;exact⟨h.1,by simpa [negD] using h.2⟩
theorem Zde {K:Nat} (hK:K=40):∀ (t:Ex) {d:DfaD},Zaq K t=some d→Zah d.next d.ends=true:=by
 intro t;cases t with
 | zero=>intro d h;simp only[Zaq,w_9] at h;subst h;exact Zb1 ZfJ
 | one=>intro d h;simp only[Zaq,w_9] at h;subst h;exact Zb1 Zh5
 | ltr c=>intro d h;simp only[Zaq,w_9] at h;subst h;exact Zb1 (ZeV c)
 | join a b =>intro d h;simp only[Zaq,Option.bind_eq_some_iff,Option.map_eq_some_iff] at h;obtain⟨x,-,y,-,z,hz,rfl⟩:=h;exact Zb1 (Zdz hK hz)
 | alt a b =>intro d h;simp only[Zaq,Option.bind_eq_some_iff,Option.map_eq_some_iff] at h;obtain⟨x,-,y,-,z,hz,rfl⟩:=h;exact Zb1 (Zb2 hK hz)
 | both a b =>intro d h;simp only[Zaq,Option.bind_eq_some_iff,Option.map_eq_some_iff] at h;obtain⟨x,-,y,-,z,hz,rfl⟩:=h;exact Zb1 (Zb2 hK hz)
 | neg a =>intro d h;simp only[Zaq,Option.map_eq_some_iff] at h;obtain⟨x,hx,rfl⟩:=h;exact Zb1 (Zh8 (Zde hK a hx))
 | star a =>intro d h;simp only[Zaq,Option.bind_eq_some_iff,Option.map_eq_some_iff] at h;obtain⟨x,-,z,hz,rfl⟩:=h;exact Zb1 (Zdz hK hz)
theorem ZfL {m:Nat} {xs ys:List (Int × Int × Int)} (h:mvIn m xs) (h':mvIn m ys):mvIn m (xs++ys):=fun x hx=>by
 rcases List.mem_append.1 hx with hx|hx
 ·exact h x hx
 exact h' x hx
theorem Zko {a b:DfaD} (ha:Zah a.next a.ends=true) (hb:Zah b.next b.ends=true):mvIn (a.next.length+b.next.length) (ZdP a b).moves:=by
 have h1:=Zi3 ha _ (Nat.le_refl _);have h2:=Zi3 hb _ (Nat.le_refl _);have hlb:=Zaj hb;refine ZfL (ZfL (Zi4 h1 (by omega)) fun x hx => ?_) fun x hx => ?_
 ·obtain⟨y,hy,rfl⟩:=List.mem_map.1 hx;have:=h2 y hy;simp only[shJ];omega
 obtain⟨y,hy,rfl⟩:=List.mem_map.1 hx;have:=ZgN a _ y hy;simp only;omega
theorem Zhe {a b:DfaD}:inN (a.next.length+b.next.length) (ZdP a b).ends:=fun x hx=>by obtain⟨y,hy,rfl⟩:=List.mem_map.1 hx;have:=ZgN b _ y hy;omega
theorem Ze9 {a b:DfaD} (ha:Zah a.next a.ends=true):inN (a.next.length+b.next.length) [0]:=fun x hx=>by have hla:=Zaj ha;simp only[List.mem_singleton] at hx;omega
theorem Zkn {a:DfaD} (ha:Zah a.next a.ends=true):mvIn (a.next.length+1) (Zeb a).moves:=by
 have h1:=Zi3 ha _ (Nat.le_refl _);refine ZfL (ZfL (Zi4 h1 (by omega)) fun x hx => ?_) fun x hx => ?_
 ·simp only[List.mem_singleton] at hx;subst hx;simp only;omega
 obtain⟨y,hy,rfl⟩:=List.mem_map.1 hx;have:=ZgN a _ y hy;simp only;omega
theorem ZeI {a:DfaD}:inN (a.next.length+1) [(a.next.length:Int)]:=fun x hx=>by simp only[List.mem_singleton] at hx;omega
end Go.Proofs.YtncekbbhgipdlaaGreat
