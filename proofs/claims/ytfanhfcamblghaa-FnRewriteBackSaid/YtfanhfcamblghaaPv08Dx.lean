/-
  The walks over the reference's l8List and NfaOf.
  Conditions: the automaton is valid and reads as such.
-/
import Derived.Test.YtfanhfcamblghaaPv06Tw
import Derived.Test.YtfanhfcamblghaaPv07Sr
set_option maxHeartbeats 4000000
set_option maxRecDepth 100000
namespace Go.Proofs.Ytfanhfcamblghaa
open Go.RowKit
theorem Zim (d:DfaD) (v:Value) (w:World) (hl:d.ends.length≤40) (h:Bools 0 w v d.ends) :
  Calls Try.prog 161 #[v] w fun e w'=>∃ a c,e = .returned (.slice a (eds d d.ends.length).length c)∧St w w' [Ent.row 3 1 (.slice a (eds d d.ends.length).length c) (eds d d.ends.length).length (intCells (eds d d.ends.length))]:=by
 obtain⟨n,hn⟩:=eI (d.ends.length);obtain⟨a2,c2,rfl,hc3,hc4,hr2⟩:=h.form;rw[← hn] at hc3 hr2 hl;rw[← hn];obtain⟨j0,hj,hy0,hy1,hy2⟩:=info_parts Try.infoInt;have hS0:=((St.start w).alloc _ rfl #[] 3).boxrow 0 0 1 [] rfl rfl (Nat.zero_le _);have Hr:=qh hr2;replace hS0:=qh hS0;have Hhn:=qh hn;clear hn;have Hhj:=qh hj;clear hj;have Hhy0:=qh hy0;clear hy0;have Hhy1:=qh hy1;clear hy1;have Hhy2:=qh hy2;clear hy2;clear hr2 h
 go_enter Try.func161, Try.ntmps161
 go_wp2
 go_loopw [3,4] (fun ov i wr=>∃ (k c:Nat) (a:Option Addr),i = .int .i64 k∧ov = .slice a (eds d k).length c∧k≤n∧St w wr [Ent.row 3 1 (.slice a (eds d k).length c) (eds d k).length (intCells (eds d k))])
  (fun _ i _=>n-(intOf i).toNat)
 case atStart=>exact⟨0,0,_,rfl,rfl,Nat.zero_le _,hS0.out⟩
 case round =>
  obtain⟨k,c,a,rfl,rfl,hk,hS⟩:=hrel;obtain⟨E,hE⟩:=eI (eds d k);have hel:=Zds d k;rw[← hE] at hS hel;by_cases hlt:k<n
  ·have hlt2:(k:Int)<n:=by omega
   obtain⟨b2,o2,rfl,-,hb2,hcs⟩:=Hr.out (by omega);have k2:=(bcell hS.bel b2 _ hb2).trans (hcs k hlt);have hele:E.length≤40:=by omega
   replace hE:=qh hE;have HhS:=qh hS;clear hS;clear hcs hel;cases hz:d.ends.getD k false with
   | false =>
    rw[hz] at k2;have hE1:eds d (k+1)=E:=by rw[hE.out];show(if d.ends.getD k false=true then _ else _)=_;rw[hz];rfl
    have HhE1:=qh hE1;clear hE1;have Hhz:=qh hz;clear hz;go_wp2;go_roundw
    case rel =>refine⟨k+1,c,a,by go_num,by rw[HhE1.out,hE.out],by omega,?_⟩;rw[HhE1.out];exact HhS.out
    case measure=>simp[intOf];omega
   | true =>
    rw[hz] at k2;have hE1:eds d (k+1)=E++[(k:Int)]:=by rw[hE.out];show(if d.ends.getD k false=true then _ else _)=_;rw[hz];rfl
    have hSa:=HhS.out.alloc_ (.cells #[.int .i64 k] 3);have hRw:=hSa.row 0 rfl;rw[← hE.out];have HhSa:=qh hSa;clear hSa;have HhRw:=qh hRw;clear hRw;have HhE1:=qh hE1;clear hE1;have Hhz:=qh hz;clear hz;go_wp2_with (at_builtin;refine wpList_append_lies _ rfl _ _ _ rfl _ 3 j0 (.int .i64 0) 1 8 Try.underlying26 Hhj.out Hhy0.out Hhy1.out Hhy2.out rfl (by omega) _ E.length _ rfl HhRw.out ⟨wr.heap.size,0,none⟩ 1 1 [.int .i64 k] rfl rfl (World.news_of_block (heap_alloc_new wr _)) on_i (by omega) (by unfold maxLen;omega) (by omega) HhSa.out.size _ rfl ?_;intro g6 c6 w6 hown6 hgrow6 hat6 hlt6;have HS6:=qh (HhSa.out.app 0 rfl hown6 hgrow6 hat6);clear hown6 hgrow6 hat6 hlt6);go_roundw
    case rel =>
     have hl1:(eds d (k+1)).length=E.length+1:=by rw[HhE1.out];simp
     refine⟨k+1,c6,some ⟨g6,0,none⟩,by go_num,by rw[hl1],by omega,?_⟩;rw[hl1,HhE1.out,Zlb];exact HS6.out
    case measure=>simp[intOf];omega
  obtain rfl:k=n:=by omega
  have hge:(k:Int)≤k:=Int.le_refl _;have HhS:=qh hS;clear hS;rw[← hE];replace hE:=qh hE;clear hel;go_wp2;go_ret;rw[← hE.out];exact⟨a,c,rfl,HhS.out⟩
theorem Zb7 (d:DfaD) (v:Value) (w:World) (hd:Zaf d.next d.ends=true) (h:DfaR 0 w v d) :
  Calls Try.prog 159 #[v] w fun e w'=>RNfaS (ZbR d) w e w':=by
 obtain⟨v1,v2,rfl,q1,q2⟩:=h;have hval:=fun (w':World) (hb:Below w.heap.size w w')=>Zbt d.next d.ends v1 v2 w' (q1.below hb) (q2.below hb) true hd
 have hlist:=fun (w':World) (hb:Below w.heap.size w w')=>Zim d v2 w' (by have:=Zag hd;omega) (q2.below hb)
 obtain⟨L,hL⟩:=eI (d.next.length);obtain⟨hl1,hl2,hl3⟩:=Zag hd;have hrow:=fun (i:Nat) (hi:i<d.next.length)=>(ZaI hd hi)
 obtain⟨av,cv,rfl,hc1,hc2,hr1⟩:=q1.formI;obtain⟨b1,o1,rfl,-,hb1,hcs1⟩:=hr1 (by omega);rw[hl3] at hlist;rw[← hL] at hl1 hl2 hl3 hrow hc1 hcs1 hlist hval;rw[← hL];obtain⟨E,hE⟩:=eI (eds d L);have hel:=Zds d L;rw[← hE] at hlist hel;have hele:E.length≤40:=by omega
 obtain⟨i0,hi,hz0,hz1,hz2⟩:=info_parts Try.infoMv;have hS:=((St.start w).alloc _ rfl #[.slice (some ⟨b1,o1,none⟩) L cv,v2] 45).alloc (w.heap.size+1) (by simp) #[.int .i64 0,.slice none 0 0,.slice none 0 0,.slice none 0 0] 28;have Hrow:=qh hrow;have Hcs1:=qh hcs1;have Hval:=qh hval;have Hl8:=qh hlist;have HhS:=qh hS;clear hS;replace hL:=qh hL;replace hE:=qh hE;have Hhi:=qh hi;clear hi;have Hhz0:=qh hz0;clear hz0;have Hhz1:=qh hz1;clear hz1;have Hhz2:=qh hz2;clear hz2;clear hrow hcs1 hr1 q1 q2 hd hl3 hval hlist hel
 go_enter Try.func159, Try.ntmps159
 go_wp2_with fail;refine(Hval.out _ HhS.out.bel).mono ?_;rintro e w1 ⟨rfl,hb⟩;have hS1:=HhS.out.call hb;have HhS1:=qh hS1;clear hS1;clear hb;go_wp2;refine wp_region_any (by kernel_rfl) ?_
 refine ZdY (fun listed a w'=>∃ (l0 l1 l2 l3 l4 l5 l6 l7 l8 l9:Bool) (a6:Option Addr) (c6:Nat) (b5:Nat) (b:Nat),listed=#[l0,l1,l2,l3,l4,l5,l6,l7,l8,l9]∧(l7=true→l3=true∧l6=true)∧(l9=true→l7=true∧l8=true) ∧
   a=⟨#[.agg #[.slice (some ⟨b1,o1,none⟩) L cv,v2],.pointer (some ⟨w.heap.size,0,none⟩),.pointer (some ⟨w.heap.size+1,0,none⟩),(if l8=true then .pointer (some ⟨b,0,none⟩) else undef),undef,undef,.agg #[.slice (some ⟨b1,o1,none⟩) L cv,v2],.bool true,.bool false,undef,(if l0=true then .pointer (some ⟨w.heap.size,0,none⟩) else undef),(if l1=true then .slice (some ⟨b1,o1,none⟩) L cv else undef),(if l2=true then .int .i64 (L:Int) else undef),(if l3=true then .slice (some ⟨b5,0,none⟩) 1 1 else undef),(if l4=true then .pointer (some ⟨w.heap.size,1,none⟩) else undef),(if l5=true then v2 else undef),(if l6=true then .slice a6 E.length c6 else undef),(if l7=true then .agg #[.int .i64 L,.slice none 0 0,.slice (some ⟨b5,0,none⟩) 1 1,.slice a6 E.length c6] else undef),undef,undef,undef,undef,undef,undef,undef,undef,undef,undef,undef,undef,undef,undef,undef,undef,undef,undef,undef,undef,undef,undef,undef,undef,undef,undef,undef,undef],[]⟩ ∧
   St w w' [Ent.box w.heap.size #[.slice (some ⟨b1,o1,none⟩) L cv,v2] 45,Ent.box (w.heap.size+1) #[.int .i64 0,.slice none 0 0,.slice none 0 0,.slice none 0 0] 28,(if l3=true then Ent.row 3 1 (.slice (some ⟨b5,0,none⟩) 1 1) 1 [.int .i64 0] else Ent.nil),(if l6=true then Ent.row 3 1 (.slice a6 E.length c6) E.length (intCells E) else Ent.nil),(if l8=true then Ent.box b (if l9=true then #[.int .i64 L,.slice none 0 0,.slice (some ⟨b5,0,none⟩) 1 1,.slice a6 E.length c6] else #[.int .i64 0,.slice none 0 0,.slice none 0 0,.slice none 0 0]) 28 else Ent.nil)]) ?_ ?_ _ _ _ _ (ZkC _ _) ?_
 ·rintro listed a w' ⟨l0,l1,l2,l3,l4,l5,l6,l7,l8,l9,a6,c6,b5,b,rfl,hd7,hd9,rfl,hS⟩ i hi;obtain⟨hun,o,ho,hall⟩:=mem_ready.1 hi;have hlt:=(Array.getElem?_eq_some_iff.1 ho).1;refine wpOp_step ho (fun K hK => ?_);clear hi;have HS:=qh hS;clear hS;obtain h|h|h|h|h|h|h|h|h|h:i=0∨i=1∨i=2∨i=3∨i=4∨i=5∨i=6∨i=7∨i=8∨i=9:=by simp at hlt;omega
  all_goals subst h
  all_goals simp only[w_5,w_6,w_7,w_9] at ho
  all_goals subst ho
  all_goals simp[Region.binds] at hun hall
  ·subst hun;go_simp;exact hK _ _ ⟨_,_,_,_,_,_,_,_,_,_,a6,c6,b5,b,rfl,hd7,hd9,rfl,HS.out⟩
  ·obtain rfl:=hall;subst hun;have e0:=HS.out.cell (v:=.slice (some ⟨b1,o1,none⟩) L cv) 0 0 rfl rfl;go_simp;exact hK _ _ ⟨_,_,_,_,_,_,_,_,_,_,a6,c6,b5,b,rfl,hd7,hd9,rfl,HS.out⟩
  ·obtain rfl:=hall;subst hun;go_simp;exact hK _ _ ⟨_,_,_,_,_,_,_,_,_,_,a6,c6,b5,b,rfl,hd7,hd9,rfl,HS.out⟩
  ·subst hun;obtain rfl:l7=false:=offL hd7 rfl;obtain rfl:l9=false:=offL hd9 rfl;have hS2:=(((HS.out.alloc _ rfl #[.int .i64 0] 3).boxrow 5 1 1 [.int .i64 0] rfl rfl (by unfold maxLen;omega)).pick [0,1,5,3,4] (by decide));have HhS2:=qh hS2;clear hS2;go_simp;exact hK _ _ ⟨_,_,_,_,_,_,_,_,_,_,a6,c6,_,b,rfl,by simp,by simp,rfl,HhS2.out⟩
  ·subst hun;go_simp;exact hK _ _ ⟨_,_,_,_,_,_,_,_,_,_,a6,c6,b5,b,rfl,hd7,hd9,rfl,HS.out⟩
  ·obtain rfl:=hall;subst hun;have e0:=HS.out.cell (v:=v2) 0 1 rfl rfl;go_simp;exact hK _ _ ⟨_,_,_,_,_,_,_,_,_,_,a6,c6,b5,b,rfl,hd7,hd9,rfl,HS.out⟩
  ·obtain rfl:=hall;subst hun;obtain rfl:l7=false:=offR hd7 rfl;obtain rfl:l9=false:=offL hd9 rfl;go_simp
   go_at_call 161
   refine(Hl8.out _ HS.out.bel).mono ?_;rintro e u1 ⟨a7,c8,rfl,hSx⟩;have hS2:=(HS.out.cat hSx).pick [0,1,2,5,4] (by decide);have HhS2:=qh hS2;clear hS2;go_simp;exact hK _ _ ⟨_,_,_,_,_,_,_,_,_,_,a7,c8,b5,b,rfl,by simp,by simp,rfl,HhS2.out⟩
  ·obtain⟨rfl,rfl,rfl⟩:=hall;subst hun;obtain rfl:l9=false:=offL hd9 rfl;go_simp;exact hK _ _ ⟨_,_,_,_,_,_,_,_,_,_,a6,c6,b5,b,rfl,by simp,by simp,rfl,HS.out⟩
  ·subst hun;obtain rfl:l9=false:=offR hd9 rfl;have hS2:=(HS.out.alloc _ rfl #[.int .i64 0,.slice none 0 0,.slice none 0 0,.slice none 0 0] 28).pick [0,1,2,3,5] (by decide);have HhS2:=qh hS2;clear hS2;go_simp;exact hK _ _ ⟨_,_,_,_,_,_,_,_,_,_,a6,c6,b5,_,rfl,hd7,by simp,rfl,HhS2.out⟩
  obtain⟨rfl,rfl,rfl,rfl,rfl,rfl,rfl,rfl,rfl,-⟩:=hall;subst hun;have f0:=HS.out.fr 4 0 rfl;have k0:=HS.out.cell (v:=.int .i64 0) 4 0 rfl rfl;have f1:=HS.out.fr 4 1 rfl;have k1:=HS.out.cell (v:=.slice none 0 0) 4 1 rfl rfl;have f2:=HS.out.fr 4 2 rfl;have k2:=HS.out.cell (v:=.slice none 0 0) 4 2 rfl rfl;have f3:=HS.out.fr 4 3 rfl;have k3:=HS.out.cell (v:=.slice none 0 0) 4 3 rfl rfl;go_simp;exact hK _ _ ⟨_,_,_,_,_,_,_,_,_,_,a6,c6,b5,b,rfl,by simp,by simp,rfl,((((HS.out.set 4 rfl 0 (.int .i64 L)).set 4 rfl 1 (.slice none 0 0)).set 4 rfl 2 (.slice (some ⟨b5,0,none⟩) 1 1)).set 4 rfl 3 (.slice a6 E.length c6))⟩
 ·rintro listed a w' ⟨l0,l1,l2,l3,l4,l5,l6,l7,l8,l9,a6,c6,b5,b,rfl,hd7,hd9,rfl,hS⟩ hr;obtain⟨rfl,rfl,rfl,rfl,rfl,rfl,rfl,rfl,rfl,rfl,-⟩:=zA (ZaJ (by kernel_rfl) rfl hr) rfl;clear hr hd7 hd9;simp only[↓reduceIte] at hS ⊢;have x1:=hS.cell (v:=.slice (some ⟨b1,o1,none⟩) L cv) 0 0 rfl rfl;have hS0:=(hS.pick [0,1,2,3,4] (by decide)).nilRow 34 3
  have hS2:St w w' [Ent.box w.heap.size #[.slice (some ⟨b1,o1,none⟩) L cv,v2] 45,Ent.box (w.heap.size+1) #[.int .i64 0,.slice none 0 0,.slice none 0 0,.slice none 0 0] 28,Ent.row 3 1 (.slice (some ⟨b5,0,none⟩) 1 1) 1 [.int .i64 0],Ent.row 3 1 (.slice a6 E.length c6) E.length (intCells E),
    Ent.box b #[.int .i64 L,.slice none 0 0,.slice (some ⟨b5,0,none⟩) 1 1,.slice a6 E.length c6] 28,Ent.row 34 3 (.slice none 0 0) 0 []]:=hS0
  have HhS2:=qh hS2;clear hS2;clear hS hS0 x1;go_wp2
  go_loopw [4] (fun i wr=>∃ (s c1:Nat) (a1:Option Addr),i = .int .i64 s∧s≤L∧St w wr [Ent.box w.heap.size #[.slice (some ⟨b1,o1,none⟩) L cv,v2] 45,Ent.box (w.heap.size+1) #[.int .i64 0,.slice none 0 0,.slice none 0 0,.slice none 0 0] 28,Ent.row 3 1 (.slice (some ⟨b5,0,none⟩) 1 1) 1 [.int .i64 0],Ent.row 3 1 (.slice a6 E.length c6) E.length (intCells E),
    Ent.box b #[.int .i64 L,.slice a1 (mvs d s).length c1,.slice (some ⟨b5,0,none⟩) 1 1,.slice a6 E.length c6] 28,Ent.row 34 3 (.slice a1 (mvs d s).length c1) (mvs d s).length ((mvs d s).flatMap Zac)])
   (fun i _=>L-(intOf i).toNat)
  case atStart=>exact⟨0,0,none,rfl,Nat.zero_le _,HhS2.out⟩
  case round =>
   obtain⟨s,c1,a1,rfl,hs,hS⟩:=hrel;obtain⟨wo,hwo⟩:∃ wo:World,wo=wr:=⟨_,rfl⟩;subst hwo;have x1:=hS.cell (v:=.slice (some ⟨b1,o1,none⟩) L cv) 0 0 rfl rfl;have hml:=Zdp d s;obtain⟨M,hM⟩:=eI (mvs d s);rw[← hM] at hS hml;have hmle:M.length≤120:=by omega
   by_cases hlt:s<L
   ·have hlt2:(s:Int)<L:=by omega
    obtain⟨ar,cr,hcr,-,-,hIr⟩:=Hcs1.out s hlt;obtain⟨hr3,-⟩:=Hrow.out s (by have:=hL.out;omega);rw[hr3] at hcr hIr;obtain⟨_,_,hform,hrc1,hrc2,hrr⟩:=hIr.form;rw[hr3] at hform hrr hrc1;simp only[Value.slice.injEq,true_and] at hform;obtain⟨rfl,rfl⟩:=hform;obtain⟨b3,o3,rfl,-,hb3,hcs3⟩:=hrr (by omega);have Hcs3:=qh hcs3;have Hhcr:=qh hcr;clear hcr;have HhS:=qh hS;clear hS;have HhM:=qh hM;clear hM;have Hhml:=qh hml;clear hml;clear hcs3 hrr hIr hr3;go_wp2
    go_loopw [5] (fun i wi=>∃ (c c1:Nat) (a1:Option Addr),i = .int .i64 c∧c≤3∧St w wi [Ent.box w.heap.size #[.slice (some ⟨b1,o1,none⟩) L cv,v2] 45,Ent.box (w.heap.size+1) #[.int .i64 0,.slice none 0 0,.slice none 0 0,.slice none 0 0] 28,Ent.row 3 1 (.slice (some ⟨b5,0,none⟩) 1 1) 1 [.int .i64 0],Ent.row 3 1 (.slice a6 E.length c6) E.length (intCells E),
      Ent.box b #[.int .i64 L,.slice a1 (M.length+c) c1,.slice (some ⟨b5,0,none⟩) 1 1,.slice a6 E.length c6] 28,Ent.row 34 3 (.slice a1 (M.length+c) c1) (M.length+c) ((M++(rowM d s).take c).flatMap Zac)])
     (fun i _=>3-(intOf i).toNat)
    case atStart=>exact⟨0,c1,a1,rfl,by omega,by rw[List.take_zero,List.append_nil];exact HhS.out⟩
    case round =>
     obtain⟨c,c1,a1,rfl,hc3',hSi⟩:=hrel;obtain⟨wp,hwp⟩:∃ wp:World,wp=wr:=⟨_,rfl⟩;subst hwp;by_cases hc:c<3
     ·have hc4:(c:Int)<3:=by omega
      have htk:=ZiR d s hc;have k3:=Hcs3.out c hc;obtain⟨x,hx⟩:=eI ((d.next.getD s []).getD c 0);rw[← hx] at k3 htk;obtain⟨N,hN⟩:=eI (M++(rowM d s).take c);obtain⟨nl,hnl⟩:=eI (M.length+c);have hnle:nl≤130:=by omega
      rw[← hN,← hnl] at hSi;have Hk3:=qh k3;clear k3;have Hhtk:=qh htk;clear htk;have Hhx:=qh hx;clear hx;have HhN:=qh hN;clear hN;have Hhnl:=qh hnl;clear hnl;have HhSi:=qh hSi;clear hSi;clear x1;go_wp2;refine wp_region_any (by kernel_rfl) ?_
      refine Zak (fun A listed a w'=>∃ (l0 l1 l2 l3 l4 l5 l6 l7 l8 l9 l10 l11 l12 l13 l14 l15 l16:Bool) (g7:Nat) (c7:Nat) (bn:Nat),listed=#[l0,l1,l2,l3,l4,l5,l6,l7,l8,l9,l10,l11,l12,l13,l14,l15,l16]∧(l14=true→l1=true∧l13=true)∧(l16=true→l14=true∧l1=true) ∧
        a=⟨((((((((((((((((A.tmps.setIfInBounds 29 (if l0=true then .pointer (some ⟨b,1,none⟩) else A.tmps.getD 29 undef)).setIfInBounds 30 (if l1=true then .slice a1 nl c1 else A.tmps.getD 30 undef)).setIfInBounds 31 (if l2=true then .int .i64 (s:Int) else A.tmps.getD 31 undef)).setIfInBounds 32 (if l3=true then .int .i64 (c:Int) else A.tmps.getD 32 undef)).setIfInBounds 33 (if l4=true then .pointer (some ⟨w.heap.size,0,none⟩) else A.tmps.getD 33 undef)).setIfInBounds 34 (if l5=true then .slice (some ⟨b1,o1,none⟩) L cv else A.tmps.getD 34 undef)).setIfInBounds 35 (if l6=true then .int .i64 (s:Int) else A.tmps.getD 35 undef)).setIfInBounds 36 (if l7=true then .pointer (some ⟨b1,o1+s,none⟩) else A.tmps.getD 36 undef)).setIfInBounds 37 (if l8=true then .slice (some ⟨b3,o3,none⟩) 3 cr else A.tmps.getD 37 undef)).setIfInBounds 38 (if l9=true then .int .i64 (c:Int) else A.tmps.getD 38 undef)).setIfInBounds 39 (if l10=true then .pointer (some ⟨b3,o3+c,none⟩) else A.tmps.getD 39 undef)).setIfInBounds 40 (if l11=true then .int .i64 x else A.tmps.getD 40 undef)).setIfInBounds 41 (if l12=true then .agg #[.int .i64 s,.int .i64 c,.int .i64 x] else A.tmps.getD 41 undef)).setIfInBounds 42 (if l13=true then .slice (some ⟨bn,0,none⟩) 1 1 else A.tmps.getD 42 undef)).setIfInBounds 43 (if l14=true then .slice (some ⟨g7,0,none⟩) (nl+1) c7 else A.tmps.getD 43 undef)).setIfInBounds 44 (if l15=true then .pointer (some ⟨b,1,none⟩) else A.tmps.getD 44 undef)),A.defers⟩ ∧
        St w w' [Ent.box w.heap.size #[.slice (some ⟨b1,o1,none⟩) L cv,v2] 45,Ent.box (w.heap.size+1) #[.int .i64 0,.slice none 0 0,.slice none 0 0,.slice none 0 0] 28,Ent.row 3 1 (.slice (some ⟨b5,0,none⟩) 1 1) 1 [.int .i64 0],Ent.row 3 1 (.slice a6 E.length c6) E.length (intCells E),Ent.box b #[.int .i64 L,(if l16=true then .slice (some ⟨g7,0,none⟩) (nl+1) c7 else .slice a1 nl c1),.slice (some ⟨b5,0,none⟩) 1 1,.slice a6 E.length c6] 28,(if l14=true then Ent.row 34 3 (.slice (some ⟨g7,0,none⟩) (nl+1) c7) (nl+1) (N.flatMap Zac++[.int .i64 s,.int .i64 c,.int .i64 x]) else Ent.row 34 3 (.slice a1 nl c1) nl (N.flatMap Zac)),(if l13=true then Ent.box bn #[.int .i64 s,.int .i64 c,.int .i64 x] 34 else Ent.nil)]) ?_ ?_ ?_
      ·rintro listed a w' ⟨l0,l1,l2,l3,l4,l5,l6,l7,l8,l9,l10,l11,l12,l13,l14,l15,l16,g7,c7,bn,rfl,hd14,hd16,rfl,hS⟩ i hi;obtain⟨hun,o,ho,hall⟩:=mem_ready.1 hi;have hlt:=(Array.getElem?_eq_some_iff.1 ho).1;refine wpOp_step ho (fun K hK => ?_);clear hi;have HS:=qh hS;clear hS;simp only[w_1,w_2,w_3,w_4,w_5,w_6,w_7,w_8];obtain h|h|h|h|h|h|h|h|h|h|h|h|h|h|h|h|h:i=0∨i=1∨i=2∨i=3∨i=4∨i=5∨i=6∨i=7∨i=8∨i=9∨i=10∨i=11∨i=12∨i=13∨i=14∨i=15∨i=16:=by simp at hlt;omega
       all_goals subst h
       all_goals simp only[w_5,w_6,w_7,w_9] at ho
       all_goals subst ho
       all_goals simp[Region.binds] at hun hall
       ·subst hun;go_simp;exact hK _ _ ⟨_,_,_,_,_,_,_,_,_,_,_,_,_,_,_,_,_,g7,c7,bn,rfl,hd14,hd16,(by simp),HS.out⟩
       ·obtain rfl:=hall;subst hun;obtain rfl:l14=false:=offL hd14 rfl;obtain rfl:l16=false:=offL hd16 rfl;have e0:=HS.out.cell (v:=.slice a1 nl c1) 4 1 rfl rfl;go_simp;exact hK _ _ ⟨_,_,_,_,_,_,_,_,_,_,_,_,_,_,_,_,_,g7,c7,bn,rfl,by simp,by simp,(by simp),HS.out⟩
       ·subst hun;go_simp;exact hK _ _ ⟨_,_,_,_,_,_,_,_,_,_,_,_,_,_,_,_,_,g7,c7,bn,rfl,hd14,hd16,(by simp),HS.out⟩
       ·subst hun;go_simp;exact hK _ _ ⟨_,_,_,_,_,_,_,_,_,_,_,_,_,_,_,_,_,g7,c7,bn,rfl,hd14,hd16,(by simp),HS.out⟩
       ·subst hun;go_simp;exact hK _ _ ⟨_,_,_,_,_,_,_,_,_,_,_,_,_,_,_,_,_,g7,c7,bn,rfl,hd14,hd16,(by simp),HS.out⟩
       ·obtain rfl:=hall;subst hun;have e0:=HS.out.cell (v:=.slice (some ⟨b1,o1,none⟩) L cv) 0 0 rfl rfl;go_simp;exact hK _ _ ⟨_,_,_,_,_,_,_,_,_,_,_,_,_,_,_,_,_,g7,c7,bn,rfl,hd14,hd16,(by simp),HS.out⟩
       ·subst hun;go_simp;exact hK _ _ ⟨_,_,_,_,_,_,_,_,_,_,_,_,_,_,_,_,_,g7,c7,bn,rfl,hd14,hd16,(by simp),HS.out⟩
       ·obtain⟨rfl,rfl⟩:=hall;subst hun;go_simp;exact hK _ _ ⟨_,_,_,_,_,_,_,_,_,_,_,_,_,_,_,_,_,g7,c7,bn,rfl,hd14,hd16,(by simp),HS.out⟩
       ·obtain rfl:=hall;subst hun;have e0:=(bcell HS.out.bel b1 _ hb1).trans Hhcr.out;go_simp;exact hK _ _ ⟨_,_,_,_,_,_,_,_,_,_,_,_,_,_,_,_,_,g7,c7,bn,rfl,hd14,hd16,(by simp),HS.out⟩
       ·subst hun;go_simp;exact hK _ _ ⟨_,_,_,_,_,_,_,_,_,_,_,_,_,_,_,_,_,g7,c7,bn,rfl,hd14,hd16,(by simp),HS.out⟩
       ·obtain⟨rfl,rfl⟩:=hall;subst hun;go_simp;exact hK _ _ ⟨_,_,_,_,_,_,_,_,_,_,_,_,_,_,_,_,_,g7,c7,bn,rfl,hd14,hd16,(by simp),HS.out⟩
       ·obtain rfl:=hall;subst hun;have e0:=(bcell HS.out.bel b3 _ hb3).trans Hk3.out;go_simp;exact hK _ _ ⟨_,_,_,_,_,_,_,_,_,_,_,_,_,_,_,_,_,g7,c7,bn,rfl,hd14,hd16,(by simp),HS.out⟩
       ·obtain⟨rfl,rfl,rfl⟩:=hall;subst hun;go_simp;exact hK _ _ ⟨_,_,_,_,_,_,_,_,_,_,_,_,_,_,_,_,_,g7,c7,bn,rfl,hd14,hd16,(by simp),HS.out⟩
       ·obtain rfl:=hall;subst hun;obtain rfl:l14=false:=offR hd14 rfl;obtain rfl:l16=false:=offL hd16 rfl;have hS2:=(HS.out.alloc _ rfl #[.int .i64 s,.int .i64 c,.int .i64 x] 34).pick [0,1,2,3,4,5,7] (by decide);have HhS2:=qh hS2;clear hS2;go_simp;exact hK _ _ ⟨_,_,_,_,_,_,_,_,_,_,_,_,_,_,_,_,_,g7,c7,_,rfl,by simp,by simp,(by simp),HhS2.out⟩
       ·obtain⟨rfl,rfl⟩:=hall;subst hun;obtain rfl:l16=false:=offL hd16 rfl;refine step_append_lies (a:=⟨_,_⟩) _ (by rfl) _ _ _ (by rfl) w.heap.size 34 i0 (.agg #[.int .i64 0,.int .i64 0,.int .i64 0]) 3 24 Try.underlying25 Hhi.out Hhz0.out Hhz1.out Hhz2.out (by rfl) (by omega) (.slice a1 nl c1) nl (N.flatMap Zac) (by rfl) (HS.out.row 5 rfl) ⟨bn,0,none⟩ 1 1 [.int .i64 s,.int .i64 c,.int .i64 x] (by rfl) (by rfl) (World.news_of_block (HS.out.box 6 rfl)) Zgb (by omega) (by unfold maxLen;omega) (by omega) HS.out.size _ rfl ?_;intro g8 c8 w8 hown8 hgrow8 hat8 hlt8;have HS8:=qh (HS.out.app 5 rfl hown8 hgrow8 hat8);clear hown8 hgrow8 hat8;go_simp;exact hK _ _ ⟨_,_,_,_,_,_,_,_,_,_,_,_,_,_,_,_,_,g8,c8,bn,rfl,by simp,by simp,(by simp),HS8.out⟩
       ·obtain⟨rfl,rfl,rfl,rfl,rfl,rfl,rfl,rfl,rfl,rfl,rfl,rfl,rfl,rfl,rfl⟩:=hall;subst hun;go_simp;exact hK _ _ ⟨_,_,_,_,_,_,_,_,_,_,_,_,_,_,_,_,_,g7,c7,bn,rfl,by simp,hd16,(by simp only[↓reduceIte,w_1,w_2,w_3]),HS.out⟩
       obtain⟨rfl,rfl,rfl,rfl,rfl,rfl,rfl,rfl,rfl,rfl,rfl,rfl,rfl,rfl,rfl,rfl,-⟩:=hall;subst hun;have f0:=HS.out.fr 4 1 rfl;have k0:=HS.out.cell (v:=.slice a1 nl c1) 4 1 rfl rfl;go_simp;exact hK _ _ ⟨_,_,_,_,_,_,_,_,_,_,_,_,_,_,_,_,_,g7,c7,bn,rfl,by simp,by simp,(by simp only[↓reduceIte,w_1,w_2,w_3]),(HS.out.set 4 rfl 1 (.slice (some ⟨g7,0,none⟩) (nl+1) c7))⟩
      ·rintro listed a w' ⟨l0,l1,l2,l3,l4,l5,l6,l7,l8,l9,l10,l11,l12,l13,l14,l15,l16,g7,c7,bn,rfl,hd14,hd16,rfl,hS⟩ hr;obtain⟨rfl,rfl,rfl,rfl,rfl,rfl,rfl,rfl,rfl,rfl,rfl,rfl,rfl,rfl,rfl,rfl,rfl,-⟩:=zA (ZaJ (by kernel_rfl) rfl hr) rfl;clear hr hd14 hd16;simp only[↓reduceIte] at hS ⊢;simp only[w_1,w_2,w_3];have hS9:=hS.pick [0,1,2,3,4,5] (by decide);have HhS9:=qh hS9;clear hS9;clear hS;go_wp2;go_roundw
       case rel =>refine⟨c+1,c7,some ⟨g7,0,none⟩,by go_num,by omega,?_⟩;rw[Hhtk.out,← List.append_assoc,← HhN.out,Zb1,show M.length+(c+1)=nl+1 by rw[Hhnl.out];omega];exact HhS9.out
       case measure=>simp[intOf];omega
      refine⟨false,false,false,false,false,false,false,false,false,false,false,false,false,false,false,false,false,0,0,0,rfl,by simp,by simp,(by simp),?_⟩;exact HhSi.out.drew.pick [0,1,2,3,4,5,6] (by decide)
     obtain rfl:c=3:=by omega
     have hta:(rowM d s).take 3=rowM d s:=List.take_of_length_le (by rw[Zfo];exact Nat.le_refl _);have hM1:M++rowM d s=mvs d (s+1):=by rw[HhM.out];rfl
     have hMl:M.length+3=(mvs d (s+1)).length:=by rw[Zdp,Hhml.out];omega
     rw[hta,hM1,hMl] at hSi;have HhSi:=qh hSi;clear hSi;have HhM1:=qh hM1;clear hM1;have HhMl:=qh hMl;clear hMl;clear hta x1;go_wp2;go_roundw
     case rel=>exact⟨s+1,c1,a1,by go_num,by omega,HhSi.out⟩
     case measure=>simp[intOf];omega
   obtain rfl:s=L:=by omega
   have f0:=hS.fr 1 0 rfl;have f1:=hS.fr 1 1 rfl;have f2:=hS.fr 1 2 rfl;have f3:=hS.fr 1 3 rfl;have k0:=hS.cell (v:=.int .i64 0) 1 0 rfl rfl;have k1:=hS.cell (v:=.slice none 0 0) 1 1 rfl rfl;have k2:=hS.cell (v:=.slice none 0 0) 1 2 rfl rfl;have k3:=hS.cell (v:=.slice none 0 0) 1 3 rfl rfl;have d0:=hS.cell (v:=.int .i64 s) 4 0 rfl rfl;have d1:=hS.cell (v:=.slice a1 M.length c1) 4 1 rfl rfl;have d2:=hS.cell (v:=.slice (some ⟨b5,0,none⟩) 1 1) 4 2 rfl rfl;have d3:=hS.cell (v:=.slice a6 E.length c6) 4 3 rfl rfl;have HhS:=qh hS;clear hS;have HhM:=qh hM;clear hM;have Hhml:=qh hml;clear hml;go_wp2;have hq:=(((HhS.out.set 1 rfl 0 (.int .i64 s)).set 1 rfl 1 (.slice a1 M.length c1)).set 1 rfl 2 (.slice (some ⟨b5,0,none⟩) 1 1)).set 1 rfl 3 (.slice a6 E.length c6);have q0:=hq.cell (v:=.int .i64 s) 1 0 rfl rfl;have q1:=hq.cell (v:=.slice a1 M.length c1) 1 1 rfl rfl;have q2:=hq.cell (v:=.slice (some ⟨b5,0,none⟩) 1 1) 1 2 rfl rfl;have q3:=hq.cell (v:=.slice a6 E.length c6) 1 3 rfl rfl;refine bodyPost_ret (v:=.agg #[.int .i64 s,.slice a1 M.length c1,.slice (some ⟨b5,0,none⟩) 1 1,.slice a6 E.length c6]) (by simp[results,Try.results159,go_sem,q0,q1,q2,q3]) rfl ?_;have hr:RNfaS ⟨(s:Int),M,[0],E⟩ w (.returned (.agg #[.int .i64 s,.slice a1 M.length c1,.slice (some ⟨b5,0,none⟩) 1 1,.slice a6 E.length c6])) _:=⟨a1,c1,_,1,a6,c6,rfl,hq.pick [5,2,3] (by decide)⟩;have hn:ZbR d=⟨(s:Int),M,[0],E⟩:=by unfold ZbR;rw[← hL.out,HhM.out,hE.out]
   rw[hn];exact hr
 refine⟨false,false,false,false,false,false,false,false,false,false,none,0,0,0,rfl,by simp,by simp,rfl,?_⟩;exact HhS1.out.drew.pick [0,1,2,3,4] (by decide)
def RTt (D:DfaD) (fb:Bool) (B:Nat) (e:Ending) (w':World):Prop:=∃ a1 c1 a2 c2,e = .returned (.tuple #[.agg #[.slice a1 D.next.length c1,.slice a2 D.ends.length c2],.bool fb])∧DfaO 26 3 4 B w'.heap.size w' (.agg #[.slice a1 D.next.length c1,.slice a2 D.ends.length c2]) D
theorem ZeU {d:DfaD} (h:fine d) (h40:d.next.length≤40):Zaf d.next d.ends=true:=by
 obtain⟨h1,-,h3,hr⟩:=h;simp only[Zaf,Bool.and_eq_true,List.all_eq_true,decide_eq_true_eq];refine⟨⟨fun x hx => ?_,?_⟩,h3⟩
 ·obtain⟨i,hi,e⟩:=List.getElem_of_mem hx;obtain⟨a,b⟩:=hr i hi;rw[ZaW hi,e] at a b;simp only[Zcf,Bool.and_eq_true,decide_eq_true_eq,List.all_eq_true];refine⟨a,fun y hy => ?_⟩;obtain⟨c,hc,e2⟩:=List.getElem_of_mem hy;have:=b c (by omega);rw[ZaW hc,e2] at this;unfold inB;simp;omega
 unfold inB;simp;omega
theorem ZgK {d:DfaD} (h:Zaf d.next d.ends=true):Zaf (Zbo d).next (Zbo d).ends=true∧(Zbo d).next.length≤d.next.length:=by obtain⟨h1,h2,-⟩:=ZeK (ZaE h);have:=Zag h;exact⟨ZeU h1 (by omega),h2⟩
theorem Zju {x:DfaD} (h:Zaf x.next x.ends=true):Zaf (ZbS x).next (ZbS x).ends=true:=by obtain⟨h1,h2,-⟩:=Ze6 (ZaE h);have:=Zag h;exact ZeU h1 (by omega)
end Go.Proofs.Ytfanhfcamblghaa
namespace Go.Proofs.Ytfanhfcamblghaa
open Go.RowKit Go.Maps
theorem Try.infoPr:(Try.prog.info? 106).map (fun i=>(i.zero,i.size,i.bytes))=some (some (.agg #[.int .i64 0,.int .i64 0]),2,16):=by kernel_rfl
theorem Zfe (w:World):(zeroValue 3).run Try.prog w = .ok (.int .i64 0) w:=by kernel_rfl
theorem ZeT:Own4 106:=by unfold Own4;decide
abbrev pairZ:Value:=.agg #[.int .i64 0,.int .i64 0]
def RExp (nx:Int × Int→Nat→Int × Int) (en:Int × Int→Bool) (most B:Nat) (e:Ending) (w':World):Prop :=
 if (bat nx (0,0) most).met.length≤most then
  ∃ an cn ae ce am cm,e = .returned (.tuple #[.agg #[.slice an (bat nx (0,0) most).met.length cn,.slice ae (bat nx (0,0) most).met.length ce],.slice am (bat nx (0,0) most).met.length cm,.bool true]) ∧
   DfaO 26 3 4 B w'.heap.size w' (.agg #[.slice an (bat nx (0,0) most).met.length cn,.slice ae (bat nx (0,0) most).met.length ce]) (Zaz nx en (bat nx (0,0) most).met) ∧
   OPairs 106 B w'.heap.size w' (.slice am (bat nx (0,0) most).met.length cm) (bat nx (0,0) most).met
 else e = .returned (.tuple #[.agg #[.slice none 0 0,.slice none 0 0],.slice none 0 0,.bool false])
theorem ZeS {w:World} {base e g n cap:Nat} {S:List (Int × Int)} (h:w.ownsRow base e 2 (.slice (some ⟨g,0,none⟩) n cap) S.length (S.flatMap Zah)) {k:Nat} (hk:k<S.length) :
  w.cell? ⟨g,k*2,none⟩=some (.int .i64 (S.getD k (0,0)).1)∧w.cell? ⟨g,k*2+1,none⟩=some (.int .i64 (S.getD k (0,0)).2):=by
 have h0:=ZbK Zah 2 (fun _=>rfl) S k 0 (0,0) hk (by omega);have h1:=ZbK Zah 2 (fun _=>rfl) S k 1 (0,0) hk (by omega)
 have hn:n=S.length:=by
  rcases h.2 with⟨hh,_⟩|⟨g',cap',cur,hh,_⟩
  ·cases hh
  simp only[Value.slice.injEq] at hh;exact hh.2.1
 subst hn;exact⟨(h.cellAt _ (by omega)).trans (by simpa [Zah] using h0),(h.cellAt _ (by omega)).trans (by simpa [Zah] using h1)⟩
theorem Zle {w:World} {g B o p:Nat} {a b:Value} (hne:g≠B) (h:w.cell? ⟨g,o,none⟩=some a∧w.cell? ⟨g,p,none⟩=some b) {u:Value} {j:Nat}:(w.setCell ⟨B,j,none⟩ u).cell? ⟨g,o,none⟩=some a∧(w.setCell ⟨B,j,none⟩ u).cell? ⟨g,p,none⟩=some b:=by have hb:=Below.heap_setCell w ⟨B,j,none⟩ u g hne;exact⟨(World.cell?_of_block (a:=⟨g,o,none⟩) hb).trans h.1,(World.cell?_of_block (a:=⟨g,p,none⟩) hb).trans h.2⟩
abbrev metP (a b:DfaD) (most:Nat):List (Int × Int):=(bat (Zat a b) (0,0) most).met
theorem Zha {a b:DfaD} (hda:Zaf a.next a.ends=true) (hdb:Zaf b.next b.ends=true):Zc7 a b (0,0)=true:=by have h1:=Zag hda;have h2:=Zag hdb;simp[Zc7,inB];omega
theorem Zhb {a b:DfaD} (hda:Zaf a.next a.ends=true) (hdb:Zaf b.next b.ends=true) {x:Int × Int} {c:Nat} (hc:c<3) (hx:Zc7 a b x=true):Zc7 a b (Zat a b x c)=true:=by obtain⟨i,j,rfl,hi,hj⟩:=Ze5 hx;have h1:=(ZaI hda hi).2 c hc;have h2:=(ZaI hdb hj).2 c hc;have e:Zat a b ((i:Int),(j:Int)) c=((a.next.getD i []).getD c 0,(b.next.getD j []).getD c 0):=rfl;rw[e];simp only[Zc7,inB,Bool.and_eq_true,decide_eq_true_eq];omega
end Go.Proofs.Ytfanhfcamblghaa
namespace Go.Proofs.Ytfanhfcamblghaa
open Go.RowKit
def shJ (n:Nat) (m:Int × Int × Int):Int × Int × Int:=(m.1+(n:Int),m.2.1,m.2.2+(n:Int))
def ZgJ (a b:DfaD):NfaD :=
 ⟨((a.next.length+b.next.length:Nat):Int),mvs a a.next.length++(mvs b b.next.length).map (shJ a.next.length)++(eds a a.next.length).map (fun e=>(e,-1,(a.next.length:Int))),[0],(eds b b.next.length).map (fun e=>e+(a.next.length:Int))⟩
def Zh2 (a:DfaD):NfaD :=
 ⟨((a.next.length+1:Nat):Int),mvs a a.next.length++[((a.next.length:Int),-1,0)]++(eds a a.next.length).map (fun e=>(e,-1,(a.next.length:Int))),[(a.next.length:Int)],[(a.next.length:Int)]⟩
def detM (M K:Nat) (n:NfaD):Option DfaD:=if (metSM M n K).length≤K then some (Zaz (nxSM M n) (enS n) (metSM M n K)) else none
def Zfq (K:Nat) (f:Bool→Bool→Bool) (a b:DfaD):Option DfaD:=if (metP a b K).length≤K then some (Zaz (Zat a b) (ZcM f a b) (metP a b K)) else none
def Zic:DfaD:=⟨[[0,0,0]],[false]⟩
def oneD:DfaD:=⟨[[1,1,1],[1,1,1]],[true,false]⟩
def ltrD (c:Fin 3):DfaD:=⟨[[2,2,2].set c.val 1,[2,2,2],[2,2,2]],[false,true,false]⟩
def negD (a:DfaD):DfaD:=⟨a.next,a.ends.map (fun x => !x)⟩
def Zav (K:Nat):Ex→Option DfaD
 | .zero=>some (Zal Zic)
 | .one=>some (Zal oneD)
 | .ltr c=>some (Zal (ltrD c))
 | .join a b=>(Zav K a).bind fun x=>(Zav K b).bind fun y=>(detM 81 K (ZgJ x y)).map Zal
 | .alt a b=>(Zav K a).bind fun x=>(Zav K b).bind fun y=>(Zfq K (fun p q=>p||q) x y).map Zal
 | .both a b=>(Zav K a).bind fun x=>(Zav K b).bind fun y=>(Zfq K (fun p q=>p&&q) x y).map Zal
 | .neg a=>(Zav K a).map fun x=>Zal (negD x)
 | .star a=>(Zav K a).bind fun x=>(detM 81 K (Zh2 x)).map Zal
theorem Zgd {α:Type} [DecidableEq α] {nx:α→Nat→α} {a:α} {en:α→Bool} {K:Nat} (hK:K=40) (h:(bat nx a K).met.length≤K):Zaf (Zaz nx en (bat nx a K).met).next (Zaz nx en (bat nx a K).met).ends=true:=by obtain⟨h1,h2,h3,h4⟩:=ZdU (en:=en) (nx:=nx) (a:=a) h (by omega);exact ZhL h1 (by rw[Zbj];omega) h3 fun i hi=>h4 i hi
theorem ZfI {M K:Nat} (hK:K=40) {n:NfaD} {d:DfaD} (h:detM M K n=some d):Zaf d.next d.ends=true:=by
 unfold detM at h
 split at h
 ·rename_i hle;simp only[w_9] at h;subst h;exact Zgd hK hle
 cases h
theorem ZdQ {K:Nat} (hK:K=40) {f:Bool→Bool→Bool} {a b d:DfaD} (h:Zfq K f a b=some d):Zaf d.next d.ends=true:=by
 unfold Zfq at h
 split at h
 ·rename_i hle;simp only[w_9] at h;subst h;exact Zgd hK hle
 cases h
theorem Zbx {d:DfaD} (h:Zaf d.next d.ends=true):Zaf (Zal d).next (Zal d).ends=true :=
 (ZgK (Zju (ZgK h).1)).1
theorem ZhA:Zaf Zic.next Zic.ends=true:=by decide
theorem Zi2:Zaf oneD.next oneD.ends=true:=by decide
theorem Zjd (c:Fin 3):Zaf (ltrD c).next (ltrD c).ends=true:=by
 have:c=0∨c=1∨c=2:=by omega
 rcases this with rfl|rfl|rfl<;>decide
theorem Zi6 {d:DfaD} (h:Zaf d.next d.ends=true):Zaf (negD d).next (negD d).ends=true:=by simp only[Zaf,Bool.and_eq_true,decide_eq_true_eq] at h ⊢;exact⟨h.1,by simpa [negD] using h.2⟩
theorem ZcI {K:Nat} (hK:K=40):∀ (t:Ex) {d:DfaD},Zav K t=some d→Zaf d.next d.ends=true:=by
 intro t;cases t with
 | zero=>intro d h;simp only[Zav,w_9] at h;subst h;exact Zbx ZhA
 | one=>intro d h;simp only[Zav,w_9] at h;subst h;exact Zbx Zi2
 | ltr c=>intro d h;simp only[Zav,w_9] at h;subst h;exact Zbx (Zjd c)
 | join a b =>intro d h;simp only[Zav,Option.bind_eq_some_iff,Option.map_eq_some_iff] at h;obtain⟨x,-,y,-,z,hz,rfl⟩:=h;exact Zbx (ZfI hK hz)
 | alt a b =>intro d h;simp only[Zav,Option.bind_eq_some_iff,Option.map_eq_some_iff] at h;obtain⟨x,-,y,-,z,hz,rfl⟩:=h;exact Zbx (ZdQ hK hz)
 | both a b =>intro d h;simp only[Zav,Option.bind_eq_some_iff,Option.map_eq_some_iff] at h;obtain⟨x,-,y,-,z,hz,rfl⟩:=h;exact Zbx (ZdQ hK hz)
 | neg a =>intro d h;simp only[Zav,Option.map_eq_some_iff] at h;obtain⟨x,hx,rfl⟩:=h;exact Zbx (Zi6 (ZcI hK a hx))
 | star a =>intro d h;simp only[Zav,Option.bind_eq_some_iff,Option.map_eq_some_iff] at h;obtain⟨x,-,z,hz,rfl⟩:=h;exact Zbx (ZfI hK hz)
theorem ZdS {m:Nat} {xs ys:List (Int × Int × Int)} (h:mvIn m xs) (h':mvIn m ys):mvIn m (xs++ys):=fun x hx=>by
 rcases List.mem_append.1 hx with hx|hx
 ·exact h x hx
 exact h' x hx
theorem ZjX {a b:DfaD} (ha:Zaf a.next a.ends=true) (hb:Zaf b.next b.ends=true):mvIn (a.next.length+b.next.length) (ZgJ a b).moves:=by
 have h1:=Zgh ha _ (Nat.le_refl _);have h2:=Zgh hb _ (Nat.le_refl _);have hlb:=Zag hb;refine ZdS (ZdS (Zi8 h1 (by omega)) fun x hx => ?_) fun x hx => ?_
 ·obtain⟨y,hy,rfl⟩:=List.mem_map.1 hx;have:=h2 y hy;simp only[shJ];omega
 obtain⟨y,hy,rfl⟩:=List.mem_map.1 hx;have:=Zgw a _ y hy;simp only;omega
theorem Zh3 {a b:DfaD}:inN (a.next.length+b.next.length) (ZgJ a b).ends:=fun x hx=>by obtain⟨y,hy,rfl⟩:=List.mem_map.1 hx;have:=Zgw b _ y hy;omega
theorem ZfX {a b:DfaD} (ha:Zaf a.next a.ends=true):inN (a.next.length+b.next.length) [0]:=fun x hx=>by have hla:=Zag ha;simp only[List.mem_singleton] at hx;omega
theorem ZjW {a:DfaD} (ha:Zaf a.next a.ends=true):mvIn (a.next.length+1) (Zh2 a).moves:=by
 have h1:=Zgh ha _ (Nat.le_refl _);refine ZdS (ZdS (Zi8 h1 (by omega)) fun x hx => ?_) fun x hx => ?_
 ·simp only[List.mem_singleton] at hx;subst hx;simp only;omega
 obtain⟨y,hy,rfl⟩:=List.mem_map.1 hx;have:=Zgw a _ y hy;simp only;omega
theorem Zh1 {a:DfaD}:inN (a.next.length+1) [(a.next.length:Int)]:=fun x hx=>by simp only[List.mem_singleton] at hx;omega
structure DfaC (w:World) (d:DfaD) (b1 o1 cv b2 o2 cw:Nat):Prop where
 l1:1≤d.next.length
 l2:d.next.length≤40
 le:d.ends.length=d.next.length
 c1:d.next.length≤cv∧cv≤9223372036854775807
 c2:d.next.length≤cw∧cw≤9223372036854775807
 hb1:b1<w.heap.size
 hb2:b2<w.heap.size
 row:∀ i,i<d.next.length→∃ b3 o3 c3,b3<w.heap.size∧3≤c3∧c3≤9223372036854775807∧w.cell? ⟨b1,o1+i,none⟩=some (.slice (some ⟨b3,o3,none⟩) 3 c3)∧∀ c,c<3→w.cell? ⟨b3,o3+c,none⟩=some (.int .i64 (nxD d i c:Nat))
 en:∀ i,i<d.next.length→w.cell? ⟨b2,o2+i,none⟩=some (.bool (enD d i))
 lt:∀ i c,i<d.next.length→c<3→nxD d i c<d.next.length
 dx:∀ i c,i<d.next.length→c<3→dnx d (i:Int) c=(nxD d i c:Nat)
theorem Zbh {d:DfaD} {w:World} {v:Value} (hd:Zaf d.next d.ends=true) (h:DfaR 0 w v d):∃ b1 o1 cv b2 o2 cw,v = .agg #[.slice (some ⟨b1,o1,none⟩) d.next.length cv,.slice (some ⟨b2,o2,none⟩) d.next.length cw]∧DfaC w d b1 o1 cv b2 o2 cw:=by obtain⟨v1,v2,rfl,q1,q2⟩:=h;have hf:=ZaE hd;obtain⟨hl1,hl2,hle⟩:=Zag hd;obtain⟨av,cv,rfl,hc1,hc2,hr1⟩:=q1.formI;obtain⟨b1,o1,rfl,-,hb1,hcs1⟩:=hr1 (by omega);obtain⟨av2,cw,rfl,hc3,hc4,hr2⟩:=q2.form;rw[hle] at hc3 hr2;obtain⟨b2,o2,rfl,-,hb2,hcs2⟩:=hr2 (by omega);rw[hle];refine⟨b1,o1,cv,b2,o2,cw,rfl,hl1,hl2,hle,⟨hc1,hc2⟩,⟨hc3,hc4⟩,hb1,hb2,fun i hi => ?_,fun i hi=>hcs2 i hi,fun i c hi hc=>(Zbp hf hi hc).1,fun i c hi hc=>(Zbp hf hi hc).2⟩;obtain⟨ax,cx,hks,p1,p2,hIs⟩:=hcs1 i hi;have hr3:=(ZaI hd hi).1;rw[hr3] at hks hIs p1;obtain⟨_,_,hform,-,-,hrs⟩:=hIs.form;rw[hr3] at hform hrs;simp only[Value.slice.injEq,true_and] at hform;obtain⟨rfl,rfl⟩:=hform;obtain⟨b3,o3,rfl,-,hb3,hcs3⟩:=hrs (by omega);refine⟨b3,o3,cx,hb3,p1,p2,hks,fun c hc => ?_⟩;rw[hcs3 c hc];have hyx:=(Zbp hf hi hc).2;unfold dnx at hyx;rw[Int.toNat_natCast] at hyx;rw[hyx]
def RD (D:DfaD) (w:World) (e:Ending) (w':World):Prop:=∃ a1 c1 a2 c2,e = .returned (.agg #[.slice a1 D.next.length c1,.slice a2 D.ends.length c2])∧DfaR w.heap.size w' (.agg #[.slice a1 D.next.length c1,.slice a2 D.ends.length c2]) D∧Below w.heap.size w w'
theorem DfaC.below {w w':World} {d:DfaD} {b1 o1 cv b2 o2 cw:Nat} (h:DfaC w d b1 o1 cv b2 o2 cw) (hb:Below w.heap.size w w'):DfaC w' d b1 o1 cv b2 o2 cw where
 l1:=h.l1
 l2:=h.l2
 le:=h.le
 c1:=h.c1
 c2:=h.c2
 hb1:=Nat.lt_of_lt_of_le h.hb1 hb.size
 hb2:=Nat.lt_of_lt_of_le h.hb2 hb.size
 row:=fun i hi=>by obtain⟨b3,o3,c3,p1,p2,p3,p4,p5⟩:=h.row i hi;exact⟨b3,o3,c3,Nat.lt_of_lt_of_le p1 hb.size,p2,p3,(bcell hb b1 _ h.hb1).trans p4,fun c hc=>(bcell hb b3 _ p1).trans (p5 c hc)⟩
 en:=fun i hi=>(bcell hb b2 _ h.hb2).trans (h.en i hi)
 lt:=h.lt
 dx:=h.dx
def RDo (D:DfaD) (w:World) (e:Ending) (w':World):Prop:=∃ a1 c1 a2 c2,e = .returned (.agg #[.slice a1 D.next.length c1,.slice a2 D.ends.length c2]) ∧
 DfaO 26 3 4 w.heap.size w'.heap.size w' (.agg #[.slice a1 D.next.length c1,.slice a2 D.ends.length c2]) D∧Below w.heap.size w w'
end Go.Proofs.Ytfanhfcamblghaa
