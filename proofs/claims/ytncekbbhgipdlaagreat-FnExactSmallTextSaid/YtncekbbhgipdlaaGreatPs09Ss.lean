/-
  The walks over the reference's l8List and NfaOf.
  Conditions: the automaton is valid and reads as such.
-/
import Derived.Test.YtncekbbhgipdlaaGreatPs08Tv
set_option maxHeartbeats 8000000
set_option maxRecDepth 100000
namespace Go.Proofs.YtncekbbhgipdlaaGreat
open Go.RowKit
theorem ZlB (d:DfaD) (v:Value) (w:World) (hl:d.ends.length≤40) (h:Bools 0 w v d.ends) :
  Calls Tryz.prog 155 #[v] w fun e w'=>∃ a c,e = .returned (.slice a (eds d d.ends.length).length c)∧St w w' [Ent.row 3 1 (.slice a (eds d d.ends.length).length c) (eds d d.ends.length).length (intCells (eds d d.ends.length))]:=by
 obtain⟨n,hn⟩:=eI (d.ends.length);obtain⟨a2,c2,rfl,hc3,hc4,hr2⟩:=h.form;rw[← hn] at hc3 hr2 hl;rw[← hn];obtain⟨j0,hj,hy0,hy1,hy2⟩:=info_parts Tryz.infoInt;have hS0:=((St.start w).alloc _ rfl #[] 3).boxrow 0 0 1 [] rfl rfl (Nat.zero_le _);have Hr:=qh hr2;replace hS0:=qh hS0;have Hhn:=qh hn;clear hn;have Hhj:=qh hj;clear hj;have Hhy0:=qh hy0;clear hy0;have Hhy1:=qh hy1;clear hy1;have Hhy2:=qh hy2;clear hy2;clear hr2 h
 go_enter Tryz.func155, Tryz.ntmps155
 go_wp2
 go_loopw [3,4] (fun ov i wr=>∃ (k c:Nat) (a:Option Addr),i = .int .i64 k∧ov = .slice a (eds d k).length c∧k≤n∧St w wr [Ent.row 3 1 (.slice a (eds d k).length c) (eds d k).length (intCells (eds d k))])
  (fun _ i _=>n-(intOf i).toNat)
 case atStart=>exact⟨0,0,_,rfl,rfl,Nat.zero_le _,hS0.out⟩
 case round =>
  obtain⟨k,c,a,rfl,rfl,hk,hS⟩:=hrel;obtain⟨E,hE⟩:=eI (eds d k);have hel:=ZcN d k;rw[← hE] at hS hel;by_cases hlt:k<n
  ·have hlt2:(k:Int)<n:=by omega
   obtain⟨b2,o2,rfl,-,hb2,hcs⟩:=Hr.out (by omega);have k2:=(bcell hS.bel b2 _ hb2).trans (hcs k hlt);have hele:E.length≤40:=by omega
   replace hE:=qh hE;have HhS:=qh hS;clear hS;clear hcs hel;cases hz:d.ends.getD k false with
   | false =>
    rw[hz] at k2;have hE1:eds d (k+1)=E:=by rw[hE.out];show(if d.ends.getD k false=true then _ else _)=_;rw[hz];rfl
    have HhE1:=qh hE1;clear hE1;have Hhz:=qh hz;clear hz;go_wp2;go_roundw
    case rel =>refine⟨k+1,c,a,by go_num,by rw[HhE1.out,hE.out],by omega,?_⟩;rw[HhE1.out];exact HhS.out
    case measure=>simp[intOf];omega
   | true =>
    rw[hz] at k2;have hE1:eds d (k+1)=E++[(k:Int)]:=by rw[hE.out];show(if d.ends.getD k false=true then _ else _)=_;rw[hz];rfl
    have hSa:=HhS.out.alloc_ (.cells #[.int .i64 k] 3);have hRw:=hSa.row 0 rfl;rw[← hE.out];have HhSa:=qh hSa;clear hSa;have HhRw:=qh hRw;clear hRw;have HhE1:=qh hE1;clear hE1;have Hhz:=qh hz;clear hz;go_wp2_with (at_builtin;refine wpList_append_lies _ rfl _ _ _ rfl _ 3 j0 (.int .i64 0) 1 8 Tryz.underlying38 Hhj.out Hhy0.out Hhy1.out Hhy2.out rfl (by omega) _ E.length _ rfl HhRw.out ⟨wr.heap.size,0,none⟩ 1 1 [.int .i64 k] rfl rfl (World.news_of_block (heap_alloc_new wr _)) on_i (by omega) (by unfold maxLen;omega) (by omega) HhSa.out.size _ rfl ?_;intro g6 c6 w6 hown6 hgrow6 hat6 hlt6;have HS6:=qh (HhSa.out.app 0 rfl hown6 hgrow6 hat6);clear hown6 hgrow6 hat6 hlt6);go_roundw
    case rel =>
     have hl1:(eds d (k+1)).length=E.length+1:=by rw[HhE1.out];simp
     refine⟨k+1,c6,some ⟨g6,0,none⟩,by go_num,by rw[hl1],by omega,?_⟩;rw[hl1,HhE1.out,Zm9];exact HS6.out
    case measure=>simp[intOf];omega
  obtain rfl:k=n:=by omega
  have hge:(k:Int)≤k:=Int.le_refl _;have HhS:=qh hS;clear hS;rw[← hE];replace hE:=qh hE;clear hel;go_wp2;go_ret;rw[← hE.out];exact⟨a,c,rfl,HhS.out⟩
theorem Zc1 (d:DfaD) (v:Value) (w:World) (hd:Zah d.next d.ends=true) (h:DfaR 0 w v d) :
  Calls Tryz.prog 125 #[v] w fun e w'=>RNfaS (Za1 d) w e w':=by
 obtain⟨v1,v2,rfl,q1,q2⟩:=h;have hval:=fun (w':World) (hb:Below w.heap.size w w')=>Zbu d.next d.ends v1 v2 w' (q1.below hb) (q2.below hb) true hd
 have hlist:=fun (w':World) (hb:Below w.heap.size w w')=>ZlB d v2 w' (by have:=Zaj hd;omega) (q2.below hb)
 obtain⟨L,hL⟩:=eI (d.next.length);obtain⟨hl1,hl2,hl3⟩:=Zaj hd;have hrow:=fun (i:Nat) (hi:i<d.next.length)=>(ZaV hd hi)
 obtain⟨av,cv,rfl,hc1,hc2,hr1⟩:=q1.formI;obtain⟨b1,o1,rfl,-,hb1,hcs1⟩:=hr1 (by omega);rw[hl3] at hlist;rw[← hL] at hl1 hl2 hl3 hrow hc1 hcs1 hlist hval;rw[← hL];obtain⟨E,hE⟩:=eI (eds d L);have hel:=ZcN d L;rw[← hE] at hlist hel;have hele:E.length≤40:=by omega
 obtain⟨i0,hi,hz0,hz1,hz2⟩:=info_parts Tryz.infoMv;have hS:=((St.start w).alloc _ rfl #[.slice (some ⟨b1,o1,none⟩) L cv,v2] 44).alloc (w.heap.size+1) (by simp) #[.int .i64 0,.slice none 0 0,.slice none 0 0,.slice none 0 0] 81;have Hrow:=qh hrow;have Hcs1:=qh hcs1;have Hval:=qh hval;have Hl8:=qh hlist;have HhS:=qh hS;clear hS;replace hL:=qh hL;replace hE:=qh hE;have Hhi:=qh hi;clear hi;have Hhz0:=qh hz0;clear hz0;have Hhz1:=qh hz1;clear hz1;have Hhz2:=qh hz2;clear hz2;clear hrow hcs1 hr1 q1 q2 hd hl3 hval hlist hel
 go_enter Tryz.func125, Tryz.ntmps125
 go_wp2_with fail;refine(Hval.out _ HhS.out.bel).mono ?_;rintro e w1 ⟨rfl,hb⟩;have hS1:=HhS.out.call hb;have HhS1:=qh hS1;clear hS1;clear hb;go_wp2;refine wp_region_any (by kernel_rfl) ?_
 refine ZfX (fun listed a w'=>∃ (l0 l1 l2 l3 l4 l5 l6 l7 l8 l9:Bool) (a6:Option Addr) (c6:Nat) (b5:Nat) (b:Nat),listed=#[l0,l1,l2,l3,l4,l5,l6,l7,l8,l9]∧(l7=true→l3=true∧l6=true)∧(l9=true→l7=true∧l8=true) ∧
   a=⟨#[.agg #[.slice (some ⟨b1,o1,none⟩) L cv,v2],.pointer (some ⟨w.heap.size,0,none⟩),.pointer (some ⟨w.heap.size+1,0,none⟩),(if l8=true then .pointer (some ⟨b,0,none⟩) else undef),undef,undef,.agg #[.slice (some ⟨b1,o1,none⟩) L cv,v2],.bool true,.bool false,undef,(if l0=true then .pointer (some ⟨w.heap.size,0,none⟩) else undef),(if l1=true then .slice (some ⟨b1,o1,none⟩) L cv else undef),(if l2=true then .int .i64 (L:Int) else undef),(if l3=true then .slice (some ⟨b5,0,none⟩) 1 1 else undef),(if l4=true then .pointer (some ⟨w.heap.size,1,none⟩) else undef),(if l5=true then v2 else undef),(if l6=true then .slice a6 E.length c6 else undef),(if l7=true then .agg #[.int .i64 L,.slice none 0 0,.slice (some ⟨b5,0,none⟩) 1 1,.slice a6 E.length c6] else undef),undef,undef,undef,undef,undef,undef,undef,undef,undef,undef,undef,undef,undef,undef,undef,undef,undef,undef,undef,undef,undef,undef,undef,undef,undef,undef,undef,undef],[]⟩ ∧
   St w w' [Ent.box w.heap.size #[.slice (some ⟨b1,o1,none⟩) L cv,v2] 44,Ent.box (w.heap.size+1) #[.int .i64 0,.slice none 0 0,.slice none 0 0,.slice none 0 0] 81,(if l3=true then Ent.row 3 1 (.slice (some ⟨b5,0,none⟩) 1 1) 1 [.int .i64 0] else Ent.nil),(if l6=true then Ent.row 3 1 (.slice a6 E.length c6) E.length (intCells E) else Ent.nil),(if l8=true then Ent.box b (if l9=true then #[.int .i64 L,.slice none 0 0,.slice (some ⟨b5,0,none⟩) 1 1,.slice a6 E.length c6] else #[.int .i64 0,.slice none 0 0,.slice none 0 0,.slice none 0 0]) 81 else Ent.nil)]) ?_ ?_ _ _ _ _ (ZoV _ _) ?_
 ·rintro listed a w' ⟨l0,l1,l2,l3,l4,l5,l6,l7,l8,l9,a6,c6,b5,b,rfl,hd7,hd9,rfl,hS⟩ i hi;obtain⟨hun,o,ho,hall⟩:=mem_ready.1 hi;have hlt:=(Array.getElem?_eq_some_iff.1 ho).1;refine wpOp_step ho (fun K hK => ?_);clear hi;have HS:=qh hS;clear hS;obtain h|h|h|h|h|h|h|h|h|h:i=0∨i=1∨i=2∨i=3∨i=4∨i=5∨i=6∨i=7∨i=8∨i=9:=by simp at hlt;omega
  all_goals subst h
  all_goals simp only[w_5,w_6,w_7,w_9] at ho
  all_goals subst ho
  all_goals simp[Region.binds] at hun hall
  ·subst hun;go_simp;exact hK _ _ ⟨_,_,_,_,_,_,_,_,_,_,a6,c6,b5,b,rfl,hd7,hd9,rfl,HS.out⟩
  ·obtain rfl:=hall;subst hun;have e0:=HS.out.cell (v:=.slice (some ⟨b1,o1,none⟩) L cv) 0 0 rfl rfl;go_simp;exact hK _ _ ⟨_,_,_,_,_,_,_,_,_,_,a6,c6,b5,b,rfl,hd7,hd9,rfl,HS.out⟩
  ·obtain rfl:=hall;subst hun;go_simp;exact hK _ _ ⟨_,_,_,_,_,_,_,_,_,_,a6,c6,b5,b,rfl,hd7,hd9,rfl,HS.out⟩
  ·subst hun;obtain rfl:l7=false:=offL hd7 rfl;obtain rfl:l9=false:=offL hd9 rfl;have hS2:=(((HS.out.alloc _ rfl #[.int .i64 0] 3).boxrow 5 1 1 [.int .i64 0] rfl rfl (by unfold maxLen;omega)).pick [0,1,5,3,4] (by decide));have HhS2:=qh hS2;clear hS2;go_simp;exact hK _ _ ⟨_,_,_,_,_,_,_,_,_,_,a6,c6,_,b,rfl,by simp,by simp,rfl,HhS2.out⟩
  ·subst hun;go_simp;exact hK _ _ ⟨_,_,_,_,_,_,_,_,_,_,a6,c6,b5,b,rfl,hd7,hd9,rfl,HS.out⟩
  ·obtain rfl:=hall;subst hun;have e0:=HS.out.cell (v:=v2) 0 1 rfl rfl;go_simp;exact hK _ _ ⟨_,_,_,_,_,_,_,_,_,_,a6,c6,b5,b,rfl,hd7,hd9,rfl,HS.out⟩
  ·obtain rfl:=hall;subst hun;obtain rfl:l7=false:=offR hd7 rfl;obtain rfl:l9=false:=offL hd9 rfl;go_simp
   go_at_call 155
   refine(Hl8.out _ HS.out.bel).mono ?_;rintro e u1 ⟨a7,c8,rfl,hSx⟩;have hS2:=(HS.out.cat hSx).pick [0,1,2,5,4] (by decide);have HhS2:=qh hS2;clear hS2;go_simp;exact hK _ _ ⟨_,_,_,_,_,_,_,_,_,_,a7,c8,b5,b,rfl,by simp,by simp,rfl,HhS2.out⟩
  ·obtain⟨rfl,rfl,rfl⟩:=hall;subst hun;obtain rfl:l9=false:=offL hd9 rfl;go_simp;exact hK _ _ ⟨_,_,_,_,_,_,_,_,_,_,a6,c6,b5,b,rfl,by simp,by simp,rfl,HS.out⟩
  ·subst hun;obtain rfl:l9=false:=offR hd9 rfl;have hS2:=(HS.out.alloc _ rfl #[.int .i64 0,.slice none 0 0,.slice none 0 0,.slice none 0 0] 81).pick [0,1,2,3,5] (by decide);have HhS2:=qh hS2;clear hS2;go_simp;exact hK _ _ ⟨_,_,_,_,_,_,_,_,_,_,a6,c6,b5,_,rfl,hd7,by simp,rfl,HhS2.out⟩
  obtain⟨rfl,rfl,rfl,rfl,rfl,rfl,rfl,rfl,rfl,-⟩:=hall;subst hun;have f0:=HS.out.fr 4 0 rfl;have k0:=HS.out.cell (v:=.int .i64 0) 4 0 rfl rfl;have f1:=HS.out.fr 4 1 rfl;have k1:=HS.out.cell (v:=.slice none 0 0) 4 1 rfl rfl;have f2:=HS.out.fr 4 2 rfl;have k2:=HS.out.cell (v:=.slice none 0 0) 4 2 rfl rfl;have f3:=HS.out.fr 4 3 rfl;have k3:=HS.out.cell (v:=.slice none 0 0) 4 3 rfl rfl;go_simp;exact hK _ _ ⟨_,_,_,_,_,_,_,_,_,_,a6,c6,b5,b,rfl,by simp,by simp,rfl,((((HS.out.set 4 rfl 0 (.int .i64 L)).set 4 rfl 1 (.slice none 0 0)).set 4 rfl 2 (.slice (some ⟨b5,0,none⟩) 1 1)).set 4 rfl 3 (.slice a6 E.length c6))⟩
 ·rintro listed a w' ⟨l0,l1,l2,l3,l4,l5,l6,l7,l8,l9,a6,c6,b5,b,rfl,hd7,hd9,rfl,hS⟩ hr;obtain⟨rfl,rfl,rfl,rfl,rfl,rfl,rfl,rfl,rfl,rfl,-⟩:=zA (Zbo (by kernel_rfl) rfl hr) rfl;clear hr hd7 hd9;simp only[↓reduceIte] at hS ⊢;have x1:=hS.cell (v:=.slice (some ⟨b1,o1,none⟩) L cv) 0 0 rfl rfl;have hS0:=(hS.pick [0,1,2,3,4] (by decide)).nilRow 117 3
  have hS2:St w w' [Ent.box w.heap.size #[.slice (some ⟨b1,o1,none⟩) L cv,v2] 44,Ent.box (w.heap.size+1) #[.int .i64 0,.slice none 0 0,.slice none 0 0,.slice none 0 0] 81,Ent.row 3 1 (.slice (some ⟨b5,0,none⟩) 1 1) 1 [.int .i64 0],Ent.row 3 1 (.slice a6 E.length c6) E.length (intCells E),
    Ent.box b #[.int .i64 L,.slice none 0 0,.slice (some ⟨b5,0,none⟩) 1 1,.slice a6 E.length c6] 81,Ent.row 117 3 (.slice none 0 0) 0 []]:=hS0
  have HhS2:=qh hS2;clear hS2;clear hS hS0 x1;go_wp2
  go_loopw [4] (fun i wr=>∃ (s c1:Nat) (a1:Option Addr),i = .int .i64 s∧s≤L∧St w wr [Ent.box w.heap.size #[.slice (some ⟨b1,o1,none⟩) L cv,v2] 44,Ent.box (w.heap.size+1) #[.int .i64 0,.slice none 0 0,.slice none 0 0,.slice none 0 0] 81,Ent.row 3 1 (.slice (some ⟨b5,0,none⟩) 1 1) 1 [.int .i64 0],Ent.row 3 1 (.slice a6 E.length c6) E.length (intCells E),
    Ent.box b #[.int .i64 L,.slice a1 (mvs d s).length c1,.slice (some ⟨b5,0,none⟩) 1 1,.slice a6 E.length c6] 81,Ent.row 117 3 (.slice a1 (mvs d s).length c1) (mvs d s).length ((mvs d s).flatMap Zac)])
   (fun i _=>L-(intOf i).toNat)
  case atStart=>exact⟨0,0,none,rfl,Nat.zero_le _,HhS2.out⟩
  case round =>
   obtain⟨s,c1,a1,rfl,hs,hS⟩:=hrel;obtain⟨wo,hwo⟩:∃ wo:World,wo=wr:=⟨_,rfl⟩;subst hwo;have x1:=hS.cell (v:=.slice (some ⟨b1,o1,none⟩) L cv) 0 0 rfl rfl;have hml:=Zcd d s;obtain⟨M,hM⟩:=eI (mvs d s);rw[← hM] at hS hml;have hmle:M.length≤120:=by omega
   by_cases hlt:s<L
   ·have hlt2:(s:Int)<L:=by omega
    obtain⟨ar,cr,hcr,-,-,hIr⟩:=Hcs1.out s hlt;obtain⟨hr3,-⟩:=Hrow.out s (by have:=hL.out;omega);rw[hr3] at hcr hIr;obtain⟨_,_,hform,hrc1,hrc2,hrr⟩:=hIr.form;rw[hr3] at hform hrr hrc1;simp only[Value.slice.injEq,true_and] at hform;obtain⟨rfl,rfl⟩:=hform;obtain⟨b3,o3,rfl,-,hb3,hcs3⟩:=hrr (by omega);have Hcs3:=qh hcs3;have Hhcr:=qh hcr;clear hcr;have HhS:=qh hS;clear hS;have HhM:=qh hM;clear hM;have Hhml:=qh hml;clear hml;clear hcs3 hrr hIr hr3;go_wp2
    go_loopw [5] (fun i wi=>∃ (c c1:Nat) (a1:Option Addr),i = .int .i64 c∧c≤3∧St w wi [Ent.box w.heap.size #[.slice (some ⟨b1,o1,none⟩) L cv,v2] 44,Ent.box (w.heap.size+1) #[.int .i64 0,.slice none 0 0,.slice none 0 0,.slice none 0 0] 81,Ent.row 3 1 (.slice (some ⟨b5,0,none⟩) 1 1) 1 [.int .i64 0],Ent.row 3 1 (.slice a6 E.length c6) E.length (intCells E),
      Ent.box b #[.int .i64 L,.slice a1 (M.length+c) c1,.slice (some ⟨b5,0,none⟩) 1 1,.slice a6 E.length c6] 81,Ent.row 117 3 (.slice a1 (M.length+c) c1) (M.length+c) ((M++(rowM d s).take c).flatMap Zac)])
     (fun i _=>3-(intOf i).toNat)
    case atStart=>exact⟨0,c1,a1,rfl,by omega,by rw[List.take_zero,List.append_nil];exact HhS.out⟩
    case round =>
     obtain⟨c,c1,a1,rfl,hc3',hSi⟩:=hrel;obtain⟨wp,hwp⟩:∃ wp:World,wp=wr:=⟨_,rfl⟩;subst hwp;by_cases hc:c<3
     ·have hc4:(c:Int)<3:=by omega
      have htk:=ZiS d s hc;have k3:=Hcs3.out c hc;obtain⟨x,hx⟩:=eI ((d.next.getD s []).getD c 0);rw[← hx] at k3 htk;obtain⟨N,hN⟩:=eI (M++(rowM d s).take c);obtain⟨nl,hnl⟩:=eI (M.length+c);have hnle:nl≤130:=by omega
      rw[← hN,← hnl] at hSi;have Hk3:=qh k3;clear k3;have Hhtk:=qh htk;clear htk;have Hhx:=qh hx;clear hx;have HhN:=qh hN;clear hN;have Hhnl:=qh hnl;clear hnl;have HhSi:=qh hSi;clear hSi;clear x1;go_wp2;refine wp_region_any (by kernel_rfl) ?_
      refine Zar (fun A listed a w'=>∃ (l0 l1 l2 l3 l4 l5 l6 l7 l8 l9 l10 l11 l12 l13 l14 l15 l16:Bool) (g7:Nat) (c7:Nat) (bn:Nat),listed=#[l0,l1,l2,l3,l4,l5,l6,l7,l8,l9,l10,l11,l12,l13,l14,l15,l16]∧(l14=true→l1=true∧l13=true)∧(l16=true→l14=true∧l1=true) ∧
        a=⟨((((((((((((((((A.tmps.setIfInBounds 29 (if l0=true then .pointer (some ⟨b,1,none⟩) else A.tmps.getD 29 undef)).setIfInBounds 30 (if l1=true then .slice a1 nl c1 else A.tmps.getD 30 undef)).setIfInBounds 31 (if l2=true then .int .i64 (s:Int) else A.tmps.getD 31 undef)).setIfInBounds 32 (if l3=true then .int .i64 (c:Int) else A.tmps.getD 32 undef)).setIfInBounds 33 (if l4=true then .pointer (some ⟨w.heap.size,0,none⟩) else A.tmps.getD 33 undef)).setIfInBounds 34 (if l5=true then .slice (some ⟨b1,o1,none⟩) L cv else A.tmps.getD 34 undef)).setIfInBounds 35 (if l6=true then .int .i64 (s:Int) else A.tmps.getD 35 undef)).setIfInBounds 36 (if l7=true then .pointer (some ⟨b1,o1+s,none⟩) else A.tmps.getD 36 undef)).setIfInBounds 37 (if l8=true then .slice (some ⟨b3,o3,none⟩) 3 cr else A.tmps.getD 37 undef)).setIfInBounds 38 (if l9=true then .int .i64 (c:Int) else A.tmps.getD 38 undef)).setIfInBounds 39 (if l10=true then .pointer (some ⟨b3,o3+c,none⟩) else A.tmps.getD 39 undef)).setIfInBounds 40 (if l11=true then .int .i64 x else A.tmps.getD 40 undef)).setIfInBounds 41 (if l12=true then .agg #[.int .i64 s,.int .i64 c,.int .i64 x] else A.tmps.getD 41 undef)).setIfInBounds 42 (if l13=true then .slice (some ⟨bn,0,none⟩) 1 1 else A.tmps.getD 42 undef)).setIfInBounds 43 (if l14=true then .slice (some ⟨g7,0,none⟩) (nl+1) c7 else A.tmps.getD 43 undef)).setIfInBounds 44 (if l15=true then .pointer (some ⟨b,1,none⟩) else A.tmps.getD 44 undef)),A.defers⟩ ∧
        St w w' [Ent.box w.heap.size #[.slice (some ⟨b1,o1,none⟩) L cv,v2] 44,Ent.box (w.heap.size+1) #[.int .i64 0,.slice none 0 0,.slice none 0 0,.slice none 0 0] 81,Ent.row 3 1 (.slice (some ⟨b5,0,none⟩) 1 1) 1 [.int .i64 0],Ent.row 3 1 (.slice a6 E.length c6) E.length (intCells E),Ent.box b #[.int .i64 L,(if l16=true then .slice (some ⟨g7,0,none⟩) (nl+1) c7 else .slice a1 nl c1),.slice (some ⟨b5,0,none⟩) 1 1,.slice a6 E.length c6] 81,(if l14=true then Ent.row 117 3 (.slice (some ⟨g7,0,none⟩) (nl+1) c7) (nl+1) (N.flatMap Zac++[.int .i64 s,.int .i64 c,.int .i64 x]) else Ent.row 117 3 (.slice a1 nl c1) nl (N.flatMap Zac)),(if l13=true then Ent.box bn #[.int .i64 s,.int .i64 c,.int .i64 x] 117 else Ent.nil)]) ?_ ?_ ?_
      ·rintro listed a w' ⟨l0,l1,l2,l3,l4,l5,l6,l7,l8,l9,l10,l11,l12,l13,l14,l15,l16,g7,c7,bn,rfl,hd14,hd16,rfl,hS⟩ i hi;obtain⟨hun,o,ho,hall⟩:=mem_ready.1 hi;have hlt:=(Array.getElem?_eq_some_iff.1 ho).1;refine wpOp_step ho (fun K hK => ?_);clear hi;have HS:=qh hS;clear hS;simp only[w_1,w_2,w_3,w_4,w_5,w_6,w_7,w_8];obtain h|h|h|h|h|h|h|h|h|h|h|h|h|h|h|h|h:i=0∨i=1∨i=2∨i=3∨i=4∨i=5∨i=6∨i=7∨i=8∨i=9∨i=10∨i=11∨i=12∨i=13∨i=14∨i=15∨i=16:=by simp at hlt;omega
       all_goals subst h
       all_goals simp only[w_5,w_6,w_7,w_9] at ho
       all_goals subst ho
       all_goals simp[Region.binds] at hun hall
       ·subst hun;go_simp;exact hK _ _ ⟨_,_,_,_,_,_,_,_,_,_,_,_,_,_,_,_,_,g7,c7,bn,rfl,hd14,hd16,(by simp),HS.out⟩
       ·obtain rfl:=hall;subst hun;obtain rfl:l14=false:=offL hd14 rfl;obtain rfl:l16=false:=offL hd16 rfl;have e0:=HS.out.cell (v:=.slice a1 nl c1) 4 1 rfl rfl;go_simp;exact hK _ _ ⟨_,_,_,_,_,_,_,_,_,_,_,_,_,_,_,_,_,g7,c7,bn,rfl,by simp,by simp,(by simp),HS.out⟩
       ·subst hun;go_simp;exact hK _ _ ⟨_,_,_,_,_,_,_,_,_,_,_,_,_,_,_,_,_,g7,c7,bn,rfl,hd14,hd16,(by simp),HS.out⟩
       ·subst hun;go_simp;exact hK _ _ ⟨_,_,_,_,_,_,_,_,_,_,_,_,_,_,_,_,_,g7,c7,bn,rfl,hd14,hd16,(by simp),HS.out⟩
       ·subst hun;go_simp;exact hK _ _ ⟨_,_,_,_,_,_,_,_,_,_,_,_,_,_,_,_,_,g7,c7,bn,rfl,hd14,hd16,(by simp),HS.out⟩
       ·obtain rfl:=hall;subst hun;have e0:=HS.out.cell (v:=.slice (some ⟨b1,o1,none⟩) L cv) 0 0 rfl rfl;go_simp;exact hK _ _ ⟨_,_,_,_,_,_,_,_,_,_,_,_,_,_,_,_,_,g7,c7,bn,rfl,hd14,hd16,(by simp),HS.out⟩
       ·subst hun;go_simp;exact hK _ _ ⟨_,_,_,_,_,_,_,_,_,_,_,_,_,_,_,_,_,g7,c7,bn,rfl,hd14,hd16,(by simp),HS.out⟩
       ·obtain⟨rfl,rfl⟩:=hall;subst hun;go_simp;exact hK _ _ ⟨_,_,_,_,_,_,_,_,_,_,_,_,_,_,_,_,_,g7,c7,bn,rfl,hd14,hd16,(by simp),HS.out⟩
       ·obtain rfl:=hall;subst hun;have e0:=(bcell HS.out.bel b1 _ hb1).trans Hhcr.out;go_simp;exact hK _ _ ⟨_,_,_,_,_,_,_,_,_,_,_,_,_,_,_,_,_,g7,c7,bn,rfl,hd14,hd16,(by simp),HS.out⟩
       ·subst hun;go_simp;exact hK _ _ ⟨_,_,_,_,_,_,_,_,_,_,_,_,_,_,_,_,_,g7,c7,bn,rfl,hd14,hd16,(by simp),HS.out⟩
       ·obtain⟨rfl,rfl⟩:=hall;subst hun;go_simp;exact hK _ _ ⟨_,_,_,_,_,_,_,_,_,_,_,_,_,_,_,_,_,g7,c7,bn,rfl,hd14,hd16,(by simp),HS.out⟩
       ·obtain rfl:=hall;subst hun;have e0:=(bcell HS.out.bel b3 _ hb3).trans Hk3.out;go_simp;exact hK _ _ ⟨_,_,_,_,_,_,_,_,_,_,_,_,_,_,_,_,_,g7,c7,bn,rfl,hd14,hd16,(by simp),HS.out⟩
       ·obtain⟨rfl,rfl,rfl⟩:=hall;subst hun;go_simp;exact hK _ _ ⟨_,_,_,_,_,_,_,_,_,_,_,_,_,_,_,_,_,g7,c7,bn,rfl,hd14,hd16,(by simp),HS.out⟩
       ·obtain rfl:=hall;subst hun;obtain rfl:l14=false:=offR hd14 rfl;obtain rfl:l16=false:=offL hd16 rfl;have hS2:=(HS.out.alloc _ rfl #[.int .i64 s,.int .i64 c,.int .i64 x] 117).pick [0,1,2,3,4,5,7] (by decide);have HhS2:=qh hS2;clear hS2;go_simp;exact hK _ _ ⟨_,_,_,_,_,_,_,_,_,_,_,_,_,_,_,_,_,g7,c7,_,rfl,by simp,by simp,(by simp),HhS2.out⟩
       ·obtain⟨rfl,rfl⟩:=hall;subst hun;obtain rfl:l16=false:=offL hd16 rfl;refine step_append_lies (a:=⟨_,_⟩) _ (by rfl) _ _ _ (by rfl) w.heap.size 117 i0 (.agg #[.int .i64 0,.int .i64 0,.int .i64 0]) 3 24 Tryz.underlying79 Hhi.out Hhz0.out Hhz1.out Hhz2.out (by rfl) (by omega) (.slice a1 nl c1) nl (N.flatMap Zac) (by rfl) (HS.out.row 5 rfl) ⟨bn,0,none⟩ 1 1 [.int .i64 s,.int .i64 c,.int .i64 x] (by rfl) (by rfl) (World.news_of_block (HS.out.box 6 rfl)) ZdU (by omega) (by unfold maxLen;omega) (by omega) HS.out.size _ rfl ?_;intro g8 c8 w8 hown8 hgrow8 hat8 hlt8;have HS8:=qh (HS.out.app 5 rfl hown8 hgrow8 hat8);clear hown8 hgrow8 hat8;go_simp;exact hK _ _ ⟨_,_,_,_,_,_,_,_,_,_,_,_,_,_,_,_,_,g8,c8,bn,rfl,by simp,by simp,(by simp),HS8.out⟩
       ·obtain⟨rfl,rfl,rfl,rfl,rfl,rfl,rfl,rfl,rfl,rfl,rfl,rfl,rfl,rfl,rfl⟩:=hall;subst hun;go_simp;exact hK _ _ ⟨_,_,_,_,_,_,_,_,_,_,_,_,_,_,_,_,_,g7,c7,bn,rfl,by simp,hd16,(by simp only[↓reduceIte,w_1,w_2,w_3]),HS.out⟩
       obtain⟨rfl,rfl,rfl,rfl,rfl,rfl,rfl,rfl,rfl,rfl,rfl,rfl,rfl,rfl,rfl,rfl,-⟩:=hall;subst hun;have f0:=HS.out.fr 4 1 rfl;have k0:=HS.out.cell (v:=.slice a1 nl c1) 4 1 rfl rfl;go_simp;exact hK _ _ ⟨_,_,_,_,_,_,_,_,_,_,_,_,_,_,_,_,_,g7,c7,bn,rfl,by simp,by simp,(by simp only[↓reduceIte,w_1,w_2,w_3]),(HS.out.set 4 rfl 1 (.slice (some ⟨g7,0,none⟩) (nl+1) c7))⟩
      ·rintro listed a w' ⟨l0,l1,l2,l3,l4,l5,l6,l7,l8,l9,l10,l11,l12,l13,l14,l15,l16,g7,c7,bn,rfl,hd14,hd16,rfl,hS⟩ hr;obtain⟨rfl,rfl,rfl,rfl,rfl,rfl,rfl,rfl,rfl,rfl,rfl,rfl,rfl,rfl,rfl,rfl,rfl,-⟩:=zA (Zbo (by kernel_rfl) rfl hr) rfl;clear hr hd14 hd16;simp only[↓reduceIte] at hS ⊢;simp only[w_1,w_2,w_3];have hS9:=hS.pick [0,1,2,3,4,5] (by decide);have HhS9:=qh hS9;clear hS9;clear hS;go_wp2;go_roundw
       case rel =>refine⟨c+1,c7,some ⟨g7,0,none⟩,by go_num,by omega,?_⟩;rw[Hhtk.out,← List.append_assoc,← HhN.out,Zcr,show M.length+(c+1)=nl+1 by rw[Hhnl.out];omega];exact HhS9.out
       case measure=>simp[intOf];omega
      refine⟨false,false,false,false,false,false,false,false,false,false,false,false,false,false,false,false,false,0,0,0,rfl,by simp,by simp,(by simp),?_⟩;exact HhSi.out.drew.pick [0,1,2,3,4,5,6] (by decide)
     obtain rfl:c=3:=by omega
     have hta:(rowM d s).take 3=rowM d s:=List.take_of_length_le (by rw[ZfG];exact Nat.le_refl _);have hM1:M++rowM d s=mvs d (s+1):=by rw[HhM.out];rfl
     have hMl:M.length+3=(mvs d (s+1)).length:=by rw[Zcd,Hhml.out];omega
     rw[hta,hM1,hMl] at hSi;have HhSi:=qh hSi;clear hSi;have HhM1:=qh hM1;clear hM1;have HhMl:=qh hMl;clear hMl;clear hta x1;go_wp2;go_roundw
     case rel=>exact⟨s+1,c1,a1,by go_num,by omega,HhSi.out⟩
     case measure=>simp[intOf];omega
   obtain rfl:s=L:=by omega
   have f0:=hS.fr 1 0 rfl;have f1:=hS.fr 1 1 rfl;have f2:=hS.fr 1 2 rfl;have f3:=hS.fr 1 3 rfl;have k0:=hS.cell (v:=.int .i64 0) 1 0 rfl rfl;have k1:=hS.cell (v:=.slice none 0 0) 1 1 rfl rfl;have k2:=hS.cell (v:=.slice none 0 0) 1 2 rfl rfl;have k3:=hS.cell (v:=.slice none 0 0) 1 3 rfl rfl;have d0:=hS.cell (v:=.int .i64 s) 4 0 rfl rfl;have d1:=hS.cell (v:=.slice a1 M.length c1) 4 1 rfl rfl;have d2:=hS.cell (v:=.slice (some ⟨b5,0,none⟩) 1 1) 4 2 rfl rfl;have d3:=hS.cell (v:=.slice a6 E.length c6) 4 3 rfl rfl;have HhS:=qh hS;clear hS;have HhM:=qh hM;clear hM;have Hhml:=qh hml;clear hml;go_wp2;have hq:=(((HhS.out.set 1 rfl 0 (.int .i64 s)).set 1 rfl 1 (.slice a1 M.length c1)).set 1 rfl 2 (.slice (some ⟨b5,0,none⟩) 1 1)).set 1 rfl 3 (.slice a6 E.length c6);have q0:=hq.cell (v:=.int .i64 s) 1 0 rfl rfl;have q1:=hq.cell (v:=.slice a1 M.length c1) 1 1 rfl rfl;have q2:=hq.cell (v:=.slice (some ⟨b5,0,none⟩) 1 1) 1 2 rfl rfl;have q3:=hq.cell (v:=.slice a6 E.length c6) 1 3 rfl rfl;refine bodyPost_ret (v:=.agg #[.int .i64 s,.slice a1 M.length c1,.slice (some ⟨b5,0,none⟩) 1 1,.slice a6 E.length c6]) (by simp[results,Tryz.results125,go_sem,q0,q1,q2,q3]) rfl ?_;have hr:RNfaS ⟨(s:Int),M,[0],E⟩ w (.returned (.agg #[.int .i64 s,.slice a1 M.length c1,.slice (some ⟨b5,0,none⟩) 1 1,.slice a6 E.length c6])) _:=⟨a1,c1,_,1,a6,c6,rfl,hq.pick [5,2,3] (by decide)⟩;have hn:Za1 d=⟨(s:Int),M,[0],E⟩:=by unfold Za1;rw[← hL.out,HhM.out,hE.out]
   rw[hn];exact hr
 refine⟨false,false,false,false,false,false,false,false,false,false,none,0,0,0,rfl,by simp,by simp,rfl,?_⟩;exact HhS1.out.drew.pick [0,1,2,3,4] (by decide)
def zeD:DfaD:=⟨[],[]⟩
theorem ZjG (w:World) (B tS tI tB:Nat):DfaO tS tI tB B w.heap.size w (.agg #[.slice none 0 0,.slice none 0 0]) zeD :=
 ⟨_,_,rfl,⟨[],Zab ⟨by simp[zeD],Or.inl ⟨rfl,rfl⟩⟩,fun i hi=>absurd hi (by simp[zeD]),fun i j k _ hj=>absurd hj (by simp[zeD])⟩,Zab ⟨by simp[zeD],Or.inl ⟨rfl,rfl⟩⟩⟩
def RTt (D:DfaD) (fb:Bool) (B:Nat) (e:Ending) (w':World):Prop:=∃ a1 c1 a2 c2,e = .returned (.tuple #[.agg #[.slice a1 D.next.length c1,.slice a2 D.ends.length c2],.bool fb])∧DfaO 38 3 4 B w'.heap.size w' (.agg #[.slice a1 D.next.length c1,.slice a2 D.ends.length c2]) D
theorem ZeR {d:DfaD} (h:fine d) (h40:d.next.length≤40):Zah d.next d.ends=true:=by
 obtain⟨h1,-,h3,hr⟩:=h;simp only[Zah,Bool.and_eq_true,List.all_eq_true,decide_eq_true_eq];refine⟨⟨fun x hx => ?_,?_⟩,h3⟩
 ·obtain⟨i,hi,e⟩:=List.getElem_of_mem hx;obtain⟨a,b⟩:=hr i hi;rw[Zbm hi,e] at a b;simp only[Zdi,Bool.and_eq_true,decide_eq_true_eq,List.all_eq_true];refine⟨a,fun y hy => ?_⟩;obtain⟨c,hc,e2⟩:=List.getElem_of_mem hy;have:=b c (by omega);rw[Zbm hc,e2] at this;unfold inB;simp;omega
 unfold inB;simp;omega
theorem ZjI {d:DfaD} (h:Zah d.next d.ends=true):Zah (Zbc d).next (Zbc d).ends=true∧(Zbc d).next.length≤d.next.length:=by obtain⟨h1,h2,-⟩:=Zhf (ZaJ h);have:=Zaj h;exact⟨ZeR h1 (by omega),h2⟩
theorem Znj {x:DfaD} (h:Zah x.next x.ends=true):Zah (ZcM x).next (ZcM x).ends=true:=by obtain⟨h1,h2,-⟩:=ZhB (ZaJ h);have:=Zaj h;exact ZeR h1 (by omega)
def Zlu (w:World) (b j:Nat):Nat:=match w.cell? ⟨b,j,none⟩ with
 | some v=>(intOf v).toNat
 | none=>0
theorem Zda {w:World} {b j t:Nat} (h:w.cell? ⟨b,j,none⟩=some (.int .i64 ((t:Nat):Int))):Zlu w b j=t:=by unfold Zlu;rw[h];simp[intOf]
def Zph (w:World) (b n:Nat):Nat:=((List.range n).filter fun s=>decide (Zlu w b s=s)).length
theorem Zkw {w:World} {b n:Nat} {cl:Nat→Nat} (h:∀ s,s<n→w.cell? ⟨b,s,none⟩=some (.int .i64 ((cl s:Nat):Int))):Zph w b n=reps n cl:=by
 unfold Zph reps;congr 1;refine List.filter_congr fun s hs => ?_
 rw[Zda (h s (List.mem_range.1 hs))]
def Ze5:Value→Nat
 | .slice (some a) _ _=>a.block
 | _=>0
def ZlH:Value→Bool
 | .bool b=>b
 | _=>false
def RCl (d:DfaD) (w:World) (e:Ending) (w':World):Prop:=∃ b c,e = .returned (.slice (some ⟨b,0,none⟩) d.next.length c)∧St w w' [Ent.row 3 1 (.slice (some ⟨b,0,none⟩) d.next.length c) d.next.length (intCells (clsL d.next.length (clD d)))]
theorem Zg2 (d:DfaD) (v:Value) (w:World) (hd:Zah d.next d.ends=true) (h:DfaR 0 w v d) :
  Calls Tryz.prog 104 #[v] w fun e w'=>RCl d w e w':=by
 have HR:=qh h;obtain⟨b1,o1,cv,b2,o2,cw,rfl,hC⟩:=ZbP hd h;have hnx:∀ s c,s<d.next.length→c<3→nxD d s c<d.next.length:=fun s c hs hc=>hC.lt s c hs hc
 obtain⟨N,hN,hNs,hNo⟩:=ZhS (n:=d.next.length) (nx:=nxD d) (enD d);obtain⟨C,hCC⟩:=eI (clAt d.next.length (nxD d) (enD d));have hfin:∀ s,s<d.next.length→C (N+1) s=clD d s:=fun s hs=>by rw[hCC,hNs s hs];exact(Zk5 hnx hN hNs hs).symm
 have hgood:∀ i,GoodC d.next.length (C i):=fun i=>by rw[hCC];exact ZdB (enD d) i
 have hc0:∀ s,s<d.next.length→C 0 s≤s∧enD d (C 0 s)=enD d s∧∀ j,j<C 0 s→enD d j≠enD d s:=fun s hs=>by rw[hCC];exact ZdC hs
 have hcs:∀ i s,s<d.next.length→C (i+1) s≤s∧ZbD (nxD d) (C i) (C (i+1) s) s=true∧∀ j,j<C (i+1) s→ZbD (nxD d) (C i) j s=false:=fun i s hs=>by rw[hCC];exact ZaU hs
 have hsd:∀ i,clsL d.next.length (C (i+1))=clsL d.next.length (C i)↔stays d.next.length (nxD d) (enD d) i:=fun i=>by rw[ZoO,hCC];exact Iff.rfl
 obtain⟨L,hL⟩:=eI (d.next.length);have hl1:=hC.l1;have hl2:=hC.l2;have hS0:=(St.start w).alloc _ rfl #[.slice (some ⟨b1,o1,none⟩) L cv,.slice (some ⟨b2,o2,none⟩) L cw] 44;unfold RCl;rw[← hL] at hl1 hl2 HR hN hgood hc0 hcs hsd hfin;rw[← hL];obtain⟨i0,hi,hz0,hz1,hz2⟩:=info_parts Tryz.infoInt;have HC:=qh hC;have Hgood:=qh hgood;have Hc0:=qh hc0;have Hcs:=qh hcs;have Hsd:=qh hsd;have Hfin:=qh hfin;have HNo:=qh hNo;have HNs:=qh hNs;replace hS0:=qh hS0;replace hL:=qh hL;replace hCC:=qh hCC;have Hhi:=qh hi;clear hi;have Hhz0:=qh hz0;clear hz0;have Hhz1:=qh hz1;clear hz1;have Hhz2:=qh hz2;clear hz2;clear hC hgood hc0 hcs hsd hfin hNo hNs hnx h
 go_enter Tryz.func104, Tryz.ntmps104
 have HD:=qh (show ∀ w1:World,w1.ownsRow (w.alloc (.cells #[.slice (some ⟨b1,o1,none⟩) L cv,.slice (some ⟨b2,o2,none⟩) L cw] 44)).heap.size 3 1 (.slice (some ⟨w.heap.size+1,0,none⟩) L L) L (intCells (padL L 0 (C 0)))→Below (w.alloc (.cells #[.slice (some ⟨b1,o1,none⟩) L cv,.slice (some ⟨b2,o2,none⟩) L cw] 44)).heap.size (w.alloc (.cells #[.slice (some ⟨b1,o1,none⟩) L cv,.slice (some ⟨b2,o2,none⟩) L cw] 44)) w1 →
   St w w1 [Ent.box w.heap.size #[.slice (some ⟨b1,o1,none⟩) L cv,.slice (some ⟨b2,o2,none⟩) L cw] 44,Ent.row 3 1 (.slice (some ⟨w.heap.size+1,0,none⟩) L L) L (intCells (padL L 0 (C 0)))] from fun w1 h1 h2=>hS0.out.made h2 h1)
 go_wp2_with (at_make;refine wpList_make_full _ rfl _ _ 38 rfl _ 3 i0 (.int .i64 0) 1 Tryz.underlying38 Hhi.out Hhz0.out Hhz1.out .i64 .i64 _ _ L rfl rfl rfl rfl (by rw[Hhz2.out];omega) (by unfold maxLen;omega) (Nat.le_refl _) ?_;intro w1 hown hgrow;have hm:=Zgn (C 0) hown;simp only[World.size_alloc] at hm;have HS1:=qh (HD.out w1 (by simpa only [World.size_alloc] using hm) ((Below.refl _ _).grown hgrow (Nat.le_refl _) (fun _ h=>by cases h)));clear hown hgrow hm)
 go_loopw [14] (fun i wr=>∃ s:Nat,i = .int .i64 s∧s≤L∧St w wr [Ent.box w.heap.size #[.slice (some ⟨b1,o1,none⟩) L cv,.slice (some ⟨b2,o2,none⟩) L cw] 44,Ent.row 3 1 (.slice (some ⟨w.heap.size+1,0,none⟩) L L) L (intCells (padL L s (C 0)))]) (fun i _=>L-(intOf i).toNat)
 case atStart=>exact⟨0,rfl,Nat.zero_le _,HS1.out⟩
 case round =>
  obtain⟨s,rfl,hs,hS⟩:=hrel;by_cases hlt:s<L
  ·have hlt2:(s:Int)<L:=by omega
   have hsn:s<d.next.length:=by have:=hL.out;omega
   have hen:=HC.out.en s hsn;have hci:=Hc0.out s hlt;have hpad:=ZfI (n:=L) (s:=s) (C 0);have hset:=ZfH (n:=L) (s:=s) (C 0) 0 (C 0 s);rw[ZkC (C 0) hlt] at hS;rw[hpad] at hset;have hat:=Zc5 (n:=L) (s:=s) (C 0) 0;have hix:=fun (w':World) (hb:Below w.heap.size w w') (z:Bool) (hz:z=enD d s)=>ZlI d.ends z (C 0 s) (.slice (some ⟨b2,o2,none⟩) L cw) w' (by obtain⟨u1,u2,hq,-,h2⟩:=HR.out;simp only[Value.agg.injEq,Array.mk.injEq,List.cons.injEq,and_true] at hq;rw[hq.2];exact h2.below hb) (by have:=HC.out.le;omega) (by rw[hz];exact hci.2.1) (fun j hj=>by rw[hz];exact hci.2.2 j hj)
   obtain⟨z,hz⟩:=eI (enD d s);rw[← hz] at hen;obtain⟨p,hp⟩:=eI (C 0 s);rw[← hp] at hset hix;have Hix:=qh fun (w':World) (hb:Below w.heap.size w w')=>hix w' hb z hz
   have Hen:=qh hen;obtain⟨X0,hX0⟩:=eI (intCells (padT L s (C 0) 0));obtain⟨X1,hX1⟩:=eI (intCells (padL L (s+1) (C 0)));rw[← hX0,← hX1] at hset;rw[← hX0] at hS hat;have HS:=qh hS;have Hhz:=qh hz;clear hz;have Hhp:=qh hp;clear hp;have Hhset:=qh hset;clear hset;have Hhat:=qh hat;clear hat;have HhX0:=qh hX0;clear hX0;have HhX1:=qh hX1;clear hX1;clear hS hix hen hci hpad;go_wp2;refine wp_region_any (by kernel_rfl) ?_
   refine Zar (fun A listed a w'=>∃ (l0 l1 l2 l3 l4 l5 l6 l7 l8 l9 l10 l11:Bool) ,listed=#[l0,l1,l2,l3,l4,l5,l6,l7,l8,l9,l10,l11] ∧
     a=⟨(((((((((((A.tmps.setIfInBounds 17 (if l0=true then .slice (some ⟨w.heap.size+1,0,none⟩) L L else A.tmps.getD 17 undef)).setIfInBounds 18 (if l1=true then .int .i64 (s:Int) else A.tmps.getD 18 undef)).setIfInBounds 19 (if l2=true then .pointer (some ⟨w.heap.size,1,none⟩) else A.tmps.getD 19 undef)).setIfInBounds 20 (if l3=true then .slice (some ⟨b2,o2,none⟩) L cw else A.tmps.getD 20 undef)).setIfInBounds 21 (if l4=true then .pointer (some ⟨w.heap.size,1,none⟩) else A.tmps.getD 21 undef)).setIfInBounds 22 (if l5=true then .slice (some ⟨b2,o2,none⟩) L cw else A.tmps.getD 22 undef)).setIfInBounds 23 (if l6=true then .int .i64 (s:Int) else A.tmps.getD 23 undef)).setIfInBounds 24 (if l7=true then .pointer (some ⟨b2,o2+s,none⟩) else A.tmps.getD 24 undef)).setIfInBounds 25 (if l8=true then .bool z else A.tmps.getD 25 undef)).setIfInBounds 26 (if l9=true then .int .i64 (p:Int) else A.tmps.getD 26 undef)).setIfInBounds 27 (if l10=true then .pointer (some ⟨w.heap.size+1,s,none⟩) else A.tmps.getD 27 undef)),A.defers⟩ ∧
     St w w' [Ent.box w.heap.size #[.slice (some ⟨b1,o1,none⟩) L cv,.slice (some ⟨b2,o2,none⟩) L cw] 44,Ent.row 3 1 (.slice (some ⟨w.heap.size+1,0,none⟩) L L) L (if l11=true then X1 else X0)]) ?_ ?_ ?_
   ·rintro listed a w' ⟨l0,l1,l2,l3,l4,l5,l6,l7,l8,l9,l10,l11,rfl,rfl,hS⟩ i hi;obtain⟨hun,o,ho,hall⟩:=mem_ready.1 hi;have hlt:=(Array.getElem?_eq_some_iff.1 ho).1;refine wpOp_step ho (fun K hK => ?_);clear hi;have HS:=qh hS;clear hS;simp only[w_1,w_2,w_3,w_4,w_5,w_6,w_7,w_8];obtain h|h|h|h|h|h|h|h|h|h|h|h:i=0∨i=1∨i=2∨i=3∨i=4∨i=5∨i=6∨i=7∨i=8∨i=9∨i=10∨i=11:=by simp at hlt;omega
    all_goals subst h
    all_goals simp only[w_5,w_6,w_7,w_9] at ho
    all_goals subst ho
    all_goals simp[Region.binds] at hun hall
    ·subst hun;go_simp;exact hK _ _ ⟨_,_,_,_,_,_,_,_,_,_,_,_,rfl,(by simp),HS.out⟩
    ·subst hun;go_simp;exact hK _ _ ⟨_,_,_,_,_,_,_,_,_,_,_,_,rfl,(by simp),HS.out⟩
    ·subst hun;go_simp;exact hK _ _ ⟨_,_,_,_,_,_,_,_,_,_,_,_,rfl,(by simp),HS.out⟩
    ·obtain rfl:=hall;subst hun;have e0:=HS.out.cell (v:=.slice (some ⟨b2,o2,none⟩) L cw) 0 1 rfl rfl;go_simp;exact hK _ _ ⟨_,_,_,_,_,_,_,_,_,_,_,_,rfl,(by simp),HS.out⟩
    ·subst hun;go_simp;exact hK _ _ ⟨_,_,_,_,_,_,_,_,_,_,_,_,rfl,(by simp),HS.out⟩
    ·obtain rfl:=hall;subst hun;have e0:=HS.out.cell (v:=.slice (some ⟨b2,o2,none⟩) L cw) 0 1 rfl rfl;go_simp;exact hK _ _ ⟨_,_,_,_,_,_,_,_,_,_,_,_,rfl,(by simp),HS.out⟩
    ·subst hun;go_simp;exact hK _ _ ⟨_,_,_,_,_,_,_,_,_,_,_,_,rfl,(by simp),HS.out⟩
    ·obtain⟨rfl,rfl⟩:=hall;subst hun;go_simp;exact hK _ _ ⟨_,_,_,_,_,_,_,_,_,_,_,_,rfl,(by simp),HS.out⟩
    ·obtain rfl:=hall;subst hun;have e0:=(bcell HS.out.bel b2 _ HC.out.hb2).trans Hen.out;go_simp;exact hK _ _ ⟨_,_,_,_,_,_,_,_,_,_,_,_,rfl,(by simp),HS.out⟩
    ·obtain⟨rfl,rfl⟩:=hall;subst hun;go_simp
     go_at_call 138
     refine(Hix.out _ HS.out.bel).mono ?_;rintro e u1 ⟨rfl,hbx⟩;have hS2:=HS.out.call hbx;have HhS2:=qh hS2;clear hS2;go_simp;exact hK _ _ ⟨_,_,_,_,_,_,_,_,_,_,_,_,rfl,(by simp),HhS2.out⟩
    ·obtain⟨rfl,rfl,-,-,rfl,rfl,rfl,rfl,rfl,rfl,rfl,rfl⟩:=hall;subst hun;go_simp;exact hK _ _ ⟨_,_,_,_,_,_,_,_,_,_,_,_,rfl,(by simp only[↓reduceIte,w_1,w_2,w_3]),HS.out⟩
    obtain⟨rfl,rfl,rfl,rfl,rfl,rfl,rfl,rfl,rfl,rfl,rfl,-⟩:=hall;subst hun;have f0:=HS.out.rfr 1 s rfl;have k0:=HS.out.rcell (v:=.int .i64 ((0:Nat):Int)) 1 s rfl (by omega) Hhat.out;have hS2:=HS.out.store 1 rfl s (.int .i64 (p:Int));simp only[w_3,w_2,Bool.false_eq_true,↓reduceIte,Hhset.out] at hS2;go_simp;exact hK _ _ ⟨_,_,_,_,_,_,_,_,_,_,_,_,rfl,(by simp only[↓reduceIte,w_1,w_2,w_3]),hS2⟩
   ·rintro listed a w' ⟨l0,l1,l2,l3,l4,l5,l6,l7,l8,l9,l10,l11,rfl,rfl,hS⟩ hr;obtain⟨rfl,rfl,rfl,rfl,rfl,rfl,rfl,rfl,rfl,rfl,rfl,rfl,-⟩:=zA (Zbo (by kernel_rfl) rfl hr) rfl;clear hr ;simp only[↓reduceIte] at hS ⊢;simp only[w_1,w_2,w_3];have HS9:=qh hS;clear hS;go_wp2;go_roundw
    case rel =>refine⟨s+1,by go_num,by omega,?_⟩;rw[← HhX1.out];exact HS9.out
    case measure=>simp[intOf];omega
   refine⟨false,false,false,false,false,false,false,false,false,false,false,false,rfl,(by simp),?_⟩;exact HS.out.drew
  obtain rfl:L=s:=by omega
  rw[Zh2] at hS;have HS2:=qh hS;clear hS;go_wp2
  go_loopw [3,5] (fun vc va wr=>∃ (i gc cc:Nat) (ag:Bool),vc = .slice (some ⟨gc,0,none⟩) L cc∧va = .bool ag∧((ag=true∧i≤N)∨(ag=false∧i=N+1)) ∧
    St w wr [Ent.box w.heap.size #[.slice (some ⟨b1,o1,none⟩) L cv,.slice (some ⟨b2,o2,none⟩) L cw] 44,Ent.row 3 1 (.slice (some ⟨gc,0,none⟩) L cc) L (intCells (clsL L (C i)))])
   (fun vc va wr=>if ZlH va=true then L+1-Zph wr (Ze5 vc) L else 0)
  case atStart=>exact⟨0,_,_,true,rfl,rfl,Or.inl ⟨rfl,Nat.zero_le _⟩,HS2.out⟩
  case round =>
   obtain⟨i,gc,cc,ag,rfl,rfl,hag,hS⟩:=hrel;obtain⟨wo,hwo⟩:∃ wo:World,wo=wr:=⟨_,rfl⟩;subst hwo;rcases hag with⟨rfl,hiN⟩|⟨rfl,rfl⟩
   ·have HS3:=qh hS;clear hS;go_wp2_with (at_make;refine wpList_make_full _ rfl _ _ 38 rfl _ 3 i0 (.int .i64 0) 1 Tryz.underlying38 Hhi.out Hhz0.out Hhz1.out .i64 .i64 _ _ L rfl rfl rfl rfl (by rw[Hhz2.out];omega) (by unfold maxLen;omega) (Nat.le_refl _) ?_;intro w1 hown hgrow;have HS4:=qh (HS3.out.made ((Below.refl _ _).grown hgrow (Nat.le_refl _) (fun _ h=>by cases h)) (Zgn (C (i+1)) hown));clear hown hgrow)
    go_loopw [35] (fun j wi=>∃ s:Nat,j = .int .i64 s∧s≤L∧St w wi [Ent.box w.heap.size #[.slice (some ⟨b1,o1,none⟩) L cv,.slice (some ⟨b2,o2,none⟩) L cw] 44,Ent.row 3 1 (.slice (some ⟨gc,0,none⟩) L cc) L (intCells (clsL L (C i))),Ent.row 3 1 (.slice (some ⟨wo.heap.size,0,none⟩) L L) L (intCells (padL L s (C (i+1))))]) (fun j _=>L-(intOf j).toNat)
    case atStart=>exact⟨0,rfl,Nat.zero_le _,HS4.out⟩
    case round =>
     obtain⟨s,rfl,hs,hS⟩:=hrel;by_cases hlt:s<L
     ·have hlt2:(s:Int)<L:=by omega
      have hsn:s<d.next.length:=by have:=hL.out;omega
      have hci:=Hcs.out i s hlt;have hcis:=hci.1;rw[ZkC _ hlt] at hS;have HS5:=qh hS;have Hci:=qh hci;clear hS hci;go_wp2
      go_loopw [] (fun wi=>∃ t:Nat,t≤C (i+1) s∧(∀ j,j<t→ZbD (nxD d) (C i) j s=false)∧St w wi [Ent.box w.heap.size #[.slice (some ⟨b1,o1,none⟩) L cv,.slice (some ⟨b2,o2,none⟩) L cw] 44,Ent.row 3 1 (.slice (some ⟨gc,0,none⟩) L cc) L (intCells (clsL L (C i))),Ent.row 3 1 (.slice (some ⟨wo.heap.size,0,none⟩) L L) L (intCells (padT L s (C (i+1)) t))]) (fun wi=>L+1-Zlu wi wo.heap.size s)
      case atStart=>exact⟨0,Nat.zero_le _,fun j hj=>absurd hj (by omega),HS5.out⟩
      case round =>
       obtain⟨t,ht,hno,hS⟩:=hrel;have htL:t<L:=by omega
       have htL2:(t:Int)<L:=by omega
       have htn:t<d.next.length:=by have:=hL.out;omega
       have c1:=hS.rcell (v:=.int .i64 ((t:Nat):Int)) 2 s rfl (by omega) (Zc5 (C (i+1)) t);have c2:=hS.rcell (v:=.int .i64 ((C i t:Nat):Int)) 1 t rfl (by omega) (ZaW (C i) htL);have c3:=hS.rcell (v:=.int .i64 ((C i s:Nat):Int)) 1 s rfl (by omega) (ZaW (C i) hlt);have f1:=hS.rfr 2 s rfl;have hset:=ZfH (n:=L) (s:=s) (C (i+1)) t (t+1);have hsr:=Zku d (C i) t s;have Hc1:=qh c1;have HS6:=qh hS;have Hno:=qh hno;have Hset:=qh hset;obtain⟨p,hp⟩:=eI (C i t);obtain⟨q,hq⟩:=eI (C i s);rw[← hp] at c2 hsr;rw[← hq] at c3 hsr;have Hhp:=qh hp;clear hp;have Hhq:=qh hq;clear hq;clear hno hset;by_cases he:p=q
       ·have g1:((p:Int) != (q:Int))=false:=by rw[he];simp
        have g2:((p:Int)=(q:Int))=True:=by simp[he]
        have g3:(!((p:Int)==(q:Int)))=false:=by rw[he];simp
        rw[decide_eq_true he,Bool.true_and] at hsr;have b0:=hS.cell (v:=.slice (some ⟨b1,o1,none⟩) L cv) 0 0 rfl rfl;have b3:=hS.cell (v:=.slice (some ⟨b2,o2,none⟩) L cw) 0 1 rfl rfl
        have hk:=fun (w':World) (hb:Below wr.heap.size wr w')=>(show w'.cell? ⟨wo.heap.size,s,none⟩=some (.int .i64 (t:Nat))∧w'.cell? ⟨gc,t,none⟩=some (.int .i64 (p:Nat))∧w'.cell? ⟨gc,s,none⟩=some (.int .i64 (q:Nat))∧w'.cell? ⟨w.heap.size,0,none⟩=some (.slice (some ⟨b1,o1,none⟩) L cv)∧w'.cell? ⟨w.heap.size,1,none⟩=some (.slice (some ⟨b2,o2,none⟩) L cw) from
         ⟨(bcell hb _ _ (hS.rowlt 2 rfl).2).trans c1,(bcell hb _ _ (hS.rowlt 1 rfl).2).trans c2,(bcell hb _ _ (hS.rowlt 1 rfl).2).trans c3,(bcell hb _ _ (hS.boxlt 0 rfl).2).trans b0,(bcell hb _ _ (hS.boxlt 0 rfl).2).trans b3⟩)
        have Hk:=qh hk;cases hr:ZdZ d (C i) t s 3
        all_goals
         have hsw:=fun (w':World) (hb:Below wr.heap.size wr w')=>ZjP d (C i) t s (.agg #[.slice (some ⟨b1,o1,none⟩) L cv,.slice (some ⟨b2,o2,none⟩) L cw]) (.slice (some ⟨gc,0,none⟩) L cc) w' hd htn hsn (fun x hx=>Nat.lt_of_le_of_lt ((Hgood.out i).le x (by rw[hL.out];exact hx)) hx) (HR.out.below (HS6.out.call hb).bel) (by rw[← hL.out];exact(HS6.out.call hb).intsC 1 rfl) _ hr
         rw[hr] at hsr;have Hsw:=qh hsw;have Hsm:=qh hsr;have Hhr:=qh hr;clear hr;have Hhe:=qh he;clear he;clear hS hk hsw hsr;go_wp2
         go_region_held3 (fun w'=>w'.cell? ⟨wo.heap.size,s,none⟩=some (.int .i64 (t:Nat))∧w'.cell? ⟨gc,t,none⟩=some (.int .i64 (p:Nat))∧w'.cell? ⟨gc,s,none⟩=some (.int .i64 (q:Nat))∧w'.cell? ⟨w.heap.size,0,none⟩=some (.slice (some ⟨b1,o1,none⟩) L cv)∧w'.cell? ⟨w.heap.size,1,none⟩=some (.slice (some ⟨b2,o2,none⟩) L cw))
          (first|go_keep|exact Hk.out _ hq0)
          (first
           | (go_at_call 139;(with_reducible refine(Hsw.out _ (Below.refl _ _).drew).mono ?_);rintro e v3 ⟨rfl,hq0'⟩;have hq0:Below wr.heap.size wr v3:=((Below.refl _ _).drew).trans hq0'))
        ·have HS6:=qh (HS6.out.call hq0);have z1:=HS6.out.rcell (v:=.int .i64 ((t:Nat):Int)) 2 s rfl (by omega) (Zc5 (C (i+1)) t);have z2:=HS6.out.rfr 2 s rfl;clear hq0 hq0' b0 b3 c1 c2 c3 f1;go_wp2;go_roundw
         case rel =>
          refine⟨t+1,?_,?_,?_⟩
          ·rcases Nat.lt_or_ge t (C (i+1) s) with h|h
           ·exact h
           have he:t=C (i+1) s:=Nat.le_antisymm ht h;have h2:=Hci.out.2.1;rw[← he,Hsm.out] at h2;exact absurd h2 (by simp)
          ·intro j hj;by_cases e:j=t
           ·rw[e];exact Hsm.out
           exact Hno.out j (by omega)
          have h:=HS6.out.store 2 rfl s (.int .i64 ((t:Int)+1));rw[show((t:Int)+1)=((t+1:Nat):Int) by omega] at h;simp only[w_3,w_2,Hset.out] at h;exact h
         case measure =>have h:=HS6.out.store 2 rfl s (.int .i64 ((t:Int)+1));rw[show((t:Int)+1)=((t+1:Nat):Int) by omega] at h;simp only[w_3,w_2,Hset.out] at h;rw[show((t:Int)+1)=((t+1:Nat):Int) by omega,Zda (h.rcell (v:=.int .i64 ((t+1:Nat):Int)) 2 s rfl (by omega) (Zc5 (C (i+1)) (t+1))),Zda Hc1.out];omega
        have HS6:=qh (HS6.out.call hq0);clear hq0 hq0' b0 b3 c1 c2 c3 f1;go_wp2;go_roundw
        case rel =>
         refine⟨s+1,by go_num,by omega,?_⟩
         have e:t=C (i+1) s:=by
          rcases Nat.lt_or_ge t (C (i+1) s) with h|h
          ·have h2:=Hci.out.2.2 t h;rw[Hsm.out] at h2;exact absurd h2 (by simp)
          exact Nat.le_antisymm ht h
         have h:=HS6.out;rw[e,ZfI] at h;exact h
        case measure=>simp[intOf];omega
       have g1:((p:Int) != (q:Int))=true:=by simp;omega
       have g2:((p:Int)=(q:Int))=False:=by simp;omega
       have g3:(!((p:Int)==(q:Int)))=true:=by simp;omega
       rw[decide_eq_false he,Bool.false_and] at hsr;have Hsm:=qh hsr;have Hhe:=qh he;clear he;clear hS hsr;go_wp2
       go_quiet (fail)
       have HS6:=qh (HS6.out.drewN nq);go_wp2;go_roundw
       case rel =>
        refine⟨t+1,?_,?_,?_⟩
        ·rcases Nat.lt_or_ge t (C (i+1) s) with h|h
         ·exact h
         have he:t=C (i+1) s:=Nat.le_antisymm ht h;have h2:=Hci.out.2.1;rw[← he,Hsm.out] at h2;exact absurd h2 (by simp)
        ·intro j hj;by_cases e:j=t
         ·rw[e];exact Hsm.out
         exact Hno.out j (by omega)
        have h:=HS6.out.store 2 rfl s (.int .i64 ((t:Int)+1));rw[show((t:Int)+1)=((t+1:Nat):Int) by omega] at h;simp only[w_3,w_2,Hset.out] at h;exact h
       case measure =>have h:=HS6.out.store 2 rfl s (.int .i64 ((t:Int)+1));rw[show((t:Int)+1)=((t+1:Nat):Int) by omega] at h;simp only[w_3,w_2,Hset.out] at h;rw[show((t:Int)+1)=((t+1:Nat):Int) by omega,Zda (h.rcell (v:=.int .i64 ((t+1:Nat):Int)) 2 s rfl (by omega) (Zc5 (C (i+1)) (t+1))),Zda Hc1.out];omega
     obtain rfl:L=s:=by omega
     rw[Zh2] at hS;have HS5:=qh hS;clear hS
     have hreq:∀ (r:Bool),decide (clsL L (C (i+1))=clsL L (C i))=r→Calls Tryz.prog 140 #[.slice (some ⟨wo.heap.size,0,none⟩) L L,.slice (some ⟨gc,0,none⟩) L cc] wr fun e w'=>e = .returned (.bool r)∧Below wr.heap.size wr w' :=
      fun r hr=>ZlN (clsL L (C (i+1))) (clsL L (C i)) L _ _ wr (Zbw _ _) (Zbw _ _) (HS5.out.intsC 2 rfl) (HS5.out.intsC 1 rfl) r hr
     have hm0:=Zkw (w:=wo) (b:=gc) (n:=L) (cl:=C i) fun x hx=>HS3.out.rcell 1 x rfl (by omega) (ZaW (C i) hx)
     by_cases hiN:i=N
     ·have h1:=hreq true (by rw[decide_eq_true_eq,Hsd.out i,hiN,hL.out];exact HNs.out);have H1:=qh h1;have Hm0:=qh hm0;clear hreq h1 hm0;go_wp2_with fail;refine H1.out.mono ?_;rintro e v3 ⟨rfl,hb3⟩;have HS6:=qh (HS5.out.call hb3);clear hb3;go_wp2;go_roundw
      case rel=>exact⟨i+1,_,_,false,rfl,rfl,Or.inr ⟨rfl,by omega⟩,HS6.out.pick [0,2] (by decide)⟩
      case measure =>have:=ZjS L (C i);simp only[ZlH,Ze5,↓reduceIte,Bool.false_eq_true,Hm0.out];omega
     have hns:=HNo.out i (by omega);have h1:=hreq false (by rw[decide_eq_false_iff_not,Hsd.out i,hL.out];exact hns)
     have hmore:reps L (C i)<reps L (C (i+1)):=by
      have hex:∃ x,x<L∧C (i+1) x≠C i x:=by
       apply Classical.byContradiction;intro hc;refine hns fun x hx => ?_
       rw[← hCC.out];apply Classical.byContradiction;intro hcx;exact hc ⟨x,by rw[hL.out];exact hx,hcx⟩
      obtain⟨x,hx,hxne⟩:=hex;have hst:C (i+1)=Zan L (nxD d) (C i):=by rw[hCC.out,hL.out];rfl
      rw[hst] at hxne ⊢;exact Zgb (Hgood.out i) hx hxne
     have H1:=qh h1;have Hm0:=qh hm0;have Hmore:=qh hmore;have Hhns:=qh hns;clear hns;clear hreq h1 hm0 hmore;go_wp2_with fail;refine H1.out.mono ?_;rintro e v3 ⟨rfl,hb3⟩;have HS6:=qh (HS5.out.call hb3);clear hb3;go_wp2;go_roundw
     case rel=>exact⟨i+1,_,_,true,rfl,rfl,Or.inl ⟨rfl,by omega⟩,HS6.out.pick [0,2] (by decide)⟩
     case measure =>
      have h2:=Zkw (w:=v3) (b:=wo.heap.size) (n:=L) (cl:=C (i+1)) fun x hx=>HS6.out.rcell 2 x rfl (by omega) (ZaW (C (i+1)) hx)
      have h3:=Hmore.out;have h4:=ZjS L (C i);simp only[ZlH,Ze5,↓reduceIte,Hm0.out,h2];omega
   have hcl:intCells (clsL L (C (N+1)))=intCells (clsL L (clD d)):=by rw[Ze2 Hfin.out]
   rw[hcl] at hS;have HS3:=qh hS;have Hhcl:=qh hcl;clear hcl;clear hS;go_wp2;go_ret;exact⟨gc,cc,rfl,HS3.out.pick [1] (by decide)⟩
end Go.Proofs.YtncekbbhgipdlaaGreat
