/-
  The walks over the reference's l8List and NfaOf.
  Conditions: the automaton is valid and reads as such.
-/
import Derived.Test.YtehmjmjedopkkaaGreatPn09Tv
set_option maxHeartbeats 4000000
set_option maxRecDepth 100000
namespace Go.Proofs.YtehmjmjedopkkaaGreat
open Go.RowKit
theorem Zld (d:DfaD) (v:Value) (w:World) (hl:d.ends.length≤40) (h:Bools 0 w v d.ends) :
  Calls Tryz.prog 159 #[v] w fun e w'=>∃ a c,e = .returned (.slice a (eds d d.ends.length).length c)∧St w w' [Ent.row 3 1 (.slice a (eds d d.ends.length).length c) (eds d d.ends.length).length (intCells (eds d d.ends.length))]:=by
 obtain⟨n,hn⟩:=eI (d.ends.length);obtain⟨a2,c2,rfl,hc3,hc4,hr2⟩:=h.form;rw[← hn] at hc3 hr2 hl;rw[← hn];obtain⟨j0,hj,hy0,hy1,hy2⟩:=info_parts Tryz.infoInt;have hS0:=((St.start w).alloc _ rfl #[] 3).boxrow 0 0 1 [] rfl rfl (Nat.zero_le _);have Hr:=qh hr2;replace hS0:=qh hS0;have Hhn:=qh hn;clear hn;have Hhj:=qh hj;clear hj;have Hhy0:=qh hy0;clear hy0;have Hhy1:=qh hy1;clear hy1;have Hhy2:=qh hy2;clear hy2;clear hr2 h
 go_enter Tryz.func159, Tryz.ntmps159
 go_wp2
 go_loopw [3,4] (fun ov i wr=>∃ (k c:Nat) (a:Option Addr),i = .int .i64 k∧ov = .slice a (eds d k).length c∧k≤n∧St w wr [Ent.row 3 1 (.slice a (eds d k).length c) (eds d k).length (intCells (eds d k))])
  (fun _ i _=>n-(intOf i).toNat)
 case atStart=>exact⟨0,0,_,rfl,rfl,Nat.zero_le _,hS0.out⟩
 case round =>
  obtain⟨k,c,a,rfl,rfl,hk,hS⟩:=hrel;obtain⟨E,hE⟩:=eI (eds d k);have hel:=Zcz d k;rw[← hE] at hS hel;by_cases hlt:k<n
  ·have hlt2:(k:Int)<n:=by omega
   obtain⟨b2,o2,rfl,-,hb2,hcs⟩:=Hr.out (by omega);have k2:=(bcell hS.bel b2 _ hb2).trans (hcs k hlt);have hele:E.length≤40:=by omega
   replace hE:=qh hE;have HhS:=qh hS;clear hS;clear hcs hel;cases hz:d.ends.getD k false with
   | false =>
    rw[hz] at k2;have hE1:eds d (k+1)=E:=by rw[hE.out];show(if d.ends.getD k false=true then _ else _)=_;rw[hz];rfl
    have HhE1:=qh hE1;clear hE1;have Hhz:=qh hz;clear hz;go_wp2;go_roundw
    case rel =>refine⟨k+1,c,a,by go_num,by rw[HhE1.out,hE.out],by omega,?_⟩;rw[HhE1.out];exact HhS.out
    case measure=>simp[intOf];omega
   | true =>
    rw[hz] at k2;have hE1:eds d (k+1)=E++[(k:Int)]:=by rw[hE.out];show(if d.ends.getD k false=true then _ else _)=_;rw[hz];rfl
    have hSa:=HhS.out.alloc_ (.cells #[.int .i64 k] 3);have hRw:=hSa.row 0 rfl;rw[← hE.out];have HhSa:=qh hSa;clear hSa;have HhRw:=qh hRw;clear hRw;have HhE1:=qh hE1;clear hE1;have Hhz:=qh hz;clear hz;go_wp2_with (at_builtin;refine wpList_append_lies _ rfl _ _ _ rfl _ 3 j0 (.int .i64 0) 1 8 Tryz.underlying59 Hhj.out Hhy0.out Hhy1.out Hhy2.out rfl (by omega) _ E.length _ rfl HhRw.out ⟨wr.heap.size,0,none⟩ 1 1 [.int .i64 k] rfl rfl (World.news_of_block (heap_alloc_new wr _)) on_i (by omega) (by unfold maxLen;omega) (by omega) HhSa.out.size _ rfl ?_;intro g6 c6 w6 hown6 hgrow6 hat6 hlt6;have HS6:=qh (HhSa.out.app 0 rfl hown6 hgrow6 hat6);clear hown6 hgrow6 hat6 hlt6);go_roundw
    case rel =>
     have hl1:(eds d (k+1)).length=E.length+1:=by rw[HhE1.out];simp
     refine⟨k+1,c6,some ⟨g6,0,none⟩,by go_num,by rw[hl1],by omega,?_⟩;rw[hl1,HhE1.out,ZmL];exact HS6.out
    case measure=>simp[intOf];omega
  obtain rfl:k=n:=by omega
  have hge:(k:Int)≤k:=Int.le_refl _;have HhS:=qh hS;clear hS;rw[← hE];replace hE:=qh hE;clear hel;go_wp2;go_ret;rw[← hE.out];exact⟨a,c,rfl,HhS.out⟩
theorem ZcT (d:DfaD) (v:Value) (w:World) (hd:Zaf d.next d.ends=true) (h:DfaR 0 w v d) :
  Calls Tryz.prog 146 #[v] w fun e w'=>RNfaS (ZaD d) w e w':=by
 obtain⟨v1,v2,rfl,q1,q2⟩:=h;have hval:=fun (w':World) (hb:Below w.heap.size w w')=>Zbk d.next d.ends v1 v2 w' (q1.below hb) (q2.below hb) true hd
 have hlist:=fun (w':World) (hb:Below w.heap.size w w')=>Zld d v2 w' (by have:=Zad hd;omega) (q2.below hb)
 obtain⟨L,hL⟩:=eI (d.next.length);obtain⟨hl1,hl2,hl3⟩:=Zad hd;have hrow:=fun (i:Nat) (hi:i<d.next.length)=>(ZaG hd hi)
 obtain⟨av,cv,rfl,hc1,hc2,hr1⟩:=q1.formI;obtain⟨b1,o1,rfl,-,hb1,hcs1⟩:=hr1 (by omega);rw[hl3] at hlist;rw[← hL] at hl1 hl2 hl3 hrow hc1 hcs1 hlist hval;rw[← hL];obtain⟨E,hE⟩:=eI (eds d L);have hel:=Zcz d L;rw[← hE] at hlist hel;have hele:E.length≤40:=by omega
 obtain⟨i0,hi,hz0,hz1,hz2⟩:=info_parts Tryz.infoMv;have hS:=((St.start w).alloc _ rfl #[.slice (some ⟨b1,o1,none⟩) L cv,v2] 32).alloc (w.heap.size+1) (by simp) #[.int .i64 0,.slice none 0 0,.slice none 0 0,.slice none 0 0] 91;have Hrow:=qh hrow;have Hcs1:=qh hcs1;have Hval:=qh hval;have Hl8:=qh hlist;have HhS:=qh hS;clear hS;replace hL:=qh hL;replace hE:=qh hE;have Hhi:=qh hi;clear hi;have Hhz0:=qh hz0;clear hz0;have Hhz1:=qh hz1;clear hz1;have Hhz2:=qh hz2;clear hz2;clear hrow hcs1 hr1 q1 q2 hd hl3 hval hlist hel
 go_enter Tryz.func146, Tryz.ntmps146
 go_wp2_with fail;refine(Hval.out _ HhS.out.bel).mono ?_;rintro e w1 ⟨rfl,hb⟩;have hS1:=HhS.out.call hb;have HhS1:=qh hS1;clear hS1;clear hb;go_wp2;refine wp_region_any (by kernel_rfl) ?_
 refine Zfs (fun listed a w'=>∃ (l0 l1 l2 l3 l4 l5 l6 l7 l8 l9:Bool) (a6:Option Addr) (c6:Nat) (b5:Nat) (b:Nat),listed=#[l0,l1,l2,l3,l4,l5,l6,l7,l8,l9]∧(l7=true→l3=true∧l6=true)∧(l9=true→l7=true∧l8=true) ∧
   a=⟨#[.agg #[.slice (some ⟨b1,o1,none⟩) L cv,v2],.pointer (some ⟨w.heap.size,0,none⟩),.pointer (some ⟨w.heap.size+1,0,none⟩),(if l8=true then .pointer (some ⟨b,0,none⟩) else undef),undef,undef,.agg #[.slice (some ⟨b1,o1,none⟩) L cv,v2],.bool true,.bool false,undef,(if l0=true then .pointer (some ⟨w.heap.size,0,none⟩) else undef),(if l1=true then .slice (some ⟨b1,o1,none⟩) L cv else undef),(if l2=true then .int .i64 (L:Int) else undef),(if l3=true then .slice (some ⟨b5,0,none⟩) 1 1 else undef),(if l4=true then .pointer (some ⟨w.heap.size,1,none⟩) else undef),(if l5=true then v2 else undef),(if l6=true then .slice a6 E.length c6 else undef),(if l7=true then .agg #[.int .i64 L,.slice none 0 0,.slice (some ⟨b5,0,none⟩) 1 1,.slice a6 E.length c6] else undef),undef,undef,undef,undef,undef,undef,undef,undef,undef,undef,undef,undef,undef,undef,undef,undef,undef,undef,undef,undef,undef,undef,undef,undef,undef,undef,undef,undef],[]⟩ ∧
   St w w' [Ent.box w.heap.size #[.slice (some ⟨b1,o1,none⟩) L cv,v2] 32,Ent.box (w.heap.size+1) #[.int .i64 0,.slice none 0 0,.slice none 0 0,.slice none 0 0] 91,(if l3=true then Ent.row 3 1 (.slice (some ⟨b5,0,none⟩) 1 1) 1 [.int .i64 0] else Ent.nil),(if l6=true then Ent.row 3 1 (.slice a6 E.length c6) E.length (intCells E) else Ent.nil),(if l8=true then Ent.box b (if l9=true then #[.int .i64 L,.slice none 0 0,.slice (some ⟨b5,0,none⟩) 1 1,.slice a6 E.length c6] else #[.int .i64 0,.slice none 0 0,.slice none 0 0,.slice none 0 0]) 91 else Ent.nil)]) ?_ ?_ _ _ _ _ (Zow _ _) ?_
 ·rintro listed a w' ⟨l0,l1,l2,l3,l4,l5,l6,l7,l8,l9,a6,c6,b5,b,rfl,hd7,hd9,rfl,hS⟩ i hi;obtain⟨hun,o,ho,hall⟩:=mem_ready.1 hi;have hlt:=(Array.getElem?_eq_some_iff.1 ho).1;refine wpOp_step ho (fun K hK => ?_);clear hi;have HS:=qh hS;clear hS;obtain h|h|h|h|h|h|h|h|h|h:i=0∨i=1∨i=2∨i=3∨i=4∨i=5∨i=6∨i=7∨i=8∨i=9:=by simp at hlt;omega
  all_goals subst h
  all_goals simp only[List.getElem?_toArray,List.getElem?_cons_zero,List.getElem?_cons_succ,Option.some.injEq] at ho
  all_goals subst ho
  all_goals simp[Region.binds] at hun hall
  ·subst hun;go_simp;exact hK _ _ ⟨true,l1,l2,l3,l4,l5,l6,l7,l8,l9,a6,c6,b5,b,rfl,hd7,hd9,rfl,HS.out⟩
  ·obtain rfl:=hall;subst hun;have e0:=HS.out.cell (v:=.slice (some ⟨b1,o1,none⟩) L cv) 0 0 rfl rfl;go_simp;exact hK _ _ ⟨true,true,l2,l3,l4,l5,l6,l7,l8,l9,a6,c6,b5,b,rfl,hd7,hd9,rfl,HS.out⟩
  ·obtain rfl:=hall;subst hun;go_simp;exact hK _ _ ⟨l0,true,true,l3,l4,l5,l6,l7,l8,l9,a6,c6,b5,b,rfl,hd7,hd9,rfl,HS.out⟩
  ·subst hun;obtain rfl:l7=false:=offL hd7 rfl;obtain rfl:l9=false:=offL hd9 rfl;have hS2:=(((HS.out.alloc _ rfl #[.int .i64 0] 3).boxrow 5 1 1 [.int .i64 0] rfl rfl (by unfold maxLen;omega)).pick [0,1,5,3,4] (by decide));have HhS2:=qh hS2;clear hS2;go_simp;exact hK _ _ ⟨l0,l1,l2,true,l4,l5,l6,false,l8,false,a6,c6,_,b,rfl,by simp,by simp,rfl,HhS2.out⟩
  ·subst hun;go_simp;exact hK _ _ ⟨l0,l1,l2,l3,true,l5,l6,l7,l8,l9,a6,c6,b5,b,rfl,hd7,hd9,rfl,HS.out⟩
  ·obtain rfl:=hall;subst hun;have e0:=HS.out.cell (v:=v2) 0 1 rfl rfl;go_simp;exact hK _ _ ⟨l0,l1,l2,l3,true,true,l6,l7,l8,l9,a6,c6,b5,b,rfl,hd7,hd9,rfl,HS.out⟩
  ·obtain rfl:=hall;subst hun;obtain rfl:l7=false:=offR hd7 rfl;obtain rfl:l9=false:=offL hd9 rfl;go_simp
   go_at_call 159
   refine(Hl8.out _ HS.out.bel).mono ?_;rintro e u1 ⟨a7,c8,rfl,hSx⟩;have hS2:=(HS.out.cat hSx).pick [0,1,2,5,4] (by decide);have HhS2:=qh hS2;clear hS2;go_simp;exact hK _ _ ⟨l0,l1,l2,l3,l4,true,true,false,l8,false,a7,c8,b5,b,rfl,by simp,by simp,rfl,HhS2.out⟩
  ·obtain⟨rfl,rfl,rfl⟩:=hall;subst hun;obtain rfl:l9=false:=offL hd9 rfl;go_simp;exact hK _ _ ⟨l0,l1,true,true,l4,l5,true,true,l8,false,a6,c6,b5,b,rfl,by simp,by simp,rfl,HS.out⟩
  ·subst hun;obtain rfl:l9=false:=offR hd9 rfl;have hS2:=(HS.out.alloc _ rfl #[.int .i64 0,.slice none 0 0,.slice none 0 0,.slice none 0 0] 91).pick [0,1,2,3,5] (by decide);have HhS2:=qh hS2;clear hS2;go_simp;exact hK _ _ ⟨l0,l1,l2,l3,l4,l5,l6,l7,true,false,a6,c6,b5,_,rfl,hd7,by simp,rfl,HhS2.out⟩
  obtain⟨rfl,rfl,rfl,rfl,rfl,rfl,rfl,rfl,rfl,-⟩:=hall;subst hun;have f0:=HS.out.fr 4 0 rfl;have k0:=HS.out.cell (v:=.int .i64 0) 4 0 rfl rfl;have f1:=HS.out.fr 4 1 rfl;have k1:=HS.out.cell (v:=.slice none 0 0) 4 1 rfl rfl;have f2:=HS.out.fr 4 2 rfl;have k2:=HS.out.cell (v:=.slice none 0 0) 4 2 rfl rfl;have f3:=HS.out.fr 4 3 rfl;have k3:=HS.out.cell (v:=.slice none 0 0) 4 3 rfl rfl;go_simp;exact hK _ _ ⟨true,true,true,true,true,true,true,true,true,true,a6,c6,b5,b,rfl,by simp,by simp,rfl,((((HS.out.set 4 rfl 0 (.int .i64 L)).set 4 rfl 1 (.slice none 0 0)).set 4 rfl 2 (.slice (some ⟨b5,0,none⟩) 1 1)).set 4 rfl 3 (.slice a6 E.length c6))⟩
 ·rintro listed a w' ⟨l0,l1,l2,l3,l4,l5,l6,l7,l8,l9,a6,c6,b5,b,rfl,hd7,hd9,rfl,hS⟩ hr;have hall:=ZaT (by kernel_rfl) rfl hr;obtain rfl:l0=true:=by simpa using hall 0 (by simp)
  obtain rfl:l1=true:=by simpa using hall 1 (by simp)
  obtain rfl:l2=true:=by simpa using hall 2 (by simp)
  obtain rfl:l3=true:=by simpa using hall 3 (by simp)
  obtain rfl:l4=true:=by simpa using hall 4 (by simp)
  obtain rfl:l5=true:=by simpa using hall 5 (by simp)
  obtain rfl:l6=true:=by simpa using hall 6 (by simp)
  obtain rfl:l7=true:=by simpa using hall 7 (by simp)
  obtain rfl:l8=true:=by simpa using hall 8 (by simp)
  obtain rfl:l9=true:=by simpa using hall 9 (by simp)
  clear hall hr hd7 hd9;simp only[↓reduceIte] at hS ⊢;have x1:=hS.cell (v:=.slice (some ⟨b1,o1,none⟩) L cv) 0 0 rfl rfl;have hS0:=(hS.pick [0,1,2,3,4] (by decide)).nilRow 122 3
  have hS2:St w w' [Ent.box w.heap.size #[.slice (some ⟨b1,o1,none⟩) L cv,v2] 32,Ent.box (w.heap.size+1) #[.int .i64 0,.slice none 0 0,.slice none 0 0,.slice none 0 0] 91,Ent.row 3 1 (.slice (some ⟨b5,0,none⟩) 1 1) 1 [.int .i64 0],Ent.row 3 1 (.slice a6 E.length c6) E.length (intCells E),
    Ent.box b #[.int .i64 L,.slice none 0 0,.slice (some ⟨b5,0,none⟩) 1 1,.slice a6 E.length c6] 91,Ent.row 122 3 (.slice none 0 0) 0 []]:=hS0
  have HhS2:=qh hS2;clear hS2;clear hS hS0 x1;go_wp2
  go_loopw [4] (fun i wr=>∃ (s c1:Nat) (a1:Option Addr),i = .int .i64 s∧s≤L∧St w wr [Ent.box w.heap.size #[.slice (some ⟨b1,o1,none⟩) L cv,v2] 32,Ent.box (w.heap.size+1) #[.int .i64 0,.slice none 0 0,.slice none 0 0,.slice none 0 0] 91,Ent.row 3 1 (.slice (some ⟨b5,0,none⟩) 1 1) 1 [.int .i64 0],Ent.row 3 1 (.slice a6 E.length c6) E.length (intCells E),
    Ent.box b #[.int .i64 L,.slice a1 (mvs d s).length c1,.slice (some ⟨b5,0,none⟩) 1 1,.slice a6 E.length c6] 91,Ent.row 122 3 (.slice a1 (mvs d s).length c1) (mvs d s).length ((mvs d s).flatMap Zac)])
   (fun i _=>L-(intOf i).toNat)
  case atStart=>exact⟨0,0,none,rfl,Nat.zero_le _,HhS2.out⟩
  case round =>
   obtain⟨s,c1,a1,rfl,hs,hS⟩:=hrel;obtain⟨wo,hwo⟩:∃ wo:World,wo=wr:=⟨_,rfl⟩;subst hwo;have x1:=hS.cell (v:=.slice (some ⟨b1,o1,none⟩) L cv) 0 0 rfl rfl;have hml:=Zb1 d s;obtain⟨M,hM⟩:=eI (mvs d s);rw[← hM] at hS hml;have hmle:M.length≤120:=by omega
   by_cases hlt:s<L
   ·have hlt2:(s:Int)<L:=by omega
    obtain⟨ar,cr,hcr,-,-,hIr⟩:=Hcs1.out s hlt;obtain⟨hr3,-⟩:=Hrow.out s (by have:=hL.out;omega);rw[hr3] at hcr hIr;obtain⟨_,_,hform,hrc1,hrc2,hrr⟩:=hIr.form;rw[hr3] at hform hrr hrc1;simp only[Value.slice.injEq,true_and] at hform;obtain⟨rfl,rfl⟩:=hform;obtain⟨b3,o3,rfl,-,hb3,hcs3⟩:=hrr (by omega);have Hcs3:=qh hcs3;have Hhcr:=qh hcr;clear hcr;have HhS:=qh hS;clear hS;have HhM:=qh hM;clear hM;have Hhml:=qh hml;clear hml;clear hcs3 hrr hIr hr3;go_wp2
    go_loopw [5] (fun i wi=>∃ (c c1:Nat) (a1:Option Addr),i = .int .i64 c∧c≤3∧St w wi [Ent.box w.heap.size #[.slice (some ⟨b1,o1,none⟩) L cv,v2] 32,Ent.box (w.heap.size+1) #[.int .i64 0,.slice none 0 0,.slice none 0 0,.slice none 0 0] 91,Ent.row 3 1 (.slice (some ⟨b5,0,none⟩) 1 1) 1 [.int .i64 0],Ent.row 3 1 (.slice a6 E.length c6) E.length (intCells E),
      Ent.box b #[.int .i64 L,.slice a1 (M.length+c) c1,.slice (some ⟨b5,0,none⟩) 1 1,.slice a6 E.length c6] 91,Ent.row 122 3 (.slice a1 (M.length+c) c1) (M.length+c) ((M++(rowM d s).take c).flatMap Zac)])
     (fun i _=>3-(intOf i).toNat)
    case atStart=>exact⟨0,c1,a1,rfl,by omega,by rw[List.take_zero,List.append_nil];exact HhS.out⟩
    case round =>
     obtain⟨c,c1,a1,rfl,hc3',hSi⟩:=hrel;obtain⟨wp,hwp⟩:∃ wp:World,wp=wr:=⟨_,rfl⟩;subst hwp;by_cases hc:c<3
     ·have hc4:(c:Int)<3:=by omega
      have htk:=Zii d s hc;have k3:=Hcs3.out c hc;obtain⟨x,hx⟩:=eI ((d.next.getD s []).getD c 0);rw[← hx] at k3 htk;obtain⟨N,hN⟩:=eI (M++(rowM d s).take c);obtain⟨nl,hnl⟩:=eI (M.length+c);have hnle:nl≤130:=by omega
      rw[← hN,← hnl] at hSi;have Hk3:=qh k3;clear k3;have Hhtk:=qh htk;clear htk;have Hhx:=qh hx;clear hx;have HhN:=qh hN;clear hN;have Hhnl:=qh hnl;clear hnl;have HhSi:=qh hSi;clear hSi;clear x1;go_wp2;refine wp_region_any (by kernel_rfl) ?_
      refine Zap (fun A listed a w'=>∃ (l0 l1 l2 l3 l4 l5 l6 l7 l8 l9 l10 l11 l12 l13 l14 l15 l16:Bool) (g7:Nat) (c7:Nat) (bn:Nat),listed=#[l0,l1,l2,l3,l4,l5,l6,l7,l8,l9,l10,l11,l12,l13,l14,l15,l16]∧(l14=true→l1=true∧l13=true)∧(l16=true→l14=true∧l1=true) ∧
        a=⟨((((((((((((((((A.tmps.setIfInBounds 29 (if l0=true then .pointer (some ⟨b,1,none⟩) else A.tmps.getD 29 undef)).setIfInBounds 30 (if l1=true then .slice a1 nl c1 else A.tmps.getD 30 undef)).setIfInBounds 31 (if l2=true then .int .i64 (s:Int) else A.tmps.getD 31 undef)).setIfInBounds 32 (if l3=true then .int .i64 (c:Int) else A.tmps.getD 32 undef)).setIfInBounds 33 (if l4=true then .pointer (some ⟨w.heap.size,0,none⟩) else A.tmps.getD 33 undef)).setIfInBounds 34 (if l5=true then .slice (some ⟨b1,o1,none⟩) L cv else A.tmps.getD 34 undef)).setIfInBounds 35 (if l6=true then .int .i64 (s:Int) else A.tmps.getD 35 undef)).setIfInBounds 36 (if l7=true then .pointer (some ⟨b1,o1+s,none⟩) else A.tmps.getD 36 undef)).setIfInBounds 37 (if l8=true then .slice (some ⟨b3,o3,none⟩) 3 cr else A.tmps.getD 37 undef)).setIfInBounds 38 (if l9=true then .int .i64 (c:Int) else A.tmps.getD 38 undef)).setIfInBounds 39 (if l10=true then .pointer (some ⟨b3,o3+c,none⟩) else A.tmps.getD 39 undef)).setIfInBounds 40 (if l11=true then .int .i64 x else A.tmps.getD 40 undef)).setIfInBounds 41 (if l12=true then .agg #[.int .i64 s,.int .i64 c,.int .i64 x] else A.tmps.getD 41 undef)).setIfInBounds 42 (if l13=true then .slice (some ⟨bn,0,none⟩) 1 1 else A.tmps.getD 42 undef)).setIfInBounds 43 (if l14=true then .slice (some ⟨g7,0,none⟩) (nl+1) c7 else A.tmps.getD 43 undef)).setIfInBounds 44 (if l15=true then .pointer (some ⟨b,1,none⟩) else A.tmps.getD 44 undef)),A.defers⟩ ∧
        St w w' [Ent.box w.heap.size #[.slice (some ⟨b1,o1,none⟩) L cv,v2] 32,Ent.box (w.heap.size+1) #[.int .i64 0,.slice none 0 0,.slice none 0 0,.slice none 0 0] 91,Ent.row 3 1 (.slice (some ⟨b5,0,none⟩) 1 1) 1 [.int .i64 0],Ent.row 3 1 (.slice a6 E.length c6) E.length (intCells E),Ent.box b #[.int .i64 L,(if l16=true then .slice (some ⟨g7,0,none⟩) (nl+1) c7 else .slice a1 nl c1),.slice (some ⟨b5,0,none⟩) 1 1,.slice a6 E.length c6] 91,(if l14=true then Ent.row 122 3 (.slice (some ⟨g7,0,none⟩) (nl+1) c7) (nl+1) (N.flatMap Zac++[.int .i64 s,.int .i64 c,.int .i64 x]) else Ent.row 122 3 (.slice a1 nl c1) nl (N.flatMap Zac)),(if l13=true then Ent.box bn #[.int .i64 s,.int .i64 c,.int .i64 x] 122 else Ent.nil)]) ?_ ?_ ?_
      ·rintro listed a w' ⟨l0,l1,l2,l3,l4,l5,l6,l7,l8,l9,l10,l11,l12,l13,l14,l15,l16,g7,c7,bn,rfl,hd14,hd16,rfl,hS⟩ i hi;obtain⟨hun,o,ho,hall⟩:=mem_ready.1 hi;have hlt:=(Array.getElem?_eq_some_iff.1 ho).1;refine wpOp_step ho (fun K hK => ?_);clear hi;have HS:=qh hS;clear hS;simp only[List.setIfInBounds_toArray,List.set_cons_zero,List.set_cons_succ,Array.getD_eq_getD_getElem?,List.getElem?_toArray,List.getElem?_cons_zero,List.getElem?_cons_succ,Option.getD_some];obtain h|h|h|h|h|h|h|h|h|h|h|h|h|h|h|h|h:i=0∨i=1∨i=2∨i=3∨i=4∨i=5∨i=6∨i=7∨i=8∨i=9∨i=10∨i=11∨i=12∨i=13∨i=14∨i=15∨i=16:=by simp at hlt;omega
       all_goals subst h
       all_goals simp only[List.getElem?_toArray,List.getElem?_cons_zero,List.getElem?_cons_succ,Option.some.injEq] at ho
       all_goals subst ho
       all_goals simp[Region.binds] at hun hall
       ·subst hun;go_simp;exact hK _ _ ⟨true,l1,l2,l3,l4,l5,l6,l7,l8,l9,l10,l11,l12,l13,l14,l15,l16,g7,c7,bn,rfl,hd14,hd16,(by simp),HS.out⟩
       ·obtain rfl:=hall;subst hun;obtain rfl:l14=false:=offL hd14 rfl;obtain rfl:l16=false:=offL hd16 rfl;have e0:=HS.out.cell (v:=.slice a1 nl c1) 4 1 rfl rfl;go_simp;exact hK _ _ ⟨true,true,l2,l3,l4,l5,l6,l7,l8,l9,l10,l11,l12,l13,false,l15,false,g7,c7,bn,rfl,by simp,by simp,(by simp),HS.out⟩
       ·subst hun;go_simp;exact hK _ _ ⟨l0,l1,true,l3,l4,l5,l6,l7,l8,l9,l10,l11,l12,l13,l14,l15,l16,g7,c7,bn,rfl,hd14,hd16,(by simp),HS.out⟩
       ·subst hun;go_simp;exact hK _ _ ⟨l0,l1,l2,true,l4,l5,l6,l7,l8,l9,l10,l11,l12,l13,l14,l15,l16,g7,c7,bn,rfl,hd14,hd16,(by simp),HS.out⟩
       ·subst hun;go_simp;exact hK _ _ ⟨l0,l1,l2,l3,true,l5,l6,l7,l8,l9,l10,l11,l12,l13,l14,l15,l16,g7,c7,bn,rfl,hd14,hd16,(by simp),HS.out⟩
       ·obtain rfl:=hall;subst hun;have e0:=HS.out.cell (v:=.slice (some ⟨b1,o1,none⟩) L cv) 0 0 rfl rfl;go_simp;exact hK _ _ ⟨l0,l1,l2,l3,true,true,l6,l7,l8,l9,l10,l11,l12,l13,l14,l15,l16,g7,c7,bn,rfl,hd14,hd16,(by simp),HS.out⟩
       ·subst hun;go_simp;exact hK _ _ ⟨l0,l1,l2,l3,l4,l5,true,l7,l8,l9,l10,l11,l12,l13,l14,l15,l16,g7,c7,bn,rfl,hd14,hd16,(by simp),HS.out⟩
       ·obtain⟨rfl,rfl⟩:=hall;subst hun;go_simp;exact hK _ _ ⟨l0,l1,l2,l3,l4,true,true,true,l8,l9,l10,l11,l12,l13,l14,l15,l16,g7,c7,bn,rfl,hd14,hd16,(by simp),HS.out⟩
       ·obtain rfl:=hall;subst hun;have e0:=(bcell HS.out.bel b1 _ hb1).trans Hhcr.out;go_simp;exact hK _ _ ⟨l0,l1,l2,l3,l4,l5,l6,true,true,l9,l10,l11,l12,l13,l14,l15,l16,g7,c7,bn,rfl,hd14,hd16,(by simp),HS.out⟩
       ·subst hun;go_simp;exact hK _ _ ⟨l0,l1,l2,l3,l4,l5,l6,l7,l8,true,l10,l11,l12,l13,l14,l15,l16,g7,c7,bn,rfl,hd14,hd16,(by simp),HS.out⟩
       ·obtain⟨rfl,rfl⟩:=hall;subst hun;go_simp;exact hK _ _ ⟨l0,l1,l2,l3,l4,l5,l6,l7,true,true,true,l11,l12,l13,l14,l15,l16,g7,c7,bn,rfl,hd14,hd16,(by simp),HS.out⟩
       ·obtain rfl:=hall;subst hun;have e0:=(bcell HS.out.bel b3 _ hb3).trans Hk3.out;go_simp;exact hK _ _ ⟨l0,l1,l2,l3,l4,l5,l6,l7,l8,l9,true,true,l12,l13,l14,l15,l16,g7,c7,bn,rfl,hd14,hd16,(by simp),HS.out⟩
       ·obtain⟨rfl,rfl,rfl⟩:=hall;subst hun;go_simp;exact hK _ _ ⟨l0,l1,true,true,l4,l5,l6,l7,l8,l9,l10,true,true,l13,l14,l15,l16,g7,c7,bn,rfl,hd14,hd16,(by simp),HS.out⟩
       ·obtain rfl:=hall;subst hun;obtain rfl:l14=false:=offR hd14 rfl;obtain rfl:l16=false:=offL hd16 rfl;have hS2:=(HS.out.alloc _ rfl #[.int .i64 s,.int .i64 c,.int .i64 x] 122).pick [0,1,2,3,4,5,7] (by decide);have HhS2:=qh hS2;clear hS2;go_simp;exact hK _ _ ⟨l0,l1,l2,l3,l4,l5,l6,l7,l8,l9,l10,l11,true,true,false,l15,false,g7,c7,_,rfl,by simp,by simp,(by simp),HhS2.out⟩
       ·obtain⟨rfl,rfl⟩:=hall;subst hun;obtain rfl:l16=false:=offL hd16 rfl;refine step_append_lies (a:=⟨_,_⟩) _ (by rfl) _ _ _ (by rfl) w.heap.size 122 i0 (.agg #[.int .i64 0,.int .i64 0,.int .i64 0]) 3 24 Tryz.underlying89 Hhi.out Hhz0.out Hhz1.out Hhz2.out (by rfl) (by omega) (.slice a1 nl c1) nl (N.flatMap Zac) (by rfl) (HS.out.row 5 rfl) ⟨bn,0,none⟩ 1 1 [.int .i64 s,.int .i64 c,.int .i64 x] (by rfl) (by rfl) (World.news_of_block (HS.out.box 6 rfl)) ZdD (by omega) (by unfold maxLen;omega) (by omega) HS.out.size _ rfl ?_;intro g8 c8 w8 hown8 hgrow8 hat8 hlt8;have HS8:=qh (HS.out.app 5 rfl hown8 hgrow8 hat8);clear hown8 hgrow8 hat8;go_simp;exact hK _ _ ⟨l0,true,l2,l3,l4,l5,l6,l7,l8,l9,l10,l11,l12,true,true,l15,false,g8,c8,bn,rfl,by simp,by simp,(by simp),HS8.out⟩
       ·obtain⟨rfl,rfl,rfl,rfl,rfl,rfl,rfl,rfl,rfl,rfl,rfl,rfl,rfl,rfl,rfl⟩:=hall;subst hun;go_simp;exact hK _ _ ⟨true,true,true,true,true,true,true,true,true,true,true,true,true,true,true,true,l16,g7,c7,bn,rfl,by simp,hd16,(by simp only[↓reduceIte,List.setIfInBounds_toArray,List.set_cons_zero,List.set_cons_succ]),HS.out⟩
       obtain⟨rfl,rfl,rfl,rfl,rfl,rfl,rfl,rfl,rfl,rfl,rfl,rfl,rfl,rfl,rfl,rfl,-⟩:=hall;subst hun;have f0:=HS.out.fr 4 1 rfl;have k0:=HS.out.cell (v:=.slice a1 nl c1) 4 1 rfl rfl;go_simp;exact hK _ _ ⟨true,true,true,true,true,true,true,true,true,true,true,true,true,true,true,true,true,g7,c7,bn,rfl,by simp,by simp,(by simp only[↓reduceIte,List.setIfInBounds_toArray,List.set_cons_zero,List.set_cons_succ]),(HS.out.set 4 rfl 1 (.slice (some ⟨g7,0,none⟩) (nl+1) c7))⟩
      ·rintro listed a w' ⟨l0,l1,l2,l3,l4,l5,l6,l7,l8,l9,l10,l11,l12,l13,l14,l15,l16,g7,c7,bn,rfl,hd14,hd16,rfl,hS⟩ hr;have hall:=ZaT (by kernel_rfl) rfl hr;obtain rfl:l0=true:=by simpa using hall 0 (by simp)
       obtain rfl:l1=true:=by simpa using hall 1 (by simp)
       obtain rfl:l2=true:=by simpa using hall 2 (by simp)
       obtain rfl:l3=true:=by simpa using hall 3 (by simp)
       obtain rfl:l4=true:=by simpa using hall 4 (by simp)
       obtain rfl:l5=true:=by simpa using hall 5 (by simp)
       obtain rfl:l6=true:=by simpa using hall 6 (by simp)
       obtain rfl:l7=true:=by simpa using hall 7 (by simp)
       obtain rfl:l8=true:=by simpa using hall 8 (by simp)
       obtain rfl:l9=true:=by simpa using hall 9 (by simp)
       obtain rfl:l10=true:=by simpa using hall 10 (by simp)
       obtain rfl:l11=true:=by simpa using hall 11 (by simp)
       obtain rfl:l12=true:=by simpa using hall 12 (by simp)
       obtain rfl:l13=true:=by simpa using hall 13 (by simp)
       obtain rfl:l14=true:=by simpa using hall 14 (by simp)
       obtain rfl:l15=true:=by simpa using hall 15 (by simp)
       obtain rfl:l16=true:=by simpa using hall 16 (by simp)
       clear hall hr hd14 hd16;simp only[↓reduceIte] at hS ⊢;simp only[List.setIfInBounds_toArray,List.set_cons_zero,List.set_cons_succ];have hS9:=hS.pick [0,1,2,3,4,5] (by decide);have HhS9:=qh hS9;clear hS9;clear hS;go_wp2;go_roundw
       case rel =>refine⟨c+1,c7,some ⟨g7,0,none⟩,by go_num,by omega,?_⟩;rw[Hhtk.out,← List.append_assoc,← HhN.out,Zce,show M.length+(c+1)=nl+1 by rw[Hhnl.out];omega];exact HhS9.out
       case measure=>simp[intOf];omega
      refine⟨false,false,false,false,false,false,false,false,false,false,false,false,false,false,false,false,false,0,0,0,rfl,by simp,by simp,(by simp),?_⟩;exact HhSi.out.drew.pick [0,1,2,3,4,5,6] (by decide)
     obtain rfl:c=3:=by omega
     have hta:(rowM d s).take 3=rowM d s:=List.take_of_length_le (by rw[Zfe];exact Nat.le_refl _);have hM1:M++rowM d s=mvs d (s+1):=by rw[HhM.out];rfl
     have hMl:M.length+3=(mvs d (s+1)).length:=by rw[Zb1,Hhml.out];omega
     rw[hta,hM1,hMl] at hSi;have HhSi:=qh hSi;clear hSi;have HhM1:=qh hM1;clear hM1;have HhMl:=qh hMl;clear hMl;clear hta x1;go_wp2;go_roundw
     case rel=>exact⟨s+1,c1,a1,by go_num,by omega,HhSi.out⟩
     case measure=>simp[intOf];omega
   obtain rfl:s=L:=by omega
   have f0:=hS.fr 1 0 rfl;have f1:=hS.fr 1 1 rfl;have f2:=hS.fr 1 2 rfl;have f3:=hS.fr 1 3 rfl;have k0:=hS.cell (v:=.int .i64 0) 1 0 rfl rfl;have k1:=hS.cell (v:=.slice none 0 0) 1 1 rfl rfl;have k2:=hS.cell (v:=.slice none 0 0) 1 2 rfl rfl;have k3:=hS.cell (v:=.slice none 0 0) 1 3 rfl rfl;have d0:=hS.cell (v:=.int .i64 s) 4 0 rfl rfl;have d1:=hS.cell (v:=.slice a1 M.length c1) 4 1 rfl rfl;have d2:=hS.cell (v:=.slice (some ⟨b5,0,none⟩) 1 1) 4 2 rfl rfl;have d3:=hS.cell (v:=.slice a6 E.length c6) 4 3 rfl rfl;have HhS:=qh hS;clear hS;have HhM:=qh hM;clear hM;have Hhml:=qh hml;clear hml;go_wp2;have hq:=(((HhS.out.set 1 rfl 0 (.int .i64 s)).set 1 rfl 1 (.slice a1 M.length c1)).set 1 rfl 2 (.slice (some ⟨b5,0,none⟩) 1 1)).set 1 rfl 3 (.slice a6 E.length c6);have q0:=hq.cell (v:=.int .i64 s) 1 0 rfl rfl;have q1:=hq.cell (v:=.slice a1 M.length c1) 1 1 rfl rfl;have q2:=hq.cell (v:=.slice (some ⟨b5,0,none⟩) 1 1) 1 2 rfl rfl;have q3:=hq.cell (v:=.slice a6 E.length c6) 1 3 rfl rfl;refine bodyPost_ret (v:=.agg #[.int .i64 s,.slice a1 M.length c1,.slice (some ⟨b5,0,none⟩) 1 1,.slice a6 E.length c6]) (by simp[results,Tryz.results146,go_sem,q0,q1,q2,q3]) rfl ?_;have hr:RNfaS ⟨(s:Int),M,[0],E⟩ w (.returned (.agg #[.int .i64 s,.slice a1 M.length c1,.slice (some ⟨b5,0,none⟩) 1 1,.slice a6 E.length c6])) _:=⟨a1,c1,_,1,a6,c6,rfl,hq.pick [5,2,3] (by decide)⟩;have hn:ZaD d=⟨(s:Int),M,[0],E⟩:=by unfold ZaD;rw[← hL.out,HhM.out,hE.out]
   rw[hn];exact hr
 refine⟨false,false,false,false,false,false,false,false,false,false,none,0,0,0,rfl,by simp,by simp,rfl,?_⟩;exact HhS1.out.drew.pick [0,1,2,3,4] (by decide)
def zeD:DfaD:=⟨[],[]⟩
theorem Zhe (w:World) (B tS tI tB:Nat):DfaO tS tI tB B w.heap.size w (.agg #[.slice none 0 0,.slice none 0 0]) zeD :=
 ⟨_,_,rfl,⟨[],Zaa ⟨by simp[zeD],Or.inl ⟨rfl,rfl⟩⟩,fun i hi=>absurd hi (by simp[zeD]),fun i j k _ hj=>absurd hj (by simp[zeD])⟩,Zaa ⟨by simp[zeD],Or.inl ⟨rfl,rfl⟩⟩⟩
def RTt (D:DfaD) (fb:Bool) (B:Nat) (e:Ending) (w':World):Prop:=∃ a1 c1 a2 c2,e = .returned (.tuple #[.agg #[.slice a1 D.next.length c1,.slice a2 D.ends.length c2],.bool fb])∧DfaO 59 3 4 B w'.heap.size w' (.agg #[.slice a1 D.next.length c1,.slice a2 D.ends.length c2]) D
theorem Zey {d:DfaD} (h:fine d) (h40:d.next.length≤40):Zaf d.next d.ends=true:=by
 obtain⟨h1,-,h3,hr⟩:=h;simp only[Zaf,Bool.and_eq_true,List.all_eq_true,decide_eq_true_eq];refine⟨⟨fun x hx => ?_,?_⟩,h3⟩
 ·obtain⟨i,hi,e⟩:=List.getElem_of_mem hx;obtain⟨a,b⟩:=hr i hi;rw[Za4 hi,e] at a b;simp only[Zc7,Bool.and_eq_true,decide_eq_true_eq,List.all_eq_true];refine⟨a,fun y hy => ?_⟩;obtain⟨c,hc,e2⟩:=List.getElem_of_mem hy;have:=b c (by omega);rw[Za4 hc,e2] at this;unfold inB;simp;omega
 unfold inB;simp;omega
theorem Zjf {d:DfaD} (h:Zaf d.next d.ends=true):Zaf (ZaY d).next (ZaY d).ends=true∧(ZaY d).next.length≤d.next.length:=by obtain⟨h1,h2,-⟩:=ZgK (Zaw h);have:=Zad h;exact⟨Zey h1 (by omega),h2⟩
theorem ZmW {x:DfaD} (h:Zaf x.next x.ends=true):Zaf (Zcy x).next (Zcy x).ends=true:=by obtain⟨h1,h2,-⟩:=Zg3 (Zaw h);have:=Zad h;exact Zey h1 (by omega)
end Go.Proofs.YtehmjmjedopkkaaGreat
