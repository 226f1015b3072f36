/-
  The walk over the reference's l10Small.
  Condition: the automaton is valid and reads as such.
-/
import Derived.Test.YtehmjmjedopkkaaGreatPn06Jh
import Derived.Test.YtehmjmjedopkkaaGreatPn10Rp
import Derived.Test.YtehmjmjedopkkaaGreatPn14Cs
import Derived.Test.YtehmjmjedopkkaaGreatPn16Dt
set_option maxHeartbeats 8000000
set_option maxRecDepth 100000
namespace Go.Proofs.YtehmjmjedopkkaaGreat
open Go.RowKit
theorem Za5 (d:DfaD) (v:Value) (w:World) (hd:Zaf d.next d.ends=true) (h:DfaR 0 w v d) :
  Calls Tryz.prog 48 #[v] w fun e w'=>RD (Zak d) w e w':=by
 have HR:=qh h;obtain⟨v1,v2,rfl,-,-⟩:=h;obtain⟨X,hX⟩:=eI (ZaY d);have hXo:=(Zjf hd).1;rw[← hX] at hXo;have hsm:Zak d=ZaY (Zcy X):=by unfold Zak;rw[hX]
 rw[hsm];have hfo:=ZmW hXo;have hS0:=((St.start w).alloc _ rfl #[v1,v2] 32).alloc (w.heap.size+1) (by simp) #[.slice none 0 0,.slice none 0 0] 32;obtain⟨i0,hi,hz0,hz1,hz2⟩:=info_parts Tryz.infoBool;obtain⟨j0,hj,hy0,hy1,hy2⟩:=info_parts Tryz.infoInt;obtain⟨k0,hk,hx0,hx1,hx2⟩:=info_parts Tryz.infoInts;obtain⟨fr,hfr⟩:∃ fr:Nat→List Int,fr=fun k=>(List.range 3).map fun c=>((clD X (nxD X k c):Nat):Int):=⟨_,rfl⟩
 have hfd:Zcy X=⟨(List.range X.next.length).map fr,X.ends⟩:=by unfold Zcy;rw[hfr]
 have hfT:∀ k c,c<3→(fr k).take (c+1)=(fr k).take c++[((clD X (nxD X k c):Nat):Int)]:=fun k c hc=>by rw[hfr,List.take_succ_eq_append_getElem (by simp;omega)];simp
 have hf3:∀ k,(fr k).take 3=fr k:=fun k=>List.take_of_length_le (by rw[hfr];simp)
 have HfT:=qh hfT;have Hf3:=qh hf3;replace hd:=qh hd;replace hX:=qh hX;have Hhsm:=qh hsm;clear hsm;have Hhfo:=qh hfo;clear hfo;have Hhfr:=qh hfr;clear hfr;have Hhfd:=qh hfd;clear hfd;replace hS0:=qh hS0;have Hhi:=qh hi;clear hi;have Hhz0:=qh hz0;clear hz0;have Hhz1:=qh hz1;clear hz1;have Hhz2:=qh hz2;clear hz2;have Hhj:=qh hj;clear hj;have Hhy0:=qh hy0;clear hy0;have Hhy1:=qh hy1;clear hy1;have Hhy2:=qh hy2;clear hy2;have Hhk:=qh hk;clear hk;have Hhx0:=qh hx0;clear hx0;have Hhx1:=qh hx1;clear hx1;have Hhx2:=qh hx2;clear hx2;clear hfT hf3
 go_enter Tryz.func48, Tryz.ntmps48
 have e0:=hS0.out.cell (v:=v1) 0 0 rfl rfl;have e1:=hS0.out.cell (v:=v2) 0 1 rfl rfl;go_wp2_with fail;refine(ZeP d _ _ hd.out (HR.out.below hS0.out.bel)).mono ?_;rintro e w1 ⟨a1,c1,a2,c2,rfl,hDR,hb1⟩;replace hDR:=hDR.mono (Nat.zero_le _);rw[← hX.out] at hDR;rw[← hX.out];obtain⟨b1,o1,cv,b2,o2,cw,hv,hC⟩:=ZbE hXo hDR;rw[hv] at hDR;rw[hv];have hSr:=hS0.out.call hb1;obtain⟨L,hL⟩:=eI (X.next.length);have hl1:=hC.l1;have hl2:=hC.l2;rw[← hL] at hDR hl1 hl2;rw[← hL];have hS1:=(St.start w1).alloc _ rfl #[.slice (some ⟨b1,o1,none⟩) L cv,.slice (some ⟨b2,o2,none⟩) L cw] 32;have HDR:=qh hDR;have HC:=qh hC;have HSr:=qh hSr;have HS1:=qh hS1;replace hL:=qh hL;have HhXo:=qh hXo;clear hXo;have d0:=hS1.cell (v:=.slice (some ⟨b1,o1,none⟩) L cv) 0 0 rfl rfl;have d1:=hS1.cell (v:=.slice (some ⟨b2,o2,none⟩) L cw) 0 1 rfl rfl;clear hSr hS1 hDR hC hv hb1 e0 e1;go_wp2_with fail;refine(Zgx X _ _ HhXo.out (HDR.out.below HS1.out.bel)).mono ?_;unfold RCl;rw[← hL.out];rintro e w2 ⟨g,cg,rfl,hS'⟩;have hS2:=HS1.out.cat hS';have hS3:=(((hS2.alloc _ rfl #[.slice none 0 0,.slice none 0 0] 32).nilRow 59 1).norows 3 rfl 3).nilRow 4 1;have HS3:=qh hS3;clear hS2 hS3 hS' d0 d1;go_wp2
 go_loopw [6] (fun i wr=>∃ (k:Nat) (a1 a2:Option Addr) (c1 c2:Nat) (vs:List Value),i = .int .i64 k∧k≤L ∧
   St w1 wr [Ent.box w1.heap.size #[.slice (some ⟨b1,o1,none⟩) L cv,.slice (some ⟨b2,o2,none⟩) L cw] 32,Ent.row 3 1 (.slice (some ⟨g,0,none⟩) L cg) L (intCells (clsL L (clD X))),Ent.box w2.heap.size #[.slice a1 k c1,.slice a2 k c2] 32,
    Ent.rows 59 3 (.slice a1 k c1) vs (((List.range k).map fr).map intCells),Ent.row 4 1 (.slice a2 k c2) k (boolCells (X.ends.take k))])
  (fun i _=>L-(intOf i).toNat)
 case atStart=>exact⟨0,none,none,0,0,[],rfl,Nat.zero_le _,HS3.out⟩
 case round =>
  obtain⟨k,a1,a2,c1,c2,vs,rfl,hk,hS⟩:=hrel;have d0:=hS.cell (v:=.slice (some ⟨b1,o1,none⟩) L cv) 0 0 rfl rfl;by_cases hlt:k<L
  ·have hlt2:(k:Int)<L:=by omega
   have hkn:k<X.next.length:=by have:=hL.out;omega
   obtain⟨b3,o3,c3,hb3,hc3,hc3',hks,hcs3⟩:=HC.out.row k hkn;have hen:=HC.out.en k hkn;have hSe:=(hS.alloc _ rfl #[] 3).boxrow 5 0 1 [] rfl rfl (Nat.zero_le _);have htk1:=Zjv fr k;have htk2:X.ends.take (k+1)=X.ends.take k++[enD X k]:=by rw[List.take_succ_eq_append_getElem (by have:=HC.out.le;omega)];simp[enD,show k<X.ends.length by have:=HC.out.le;omega]
   have Hcs3:=qh hcs3;have Hen:=qh hen;have HhS:=qh hS;clear hS;have Hhks:=qh hks;clear hks;have HhSe:=qh hSe;clear hSe;have Hhtk1:=qh htk1;clear htk1;have Hhtk2:=qh htk2;clear htk2;clear hcs3 hen;go_wp2
   go_loopw [7,8] (fun rv i wi=>∃ (n:Nat) (b4 c4:Nat),i = .int .i64 n∧rv = .slice (some ⟨b4,0,none⟩) n c4∧n≤3 ∧
     St w1 wi [Ent.box w1.heap.size #[.slice (some ⟨b1,o1,none⟩) L cv,.slice (some ⟨b2,o2,none⟩) L cw] 32,Ent.row 3 1 (.slice (some ⟨g,0,none⟩) L cg) L (intCells (clsL L (clD X))),Ent.box w2.heap.size #[.slice a1 k c1,.slice a2 k c2] 32,
      Ent.rows 59 3 (.slice a1 k c1) vs (((List.range k).map fr).map intCells),Ent.row 4 1 (.slice a2 k c2) k (boolCells (X.ends.take k)),
      Ent.row 3 1 (.slice (some ⟨b4,0,none⟩) n c4) n (intCells ((fr k).take n))])
    (fun _ i _=>3-(intOf i).toNat)
   case atStart=>exact⟨0,_,_,rfl,rfl,by omega,HhSe.out⟩
   case round =>
    obtain⟨n,b4,c4,rfl,rfl,hn3,hSi⟩:=hrel;obtain⟨wo,hwo⟩:∃ wo:World,wo=wr:=⟨_,rfl⟩;subst hwo;by_cases hn:n<3
    ·have hn2:(n:Int)<3:=by omega
     have e0:=hSi.cell (v:=.slice (some ⟨b1,o1,none⟩) L cv) 0 0 rfl rfl;have e2:=(bcell hSi.bel b1 _ HC.out.hb1).trans Hhks.out;have e3:=(bcell hSi.bel b3 _ hb3).trans (Hcs3.out n hn);have hyl:=HC.out.lt k n hkn hn;rw[← hL.out] at hyl;have hT:=HfT.out k n hn;obtain⟨y,hy⟩:=eI (nxD X k n);rw[← hy] at e3 hyl hT;have e4:=hSi.rcell (v:=.int .i64 ((clD X y:Nat):Int)) 1 y rfl (by omega) (ZaV (clD X) hyl);obtain⟨z,hz⟩:=eI (clD X y);rw[← hz] at e4 hT;have hyI:(y:Int)<L:=by omega
     have hSa:=hSi.alloc_ (.cells #[.int .i64 ((z:Nat):Int)] 3);have hR:=hSa.row 5 rfl;have HhSi:=qh hSi;clear hSi;have HhSa:=qh hSa;clear hSa;have HhR:=qh hR;clear hR;have Hhy:=qh hy;clear hy;have Hhz:=qh hz;clear hz;have HhT:=qh hT;clear hT;go_wp2_with (at_builtin;refine wpList_append_lies _ rfl _ _ _ rfl _ 3 j0 (.int .i64 0) 1 8 Tryz.underlying59 Hhj.out Hhy0.out Hhy1.out Hhy2.out rfl (by omega) _ n _ rfl HhR.out ⟨wo.heap.size,0,none⟩ 1 1 [.int .i64 ((z:Nat):Int)] rfl rfl (World.news_of_block (heap_alloc_new wo _)) Zbf (by omega) (by unfold maxLen;omega) (by omega) HhSa.out.size _ rfl ?_;intro g7 c7 w7 hown7 hgrow7 hat7 hlt7;have HS7:=qh (HhSa.out.app 5 rfl hown7 hgrow7 hat7);clear hown7 hgrow7 hat7 hlt7);go_roundw
     case rel =>refine⟨n+1,g7,c7,by go_num,rfl,by omega,?_⟩;rw[HhT.out,Zav];exact HS7.out
     case measure=>simp[intOf];omega
    obtain rfl:n=3:=by omega
    rw[Hf3.out] at hSi;have hlm:(((List.range k).map fr).map intCells).length=k:=by simp
    have hSa:=hSi.alloc_ (.cells #[.slice (some ⟨b4,0,none⟩) 3 c4] 59);have hRw:=(hSa.rows 3 rfl).1;rw[hlm] at hRw;have e0:=hSi.cell (v:=.slice a1 k c1) 2 0 rfl rfl;have Hhlm:=qh hlm;clear hlm;have HhSi:=qh hSi;clear hSi;have HhSa:=qh hSa;clear hSa;have HhRw:=qh hRw;clear hRw;go_wp2_with (at_builtin;refine wpList_append_lies _ rfl _ _ _ rfl _ 59 k0 (.slice none 0 0) 1 24 Tryz.underlying29 Hhk.out Hhx0.out Hhx1.out Hhx2.out rfl (by omega) _ k _ rfl HhRw.out ⟨wo.heap.size,0,none⟩ 1 1 [.slice (some ⟨b4,0,none⟩) 3 c4] rfl rfl (World.news_of_block (heap_alloc_new wo _)) ZbU (by omega) (by unfold maxLen;omega) (by omega) HhSa.out.size _ rfl ?_;intro g6 c6 w6 hown6 hgrow6 hat6 hlt6;have HS6:=qh (HhSa.out.snoc 3 5 (by decide) rfl rfl (by decide) hgrow6 (by rw[Hhlm.out];exact hown6) (Zd7 hat6));have y1:=HS6.out.cell (v:=.slice a1 k c1) 2 0 rfl rfl;have y2:=HS6.out.fr 2 0 rfl;clear hown6 hgrow6 hat6 hlt6);have hSq:=(HS6.out.set 2 rfl 0 (.slice (some ⟨g6,0,none⟩) (k+1) c6)).pick [0,1,2,3,4] (by decide);obtain⟨wq,hwq⟩:=eI (w6.setCell ⟨w2.heap.size,0,none⟩ (.slice (some ⟨g6,0,none⟩) (k+1) c6));rw[← hwq] at hSq
    have hSq':St w1 wq [Ent.box w1.heap.size #[.slice (some ⟨b1,o1,none⟩) L cv,.slice (some ⟨b2,o2,none⟩) L cw] 32,Ent.row 3 1 (.slice (some ⟨g,0,none⟩) L cg) L (intCells (clsL L (clD X))),Ent.box w2.heap.size #[.slice (some ⟨g6,0,none⟩) (k+1) c6,.slice a2 k c2] 32,
      Ent.rows 59 3 (.slice (some ⟨g6,0,none⟩) (k+1) c6) (vs++[.slice (some ⟨b4,0,none⟩) 3 c4]) (((List.range (k+1)).map fr).map intCells),Ent.row 4 1 (.slice a2 k c2) k (boolCells (X.ends.take k))]:=by
     rw[Hhtk1.out,List.map_append];exact hSq
    rw[← hwq];obtain⟨r,hr⟩:=eI (enD X k);have hr2:w1.cell? ⟨b2,o2+k,none⟩=some (.bool r):=by rw[hr];exact Hen.out
    have HSq:=qh hSq';have Hhwq:=qh hwq;clear hwq;have Hhr:=qh hr;clear hr;have Hhr2:=qh hr2;clear hr2;clear hSq hSq' y1 y2 e0 HS6;refine wp_region_any (by kernel_rfl) ?_
    refine Zap (fun A listed a w'=>∃ (l0 l1 l2 l3 l4 l5 l6 l7 l8 l9 l10:Bool) (g7:Nat) (c7:Nat) (bn:Nat),listed=#[l0,l1,l2,l3,l4,l5,l6,l7,l8,l9,l10]∧(l8=true→l1=true∧l7=true)∧(l10=true→l8=true∧l1=true) ∧
      a=⟨((((((((((A.tmps.setIfInBounds 46 (if l0=true then .pointer (some ⟨w2.heap.size,1,none⟩) else A.tmps.getD 46 undef)).setIfInBounds 47 (if l1=true then .slice a2 k c2 else A.tmps.getD 47 undef)).setIfInBounds 48 (if l2=true then .pointer (some ⟨w1.heap.size,1,none⟩) else A.tmps.getD 48 undef)).setIfInBounds 49 (if l3=true then .slice (some ⟨b2,o2,none⟩) L cw else A.tmps.getD 49 undef)).setIfInBounds 50 (if l4=true then .int .i64 (k:Int) else A.tmps.getD 50 undef)).setIfInBounds 51 (if l5=true then .pointer (some ⟨b2,o2+k,none⟩) else A.tmps.getD 51 undef)).setIfInBounds 52 (if l6=true then .bool r else A.tmps.getD 52 undef)).setIfInBounds 53 (if l7=true then .slice (some ⟨bn,0,none⟩) 1 1 else A.tmps.getD 53 undef)).setIfInBounds 54 (if l8=true then .slice (some ⟨g7,0,none⟩) (k+1) c7 else A.tmps.getD 54 undef)).setIfInBounds 55 (if l9=true then .pointer (some ⟨w2.heap.size,1,none⟩) else A.tmps.getD 55 undef)),A.defers⟩ ∧
      St w1 w' [Ent.box w1.heap.size #[.slice (some ⟨b1,o1,none⟩) L cv,.slice (some ⟨b2,o2,none⟩) L cw] 32,Ent.row 3 1 (.slice (some ⟨g,0,none⟩) L cg) L (intCells (clsL L (clD X))),Ent.box w2.heap.size #[.slice (some ⟨g6,0,none⟩) (k+1) c6,(if l10=true then .slice (some ⟨g7,0,none⟩) (k+1) c7 else .slice a2 k c2)] 32,Ent.rows 59 3 (.slice (some ⟨g6,0,none⟩) (k+1) c6) (vs++[.slice (some ⟨b4,0,none⟩) 3 c4]) (((List.range (k+1)).map fr).map intCells),(if l8=true then Ent.row 4 1 (.slice (some ⟨g7,0,none⟩) (k+1) c7) (k+1) ((boolCells (X.ends.take k))++[.bool r]) else Ent.row 4 1 (.slice a2 k c2) k (boolCells (X.ends.take k))),(if l7=true then Ent.box bn #[.bool r] 4 else Ent.nil)]) ?_ ?_ ?_
    ·rintro listed a w' ⟨l0,l1,l2,l3,l4,l5,l6,l7,l8,l9,l10,g7,c7,bn,rfl,hd8,hd10,rfl,hS⟩ i hi;obtain⟨hun,o,ho,hall⟩:=mem_ready.1 hi;have hlt:=(Array.getElem?_eq_some_iff.1 ho).1;refine wpOp_step ho (fun K hK => ?_);clear hi;have HS:=qh hS;clear hS;simp only[List.setIfInBounds_toArray,List.set_cons_zero,List.set_cons_succ,Array.getD_eq_getD_getElem?,List.getElem?_toArray,List.getElem?_cons_zero,List.getElem?_cons_succ,Option.getD_some];obtain h|h|h|h|h|h|h|h|h|h|h:i=0∨i=1∨i=2∨i=3∨i=4∨i=5∨i=6∨i=7∨i=8∨i=9∨i=10:=by simp at hlt;omega
     all_goals subst h
     all_goals simp only[List.getElem?_toArray,List.getElem?_cons_zero,List.getElem?_cons_succ,Option.some.injEq] at ho
     all_goals subst ho
     all_goals simp[Region.binds] at hun hall
     ·subst hun;go_simp;exact hK _ _ ⟨true,l1,l2,l3,l4,l5,l6,l7,l8,l9,l10,g7,c7,bn,rfl,hd8,hd10,(by simp),HS.out⟩
     ·obtain rfl:=hall;subst hun;obtain rfl:l8=false:=offL hd8 rfl;obtain rfl:l10=false:=offL hd10 rfl;have e0:=HS.out.cell (v:=.slice a2 k c2) 2 1 rfl rfl;go_simp;exact hK _ _ ⟨true,true,l2,l3,l4,l5,l6,l7,false,l9,false,g7,c7,bn,rfl,by simp,by simp,(by simp),HS.out⟩
     ·subst hun;go_simp;exact hK _ _ ⟨l0,l1,true,l3,l4,l5,l6,l7,l8,l9,l10,g7,c7,bn,rfl,hd8,hd10,(by simp),HS.out⟩
     ·obtain rfl:=hall;subst hun;have e0:=HS.out.cell (v:=.slice (some ⟨b2,o2,none⟩) L cw) 0 1 rfl rfl;go_simp;exact hK _ _ ⟨l0,l1,true,true,l4,l5,l6,l7,l8,l9,l10,g7,c7,bn,rfl,hd8,hd10,(by simp),HS.out⟩
     ·subst hun;go_simp;exact hK _ _ ⟨l0,l1,l2,l3,true,l5,l6,l7,l8,l9,l10,g7,c7,bn,rfl,hd8,hd10,(by simp),HS.out⟩
     ·obtain⟨rfl,rfl⟩:=hall;subst hun;go_simp;exact hK _ _ ⟨l0,l1,l2,true,true,true,l6,l7,l8,l9,l10,g7,c7,bn,rfl,hd8,hd10,(by simp),HS.out⟩
     ·obtain rfl:=hall;subst hun;have e0:=(bcell HS.out.bel b2 _ HC.out.hb2).trans Hhr2.out;go_simp;exact hK _ _ ⟨l0,l1,l2,l3,l4,true,true,l7,l8,l9,l10,g7,c7,bn,rfl,hd8,hd10,(by simp),HS.out⟩
     ·obtain rfl:=hall;subst hun;obtain rfl:l8=false:=offR hd8 rfl;obtain rfl:l10=false:=offL hd10 rfl;have hS2:=(HS.out.alloc _ rfl #[.bool r] 4).pick [0,1,2,3,4,6] (by decide);have HhS2:=qh hS2;clear hS2;go_simp;exact hK _ _ ⟨l0,l1,l2,l3,l4,l5,true,true,false,l9,false,g7,c7,_,rfl,by simp,by simp,(by simp),HhS2.out⟩
     ·obtain⟨rfl,rfl⟩:=hall;subst hun;obtain rfl:l10=false:=offL hd10 rfl;refine step_append_lies (a:=⟨_,_⟩) _ (by rfl) _ _ _ (by rfl) w1.heap.size 4 i0 (.bool false) 1 1 Tryz.underlying30 Hhi.out Hhz0.out Hhz1.out Hhz2.out (by rfl) (by omega) (.slice a2 k c2) k (boolCells (X.ends.take k)) (by rfl) (HS.out.row 4 rfl) ⟨bn,0,none⟩ 1 1 [.bool r] (by rfl) (by rfl) (World.news_of_block (HS.out.box 5 rfl)) ZaZ (by omega) (by unfold maxLen;omega) (by omega) HS.out.size _ rfl ?_;intro g8 c8 w8 hown8 hgrow8 hat8 hlt8;have HS8:=qh (HS.out.app 4 rfl hown8 hgrow8 hat8);clear hown8 hgrow8 hat8;go_simp;exact hK _ _ ⟨l0,true,l2,l3,l4,l5,l6,true,true,l9,false,g8,c8,bn,rfl,by simp,by simp,(by simp),HS8.out⟩
     ·obtain⟨rfl,rfl,rfl,rfl,rfl,rfl,rfl,rfl,rfl⟩:=hall;subst hun;go_simp;exact hK _ _ ⟨true,true,true,true,true,true,true,true,true,true,l10,g7,c7,bn,rfl,by simp,hd10,(by simp only[↓reduceIte,List.setIfInBounds_toArray,List.set_cons_zero,List.set_cons_succ]),HS.out⟩
     obtain⟨rfl,rfl,rfl,rfl,rfl,rfl,rfl,rfl,rfl,rfl,-⟩:=hall;subst hun;have f0:=HS.out.fr 2 1 rfl;have k0:=HS.out.cell (v:=.slice a2 k c2) 2 1 rfl rfl;go_simp;exact hK _ _ ⟨true,true,true,true,true,true,true,true,true,true,true,g7,c7,bn,rfl,by simp,by simp,(by simp only[↓reduceIte,List.setIfInBounds_toArray,List.set_cons_zero,List.set_cons_succ]),(HS.out.set 2 rfl 1 (.slice (some ⟨g7,0,none⟩) (k+1) c7))⟩
    ·rintro listed a w' ⟨l0,l1,l2,l3,l4,l5,l6,l7,l8,l9,l10,g7,c7,bn,rfl,hd8,hd10,rfl,hS⟩ hr;have hall:=ZaT (by kernel_rfl) rfl hr;obtain rfl:l0=true:=by simpa using hall 0 (by simp)
     obtain rfl:l1=true:=by simpa using hall 1 (by simp)
     obtain rfl:l2=true:=by simpa using hall 2 (by simp)
     obtain rfl:l3=true:=by simpa using hall 3 (by simp)
     obtain rfl:l4=true:=by simpa using hall 4 (by simp)
     obtain rfl:l5=true:=by simpa using hall 5 (by simp)
     obtain rfl:l6=true:=by simpa using hall 6 (by simp)
     obtain rfl:l7=true:=by simpa using hall 7 (by simp)
     obtain rfl:l8=true:=by simpa using hall 8 (by simp)
     obtain rfl:l9=true:=by simpa using hall 9 (by simp)
     obtain rfl:l10=true:=by simpa using hall 10 (by simp)
     clear hall hr hd8 hd10;simp only[↓reduceIte] at hS ⊢;simp only[List.setIfInBounds_toArray,List.set_cons_zero,List.set_cons_succ];have hS9:=hS.pick [0,1,2,3,4] (by decide);have HhS9:=qh hS9;clear hS9;clear hS;go_wp2;go_roundw
     case rel =>refine⟨k+1,some ⟨g6,0,none⟩,some ⟨g7,0,none⟩,c6,c7,vs++[.slice (some ⟨b4,0,none⟩) 3 c4],by go_num,by omega,?_⟩;rw[Hhtk2.out,Za3,← Hhr.out];exact HhS9.out
     case measure=>simp[intOf];omega
    refine⟨false,false,false,false,false,false,false,false,false,false,false,0,0,0,rfl,by simp,by simp,(by simp),?_⟩;exact HSq.out.drew.pick [0,1,2,3,4,5] (by decide)
  obtain rfl:L=k:=by omega
  have hel:X.ends.take L=X.ends:=List.take_of_length_le (by have:=HC.out.le;have:=hL.out;omega);rw[hel] at hS
  have hDF:DfaR 0 wr (.agg #[.slice a1 L c1,.slice a2 L c2]) (Zcy X):=by
   rw[Hhfd.out,← hL.out];refine⟨.slice a1 L c1,.slice a2 L c2,rfl,(hS.intSS 3 rfl).intSS.mono (Nat.zero_le _),?_⟩;have hb:=hS.row 4 rfl;have he:L=X.ends.length:=by have:=HC.out.le;have:=hL.out;omega
   have hb2:wr.ownsRow w1.heap.size 4 1 (.slice a2 L c2) X.ends.length (boolCells X.ends):=by rw[← he];exact hb
   exact(ZaR hb2).mono (Nat.zero_le _)
  have z0:=hS.cell (v:=.slice a1 L c1) 2 0 rfl rfl;have z1:=hS.cell (v:=.slice a2 L c2) 2 1 rfl rfl;have HDF:=qh hDF;have HS8:=qh hS;have Hhel:=qh hel;clear hel;clear hS hDF;go_wp2_with fail;refine(ZeP (Zcy X) _ _ Hhfo.out HDF.out).mono ?_;rintro e w9 ⟨a3,c3,a4,c4,rfl,hDR,hb9⟩;have hS9:=HSr.out.call (HS8.out.bel.trans (hb9.mono HS8.out.bel.size));have f0:=hS9.fr 1 0 rfl;have f1:=hS9.fr 1 1 rfl;have k0:=hS9.cell (v:=.slice none 0 0) 1 0 rfl rfl;have k1:=hS9.cell (v:=.slice none 0 0) 1 1 rfl rfl;have hB1:=(hS9.boxlt 1 rfl).2;have hB2:=(HSr.out.boxlt 1 rfl).2;have HS9:=qh hS9;have HDR9:=qh hDR;have Hb9:=qh hb9;obtain⟨M,hM⟩:=eI (ZaY (Zcy X));rw[← hM] at HDR9;rw[← hM];have HhM:=qh hM;clear hM;clear hS9 hDR hb9 z0 z1;go_wp2;have hq:=(HS9.out.set 1 rfl 0 (.slice a3 M.next.length c3)).set 1 rfl 1 (.slice a4 M.ends.length c4);have q0:=hq.cell (v:=.slice a3 M.next.length c3) 1 0 rfl rfl;have q1:=hq.cell (v:=.slice a4 M.ends.length c4) 1 1 rfl rfl;refine bodyPost_ret (v:=.agg #[.slice a3 M.next.length c3,.slice a4 M.ends.length c4]) (by simp[results,Tryz.results48,go_sem,q0,q1]) rfl ?_;rw[← HhM.out];have hle:=HS8.out.bel.size;have hle1:=HSr.out.bel.size;exact⟨a3,c3,a4,c4,rfl,((HDR9.out.far (by omega) 0 _).far (by omega) 1 _).mono (by omega),hq.bel⟩
def DfaV (B H:Nat) (v1 v2:Value) (D:DfaD):Ent:=⟨fun k=>B≤k∧k<H,fun u=>∃ w:World,w.heap.size=H∧DfaR B w (.agg #[v1,v2]) D∧∀ k,B≤k→k<H→u.heap[k]? = w.heap[k]?,
 fun _ _ ⟨w,h1,h2,h3⟩ hk=>⟨w,h1,h2,fun k p q=>(hk k ⟨p,q⟩).trans (h3 k p q)⟩⟩
theorem St.dfaV {w0 w w':World} {L:List Ent} (h:St w0 w L) (hb:Below w.heap.size w w') {v1 v2:Value} {D:DfaD} (hr:DfaR w.heap.size w' (.agg #[v1,v2]) D):St w0 w' (L++[DfaV w.heap.size w'.heap.size v1 v2 D]) :=
 h.add hb _ ⟨w',rfl,hr,fun _ _ _=>rfl⟩ fun _ hk=>hk
theorem St.dfaVr {w0 w:World} {L:List Ent} (h:St w0 w L) (i:Nat) {B H:Nat} {v1 v2:Value} {D:DfaD} (hx:L[i]? = some (DfaV B H v1 v2 D)):DfaR 0 w (.agg #[v1,v2]) D:=by
 have hE:=h.has i _ hx;obtain⟨⟨w',h1,⟨x1,x2,hv,⟨vs,h2,h3⟩,h4⟩,h5⟩,hf⟩:=hE;simp only[Value.agg.injEq,Array.mk.injEq,List.cons.injEq,and_true] at hv;obtain⟨rfl,rfl⟩:=hv;by_cases hlt:B<H
 ·have hs:w'.heap.size≤w.heap.size:=by have:H-1<w.heap.size:=(hf (H-1) (show B≤H-1∧H-1<H by omega)).2;omega
  have hk:∀ k,B≤k→k<w'.heap.size→w.heap[k]? = w'.heap[k]?:=fun k p q=>h5 k p (by omega)
  exact⟨_,_,rfl,⟨vs,h2.keptJ (Nat.zero_le _) hs hk,fun i hi=>Sl.keptJ (h3 i hi) (Nat.zero_le _) hs hk⟩,Sl.keptJ h4 (Nat.zero_le _) hs hk⟩
 have hno:∀ {v:Value} {n size:Nat} {cs:List Value},Sl B w' v n size cs→0<size→Sl 0 w v n size cs:=fun {v n size cs} hs hz=>by obtain⟨g1,a,cap,g2,g3,g4,g5⟩:=hs;refine⟨g1,a,cap,g2,g3,g4,fun hn => ?_⟩;obtain⟨b,off,-,p,q,-⟩:=g5 hn;omega
 exact⟨_,_,rfl,⟨vs,hno h2 (by omega),fun i hi=>hno (h3 i hi) (by omega)⟩,hno h4 (by omega)⟩
def RDs (D:DfaD) (w:World) (e:Ending) (w':World):Prop:=∃ a1 c1 a2 c2,e = .returned (.agg #[.slice a1 D.next.length c1,.slice a2 D.ends.length c2])∧DfaR w.heap.size w' (.agg #[.slice a1 D.next.length c1,.slice a2 D.ends.length c2]) D∧Below w.heap.size w w'
def minQ (d:DfaD):DfaD:=if Zaf d.next d.ends=true then minD d else⟨[],[]⟩
theorem ZpF (w:World) (B:Nat):DfaR B w (.agg #[.slice none 0 0,.slice none 0 0]) ⟨[],[]⟩:=(Zia w B 0 0 0).r
def pOk (p:Int × Int):Bool:=inB p.1 1 8&&(decide (p.1=3)&&inB p.2 0 2||(!decide (p.1=3)&&decide (p.2=0)))
def Zah (p:Int × Int):Int:=if pOk p=true then(if p.1=1∨p.1=2∨p.1=3 then 0 else if p.1=7∨p.1=8 then 1 else 2) else -1
theorem Zcl (p:Int × Int):-1≤Zah p∧Zah p≤2:=by
 unfold Zah
 split<;>(try split)<;>(try split)<;>omega
theorem ZfG {p:Int × Int} (h:0≤Zah p):pOk p=true:=by
 unfold Zah at h
 split at h
 ·assumption
 omega
def dep (es:List (Int × Int)):Nat→Int
 | 0=>0
 | k+1=>dep es k-Zah (es.getD k (0,0))+1
theorem Zgg (es:List (Int × Int)):∀ k:Nat,-(2*k:Int)≤dep es k∧dep es k≤2*k
 | 0=>by simp[dep]
 | k+1=>by have ih:=Zgg es k;have:=Zcl (es.getD k (0,0));unfold dep;omega
def exAt (es:List (Int × Int)) (k:Nat):Bool:=decide (0≤Zah (es.getD k (0,0)))&&decide (Zah (es.getD k (0,0))≤dep es k)
def exOk (es:List (Int × Int)):Bool:=(List.range es.length).all (exAt es)&&decide (dep es es.length=1)&&decide (es.length≤60)
theorem ZcL {es:List (Int × Int)} (h:exOk es=true):(∀ k,k<es.length→0≤Zah (es.getD k (0,0))∧Zah (es.getD k (0,0))≤dep es k)∧dep es es.length=1∧1≤es.length∧es.length≤60:=by
 simp only[exOk,exAt,Bool.and_eq_true,List.all_eq_true,List.mem_range,decide_eq_true_eq] at h;refine⟨h.1.1,h.1.2,?_,h.2⟩;cases es with
 | nil=>have:=h.1.2;simp[dep] at this
 | cons=>simp
theorem Zkw {es:List (Int × Int)} {k:Nat} (hk:k<es.length) (h:exAt es k=false):exOk es=false:=by
 cases he:exOk es with
 | false=>rfl
 | true =>obtain⟨h1,-⟩:=ZcL he;obtain⟨a,b⟩:=h1 k hk;simp only[exAt,decide_eq_true a,decide_eq_true b,Bool.and_self] at h;cases h
theorem Zpd {es:List (Int × Int)} (h:∀ k,k<es.length→0≤Zah (es.getD k (0,0))∧Zah (es.getD k (0,0))≤dep es k):∀ k,0<k→k≤es.length→1≤dep es k
 | 0,h0,_=>by omega
 | k+1,_,hk=>by have:=h k (by omega);unfold dep;omega
def Zb7 (es:List (Int × Int)) (n a:Nat):Prop:=a<n∧dep es a=dep es n-1∧∀ j,a<j→j<n→dep es j≠dep es n-1
theorem Znu {es:List (Int × Int)} {n:Nat} (h:∀ k,k<n→0≤Zah (es.getD k (0,0))) (hn:1≤dep es n):∃ a,Zb7 es n a:=by
 have key:∀ m,m≤n→(∀ j,m≤j→j<n→dep es j≠dep es n-1)→(m=n∨dep es n≤dep es m)→∃ a,Zb7 es n a:=by
  intro m
  induction m with
  | zero =>
   intro _ hj hm;exfalso;have h0:dep es 0=0:=rfl;rcases hm with hm|hm
   ·subst hm;omega
   omega
  | succ m ih =>
   intro hmn hj hm;have hs:dep es (m+1)=dep es m-Zah (es.getD m (0,0))+1:=rfl;have hp:=h m (by omega)
   have hge:dep es n≤dep es (m+1):=by
    rcases hm with hm|hm
    ·rw[hm];exact Int.le_refl _
    exact hm
   by_cases he:dep es m=dep es n-1
   ·exact⟨m,by omega,he,fun j h1 h2=>hj j (by omega) h2⟩
   exact ih (by omega) (fun j h1 h2=>by
    by_cases hjm:j=m
    ·rw[hjm];exact he
    exact hj j (by omega) h2) (Or.inr (by omega))
 exact key n (Nat.le_refl _) (fun j h1 h2=>by omega) (Or.inl rfl)
end Go.Proofs.YtehmjmjedopkkaaGreat
namespace Go.Proofs.YtehmjmjedopkkaaGreat
open Go.RowKit
theorem Zan {a b:Int} (h:a≠b):(a==b)=false∧(a=b)=False∧(a != b)=true∧(!(a==b))=true:=by simp[h]
theorem ZdT (k l:Int) (w:World) (r:Bool) (hr:pOk (k,l)=r) :
  Calls Tryz.prog 100 #[.agg #[.int .i64 k,.int .i64 l]] w fun e w'=>e = .returned (.bool r)∧Below w.heap.size w w':=by
 unfold pOk at hr;simp only at hr;cases h1:inB k 1 8
 ·rw[h1,Bool.false_and] at hr;subst hr;have H1:=qh h1;clear h1
  go_enter Tryz.func100, Tryz.ntmps100
  go_wp2_with (go_at_call 63;refine(Zbm _ _ _ _ _ H1.out).mono ?_;rintro e w' ⟨rfl,rfl⟩);go_ret;exact⟨rfl,(Below.refl _ _).alloc (Nat.le_refl _) _⟩
 rw[h1,Bool.true_and] at hr;have H1:=qh h1;clear h1;by_cases h3:k=3
 ·subst h3;cases h2:inB l 0 2
  ·rw[h2] at hr;have hr:false=r:=hr;subst hr;have H2:=qh h2;clear h2
   go_enter Tryz.func100, Tryz.ntmps100
   go_wp2_with (go_at_call 63;(first|(with_reducible refine(Zbm _ _ _ _ _ H1.out).mono ?_)|(with_reducible refine(Zbm _ _ _ _ _ H2.out).mono ?_));rintro e w' ⟨rfl,rfl⟩);go_ret;exact⟨rfl,(Below.refl _ _).alloc (Nat.le_refl _) _⟩
  rw[h2] at hr;have hr:true=r:=hr;subst hr;have H2:=qh h2;clear h2
  go_enter Tryz.func100, Tryz.ntmps100
  go_wp2_with (go_at_call 63;(first|(with_reducible refine(Zbm _ _ _ _ _ H1.out).mono ?_)|(with_reducible refine(Zbm _ _ _ _ _ H2.out).mono ?_));rintro e w' ⟨rfl,rfl⟩);go_ret;exact⟨rfl,(Below.refl _ _).alloc (Nat.le_refl _) _⟩
 obtain⟨q1,q2,q3,q4⟩:=Zan h3;rw[decide_eq_false h3] at hr;replace h3:=qh h3;by_cases h0:l=0
 ·subst h0;have hr:true=r:=hr;subst hr
  go_enter Tryz.func100, Tryz.ntmps100
  go_wp2_with (go_at_call 63;refine(Zbm _ _ _ _ _ H1.out).mono ?_;rintro e w' ⟨rfl,rfl⟩);go_ret;exact⟨rfl,(Below.refl _ _).alloc (Nat.le_refl _) _⟩
 obtain⟨p1,p2,p3,p4⟩:=Zan h0;rw[decide_eq_false h0] at hr;have hr:false=r:=hr;subst hr;replace h0:=qh h0
 go_enter Tryz.func100, Tryz.ntmps100
 go_wp2_with (go_at_call 63;refine(Zbm _ _ _ _ _ H1.out).mono ?_;rintro e w' ⟨rfl,rfl⟩);go_ret;exact⟨rfl,(Below.refl _ _).alloc (Nat.le_refl _) _⟩
theorem ZbA (k l:Int) (w:World) (n:Int) (hn:Zah (k,l)=n) :
  Calls Tryz.prog 62 #[.agg #[.int .i64 k,.int .i64 l]] w fun e w'=>e = .returned (.int .i64 n)∧Below w.heap.size w w':=by
 have hS0:=(St.start w).alloc _ rfl #[.int .i64 k,.int .i64 l] 55;have e0:=hS0.cell (v:=.int .i64 k) 0 0 rfl rfl;have e1:=hS0.cell (v:=.int .i64 l) 0 1 rfl rfl;cases h:pOk (k,l)
 ·have hn1:n = -1:=by rw[← hn];unfold Zah;rw[if_neg (by simp[h])]
  subst hn1;have H:=qh h;replace hS0:=qh hS0;clear hn h
  go_enter Tryz.func62, Tryz.ntmps62
  go_wp2_with fail;refine(ZdT k l _ _ H.out).mono ?_;rintro e w1 ⟨rfl,hb1⟩;have HS1:=qh (hS0.out.call hb1);clear hb1;go_wp2;go_ret;exact⟨rfl,HS1.out.bel⟩
 have hk:k=1∨k=2∨k=3∨k=4∨k=5∨k=6∨k=7∨k=8:=by have h':=h;unfold pOk at h';simp only[Bool.and_eq_true] at h';have:=Zd4 h'.1;omega
 have hn1:n=if k=1∨k=2∨k=3 then 0 else if k=7∨k=8 then 1 else 2:=by rw[← hn];unfold Zah;rw[if_pos h]
 have H:=qh h;replace hS0:=qh hS0;clear hn h;rcases hk with rfl|rfl|rfl|rfl|rfl|rfl|rfl|rfl
 all_goals
  simp at hn1;subst hn1
  go_enter Tryz.func62, Tryz.ntmps62
  go_wp2_with fail;refine(ZdT _ l _ _ H.out).mono ?_;rintro e w1 ⟨rfl,hb1⟩;have c0:=(hS0.out.call hb1).cell (v:=.int .i64 _) 0 0 rfl rfl;have HS1:=qh (hS0.out.call hb1);clear hb1;go_wp2;go_ret;exact⟨rfl,HS1.out.bel⟩
theorem ZiU (xs:List (Int × Int)):∀ n:Nat,(xs.take n).flatMap Zab=(xs.flatMap Zab).take (n*2):=by
 induction xs with
 | nil=>intro n;simp
 | cons x l ih =>
  intro n;cases n with
  | zero=>simp
  | succ n =>rw[List.take_succ_cons,List.flatMap_cons,List.flatMap_cons,ih n,show(n+1)*2=n*2+2 by omega];rfl
theorem ZiV (xs:List (Int × Int)):∀ n:Nat,(xs.drop n).flatMap Zab=(xs.flatMap Zab).drop (n*2):=by
 induction xs with
 | nil=>intro n;simp
 | cons x l ih =>
  intro n;cases n with
  | zero=>simp
  | succ n =>rw[List.drop_succ_cons,List.flatMap_cons,ih n,show(n+1)*2=n*2+2 by omega];rfl
theorem Pairs.take {w:World} {a:Option Addr} {len cap:Nat} {xs:List (Int × Int)} (h:Pairs 0 w (.slice a len cap) xs) {n:Nat} (hn:n≤xs.length):Pairs 0 w (.slice a n cap) (xs.take n):=by
 obtain⟨hl,a',cap',hv,h1,h2,h3⟩:=h;simp only[Value.slice.injEq] at hv;obtain⟨rfl,rfl,rfl⟩:=hv;have e:(xs.take n).length=n:=by rw[List.length_take];omega
 unfold Pairs;rw[e];refine⟨by rw[ZiU,List.length_take];omega,a,cap,rfl,by omega,h2,fun hn0 => ?_⟩;obtain⟨b,off,ha,hb,hlt,hc⟩:=h3 (by omega);refine⟨b,off,ha,hb,hlt,fun j hj => ?_⟩;rw[hc j (by omega),ZiU,List.getElem?_take_of_lt hj]
theorem Pairs.drop {w:World} {b off len cap:Nat} {xs:List (Int × Int)} (h:Pairs 0 w (.slice (some ⟨b,off,none⟩) len cap) xs) {n:Nat} (hn:n<xs.length):Pairs 0 w (.slice (some ⟨b,off+n*2,none⟩) (xs.length-n) (cap-n)) (xs.drop n):=by obtain⟨hl,a',cap',hv,h1,h2,h3⟩:=h;simp only[Value.slice.injEq] at hv;obtain⟨rfl,rfl,rfl⟩:=hv;unfold Pairs;rw[List.length_drop];refine⟨by rw[ZiV,List.length_drop];omega,_,_,rfl,by omega,by omega,fun hn0 => ?_⟩;obtain⟨b',off',ha,hb,hlt,hc⟩:=h3 (by omega);simp only[Option.some.injEq,Addr.mk.injEq,and_true] at ha;obtain⟨rfl,rfl⟩:=ha;refine⟨b,off+n*2,rfl,hb,hlt,fun j hj => ?_⟩;rw[show off+n*2+j=off+(n*2+j) by omega,hc _ (by omega),ZiV,List.getElem?_drop]
theorem Zeb (es:List (Int × Int)) (v:Value) (w:World) (hlen:es.length≤2000000) (h:Pairs 0 w v es) (r:Bool) (hr:exOk es=r) :
  Calls Tryz.prog 31 #[v] w fun e w'=>e = .returned (.bool r)∧Below w.heap.size w w':=by
 obtain⟨a,c,rfl,hc1,hc2,hrd⟩:=h.form;have Hrd:=qh hrd;have Hr:=qh hr;clear h hr hrd
 go_enter Tryz.func31, Tryz.ntmps31
 go_wp2
 go_loopw [3,4] (fun vd i wr=>∃ k:Nat,i = .int .i64 k∧k≤es.length∧vd = .int .i64 (dep es k)∧(∀ j,j<k→exAt es j=true)∧Below w.heap.size w wr) (fun _ i _=>es.length-(intOf i).toNat)
 case atStart=>exact⟨0,rfl,Nat.zero_le _,rfl,fun j hj=>absurd hj (by omega),Below.refl _ _⟩
 case round =>
  obtain⟨k,rfl,hk,rfl,hall,hb⟩:=hrel;have hdi:=Zgg es k;have hds:dep es (k+1)=dep es k-Zah (es.getD k (0,0))+1:=rfl;have hpi:=Zcl (es.getD k (0,0));have hex:exAt es k=(decide (0≤Zah (es.getD k (0,0)))&&decide (Zah (es.getD k (0,0))≤dep es k)):=rfl;have Hall:=qh hall;have Hb:=qh hb;clear hall hb;by_cases hlt:k<es.length
  ·have hlt2:(k:Int)<es.length:=by omega
   obtain⟨b,o,rfl,-,hbl,hcs⟩:=Hrd.out (by omega);obtain⟨g1,g2⟩:=hcs k hlt;have k1:=(bcell Hb.out b _ hbl).trans g1;have k2:=(bcell Hb.out b _ hbl).trans g2;obtain⟨p,hp⟩:=eI (es.getD k (0,0));rw[← hp] at k1 k2 hds hpi hex;obtain⟨p1,p2⟩:=p;simp only at k1 k2;obtain⟨n,hn⟩:=eI (Zah (p1,p2));rw[← hn] at hds hpi hex;obtain⟨D,hD⟩:=eI (dep es k);rw[← hD] at hds hdi hex;rw[← hD];obtain⟨hd1,hd2⟩:=hdi;obtain⟨hp1,hp2⟩:=hpi;have Hds:=qh hds;have Hex:=qh hex;replace hp:=qh hp;replace hn:=qh hn;replace hD:=qh hD;clear hds hex hcs g1 g2;go_wp2_with fail;refine(ZbA p1 p2 _ _ hn.out.symm).mono ?_;rintro e w1 ⟨rfl,hb1⟩;have Hb1:=qh (Hb.out.trans (hb1.mono Hb.out.size));clear hb1 k1 k2;by_cases hn0:n<0
   ·have q1:(n<0)=True:=by simp[hn0]
    have hrf:false=r:=by rw[← Hr.out];exact(Zkw hlt (by rw[Hex.out,decide_eq_false (by omega)];rfl)).symm
    subst hrf;go_wp2;go_ret;exact⟨rfl,Hb1.out⟩
   have q1:(n<0)=False:=by simp;omega
   have hn1:0≤n:=by omega
   clear hn0;by_cases hDn:D<n
   ·have q2:(D<n)=True:=by simp[hDn]
    have hrf:false=r:=by rw[← Hr.out];exact(Zkw hlt (by rw[Hex.out,decide_eq_false (show ¬ n≤D by omega),Bool.and_false])).symm
    subst hrf;go_wp2;go_ret;exact⟨rfl,Hb1.out⟩
   have q2:(D<n)=False:=by simp;omega
   have hDn1:n≤D:=by omega
   clear hDn;go_wp2;go_roundw
   case rel =>
    refine⟨k+1,by go_num,by omega,by rw[Hds.out],fun j hj => ?_,Hb1.out⟩;by_cases e:j=k
    ·rw[e,Hex.out,decide_eq_true hn1,decide_eq_true hDn1];rfl
    exact Hall.out j (by omega)
   case measure=>simp[intOf];omega
  obtain rfl:k=es.length:=by omega
  have hro:exOk es=(decide (dep es es.length=1)&&decide (es.length≤60)):=by unfold exOk;rw[List.all_eq_true.2 (fun j hj=>Hall.out j (List.mem_range.1 hj)),Bool.true_and]
  obtain⟨D,hD⟩:=eI (dep es es.length);rw[← hD] at hro;rw[← hD];rw[Hr.out] at hro;have Hro:=qh hro;replace hD:=qh hD;clear hro hdi hds hpi hex;by_cases hD1:D=1
  ·subst hD1;by_cases h60:es.length≤60
   ·have q1:((es.length:Int)≤60)=True:=by simp;omega
    have hrt:true=r:=by rw[Hro.out,decide_eq_true h60];rfl
    subst hrt;go_wp2;go_ret;exact⟨rfl,Hb.out⟩
   have q1:((es.length:Int)≤60)=False:=by simp;omega
   have hrt:false=r:=by rw[Hro.out,decide_eq_false h60];rfl
   subst hrt;clear h60;go_wp2;go_ret;exact⟨rfl,Hb.out⟩
  obtain⟨q1,q2,q3,q4⟩:=Zan hD1;have hrt:false=r:=by rw[Hro.out,decide_eq_false hD1];rfl
  subst hrt;clear hD1;go_wp2;go_ret;exact⟨rfl,Hb.out⟩
theorem ZjG (es:List (Int × Int)) (en at':Nat) (v:Value) (w:World) (hlen:es.length≤1000000) (hen:en<es.length) (h:Pairs 0 w v es) (ha:Zb7 es (en+1) at') :
  Calls Tryz.prog 136 #[v,.int .i64 ((en:Nat):Int)] w fun e w'=>e = .returned (.int .i64 ((at':Nat):Int))∧Below w.heap.size w w':=by
 obtain⟨a,c,rfl,hc1,hc2,hrd⟩:=h.form;obtain⟨b,o,rfl,-,hbl,hcs⟩:=hrd (by omega);obtain⟨ha1,ha2,ha3⟩:=ha;have Hcs:=qh hcs;have Ha2:=qh ha2;have Ha3:=qh ha3;have hde:=Zgg es (en+1);obtain⟨hde1,hde2⟩:=hde;obtain⟨E,hE⟩:=eI (dep es (en+1));rw[← hE] at hde1 hde2;replace hE:=qh hE;clear h hcs hrd ha2 ha3
 go_enter Tryz.func136, Tryz.ntmps136
 go_wp2
 go_loopw [5,6] (fun vn i wr=>∃ k:Nat,i = .int .i64 k∧at'≤k∧k≤en∧vn = .int .i64 (1+dep es (k+1)-E)∧Below w.heap.size w wr) (fun _ i _=>(intOf i).toNat)
 case atStart=>exact⟨en,rfl,by omega,Nat.le_refl _,by rw[hE.out];congr 1;omega,Below.refl _ _⟩
 case round =>
  obtain⟨k,rfl,hak,hk,rfl,hb⟩:=hrel;have hlt2:(k:Int)<es.length:=by omega
  have hdi:=Zgg es (k+1);have hdk:=Zgg es k;have hds:dep es (k+1)=dep es k-Zah (es.getD k (0,0))+1:=rfl;have hpi:=Zcl (es.getD k (0,0));obtain⟨g1,g2⟩:=Hcs.out k (by omega);have k1:=(bcell hb b _ hbl).trans g1;have k2:=(bcell hb b _ hbl).trans g2;obtain⟨p,hp⟩:=eI (es.getD k (0,0));rw[← hp] at k1 k2 hds hpi;obtain⟨p1,p2⟩:=p;simp only at k1 k2;obtain⟨n,hn⟩:=eI (Zah (p1,p2));rw[← hn] at hds hpi;obtain⟨D1,hD1⟩:=eI (dep es (k+1));rw[← hD1] at hds hdi;rw[← hD1];obtain⟨D,hD⟩:=eI (dep es k);rw[← hD] at hds hdk;obtain⟨hd1,hd2⟩:=hdi;obtain⟨hd3,hd4⟩:=hdk;obtain⟨hp1,hp2⟩:=hpi;have hsum:1+D1-E-1+n=1+D-E:=by omega
  have Hb:=qh hb;have Hds:=qh hds;have Hsum:=qh hsum;have Hhp:=qh hp;clear hp;have Hhn:=qh hn;clear hn;replace hD:=qh hD;have HhD1:=qh hD1;clear hD1;clear hds hsum g1 g2 hb;go_wp2_with fail;refine(ZbA p1 p2 _ _ Hhn.out.symm).mono ?_;rintro e w1 ⟨rfl,hb1⟩;have Hb1:=qh (Hb.out.trans (hb1.mono Hb.out.size));clear hb1 k1 k2;by_cases hka:k=at'
  ·subst hka;have hz:1+D1-E-1+n=0:=by rw[Hsum.out,hD.out,Ha2.out,← hE.out];omega
   go_wp2;go_ret;exact⟨rfl,Hb1.out⟩
  have hz:1+D1-E-1+n≠0:=by rw[Hsum.out];intro he;have h:=Ha3.out k (by omega) (by omega);rw[← hE.out,← hD.out] at h;omega
  obtain⟨z1,z2,z3,z4⟩:=Zan hz;have hsm:1+D1-E-1+n=1+dep es ((k-1)+1)-E:=by rw[Hsum.out,show(k-1)+1=k by omega,hD.out]
  have Hsm:=qh hsm;have hk0:1≤k:=by omega
  clear hz hsm;go_wp2;go_roundw
  case rel=>exact⟨k-1,by congr 1;omega,by omega,by omega,by rw[Hsm.out],Hb1.out⟩
  case measure=>simp[intOf];omega
def splits (es:List (Int × Int)) (xs ys:List (Int × Int)):Prop:=(Zah (es.getD (es.length-1) (0,0))=0→xs=[]∧ys=[])∧(Zah (es.getD (es.length-1) (0,0))=1→xs=es.take (es.length-1)∧ys=[]) ∧
 (Zah (es.getD (es.length-1) (0,0))=2→∃ a,Zb7 es (es.length-1) a∧xs=es.take a∧ys=(es.drop a).take (es.length-1-a))
theorem ZfF (w:World) (a:Option Addr) {c:Nat} (hc:c≤maxLen):Pairs 0 w (.slice a 0 c) []:=⟨rfl,_,_,rfl,Nat.zero_le _,hc,fun h=>by simp at h⟩
theorem ZbK (es:List (Int × Int)) (v:Value) (w:World) (hok:exOk es=true) (h:Pairs 0 w v es) :
  Calls Tryz.prog 101 #[v] w fun e w'=>∃ vx vy xs ys,splits es xs ys∧e = .returned (.tuple #[vx,vy])∧Pairs 0 w' vx xs∧Pairs 0 w' vy ys∧Below w.heap.size w w':=by
 obtain⟨hall,hd1,hl1,hl60⟩:=ZcL hok;have Hp:=qh h;obtain⟨a,c,rfl,hc1,hc2,hrd⟩:=h.form;obtain⟨b,o,rfl,-,hbl,hcs⟩:=hrd (by omega);obtain⟨m,hm⟩:∃ m,es.length=m+1:=⟨es.length-1,by omega⟩;obtain⟨g1,g2⟩:=hcs m (by omega);have hpn:=hall m (by omega);have hpi:=Zcl (es.getD m (0,0));have hdm:dep es (m+1)=dep es m-Zah (es.getD m (0,0))+1:=rfl;rw[← hm,hd1] at hdm;have hbeg:Zah (es.getD m (0,0))=2→∃ a,Zb7 es m a:=fun h2=>Znu (fun k hk=>(hall k (by omega)).1) (by omega)
 have hsp:∀ xs ys,splits es xs ys↔(Zah (es.getD m (0,0))=0→xs=[]∧ys=[])∧(Zah (es.getD m (0,0))=1→xs=es.take m∧ys=[])∧(Zah (es.getD m (0,0))=2→∃ a,Zb7 es m a∧xs=es.take a∧ys=(es.drop a).take (m-a)):=fun xs ys=>by unfold splits;rw[show es.length-1=m by omega]
 obtain⟨p,hp⟩:=eI (es.getD m (0,0));rw[← hp] at g1 g2 hpi hpn hbeg hsp;obtain⟨p1,p2⟩:=p;simp only at g1 g2;obtain⟨n,hn⟩:=eI (Zah (p1,p2));rw[← hn] at hpi hpn hbeg hsp;have hn3:n=0∨n=1∨n=2:=by omega
 have Hbeg:=qh hbeg;have Hsp:=qh hsp;have hml:(m:Int)<es.length:=by omega
 replace hn:=qh hn;have Hhp:=qh hp;clear hp;clear hall hd1 h hok hcs hrd hdm hbeg hsp hpn hpi;have hlen:(es.length:Int)-1=(m:Int):=by omega
 replace hm:=qh hm
 go_enter Tryz.func101, Tryz.ntmps101
 rcases hn3 with rfl|rfl|rfl
 ·go_wp2_with fail;refine(ZbA p1 p2 _ _ hn.out.symm).mono ?_;rintro e w1 ⟨rfl,hb1⟩;have HS:=qh (((((St.start w).call hb1).alloc_ (.cells #[] 55)).alloc_ (.cells #[] 55)).bel);clear hb1;go_wp2;refine bodyPost_ret (v:=.tuple #[.slice (some ⟨w1.heap.size,0,none⟩) 0 0,.slice (some ⟨w1.heap.size+1,0,none⟩) 0 0]) (by simp[results,Tryz.results101,go_sem]) rfl ?_;exact⟨_,_,[],[],(Hsp.out _ _).2 ⟨fun _=>⟨rfl,rfl⟩,fun h=>absurd h (by omega),fun h=>absurd h (by omega)⟩,rfl,ZfF _ _ (by unfold maxLen;omega),ZfF _ _ (by unfold maxLen;omega),HS.out⟩
 ·have hcI:(m:Int)≤c:=by omega
  go_wp2_with fail;refine(ZbA p1 p2 _ _ hn.out.symm).mono ?_;rintro e w1 ⟨rfl,hb1⟩;have HS:=qh ((((St.start w).call hb1).alloc_ (.cells #[] 55)).bel);clear hb1;go_wp2;refine bodyPost_ret (v:=.tuple #[.slice (some ⟨b,o,none⟩) m c,.slice (some ⟨w1.heap.size,0,none⟩) 0 0]) (by simp[results,Tryz.results101,go_sem]) rfl ?_;exact⟨_,_,es.take m,[],(Hsp.out _ _).2 ⟨fun h=>absurd h (by omega),fun _=>⟨rfl,rfl⟩,fun h=>absurd h (by omega)⟩,rfl,(Hp.out.below HS.out).take (by have:=hm.out;omega),ZfF _ _ (by unfold maxLen;omega),HS.out⟩
 obtain⟨at',hat⟩:=Hbeg.out rfl;have ha1:=hat.1;obtain⟨q,hqm⟩:∃ q,m=q+1:=⟨m-1,by omega⟩;have hq:(m:Int)-1=(q:Int):=by omega
 have haI:(at':Int)≤(m:Int):=by omega
 have haC:(at':Int)≤c:=by omega
 have hqC:(m:Int)≤c:=by omega
 rw[hqm] at hat;have Hhqm:=qh hqm;clear hqm;have Hat:=qh hat;clear hat;go_wp2_with fail;refine(ZbA p1 p2 _ _ hn.out.symm).mono ?_;rintro e w1 ⟨rfl,hb1⟩;have HS:=qh ((St.start w).call hb1);clear hb1;go_wp2_with fail;refine(ZjG es q at' _ _ (by have:=hm.out;omega) (by have:=hm.out;have:=Hhqm.out;omega) (Hp.out.below HS.out.bel) Hat.out).mono ?_;rintro e w2 ⟨rfl,hb2⟩;have HS2:=qh (HS.out.call hb2);clear hb2;go_wp2
 go_quiet (fail)
 go_wp2;have HS3:=qh (HS2.out.drewN nq);refine bodyPost_ret (v:=.tuple #[.slice (some ⟨b,o,none⟩) at' c,.slice (some ⟨b,o+at'*2,none⟩) (m-at') (c-at')]) (by simp[results,Tryz.results101,go_sem]) rfl ?_;have hml2:=hm.out
 exact⟨_,_,es.take at',(es.drop at').take (m-at'),(Hsp.out _ _).2 ⟨fun h=>absurd h (by omega),fun h=>absurd h (by omega),fun _=>⟨at',by rw[Hhqm.out];exact Hat.out,rfl,rfl⟩⟩,rfl,
  (Hp.out.below HS3.out.bel).take (by omega),((Hp.out.below HS3.out.bel).drop (by omega)).take (by rw[List.length_drop];omega),HS3.out.bel⟩
end Go.Proofs.YtehmjmjedopkkaaGreat
