/-
  The walk over the reference's DfaTrim.
  Condition: the automaton is valid and reads as such.
-/
import Derived.Test.YtehmjmjedopkkaaGreatPn09Tv
import Derived.Test.YtehmjmjedopkkaaGreatPn15Ty
set_option maxHeartbeats 8000000
set_option maxRecDepth 100000
namespace Go.Proofs.YtehmjmjedopkkaaGreat
open Go.RowKit
theorem ZnD {d:DfaD} {F:List Int} {k x:Nat} (hx:F.getD k 0=(x:Int)) (hk:k<F.length) (hn:∀ c,c<3→dnx d (x:Int) c=(nxD d x c:Nat)) (hm:∀ c,c<3→((nxD d x c:Nat):Int)∈F) :
  (F.take (k+1)).map (Zae (dnx d) F)=(F.take k).map (Zae (dnx d) F)++[(List.range 3).map fun c=>ZcH F (nxD d x c:Nat)]∧(F.take (k+1)).map (den d)=(F.take k).map (den d)++[enD d x]:=by
 have e:F[k]=(x:Int):=by simpa [hk] using hx
 rw[List.take_succ_eq_append_getElem hk,e,List.map_append,List.map_append];refine⟨?_,by simp[den,enD]⟩;congr 1;simp only[List.map_cons,List.map_nil,Zae];congr 1;refine List.map_congr_left fun c hc => ?_
 have hc:c<3:=List.mem_range.1 hc;rw[hn c hc,Zk7 (hm c hc)]
theorem Zjv {α:Type} (f:Nat→α) (c:Nat):(List.range (c+1)).map f=(List.range c).map f++[f c]:=by rw[List.range_succ,List.map_append];rfl
theorem ZeP (d:DfaD) (v:Value) (w:World) (hd:Zaf d.next d.ends=true) (h:DfaR 0 w v d) :
  Calls Tryz.prog 89 #[v] w fun e w'=>RD (ZaY d) w e w':=by
 have HR:=qh h;obtain⟨b1,o1,cv,b2,o2,cw,rfl,hC⟩:=ZbE hd h;obtain⟨F,hF⟩:=eI ((bat (dnx d) 0 d.next.length).met);have hpos:0<F.length:=by rw[hF];exact Zdq _
 have hFl:=(Zbi (Zaw hd) d.next.length).2;rw[← hF] at hFl;have hnat:=fun (k:Nat) (hk:k<F.length)=>Zo2 hd (k:=k) (by rw[← hF];exact hk)
 rw[← hF] at hnat;have htr:ZaY d=⟨F.map (Zae (dnx d) F),F.map (den d)⟩:=by unfold ZaY;rw[← hF];rfl
 rw[htr];obtain⟨L,hL⟩:=eI (d.next.length);have hl2:=hC.l2;rw[← hL] at hl2 hFl;have hS0:=((St.start w).alloc _ rfl #[.slice (some ⟨b1,o1,none⟩) L cv,.slice (some ⟨b2,o2,none⟩) L cw] 32).alloc (w.heap.size+1) (by simp) #[.slice none 0 0,.slice none 0 0] 32;rw[← hL] at HR;rw[← hL];obtain⟨i0,hi,hz0,hz1,hz2⟩:=info_parts Tryz.infoBool;obtain⟨j0,hj,hy0,hy1,hy2⟩:=info_parts Tryz.infoInt;obtain⟨k0,hk,hx0,hx1,hx2⟩:=info_parts Tryz.infoInts;have HC:=qh hC;have Hnat:=qh hnat;replace hF:=qh hF;have Hhd:=qh hd;clear hd;have HhL:=qh hL;clear hL;have HhS0:=qh hS0;clear hS0;have Hhtr:=qh htr;clear htr;have Hhi:=qh hi;clear hi;have Hhz0:=qh hz0;clear hz0;have Hhz1:=qh hz1;clear hz1;have Hhz2:=qh hz2;clear hz2;have Hhj:=qh hj;clear hj;have Hhy0:=qh hy0;clear hy0;have Hhy1:=qh hy1;clear hy1;have Hhy2:=qh hy2;clear hy2;have Hhk:=qh hk;clear hk;have Hhx0:=qh hx0;clear hx0;have Hhx1:=qh hx1;clear hx1;have Hhx2:=qh hx2;clear hx2;clear hC hnat h
 go_enter Tryz.func89, Tryz.ntmps89
 go_wp2_with fail;refine(ZdS d _ _ (HR.out.below HhS0.out.bel) true Hhd.out).mono ?_;rintro e w1 ⟨rfl,hb1⟩;have hS1:=HhS0.out.call hb1;have c0:=hS1.cell (v:=.slice (some ⟨b1,o1,none⟩) L cv) 0 0 rfl rfl;have c1:=hS1.cell (v:=.slice (some ⟨b2,o2,none⟩) L cw) 0 1 rfl rfl;have HhS1:=qh hS1;clear hS1;clear hb1;go_wp2_with fail;refine(ZjE d _ _ Hhd.out (HR.out.below HhS1.out.bel) F (by rw[hF.out])).mono ?_;rintro e w2 ⟨a,c,rfl,hS'⟩;have hS2:=HhS1.out.cat hS';obtain⟨g,cg,hv⟩:=hS2.rowform 2 rfl hpos;simp only[Value.slice.injEq,true_and] at hv;obtain⟨rfl,rfl⟩:=hv;have hS3:=(((hS2.alloc _ rfl #[.slice none 0 0,.slice none 0 0] 32).nilRow 59 1).norows 4 rfl 3).nilRow 4 1;have HhS3:=qh hS3;clear hS3;clear hS2 hS' c0 c1;go_wp2
 go_loopw [5] (fun i wr=>∃ (k:Nat) (a1 a2:Option Addr) (c1 c2:Nat) (vs:List Value),i = .int .i64 k∧k≤F.length ∧
   St w wr [Ent.box w.heap.size #[.slice (some ⟨b1,o1,none⟩) L cv,.slice (some ⟨b2,o2,none⟩) L cw] 32,Ent.box (w.heap.size+1) #[.slice none 0 0,.slice none 0 0] 32,
    Ent.row 3 1 (.slice (some ⟨g,0,none⟩) F.length c) F.length (intCells F),Ent.box w2.heap.size #[.slice a1 k c1,.slice a2 k c2] 32,
    Ent.rows 59 3 (.slice a1 k c1) vs (((F.take k).map (Zae (dnx d) F)).map intCells),Ent.row 4 1 (.slice a2 k c2) k (boolCells ((F.take k).map (den d)))])
  (fun i _=>F.length-(intOf i).toNat)
 case atStart=>exact⟨0,none,none,0,0,[],rfl,Nat.zero_le _,HhS3.out⟩
 case round =>
  obtain⟨k,a1,a2,c1,c2,vs,rfl,hk,hS⟩:=hrel;by_cases hlt:k<F.length
  ·have hlt2:(k:Int)<F.length:=by omega
   obtain⟨x,hx,hxL,hxm⟩:=Hnat.out k hlt;have htk:=ZnD (d:=d) hx hlt (fun c hc=>HC.out.dx x c hxL hc) hxm;obtain⟨b3,o3,c3,hb3,hc3,hc3',hks,hcs3⟩:=HC.out.row x hxL;have hen:=HC.out.en x hxL;have hxI:(x:Int)<L:=by have:=HhL.out;omega
   have hSe:=(hS.alloc _ rfl #[] 3).boxrow 6 0 1 [] rfl rfl (Nat.zero_le _);obtain⟨R,hR⟩:=eI ((List.range 3).map fun c=>ZcH F (nxD d x c:Nat));rw[← hR] at htk;have htk1:=htk.1;have htk2:=htk.2;have hRs:∀ c,c<3→R.take (c+1)=R.take c++[ZcH F (nxD d x c:Nat)]:=fun c hc=>by rw[hR,List.take_succ_eq_append_getElem (by simp;omega)];simp
   have hR3:R.take 3=R:=List.take_of_length_le (by rw[hR];simp);have Hcs3:=qh hcs3;have Hen:=qh hen;have HhS:=qh hS;clear hS;have Hhx:=qh hx;clear hx;have Hhxm:=qh hxm;clear hxm;have Hhks:=qh hks;clear hks;have HhSe:=qh hSe;clear hSe;have Hhtk1:=qh htk1;clear htk1;have Hhtk2:=qh htk2;clear htk2;have HhRs:=qh hRs;clear hRs;have HhR3:=qh hR3;clear hR3;have HhR:=qh hR;clear hR;clear hcs3 hen htk;go_wp2
   go_loopw [6,7] (fun rv i wi=>∃ (n:Nat) (b4 c4:Nat),i = .int .i64 n∧rv = .slice (some ⟨b4,0,none⟩) n c4∧n≤3 ∧
     St w wi [Ent.box w.heap.size #[.slice (some ⟨b1,o1,none⟩) L cv,.slice (some ⟨b2,o2,none⟩) L cw] 32,Ent.box (w.heap.size+1) #[.slice none 0 0,.slice none 0 0] 32,
      Ent.row 3 1 (.slice (some ⟨g,0,none⟩) F.length c) F.length (intCells F),Ent.box w2.heap.size #[.slice a1 k c1,.slice a2 k c2] 32,
      Ent.rows 59 3 (.slice a1 k c1) vs (((F.take k).map (Zae (dnx d) F)).map intCells),Ent.row 4 1 (.slice a2 k c2) k (boolCells ((F.take k).map (den d))),
      Ent.row 3 1 (.slice (some ⟨b4,0,none⟩) n c4) n (intCells (R.take n))])
    (fun _ i _=>3-(intOf i).toNat)
   case atStart=>exact⟨0,_,_,rfl,rfl,by omega,HhSe.out⟩
   case round =>
    obtain⟨n,b4,c4,rfl,rfl,hn3,hSi⟩:=hrel;obtain⟨wo,hwo⟩:∃ wo:World,wo=wr:=⟨_,rfl⟩;subst hwo;by_cases hn:n<3
    ·have hn2:(n:Int)<3:=by omega
     have e0:=hSi.cell (v:=.slice (some ⟨b1,o1,none⟩) L cv) 0 0 rfl rfl;have e1:=hSi.rcell (v:=.int .i64 (x:Int)) 2 k rfl (by omega) (by rw[← Hhx.out];simp[intCells,hlt]);have e2:=(bcell hSi.bel b1 _ HC.out.hb1).trans Hhks.out;have e3:=(bcell hSi.bel b3 _ hb3).trans (Hcs3.out n hn);have hname:=fun (w':World) (hb:Below w.heap.size w w') (h2:Ints 0 w' (.slice (some ⟨g,0,none⟩) F.length c) F)=>ZgZ F (nxD d x n:Nat) (.slice (some ⟨g,0,none⟩) F.length c) w' (by omega) h2
     have hrs:=HhRs.out n hn;obtain⟨y,hy⟩:=eI (nxD d x n);rw[← hy] at e3 hname hrs;obtain⟨z,hz⟩:=eI (ZcH F (y:Nat));rw[← hz] at hname hrs;have Hname:=qh hname;have HhSi:=qh hSi;clear hSi;have Hhy:=qh hy;clear hy;have Hhz:=qh hz;clear hz;have Hhrs:=qh hrs;clear hrs;clear hname;go_wp2
     go_region_law (first
      | (go_simp;go_at_call 125;refine(Hname.out _ HhSi.out.drew.bel (HhSi.out.drew.intsR 2 rfl)).mono ?_;rintro e u ⟨rfl,hq0⟩;have HSu:=qh ((HhSi.out.drew.call hq0).alloc_ (.cells #[.int .i64 z] 3));clear hq0)
      | (refine step_append_lies _ (by rfl) _ _ _ (by rfl) w.heap.size 3 j0 (.int .i64 0) 1 8 Tryz.underlying59 Hhj.out Hhy0.out Hhy1.out Hhy2.out (by rfl) (by omega) (.slice (some ⟨b4,0,none⟩) n c4) n (intCells (R.take n)) (by rfl) (HSu.out.row 6 rfl) ⟨u.heap.size,0,none⟩ 1 1 [.int .i64 z] (by rfl) (by rfl) (World.news_of_block (heap_alloc_new u _)) Zbf (by omega) (by unfold maxLen;omega) (by omega) HSu.out.size (u.heap.size+1) (by simp) ?_;intro g7 c7 w7 hown7 hgrow7 hat7 hlt7;have HS7:=qh (HSu.out.app 6 rfl hown7 hgrow7 (by rw[World.size_alloc];exact hat7));clear hown7 hgrow7 hat7))
     all_goals
      go_wp2;go_roundw
      case rel =>refine⟨n+1,g7,c7,by go_num,rfl,by omega,?_⟩;rw[Hhrs.out,Zav];exact HS7.out
      case measure=>simp[intOf];omega
    obtain rfl:n=3:=by omega
    rw[HhR3.out] at hSi;have hlm:(((F.take k).map (Zae (dnx d) F)).map intCells).length=k:=by rw[Zb6,List.length_take];omega
    have hSa:=hSi.alloc_ (.cells #[.slice (some ⟨b4,0,none⟩) 3 c4] 59);have hRw:=(hSa.rows 4 rfl).1;rw[hlm] at hRw;have e0:=hSi.cell (v:=.slice a1 k c1) 3 0 rfl rfl;have Hhlm:=qh hlm;clear hlm;have HhSi:=qh hSi;clear hSi;have HhSa:=qh hSa;clear hSa;have HhRw:=qh hRw;clear hRw;go_wp2_with (at_builtin;refine wpList_append_lies _ rfl _ _ _ rfl _ 59 k0 (.slice none 0 0) 1 24 Tryz.underlying29 Hhk.out Hhx0.out Hhx1.out Hhx2.out rfl (by omega) _ k _ rfl HhRw.out ⟨wo.heap.size,0,none⟩ 1 1 [.slice (some ⟨b4,0,none⟩) 3 c4] rfl rfl (World.news_of_block (heap_alloc_new wo _)) ZbU (by omega) (by unfold maxLen;omega) (by omega) HhSa.out.size _ rfl ?_;intro g6 c6 w6 hown6 hgrow6 hat6 hlt6;have HS6:=qh (HhSa.out.snoc 4 6 (by decide) rfl rfl (by decide) hgrow6 (by rw[Hhlm.out];exact hown6) (Zd7 hat6));have y1:=HS6.out.cell (v:=.slice a1 k c1) 3 0 rfl rfl;have y2:=HS6.out.fr 3 0 rfl;clear hown6 hgrow6 hat6 hlt6);have hSq:=(HS6.out.set 3 rfl 0 (.slice (some ⟨g6,0,none⟩) (k+1) c6)).pick [0,1,2,3,4,5] (by decide);obtain⟨wq,hwq⟩:=eI (w6.setCell ⟨w2.heap.size,0,none⟩ (.slice (some ⟨g6,0,none⟩) (k+1) c6));rw[← hwq] at hSq
    have hSq':St w wq [Ent.box w.heap.size #[.slice (some ⟨b1,o1,none⟩) L cv,.slice (some ⟨b2,o2,none⟩) L cw] 32,Ent.box (w.heap.size+1) #[.slice none 0 0,.slice none 0 0] 32,
      Ent.row 3 1 (.slice (some ⟨g,0,none⟩) F.length c) F.length (intCells F),Ent.box w2.heap.size #[.slice (some ⟨g6,0,none⟩) (k+1) c6,.slice a2 k c2] 32,
      Ent.rows 59 3 (.slice (some ⟨g6,0,none⟩) (k+1) c6) (vs++[.slice (some ⟨b4,0,none⟩) 3 c4]) (((F.take (k+1)).map (Zae (dnx d) F)).map intCells),Ent.row 4 1 (.slice a2 k c2) k (boolCells ((F.take k).map (den d)))]:=by
     rw[Hhtk1.out,List.map_append];exact hSq
    rw[← hwq];have q0:=hSq'.cell (v:=.slice (some ⟨b2,o2,none⟩) L cw) 0 1 rfl rfl;have q1:=hSq'.rcell (v:=.int .i64 (x:Int)) 2 k rfl (by omega) (by rw[← Hhx.out];simp[intCells,hlt]);have q2:=(bcell hSq'.bel b2 _ HC.out.hb2).trans Hen.out;have q3:=hSq'.cell (v:=.slice a2 k c2) 3 1 rfl rfl;obtain⟨r,hr⟩:=eI (enD d x);rw[← hr] at q2;have hxk:(intCells F)[k]? = some (.int .i64 (x:Int)):=by rw[← Hhx.out];simp[intCells,hlt]
    have hr2:w.cell? ⟨b2,o2+x,none⟩=some (.bool r):=by rw[hr];exact Hen.out
    have HSq:=qh hSq';have Hhwq:=qh hwq;clear hwq;have Hhr:=qh hr;clear hr;have Hhxk:=qh hxk;clear hxk;have Hhr2:=qh hr2;clear hr2;clear hSq hSq' y1 y2 e0 HS6 q0 q1 q2 q3;refine wp_region_any (by kernel_rfl) ?_
    refine Zap (fun A listed a w'=>∃ (l0 l1 l2 l3 l4 l5 l6 l7 l8 l9 l10 l11 l12 l13:Bool) (g7:Nat) (c7:Nat) (bn:Nat),listed=#[l0,l1,l2,l3,l4,l5,l6,l7,l8,l9,l10,l11,l12,l13]∧(l11=true→l1=true∧l10=true)∧(l13=true→l11=true∧l1=true) ∧
      a=⟨(((((((((((((A.tmps.setIfInBounds 48 (if l0=true then .pointer (some ⟨w2.heap.size,1,none⟩) else A.tmps.getD 48 undef)).setIfInBounds 49 (if l1=true then .slice a2 k c2 else A.tmps.getD 49 undef)).setIfInBounds 50 (if l2=true then .pointer (some ⟨w.heap.size,1,none⟩) else A.tmps.getD 50 undef)).setIfInBounds 51 (if l3=true then .slice (some ⟨b2,o2,none⟩) L cw else A.tmps.getD 51 undef)).setIfInBounds 52 (if l4=true then .slice (some ⟨g,0,none⟩) F.length c else A.tmps.getD 52 undef)).setIfInBounds 53 (if l5=true then .int .i64 (k:Int) else A.tmps.getD 53 undef)).setIfInBounds 54 (if l6=true then .pointer (some ⟨g,k,none⟩) else A.tmps.getD 54 undef)).setIfInBounds 55 (if l7=true then .int .i64 (x:Int) else A.tmps.getD 55 undef)).setIfInBounds 56 (if l8=true then .pointer (some ⟨b2,o2+x,none⟩) else A.tmps.getD 56 undef)).setIfInBounds 57 (if l9=true then .bool r else A.tmps.getD 57 undef)).setIfInBounds 58 (if l10=true then .slice (some ⟨bn,0,none⟩) 1 1 else A.tmps.getD 58 undef)).setIfInBounds 59 (if l11=true then .slice (some ⟨g7,0,none⟩) (k+1) c7 else A.tmps.getD 59 undef)).setIfInBounds 60 (if l12=true then .pointer (some ⟨w2.heap.size,1,none⟩) else A.tmps.getD 60 undef)),A.defers⟩ ∧
      St w w' [Ent.box w.heap.size #[.slice (some ⟨b1,o1,none⟩) L cv,.slice (some ⟨b2,o2,none⟩) L cw] 32,Ent.box (w.heap.size+1) #[.slice none 0 0,.slice none 0 0] 32,Ent.row 3 1 (.slice (some ⟨g,0,none⟩) F.length c) F.length (intCells F),Ent.box w2.heap.size #[.slice (some ⟨g6,0,none⟩) (k+1) c6,(if l13=true then .slice (some ⟨g7,0,none⟩) (k+1) c7 else .slice a2 k c2)] 32,Ent.rows 59 3 (.slice (some ⟨g6,0,none⟩) (k+1) c6) (vs++[.slice (some ⟨b4,0,none⟩) 3 c4]) (((F.take (k+1)).map (Zae (dnx d) F)).map intCells),(if l11=true then Ent.row 4 1 (.slice (some ⟨g7,0,none⟩) (k+1) c7) (k+1) ((boolCells ((F.take k).map (den d)))++[.bool r]) else Ent.row 4 1 (.slice a2 k c2) k (boolCells ((F.take k).map (den d)))),(if l10=true then Ent.box bn #[.bool r] 4 else Ent.nil)]) ?_ ?_ ?_
    ·rintro listed a w' ⟨l0,l1,l2,l3,l4,l5,l6,l7,l8,l9,l10,l11,l12,l13,g7,c7,bn,rfl,hd11,hd13,rfl,hS⟩ i hi;obtain⟨hun,o,ho,hall⟩:=mem_ready.1 hi;have hlt:=(Array.getElem?_eq_some_iff.1 ho).1;refine wpOp_step ho (fun K hK => ?_);clear hi;have HS:=qh hS;clear hS;simp only[List.setIfInBounds_toArray,List.set_cons_zero,List.set_cons_succ,Array.getD_eq_getD_getElem?,List.getElem?_toArray,List.getElem?_cons_zero,List.getElem?_cons_succ,Option.getD_some];obtain h|h|h|h|h|h|h|h|h|h|h|h|h|h:i=0∨i=1∨i=2∨i=3∨i=4∨i=5∨i=6∨i=7∨i=8∨i=9∨i=10∨i=11∨i=12∨i=13:=by simp at hlt;omega
     all_goals subst h
     all_goals simp only[List.getElem?_toArray,List.getElem?_cons_zero,List.getElem?_cons_succ,Option.some.injEq] at ho
     all_goals subst ho
     all_goals simp[Region.binds] at hun hall
     ·subst hun;go_simp;exact hK _ _ ⟨true,l1,l2,l3,l4,l5,l6,l7,l8,l9,l10,l11,l12,l13,g7,c7,bn,rfl,hd11,hd13,(by simp),HS.out⟩
     ·obtain rfl:=hall;subst hun;obtain rfl:l11=false:=offL hd11 rfl;obtain rfl:l13=false:=offL hd13 rfl;have e0:=HS.out.cell (v:=.slice a2 k c2) 3 1 rfl rfl;go_simp;exact hK _ _ ⟨true,true,l2,l3,l4,l5,l6,l7,l8,l9,l10,false,l12,false,g7,c7,bn,rfl,by simp,by simp,(by simp),HS.out⟩
     ·subst hun;go_simp;exact hK _ _ ⟨l0,l1,true,l3,l4,l5,l6,l7,l8,l9,l10,l11,l12,l13,g7,c7,bn,rfl,hd11,hd13,(by simp),HS.out⟩
     ·obtain rfl:=hall;subst hun;have e0:=HS.out.cell (v:=.slice (some ⟨b2,o2,none⟩) L cw) 0 1 rfl rfl;go_simp;exact hK _ _ ⟨l0,l1,true,true,l4,l5,l6,l7,l8,l9,l10,l11,l12,l13,g7,c7,bn,rfl,hd11,hd13,(by simp),HS.out⟩
     ·subst hun;go_simp;exact hK _ _ ⟨l0,l1,l2,l3,true,l5,l6,l7,l8,l9,l10,l11,l12,l13,g7,c7,bn,rfl,hd11,hd13,(by simp),HS.out⟩
     ·subst hun;go_simp;exact hK _ _ ⟨l0,l1,l2,l3,l4,true,l6,l7,l8,l9,l10,l11,l12,l13,g7,c7,bn,rfl,hd11,hd13,(by simp),HS.out⟩
     ·obtain⟨rfl,rfl⟩:=hall;subst hun;go_simp;exact hK _ _ ⟨l0,l1,l2,l3,true,true,true,l7,l8,l9,l10,l11,l12,l13,g7,c7,bn,rfl,hd11,hd13,(by simp),HS.out⟩
     ·obtain rfl:=hall;subst hun;have e0:=HS.out.rcell (v:=.int .i64 (x:Int)) 2 k rfl (by omega) Hhxk.out;go_simp;exact hK _ _ ⟨l0,l1,l2,l3,l4,l5,true,true,l8,l9,l10,l11,l12,l13,g7,c7,bn,rfl,hd11,hd13,(by simp),HS.out⟩
     ·obtain⟨rfl,rfl⟩:=hall;subst hun;go_simp;exact hK _ _ ⟨l0,l1,l2,true,l4,l5,l6,true,true,l9,l10,l11,l12,l13,g7,c7,bn,rfl,hd11,hd13,(by simp),HS.out⟩
     ·obtain rfl:=hall;subst hun;have e0:=(bcell HS.out.bel b2 _ HC.out.hb2).trans Hhr2.out;go_simp;exact hK _ _ ⟨l0,l1,l2,l3,l4,l5,l6,l7,true,true,l10,l11,l12,l13,g7,c7,bn,rfl,hd11,hd13,(by simp),HS.out⟩
     ·obtain rfl:=hall;subst hun;obtain rfl:l11=false:=offR hd11 rfl;obtain rfl:l13=false:=offL hd13 rfl;have hS2:=(HS.out.alloc _ rfl #[.bool r] 4).pick [0,1,2,3,4,5,7] (by decide);have HhS2:=qh hS2;clear hS2;go_simp;exact hK _ _ ⟨l0,l1,l2,l3,l4,l5,l6,l7,l8,true,true,false,l12,false,g7,c7,_,rfl,by simp,by simp,(by simp),HhS2.out⟩
     ·obtain⟨rfl,rfl⟩:=hall;subst hun;obtain rfl:l13=false:=offL hd13 rfl;refine step_append_lies (a:=⟨_,_⟩) _ (by rfl) _ _ _ (by rfl) w.heap.size 4 i0 (.bool false) 1 1 Tryz.underlying30 Hhi.out Hhz0.out Hhz1.out Hhz2.out (by rfl) (by omega) (.slice a2 k c2) k (boolCells ((F.take k).map (den d))) (by rfl) (HS.out.row 5 rfl) ⟨bn,0,none⟩ 1 1 [.bool r] (by rfl) (by rfl) (World.news_of_block (HS.out.box 6 rfl)) ZaZ (by omega) (by unfold maxLen;omega) (by omega) HS.out.size _ rfl ?_;intro g8 c8 w8 hown8 hgrow8 hat8 hlt8;have HS8:=qh (HS.out.app 5 rfl hown8 hgrow8 hat8);clear hown8 hgrow8 hat8;go_simp;exact hK _ _ ⟨l0,true,l2,l3,l4,l5,l6,l7,l8,l9,true,true,l12,false,g8,c8,bn,rfl,by simp,by simp,(by simp),HS8.out⟩
     ·obtain⟨rfl,rfl,rfl,rfl,rfl,rfl,rfl,rfl,rfl,rfl,rfl,rfl⟩:=hall;subst hun;go_simp;exact hK _ _ ⟨true,true,true,true,true,true,true,true,true,true,true,true,true,l13,g7,c7,bn,rfl,by simp,hd13,(by simp only[↓reduceIte,List.setIfInBounds_toArray,List.set_cons_zero,List.set_cons_succ]),HS.out⟩
     obtain⟨rfl,rfl,rfl,rfl,rfl,rfl,rfl,rfl,rfl,rfl,rfl,rfl,rfl,-⟩:=hall;subst hun;have f0:=HS.out.fr 3 1 rfl;have k0:=HS.out.cell (v:=.slice a2 k c2) 3 1 rfl rfl;go_simp;exact hK _ _ ⟨true,true,true,true,true,true,true,true,true,true,true,true,true,true,g7,c7,bn,rfl,by simp,by simp,(by simp only[↓reduceIte,List.setIfInBounds_toArray,List.set_cons_zero,List.set_cons_succ]),(HS.out.set 3 rfl 1 (.slice (some ⟨g7,0,none⟩) (k+1) c7))⟩
    ·rintro listed a w' ⟨l0,l1,l2,l3,l4,l5,l6,l7,l8,l9,l10,l11,l12,l13,g7,c7,bn,rfl,hd11,hd13,rfl,hS⟩ hr;have hall:=ZaT (by kernel_rfl) rfl hr;obtain rfl:l0=true:=by simpa using hall 0 (by simp)
     obtain rfl:l1=true:=by simpa using hall 1 (by simp)
     obtain rfl:l2=true:=by simpa using hall 2 (by simp)
     obtain rfl:l3=true:=by simpa using hall 3 (by simp)
     obtain rfl:l4=true:=by simpa using hall 4 (by simp)
     obtain rfl:l5=true:=by simpa using hall 5 (by simp)
     obtain rfl:l6=true:=by simpa using hall 6 (by simp)
     obtain rfl:l7=true:=by simpa using hall 7 (by simp)
     obtain rfl:l8=true:=by simpa using hall 8 (by simp)
     obtain rfl:l9=true:=by simpa using hall 9 (by simp)
     obtain rfl:l10=true:=by simpa using hall 10 (by simp)
     obtain rfl:l11=true:=by simpa using hall 11 (by simp)
     obtain rfl:l12=true:=by simpa using hall 12 (by simp)
     obtain rfl:l13=true:=by simpa using hall 13 (by simp)
     clear hall hr hd11 hd13;simp only[↓reduceIte] at hS ⊢;simp only[List.setIfInBounds_toArray,List.set_cons_zero,List.set_cons_succ];have hS9:=hS.pick [0,1,2,3,4,5] (by decide);have HhS9:=qh hS9;clear hS9;clear hS;go_wp2;go_roundw
     case rel =>refine⟨k+1,some ⟨g6,0,none⟩,some ⟨g7,0,none⟩,c6,c7,vs++[.slice (some ⟨b4,0,none⟩) 3 c4],by go_num,by omega,?_⟩;rw[Hhtk2.out,Za3,← Hhr.out];exact HhS9.out
     case measure=>simp[intOf];omega
    refine⟨false,false,false,false,false,false,false,false,false,false,false,false,false,false,0,0,0,rfl,by simp,by simp,(by simp),?_⟩;exact HSq.out.drew.pick [0,1,2,3,4,5,6] (by decide)
  obtain rfl:k=F.length:=by omega
  rw[List.take_length] at hS;have d0:=hS.cell (v:=.slice a1 F.length c1) 3 0 rfl rfl;have d1:=hS.cell (v:=.slice a2 F.length c2) 3 1 rfl rfl;have f0:=hS.fr 1 0 rfl;have f1:=hS.fr 1 1 rfl;have k0:=hS.cell (v:=.slice none 0 0) 1 0 rfl rfl;have k1:=hS.cell (v:=.slice none 0 0) 1 1 rfl rfl;have HhS:=qh hS;clear hS;go_wp2;have hq:=(HhS.out.set 1 rfl 0 (.slice a1 F.length c1)).set 1 rfl 1 (.slice a2 F.length c2);have q0:=hq.cell (v:=.slice a1 F.length c1) 1 0 rfl rfl;have q1:=hq.cell (v:=.slice a2 F.length c2) 1 1 rfl rfl;refine bodyPost_ret (v:=.agg #[.slice a1 F.length c1,.slice a2 F.length c2]) (by simp[results,Tryz.results89,go_sem,q0,q1]) rfl ?_;refine⟨a1,c1,a2,c2,by simp only[List.length_map],⟨.slice a1 F.length c1,.slice a2 F.length c2,by simp only[List.length_map],(hq.intSS 4 rfl).intSS,?_⟩,hq.bel⟩;exact ZaR (hq.row 5 rfl)
end Go.Proofs.YtehmjmjedopkkaaGreat
