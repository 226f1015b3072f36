/-
  The walks over slices.Grow of nothing and slices.Concat of two slices of numbers, as the program calls them.
  Conditions: the slices are readable.
-/
import Derived.Test.YtfikabecgaappaaGreatPb23Tb
import Derived.Test.YtfikabecgaappaaGreatPb27Ij
set_option maxHeartbeats 16000000
set_option maxRecDepth 100000
namespace Go.Proofs.YtfikabecgaappaaGreat
open Go.RowKit
theorem ZnV (n:Nat) (w:World) (hn:n≤100000) :
  Calls Tryz.prog 170 #[.slice none 0 0,.int .i64 (n:Int)] w fun e w'=>∃ a c,e = .returned (.slice a 0 c)∧St w w' [Ent.row 3 1 (.slice a 0 c) 0 []]:=by
 obtain⟨j0,hj,hy0,hy1,hy2⟩:=info_parts Tryz.infoInt;have h1:¬ ((n:Int)<0):=by omega
 by_cases h0:n=0
 ·subst h0;have hS0:=(St.start w).nilRow 3 1;have HhS0:=qh hS0;clear hS0
  go_enter Tryz.func170, Tryz.ntmps170
  go_wp2;go_ret;exact⟨none,0,rfl,HhS0.out⟩
 have hrz:∀ ty,(Builtin.append_ #[26,3] ty #[.slice none 0 0,.int .i64 (n:Int)]).run Tryz.prog w =
   .ok (.slice (some ⟨w.heap.size,0,none⟩) n (grownCap w n 0 3)) (w.drew.alloc (.cells (Builtin.zeroCells (Value.int .i64 0).cells n++Builtin.zeroCells (Value.int .i64 0).cells (grownCap w n 0 3 - n)) 3)):=fun ty=>by
  have h:=Lib.run_append_grow_zeros w 26 3 ty 3 j0 (.int .i64 0) .i64 .i64 Tryz.underlying26 Tryz.underlying3 hj hy0 none 0 0 [] (run_firstCells_none w.drew j0.size 0 0 0) n (by omega) (by omega) (by omega) (by omega) (by rw[hy2];omega) (by rw[hy2];exact growslice_fits (by omega) (by omega));simpa using h
 have hGn:n≤grownCap w n 0 3:=grownCap_ge w _ _ _;have hG63:grownCap w n 0 3 ≤ maxLen:=grownCap_le_maxLen w n 0 3 (by unfold maxLen;omega);obtain⟨G,hG⟩:=eI (grownCap w n 0 3);obtain⟨cur,hcur⟩:=eI (Builtin.zeroCells (Value.int .i64 0).cells n++Builtin.zeroCells (Value.int .i64 0).cells (G-n));have hcs:cur.size=G*1:=by rw[hcur,Array.size_append,size_zeroCells,size_zeroCells];show n*1+(G-n)*1=G*1;omega
 rw[← hG] at hrz hGn hG63;rw[← hcur] at hrz
 have hown:(w.drew.alloc (.cells cur 3)).ownsRow w.heap.size 3 1 (.slice (some ⟨w.heap.size,0,none⟩) 0 G) 0 [] :=
  ⟨rfl,.inr ⟨w.heap.size,G,cur,rfl,Nat.le_refl _,heap_alloc_new w.drew _,Nat.zero_le _,hG63,hcs,by simp⟩⟩
 have hS0:=(St.start w).made ((Below.refl _ _).drew.alloc (Nat.le_refl _) (.cells cur 3)) hown;have hG63':G≤9223372036854775807:=by unfold maxLen at hG63;omega
 replace hG:=qh hG;have Hhcur:=qh hcur;clear hcur;have Hhcs:=qh hcs;clear hcs;have Hhown:=qh hown;clear hown;have HhS0:=qh hS0;clear hS0
 go_enter Tryz.func170, Tryz.ntmps170
 go_wp2_with (at_builtin;refine Lib.wpList_append_run _ rfl _ _ _ _ rfl _ _ rfl rfl _ _ (hrz _) ?_);go_ret;exact⟨_,G,rfl,HhS0.out⟩
theorem Zg7 (xs ys:List Int) (va vb:Value) (b cap:Nat) (w:World) (hxl:xs.length≤1000) (hyl:ys.length≤1000) (hb:b<w.heap.size) (c0:w.cell? ⟨b,0,none⟩=some va) (c1:w.cell? ⟨b,1,none⟩=some vb) (hx:Ints 0 w va xs) (hy:Ints 0 w vb ys) :
  Calls Tryz.prog 125 #[.slice (some ⟨b,0,none⟩) 2 cap] w fun e w'=>∃ a c,e = .returned (.slice a (xs.length+ys.length) c)∧St w w' [Ent.row 3 1 (.slice a (xs.length+ys.length) c) (xs.length+ys.length) (intCells (xs++ys))]:=by
 obtain⟨j0,hj,hy0,hy1,hy2⟩:=info_parts Tryz.infoInt;have HX:=qh hx;have HY:=qh hy;obtain⟨ax,cx,rfl,-,-,-⟩:=hx.form;obtain⟨ay,cy,rfl,-,-,-⟩:=hy.form;obtain⟨L1,hL1⟩:∃ L,L=xs.length:=⟨_,rfl⟩;obtain⟨L2,hL2⟩:∃ L,L=ys.length:=⟨_,rfl⟩;rw[← hL1] at hxl c0 HX;rw[← hL2] at hyl c1 HY;rw[← hL1,← hL2];have C0:=qh c0;have C1:=qh c1;replace hL1:=qh hL1;have HhL2:=qh hL2;clear hL2;clear hx hy
 go_enter Tryz.func125, Tryz.ntmps125
 go_wp2
 go_loopw [3,11] (fun n i wr=>∃ k s:Nat,i = .int .i64 k∧n = .int .i64 s∧k≤2∧(k=0→s=0)∧(k=1→s=L1)∧(k=2→s=L1+L2)∧w=wr) (fun _ i _=>2-(intOf i).toNat)
 case atStart=>exact⟨0,0,rfl,rfl,by omega,fun _=>rfl,fun h=>by omega,fun h=>by omega,rfl⟩
 case round =>
  obtain⟨k,s,rfl,rfl,hk,hk0,hk1,hk2,rfl⟩:=hrel;obtain rfl|rfl|rfl:k=0∨k=1∨k=2:=by omega
  ·obtain rfl:=hk0 rfl;clear hk hk0 hk1 hk2;have hw:IntKind.i64.wrap (L1:Int)=(L1:Int):=IntWalk.i64_in _ (by omega);have hng:¬ (L1:Int)<0:=by omega
   go_wp2;go_roundw
   case rel=>exact⟨1,L1,rfl,rfl,by omega,fun h=>by omega,fun _=>rfl,fun h=>by omega,trivial⟩
   case measure=>simp[intOf]
  ·obtain rfl:=hk1 rfl;clear hk hk0 hk1 hk2;have hw:IntKind.i64.wrap ((s:Int)+(L2:Int))=(s:Int)+(L2:Int):=IntWalk.i64_in _ (by omega);have hng:¬ (s:Int)+(L2:Int)<0:=by omega
   go_wp2;go_roundw
   case rel=>exact⟨2,s+L2,rfl,by congr 1,by omega,fun h=>by omega,fun h=>by omega,fun _=>rfl,trivial⟩
   case measure=>simp[intOf]
  obtain rfl:=hk2 rfl;clear hk hk0 hk1 hk2 c0 c1;go_wp2_with fail;refine(ZnV (L1+L2) _ (by omega)).mono ?_;rintro e w1 ⟨a6,c6,rfl,hS'⟩;have HS1:=qh hS';clear hS';go_wp2
  go_loopw [6,27] (fun vo i wr=>∃ (k N:Nat) (Z:List Int) (a:Option Addr) (c:Nat),i = .int .i64 k∧vo = .slice a N c∧k≤2∧(k=0→N=0∧Z=[])∧(k=1→N=L1∧Z=xs)∧(k=2→N=L1+L2∧Z=xs++ys)∧St w wr [Ent.row 3 1 (.slice a N c) N (intCells Z)]) (fun _ i _=>2-(intOf i).toNat)
  case atStart=>exact⟨0,0,[],a6,c6,rfl,rfl,by omega,fun _=>⟨rfl,rfl⟩,fun h=>by omega,fun h=>by omega,HS1.out⟩
  case round =>
   obtain⟨k,N,Z,a,c,rfl,rfl,hk,hk0,hk1,hk2,hS⟩:=hrel;obtain rfl|rfl|rfl:k=0∨k=1∨k=2:=by omega
   ·obtain⟨rfl,rfl⟩:=hk0 rfl;clear hk hk0 hk1 hk2;have m0:=(bcell hS.bel b 0 hb).trans C0.out;have HS:=qh hS;have HR:=qh (hS.row 0 rfl);have HXw:Hid (Sl 0 wr (.slice ax L1 cx) L1 1 (intCells xs)):=qh (by have:=HX.out.below hS.bel;unfold Ints at this;rwa [← hL1.out] at this);clear hS;go_wp2_with (at_builtin;refine ZaB _ rfl _ _ _ rfl _ 3 j0 (.int .i64 0) 1 8 Tryz.underlying26 hj hy0 hy1 hy2 rfl (by omega) _ 0 _ rfl HR.out _ L1 (intCells xs) rfl HXw.out Ze3 (by unfold maxLen;omega) (by omega) HS.out.size ?_;intro a6 c6 w6 hown6 hgrow6 hat6;have HS6:=qh (HS.out.appS 0 rfl hown6 hgrow6 hat6);clear hown6 hgrow6 hat6);go_roundw
    case rel=>exact⟨1,L1,xs,a6,c6,rfl,rfl,by omega,fun h=>by omega,fun _=>⟨rfl,rfl⟩,fun h=>by omega,by have h:St w w6 [Ent.row 3 1 (.slice a6 (0+L1) c6) (0+L1) (intCells xs)]:=HS6.out;rwa [Nat.zero_add] at h⟩
    case measure=>simp[intOf]
   ·obtain⟨rfl,rfl⟩:=hk1 rfl;clear hk hk0 hk1 hk2;have m0:=(bcell hS.bel b 1 hb).trans C1.out;have HS:=qh hS;have HR:=qh (hS.row 0 rfl);have HXw:Hid (Sl 0 wr (.slice ay L2 cy) L2 1 (intCells ys)):=qh (by have:=HY.out.below hS.bel;unfold Ints at this;rwa [← HhL2.out] at this);clear hS;go_wp2_with (at_builtin;refine ZaB _ rfl _ _ _ rfl _ 3 j0 (.int .i64 0) 1 8 Tryz.underlying26 hj hy0 hy1 hy2 rfl (by omega) _ N _ rfl HR.out _ L2 (intCells ys) rfl HXw.out Ze3 (by unfold maxLen;omega) (by omega) HS.out.size ?_;intro a6 c6 w6 hown6 hgrow6 hat6;have HS6:=qh (HS.out.appS 0 rfl hown6 hgrow6 hat6);clear hown6 hgrow6 hat6);go_roundw
    case rel=>exact⟨2,N+L2,Z++ys,a6,c6,rfl,rfl,by omega,fun h=>by omega,fun h=>by omega,fun _=>⟨rfl,rfl⟩,by unfold intCells;rw[List.map_append];exact HS6.out⟩
    case measure=>simp[intOf]
   obtain⟨rfl,rfl⟩:=hk2 rfl;have HS:=qh hS;clear hk hk0 hk1 hk2 hS;go_wp2;go_ret;exact⟨a,c,rfl,HS.out⟩
theorem ZhW (p q:NfaD) (v1 v2 v3 u1 u2 u3:Value) (w:World) (hp:Zal p=true) (hq:Zal q=true) (h1:Moves 0 w v1 p.moves) (h2:Ints 0 w v2 p.firsts) (h3:Ints 0 w v3 p.ends) (g1:Moves 0 w u1 q.moves) (g2:Ints 0 w u2 q.firsts) (g3:Ints 0 w u3 q.ends) :
  Calls Tryz.prog 80 #[.agg #[.int .i64 p.states,v1,v2,v3],.agg #[.int .i64 q.states,u1,u2,u3]] w fun e w'=>RNfaS (ZcH p q) w e w':=by
 obtain⟨S,hSp,hS40,hpm,hpl,hpf,hpfl,hpe,hpel⟩:=Zai hp;obtain⟨Q,hQq,hQ40,hqm,hql,hqf,hqfl,hqe,hqel⟩:=Zai hq;have hsm:=fun (u:World) (hu:Below w.heap.size w u)=>Zda p q S v1 v2 v3 u1 u2 u3 u hSp hS40 (by omega) (by omega) (ZeD hqm hQ40) (h1.below hu) (g1.below hu)
 have hsf:=fun (u:World) (hu:Below w.heap.size w u)=>ZdG q.firsts u2 (S:Int) u (by omega) (fun x hx=>by have:=hqf x hx;omega) (by omega) (g2.below hu)
 have hcf:=fun (u:World) (b:Nat) (va vb:Value) (hb:b<u.heap.size) (k0:u.cell? ⟨b,0,none⟩=some va) (k1:u.cell? ⟨b,1,none⟩=some vb) (hx:Ints 0 u va p.firsts) (hy:u.ownsRow w.heap.size 3 1 vb (q.firsts.map (·+(S:Int))).length (intCells (q.firsts.map (·+(S:Int)))))=>Zg7 p.firsts (q.firsts.map (·+(S:Int))) va vb b 2 u (by omega) (by rw[List.length_map];omega) hb k0 k1 hx (Zah hy)
 have hce:=fun (u:World) (b:Nat) (va vb:Value) (hb:b<u.heap.size) (k0:u.cell? ⟨b,0,none⟩=some va) (k1:u.cell? ⟨b,1,none⟩=some vb) (hx:Ints 0 u va p.ends) (hy:u.ownsRow w.heap.size 3 1 vb (q.ends.map (·+(S:Int))).length (intCells (q.ends.map (·+(S:Int)))))=>Zg7 p.ends (q.ends.map (·+(S:Int))) va vb b 2 u (by omega) (by rw[List.length_map];omega) hb k0 k1 hx (Zah hy)
 simp only[List.length_map] at hcf hce;have H2:=qh h2;have H3:=qh h3;have hse:=fun (u:World) (hu:Below w.heap.size w u)=>ZdG q.ends u3 (S:Int) u (by omega) (fun x hx=>by have:=hqe x hx;omega) (by omega) (g3.below hu)
 obtain⟨pa1,pc1,rfl,-,-,-⟩:=h1.form;obtain⟨pa2,pc2,rfl,-,-,-⟩:=h2.form;obtain⟨pa3,pc3,rfl,-,-,-⟩:=h3.form;obtain⟨qa1,qc1,rfl,-,-,-⟩:=g1.form;obtain⟨qa2,qc2,rfl,-,-,-⟩:=g2.form;obtain⟨qa3,qc3,rfl,-,-,-⟩:=g3.form;obtain⟨L1,hL1⟩:∃ L,L=p.moves.length:=⟨_,rfl⟩;obtain⟨F1,hF1⟩:∃ L,L=p.firsts.length:=⟨_,rfl⟩;obtain⟨E1,hE1⟩:∃ L,L=p.ends.length:=⟨_,rfl⟩;obtain⟨L2,hL2⟩:∃ L,L=q.moves.length:=⟨_,rfl⟩;obtain⟨F2,hF2⟩:∃ L,L=q.firsts.length:=⟨_,rfl⟩;obtain⟨E2,hE2⟩:∃ L,L=q.ends.length:=⟨_,rfl⟩;have hS0:=(((St.start w).alloc _ rfl #[.int .i64 p.states,.slice pa1 p.moves.length pc1,.slice pa2 p.firsts.length pc2,.slice pa3 p.ends.length pc3] 28).alloc (w.heap.size+1) (by simp) #[.int .i64 q.states,.slice qa1 q.moves.length qc1,.slice qa2 q.firsts.length qc2,.slice qa3 q.ends.length qc3] 28).alloc (w.heap.size+1+1) (by simp) #[.int .i64 0,.slice none 0 0,.slice none 0 0,.slice none 0 0] 28;rw[hSp,hQq,← hL1,← hF1,← hE1,← hL2,← hF2,← hE2] at hS0;rw[hSp,hQq,← hL1,← hF1,← hE1,← hL2,← hF2,← hE2];rw[hSp,hQq,← hL1,← hF1,← hE1,← hL2,← hF2,← hE2] at hsm;rw[← hL1] at hpl;rw[← hF1] at hpfl H2;rw[← hE1] at hpel H3;rw[← hL2] at hql;rw[← hF2] at hqfl hsf;rw[← hE2] at hqel hse;rw[← hF1,← hF2] at hcf;rw[← hE1,← hE2] at hce;have hS1:=hS0.call (Below.refl _ _)
 have HS0:Hid (St w _ [Ent.box w.heap.size #[.int .i64 (S:Int),.slice pa1 L1 pc1,.slice pa2 F1 pc2,.slice pa3 E1 pc3] 28,Ent.box (w.heap.size+1) #[.int .i64 (Q:Int),.slice qa1 L2 qc1,.slice qa2 F2 qc2,.slice qa3 E2 qc3] 28,Ent.box (w.heap.size+1+1) #[.int .i64 0,.slice none 0 0,.slice none 0 0,.slice none 0 0] 28,Ent.nil,Ent.nil,Ent.nil,Ent.nil,Ent.nil,Ent.nil,Ent.nil]):=qh (hS1.pick [0,1,2,3,4,5,6,7,8,9] (by decide));have Hsm:=qh hsm;have Hcf:=qh hcf;have Hse:=qh hse;have Hsf:=qh hsf;have Hce:=qh hce;replace hL1:=qh hL1;replace hF1:=qh hF1;replace hE1:=qh hE1;have HhL2:=qh hL2;clear hL2;have HhF2:=qh hF2;clear hF2;have HhE2:=qh hE2;clear hE2;have HhSp:=qh hSp;clear hSp;have HhQq:=qh hQq;clear hQq;clear h1 h2 h3 g1 g2 g3 hsm hcf hse hsf hce hS0 hS1 hpm hpf hpe hqm hqe hqf hp hq
 go_enter Tryz.func80, Tryz.ntmps80
 go_wp2_with fail;refine wp_region_any (by kernel_rfl) ?_
 refine Zaq (fun A listed a w'=>∃ (l0 l1 l2 l3 l4 l5 l6 l7 l8 l9 l10 l11 l12 l13 l14 l15 l16 l17 l18 l19 l20 l21 l22 l23 l24 l25 l26 l27:Bool) (am:Option Addr) (cm:Nat) (ag:Option Addr) (cg:Nat) (af:Option Addr) (cf:Nat) (ah:Option Addr) (ch:Nat) (ae:Option Addr) (ce:Nat) (b1:Nat) (b2:Nat),listed=#[l0,l1,l2,l3,l4,l5,l6,l7,l8,l9,l10,l11,l12,l13,l14,l15,l16,l17,l18,l19,l20,l21,l22,l23,l24,l25,l26,l27]∧(l15=true→l9=true∧l14=true)∧(l16=true→l15=true∧l14=true)∧(l24=true→l18=true∧l23=true)∧(l25=true→l24=true∧l23=true)∧(l26=true→l4=true∧l7=true∧l16=true∧l25=true)∧(l27=true→l26=true∧l25=true) ∧
   a=⟨(((((((((((((((((((((((((((A.tmps.setIfInBounds 5 (if l0=true then .pointer (some ⟨w.heap.size,0,none⟩) else A.tmps.getD 5 undef)).setIfInBounds 6 (if l1=true then .int .i64 (S:Int) else A.tmps.getD 6 undef)).setIfInBounds 7 (if l2=true then .pointer (some ⟨w.heap.size+1,0,none⟩) else A.tmps.getD 7 undef)).setIfInBounds 8 (if l3=true then .int .i64 (Q:Int) else A.tmps.getD 8 undef)).setIfInBounds 9 (if l4=true then .int .i64 ((S:Int)+(Q:Int)) else A.tmps.getD 9 undef)).setIfInBounds 10 (if l5=true then .agg #[.int .i64 (S:Int),.slice pa1 L1 pc1,.slice pa2 F1 pc2,.slice pa3 E1 pc3] else A.tmps.getD 10 undef)).setIfInBounds 11 (if l6=true then .agg #[.int .i64 (Q:Int),.slice qa1 L2 qc1,.slice qa2 F2 qc2,.slice qa3 E2 qc3] else A.tmps.getD 11 undef)).setIfInBounds 12 (if l7=true then .slice am (L1+L2) cm else A.tmps.getD 12 undef)).setIfInBounds 13 (if l8=true then .pointer (some ⟨w.heap.size,2,none⟩) else A.tmps.getD 13 undef)).setIfInBounds 14 (if l9=true then .slice pa2 F1 pc2 else A.tmps.getD 14 undef)).setIfInBounds 15 (if l10=true then .pointer (some ⟨w.heap.size+1,2,none⟩) else A.tmps.getD 15 undef)).setIfInBounds 16 (if l11=true then .slice qa2 F2 qc2 else A.tmps.getD 16 undef)).setIfInBounds 17 (if l12=true then .pointer (some ⟨w.heap.size,0,none⟩) else A.tmps.getD 17 undef)).setIfInBounds 18 (if l13=true then .int .i64 (S:Int) else A.tmps.getD 18 undef)).setIfInBounds 19 (if l14=true then .slice ag F2 cg else A.tmps.getD 19 undef)).setIfInBounds 20 (if l15=true then .slice (some ⟨b1,0,none⟩) 2 2 else A.tmps.getD 20 undef)).setIfInBounds 21 (if l16=true then .slice af (F1+F2) cf else A.tmps.getD 21 undef)).setIfInBounds 22 (if l17=true then .pointer (some ⟨w.heap.size,3,none⟩) else A.tmps.getD 22 undef)).setIfInBounds 23 (if l18=true then .slice pa3 E1 pc3 else A.tmps.getD 23 undef)).setIfInBounds 24 (if l19=true then .pointer (some ⟨w.heap.size+1,3,none⟩) else A.tmps.getD 24 undef)).setIfInBounds 25 (if l20=true then .slice qa3 E2 qc3 else A.tmps.getD 25 undef)).setIfInBounds 26 (if l21=true then .pointer (some ⟨w.heap.size,0,none⟩) else A.tmps.getD 26 undef)).setIfInBounds 27 (if l22=true then .int .i64 (S:Int) else A.tmps.getD 27 undef)).setIfInBounds 28 (if l23=true then .slice ah E2 ch else A.tmps.getD 28 undef)).setIfInBounds 29 (if l24=true then .slice (some ⟨b2,0,none⟩) 2 2 else A.tmps.getD 29 undef)).setIfInBounds 30 (if l25=true then .slice ae (E1+E2) ce else A.tmps.getD 30 undef)).setIfInBounds 31 (if l26=true then .agg #[.int .i64 ((S:Int)+(Q:Int)),.slice am (L1+L2) cm,.slice af (F1+F2) cf,.slice ae (E1+E2) ce] else A.tmps.getD 31 undef)),A.defers⟩ ∧
   St w w' [Ent.box w.heap.size #[.int .i64 (S:Int),.slice pa1 L1 pc1,.slice pa2 F1 pc2,.slice pa3 E1 pc3] 28,Ent.box (w.heap.size+1) #[.int .i64 (Q:Int),.slice qa1 L2 qc1,.slice qa2 F2 qc2,.slice qa3 E2 qc3] 28,Ent.box (w.heap.size+1+1) #[(if l27=true then .int .i64 ((S:Int)+(Q:Int)) else .int .i64 0),(if l27=true then .slice am (L1+L2) cm else .slice none 0 0),(if l27=true then .slice af (F1+F2) cf else .slice none 0 0),(if l27=true then .slice ae (E1+E2) ce else .slice none 0 0)] 28,(if l7=true then Ent.row 72 3 (.slice am (L1+L2) cm) (L1+L2) ((p.moves++q.moves.map (shM (S:Int))).flatMap Zaa) else Ent.nil),(if l14=true then Ent.row 3 1 (.slice ag F2 cg) F2 (intCells (q.firsts.map (·+(S:Int)))) else Ent.nil),(if l15=true then Ent.box b1 #[.slice pa2 F1 pc2,.slice ag F2 cg] 26 else Ent.nil),(if l16=true then Ent.row 3 1 (.slice af (F1+F2) cf) (F1+F2) (intCells (p.firsts++q.firsts.map (·+(S:Int)))) else Ent.nil),(if l23=true then Ent.row 3 1 (.slice ah E2 ch) E2 (intCells (q.ends.map (·+(S:Int)))) else Ent.nil),(if l24=true then Ent.box b2 #[.slice pa3 E1 pc3,.slice ah E2 ch] 26 else Ent.nil),(if l25=true then Ent.row 3 1 (.slice ae (E1+E2) ce) (E1+E2) (intCells (p.ends++q.ends.map (·+(S:Int)))) else Ent.nil)]) ?_ ?_ ?_
 ·rintro listed a w' ⟨l0,l1,l2,l3,l4,l5,l6,l7,l8,l9,l10,l11,l12,l13,l14,l15,l16,l17,l18,l19,l20,l21,l22,l23,l24,l25,l26,l27,am,cm,ag,cg,af,cf,ah,ch,ae,ce,b1,b2,rfl,hd15,hd16,hd24,hd25,hd26,hd27,rfl,hS⟩ i hi;obtain⟨hun,o,ho,hall⟩:=mem_ready.1 hi;have hlt:=(Array.getElem?_eq_some_iff.1 ho).1;refine wpOp_step ho (fun K hK => ?_);clear hi;have HS:=qh hS;clear hS;simp only[List.setIfInBounds_toArray,List.set_cons_zero,List.set_cons_succ,Array.getD_eq_getD_getElem?,List.getElem?_toArray,List.getElem?_cons_zero,List.getElem?_cons_succ,Option.getD_some];obtain h|h|h|h|h|h|h|h|h|h|h|h|h|h|h|h|h|h|h|h|h|h|h|h|h|h|h|h:i=0∨i=1∨i=2∨i=3∨i=4∨i=5∨i=6∨i=7∨i=8∨i=9∨i=10∨i=11∨i=12∨i=13∨i=14∨i=15∨i=16∨i=17∨i=18∨i=19∨i=20∨i=21∨i=22∨i=23∨i=24∨i=25∨i=26∨i=27:=by simp at hlt;omega
  all_goals subst h
  all_goals simp only[List.getElem?_toArray,List.getElem?_cons_zero,List.getElem?_cons_succ,Option.some.injEq] at ho
  all_goals subst ho
  all_goals simp[Region.binds] at hun hall
  ·subst hun;go_simp;exact hK _ _ ⟨true,l1,l2,l3,l4,l5,l6,l7,l8,l9,l10,l11,l12,l13,l14,l15,l16,l17,l18,l19,l20,l21,l22,l23,l24,l25,l26,l27,am,cm,ag,cg,af,cf,ah,ch,ae,ce,b1,b2,rfl,hd15,hd16,hd24,hd25,hd26,hd27,(by simp),HS.out⟩
  ·obtain rfl:=hall;subst hun;have e0:=HS.out.cell (v:=.int .i64 (S:Int)) 0 0 rfl rfl;go_simp;exact hK _ _ ⟨true,true,l2,l3,l4,l5,l6,l7,l8,l9,l10,l11,l12,l13,l14,l15,l16,l17,l18,l19,l20,l21,l22,l23,l24,l25,l26,l27,am,cm,ag,cg,af,cf,ah,ch,ae,ce,b1,b2,rfl,hd15,hd16,hd24,hd25,hd26,hd27,(by simp),HS.out⟩
  ·subst hun;go_simp;exact hK _ _ ⟨l0,l1,true,l3,l4,l5,l6,l7,l8,l9,l10,l11,l12,l13,l14,l15,l16,l17,l18,l19,l20,l21,l22,l23,l24,l25,l26,l27,am,cm,ag,cg,af,cf,ah,ch,ae,ce,b1,b2,rfl,hd15,hd16,hd24,hd25,hd26,hd27,(by simp),HS.out⟩
  ·obtain rfl:=hall;subst hun;have e0:=HS.out.cell (v:=.int .i64 (Q:Int)) 1 0 rfl rfl;go_simp;exact hK _ _ ⟨l0,l1,true,true,l4,l5,l6,l7,l8,l9,l10,l11,l12,l13,l14,l15,l16,l17,l18,l19,l20,l21,l22,l23,l24,l25,l26,l27,am,cm,ag,cg,af,cf,ah,ch,ae,ce,b1,b2,rfl,hd15,hd16,hd24,hd25,hd26,hd27,(by simp),HS.out⟩
  ·obtain⟨rfl,rfl⟩:=hall;subst hun;obtain rfl:l26=false:=by cases l26 with|false=>rfl|true=>simpa using hd26 rfl
   obtain rfl:l27=false:=offL hd27 rfl;have hw:IntKind.i64.wrap ((S:Int)+(Q:Int))=(S:Int)+(Q:Int):=IntWalk.i64_in _ (by omega);go_simp;exact hK _ _ ⟨l0,true,l2,true,true,l5,l6,l7,l8,l9,l10,l11,l12,l13,l14,l15,l16,l17,l18,l19,l20,l21,l22,l23,l24,l25,false,false,am,cm,ag,cg,af,cf,ah,ch,ae,ce,b1,b2,rfl,hd15,hd16,hd24,hd25,by simp,by simp,(by simp),HS.out⟩
  ·subst hun;have e0:=HS.out.cell (v:=.int .i64 (S:Int)) 0 0 rfl rfl;have e1:=HS.out.cell (v:=.slice pa1 L1 pc1) 0 1 rfl rfl;have e2:=HS.out.cell (v:=.slice pa2 F1 pc2) 0 2 rfl rfl;have e3:=HS.out.cell (v:=.slice pa3 E1 pc3) 0 3 rfl rfl;go_simp;exact hK _ _ ⟨l0,l1,l2,l3,l4,true,l6,l7,l8,l9,l10,l11,l12,l13,l14,l15,l16,l17,l18,l19,l20,l21,l22,l23,l24,l25,l26,l27,am,cm,ag,cg,af,cf,ah,ch,ae,ce,b1,b2,rfl,hd15,hd16,hd24,hd25,hd26,hd27,(by simp),HS.out⟩
  ·subst hun;have e0:=HS.out.cell (v:=.int .i64 (Q:Int)) 1 0 rfl rfl;have e1:=HS.out.cell (v:=.slice qa1 L2 qc1) 1 1 rfl rfl;have e2:=HS.out.cell (v:=.slice qa2 F2 qc2) 1 2 rfl rfl;have e3:=HS.out.cell (v:=.slice qa3 E2 qc3) 1 3 rfl rfl;go_simp;exact hK _ _ ⟨l0,l1,l2,l3,l4,l5,true,l7,l8,l9,l10,l11,l12,l13,l14,l15,l16,l17,l18,l19,l20,l21,l22,l23,l24,l25,l26,l27,am,cm,ag,cg,af,cf,ah,ch,ae,ce,b1,b2,rfl,hd15,hd16,hd24,hd25,hd26,hd27,(by simp),HS.out⟩
  ·obtain⟨rfl,rfl⟩:=hall;subst hun;obtain rfl:l26=false:=by cases l26 with|false=>rfl|true=>simpa using hd26 rfl
   obtain rfl:l27=false:=offL hd27 rfl;go_simp
   go_at_call 124
   refine(Hsm.out _ HS.out.bel).mono ?_;rintro e u1 ⟨x1,d1,rfl,hb⟩;have hS2:=(HS.out.cat hb).pick [0,1,2,10,4,5,6,7,8,9] (by decide);have HhS2:=qh hS2;clear hS2;go_simp;exact hK _ _ ⟨l0,l1,l2,l3,l4,true,true,true,l8,l9,l10,l11,l12,l13,l14,l15,l16,l17,l18,l19,l20,l21,l22,l23,l24,l25,false,false,x1,d1,ag,cg,af,cf,ah,ch,ae,ce,b1,b2,rfl,hd15,hd16,hd24,hd25,by simp,by simp,(by simp),HhS2.out⟩
  ·subst hun;go_simp;exact hK _ _ ⟨l0,l1,l2,l3,l4,l5,l6,l7,true,l9,l10,l11,l12,l13,l14,l15,l16,l17,l18,l19,l20,l21,l22,l23,l24,l25,l26,l27,am,cm,ag,cg,af,cf,ah,ch,ae,ce,b1,b2,rfl,hd15,hd16,hd24,hd25,hd26,hd27,(by simp),HS.out⟩
  ·obtain rfl:=hall;subst hun;obtain rfl:l15=false:=offL hd15 rfl;obtain rfl:l16=false:=offL hd16 rfl;obtain rfl:l26=false:=by cases l26 with|false=>rfl|true=>simpa using hd26 rfl
   obtain rfl:l27=false:=offL hd27 rfl;have e0:=HS.out.cell (v:=.slice pa2 F1 pc2) 0 2 rfl rfl;go_simp;exact hK _ _ ⟨l0,l1,l2,l3,l4,l5,l6,l7,true,true,l10,l11,l12,l13,l14,false,false,l17,l18,l19,l20,l21,l22,l23,l24,l25,false,false,am,cm,ag,cg,af,cf,ah,ch,ae,ce,b1,b2,rfl,by simp,by simp,hd24,hd25,by simp,by simp,(by simp),HS.out⟩
  ·subst hun;go_simp;exact hK _ _ ⟨l0,l1,l2,l3,l4,l5,l6,l7,l8,l9,true,l11,l12,l13,l14,l15,l16,l17,l18,l19,l20,l21,l22,l23,l24,l25,l26,l27,am,cm,ag,cg,af,cf,ah,ch,ae,ce,b1,b2,rfl,hd15,hd16,hd24,hd25,hd26,hd27,(by simp),HS.out⟩
  ·obtain rfl:=hall;subst hun;have e0:=HS.out.cell (v:=.slice qa2 F2 qc2) 1 2 rfl rfl;go_simp;exact hK _ _ ⟨l0,l1,l2,l3,l4,l5,l6,l7,l8,l9,true,true,l12,l13,l14,l15,l16,l17,l18,l19,l20,l21,l22,l23,l24,l25,l26,l27,am,cm,ag,cg,af,cf,ah,ch,ae,ce,b1,b2,rfl,hd15,hd16,hd24,hd25,hd26,hd27,(by simp),HS.out⟩
  ·subst hun;go_simp;exact hK _ _ ⟨l0,l1,l2,l3,l4,l5,l6,l7,l8,l9,l10,l11,true,l13,l14,l15,l16,l17,l18,l19,l20,l21,l22,l23,l24,l25,l26,l27,am,cm,ag,cg,af,cf,ah,ch,ae,ce,b1,b2,rfl,hd15,hd16,hd24,hd25,hd26,hd27,(by simp),HS.out⟩
  ·obtain rfl:=hall;subst hun;have e0:=HS.out.cell (v:=.int .i64 (S:Int)) 0 0 rfl rfl;go_simp;exact hK _ _ ⟨l0,l1,l2,l3,l4,l5,l6,l7,l8,l9,l10,l11,true,true,l14,l15,l16,l17,l18,l19,l20,l21,l22,l23,l24,l25,l26,l27,am,cm,ag,cg,af,cf,ah,ch,ae,ce,b1,b2,rfl,hd15,hd16,hd24,hd25,hd26,hd27,(by simp),HS.out⟩
  ·obtain⟨rfl,rfl,rfl⟩:=hall;subst hun;obtain rfl:l15=false:=offR hd15 rfl;obtain rfl:l16=false:=offL hd16 rfl;obtain rfl:l26=false:=by cases l26 with|false=>rfl|true=>simpa using hd26 rfl
   obtain rfl:l27=false:=offL hd27 rfl;go_simp
   go_at_call 126
   refine(Hsf.out _ HS.out.bel).mono ?_;rintro e u1 ⟨x1,d1,rfl,hb⟩;have hS2:=(HS.out.cat hb).pick [0,1,2,3,10,5,6,7,8,9] (by decide);have HhS2:=qh hS2;clear hS2;go_simp;exact hK _ _ ⟨l0,l1,l2,l3,l4,l5,l6,true,l8,l9,l10,true,l12,true,true,false,false,l17,l18,l19,l20,l21,l22,l23,l24,l25,false,false,am,cm,x1,d1,af,cf,ah,ch,ae,ce,b1,b2,rfl,by simp,by simp,hd24,hd25,by simp,by simp,(by simp),HhS2.out⟩
  ·obtain⟨rfl,rfl⟩:=hall;subst hun;obtain rfl:l16=false:=offL hd16 rfl;obtain rfl:l26=false:=by cases l26 with|false=>rfl|true=>simpa using hd26 rfl
   obtain rfl:l27=false:=offL hd27 rfl;have hS2:=(HS.out.alloc _ rfl #[.slice pa2 F1 pc2,.slice ag F2 cg] 26).pick [0,1,2,3,4,10,6,7,8,9] (by decide);have HhS2:=qh hS2;clear hS2;go_simp;exact hK _ _ ⟨l0,l1,l2,l3,l4,l5,l6,l7,l8,true,l10,l11,l12,l13,true,true,false,l17,l18,l19,l20,l21,l22,l23,l24,l25,false,false,am,cm,ag,cg,af,cf,ah,ch,ae,ce,w'.heap.size,b2,rfl,by simp,by simp,hd24,hd25,by simp,by simp,(by simp),HhS2.out⟩
  ·obtain⟨rfl,rfl⟩:=hall;subst hun;obtain⟨rfl,-⟩:=hd15 rfl;obtain rfl:l26=false:=by cases l26 with|false=>rfl|true=>simpa using hd26 rfl
   obtain rfl:l27=false:=offL hd27 rfl;go_simp
   go_at_call 125
   refine(Hcf.out _ _ _ _ (HS.out.boxlt 5 rfl).2 (HS.out.cell 5 0 rfl rfl) (HS.out.cell 5 1 rfl rfl) (H2.out.below HS.out.bel) (HS.out.row 4 rfl)).mono ?_;rintro e u1 ⟨x1,d1,rfl,hb⟩;have hS2:=(HS.out.cat hb).pick [0,1,2,3,4,5,10,7,8,9] (by decide);have HhS2:=qh hS2;clear hS2;go_simp;exact hK _ _ ⟨l0,l1,l2,l3,l4,l5,l6,l7,l8,true,l10,l11,l12,l13,true,true,true,l17,l18,l19,l20,l21,l22,l23,l24,l25,false,false,am,cm,ag,cg,x1,d1,ah,ch,ae,ce,b1,b2,rfl,by simp,by simp,hd24,hd25,by simp,by simp,(by simp),HhS2.out⟩
  ·subst hun;go_simp;exact hK _ _ ⟨l0,l1,l2,l3,l4,l5,l6,l7,l8,l9,l10,l11,l12,l13,l14,l15,l16,true,l18,l19,l20,l21,l22,l23,l24,l25,l26,l27,am,cm,ag,cg,af,cf,ah,ch,ae,ce,b1,b2,rfl,hd15,hd16,hd24,hd25,hd26,hd27,(by simp),HS.out⟩
  ·obtain rfl:=hall;subst hun;obtain rfl:l24=false:=offL hd24 rfl;obtain rfl:l25=false:=offL hd25 rfl;obtain rfl:l26=false:=by cases l26 with|false=>rfl|true=>simpa using hd26 rfl
   obtain rfl:l27=false:=offL hd27 rfl;have e0:=HS.out.cell (v:=.slice pa3 E1 pc3) 0 3 rfl rfl;go_simp;exact hK _ _ ⟨l0,l1,l2,l3,l4,l5,l6,l7,l8,l9,l10,l11,l12,l13,l14,l15,l16,true,true,l19,l20,l21,l22,l23,false,false,false,false,am,cm,ag,cg,af,cf,ah,ch,ae,ce,b1,b2,rfl,hd15,hd16,by simp,by simp,by simp,by simp,(by simp),HS.out⟩
  ·subst hun;go_simp;exact hK _ _ ⟨l0,l1,l2,l3,l4,l5,l6,l7,l8,l9,l10,l11,l12,l13,l14,l15,l16,l17,l18,true,l20,l21,l22,l23,l24,l25,l26,l27,am,cm,ag,cg,af,cf,ah,ch,ae,ce,b1,b2,rfl,hd15,hd16,hd24,hd25,hd26,hd27,(by simp),HS.out⟩
  ·obtain rfl:=hall;subst hun;have e0:=HS.out.cell (v:=.slice qa3 E2 qc3) 1 3 rfl rfl;go_simp;exact hK _ _ ⟨l0,l1,l2,l3,l4,l5,l6,l7,l8,l9,l10,l11,l12,l13,l14,l15,l16,l17,l18,true,true,l21,l22,l23,l24,l25,l26,l27,am,cm,ag,cg,af,cf,ah,ch,ae,ce,b1,b2,rfl,hd15,hd16,hd24,hd25,hd26,hd27,(by simp),HS.out⟩
  ·subst hun;go_simp;exact hK _ _ ⟨l0,l1,l2,l3,l4,l5,l6,l7,l8,l9,l10,l11,l12,l13,l14,l15,l16,l17,l18,l19,l20,true,l22,l23,l24,l25,l26,l27,am,cm,ag,cg,af,cf,ah,ch,ae,ce,b1,b2,rfl,hd15,hd16,hd24,hd25,hd26,hd27,(by simp),HS.out⟩
  ·obtain rfl:=hall;subst hun;have e0:=HS.out.cell (v:=.int .i64 (S:Int)) 0 0 rfl rfl;go_simp;exact hK _ _ ⟨l0,l1,l2,l3,l4,l5,l6,l7,l8,l9,l10,l11,l12,l13,l14,l15,l16,l17,l18,l19,l20,true,true,l23,l24,l25,l26,l27,am,cm,ag,cg,af,cf,ah,ch,ae,ce,b1,b2,rfl,hd15,hd16,hd24,hd25,hd26,hd27,(by simp),HS.out⟩
  ·obtain⟨rfl,rfl,rfl⟩:=hall;subst hun;obtain⟨rfl,rfl⟩:=hd16 rfl;obtain⟨rfl,-⟩:=hd15 rfl;obtain rfl:l24=false:=offR hd24 rfl;obtain rfl:l25=false:=offL hd25 rfl;obtain rfl:l26=false:=by cases l26 with|false=>rfl|true=>simpa using hd26 rfl
   obtain rfl:l27=false:=offL hd27 rfl;go_simp
   go_at_call 126
   refine(Hse.out _ HS.out.bel).mono ?_;rintro e u1 ⟨x1,d1,rfl,hb⟩;have hS2:=(HS.out.cat hb).pick [0,1,2,3,4,5,6,10,8,9] (by decide);have HhS2:=qh hS2;clear hS2;go_simp;exact hK _ _ ⟨l0,l1,l2,l3,l4,l5,l6,l7,l8,true,l10,l11,l12,l13,true,true,true,l17,l18,l19,true,l21,true,true,false,false,false,false,am,cm,ag,cg,af,cf,x1,d1,ae,ce,b1,b2,rfl,by simp,by simp,by simp,by simp,by simp,by simp,(by simp),HhS2.out⟩
  ·obtain⟨rfl,rfl⟩:=hall;subst hun;obtain rfl:l25=false:=offL hd25 rfl;obtain rfl:l26=false:=by cases l26 with|false=>rfl|true=>simpa using hd26 rfl
   obtain rfl:l27=false:=offL hd27 rfl;have hS2:=(HS.out.alloc _ rfl #[.slice pa3 E1 pc3,.slice ah E2 ch] 26).pick [0,1,2,3,4,5,6,7,10,9] (by decide);have HhS2:=qh hS2;clear hS2;go_simp;exact hK _ _ ⟨l0,l1,l2,l3,l4,l5,l6,l7,l8,l9,l10,l11,l12,l13,l14,l15,l16,l17,true,l19,l20,l21,l22,true,true,false,false,false,am,cm,ag,cg,af,cf,ah,ch,ae,ce,b1,w'.heap.size,rfl,hd15,hd16,by simp,by simp,by simp,by simp,(by simp),HhS2.out⟩
  ·obtain⟨rfl,rfl⟩:=hall;subst hun;obtain⟨rfl,-⟩:=hd24 rfl;obtain rfl:l26=false:=by cases l26 with|false=>rfl|true=>simpa using hd26 rfl
   obtain rfl:l27=false:=offL hd27 rfl;go_simp
   go_at_call 125
   refine(Hce.out _ _ _ _ (HS.out.boxlt 8 rfl).2 (HS.out.cell 8 0 rfl rfl) (HS.out.cell 8 1 rfl rfl) (H3.out.below HS.out.bel) (HS.out.row 7 rfl)).mono ?_;rintro e u1 ⟨x1,d1,rfl,hb⟩;have hS2:=(HS.out.cat hb).pick [0,1,2,3,4,5,6,7,8,10] (by decide);have HhS2:=qh hS2;clear hS2;go_simp;exact hK _ _ ⟨l0,l1,l2,l3,l4,l5,l6,l7,l8,l9,l10,l11,l12,l13,l14,l15,l16,l17,true,l19,l20,l21,l22,true,true,true,false,false,am,cm,ag,cg,af,cf,ah,ch,x1,d1,b1,b2,rfl,hd15,hd16,by simp,by simp,by simp,by simp,(by simp),HhS2.out⟩
  ·obtain⟨rfl,rfl,rfl,rfl⟩:=hall;subst hun;obtain⟨rfl,rfl⟩:=hd16 rfl;obtain⟨rfl,rfl⟩:=hd25 rfl;obtain⟨rfl,-⟩:=hd15 rfl;obtain⟨rfl,-⟩:=hd24 rfl;obtain rfl:l27=false:=offL hd27 rfl;go_simp;exact hK _ _ ⟨l0,l1,l2,l3,true,l5,l6,true,l8,true,l10,l11,l12,l13,true,true,true,l17,true,l19,l20,l21,l22,true,true,true,true,false,am,cm,ag,cg,af,cf,ah,ch,ae,ce,b1,b2,rfl,by simp,by simp,by simp,by simp,by simp,by simp,(by simp),HS.out⟩
  obtain⟨rfl,rfl,rfl,rfl,rfl,rfl,rfl,rfl,rfl,rfl,rfl,rfl,rfl,rfl,rfl,rfl,rfl,rfl,rfl,rfl,rfl,rfl,rfl,rfl,rfl,rfl,rfl,-,-⟩:=hall;subst hun;have f0:=HS.out.fr 2 0 rfl;have k0:=HS.out.cell (v:=.int .i64 0) 2 0 rfl rfl;have f1:=HS.out.fr 2 1 rfl;have k1:=HS.out.cell (v:=.slice none 0 0) 2 1 rfl rfl;have f2:=HS.out.fr 2 2 rfl;have k2:=HS.out.cell (v:=.slice none 0 0) 2 2 rfl rfl;have f3:=HS.out.fr 2 3 rfl;have k3:=HS.out.cell (v:=.slice none 0 0) 2 3 rfl rfl;go_simp;exact hK _ _ ⟨true,true,true,true,true,true,true,true,true,true,true,true,true,true,true,true,true,true,true,true,true,true,true,true,true,true,true,true,am,cm,ag,cg,af,cf,ah,ch,ae,ce,b1,b2,rfl,by simp,by simp,by simp,by simp,by simp,by simp,(by simp only[↓reduceIte,List.setIfInBounds_toArray,List.set_cons_zero,List.set_cons_succ]),((((HS.out.set 2 rfl 0 (.int .i64 ((S:Int)+(Q:Int)))).set 2 rfl 1 (.slice am (L1+L2) cm)).set 2 rfl 2 (.slice af (F1+F2) cf)).set 2 rfl 3 (.slice ae (E1+E2) ce))⟩
 ·rintro listed a w' ⟨l0,l1,l2,l3,l4,l5,l6,l7,l8,l9,l10,l11,l12,l13,l14,l15,l16,l17,l18,l19,l20,l21,l22,l23,l24,l25,l26,l27,am,cm,ag,cg,af,cf,ah,ch,ae,ce,b1,b2,rfl,hd15,hd16,hd24,hd25,hd26,hd27,rfl,hS⟩ hr;have hall:=Zaw (by kernel_rfl) rfl hr;obtain rfl:l0=true:=by simpa using hall 0 (by simp)
  obtain rfl:l1=true:=by simpa using hall 1 (by simp)
  obtain rfl:l2=true:=by simpa using hall 2 (by simp)
  obtain rfl:l3=true:=by simpa using hall 3 (by simp)
  obtain rfl:l4=true:=by simpa using hall 4 (by simp)
  obtain rfl:l5=true:=by simpa using hall 5 (by simp)
  obtain rfl:l6=true:=by simpa using hall 6 (by simp)
  obtain rfl:l7=true:=by simpa using hall 7 (by simp)
  obtain rfl:l8=true:=by simpa using hall 8 (by simp)
  obtain rfl:l9=true:=by simpa using hall 9 (by simp)
  obtain rfl:l10=true:=by simpa using hall 10 (by simp)
  obtain rfl:l11=true:=by simpa using hall 11 (by simp)
  obtain rfl:l12=true:=by simpa using hall 12 (by simp)
  obtain rfl:l13=true:=by simpa using hall 13 (by simp)
  obtain rfl:l14=true:=by simpa using hall 14 (by simp)
  obtain rfl:l15=true:=by simpa using hall 15 (by simp)
  obtain rfl:l16=true:=by simpa using hall 16 (by simp)
  obtain rfl:l17=true:=by simpa using hall 17 (by simp)
  obtain rfl:l18=true:=by simpa using hall 18 (by simp)
  obtain rfl:l19=true:=by simpa using hall 19 (by simp)
  obtain rfl:l20=true:=by simpa using hall 20 (by simp)
  obtain rfl:l21=true:=by simpa using hall 21 (by simp)
  obtain rfl:l22=true:=by simpa using hall 22 (by simp)
  obtain rfl:l23=true:=by simpa using hall 23 (by simp)
  obtain rfl:l24=true:=by simpa using hall 24 (by simp)
  obtain rfl:l25=true:=by simpa using hall 25 (by simp)
  obtain rfl:l26=true:=by simpa using hall 26 (by simp)
  obtain rfl:l27=true:=by simpa using hall 27 (by simp)
  clear hall hr hd15 hd16 hd24 hd25 hd26 hd27;simp only[↓reduceIte] at hS ⊢;simp only[List.setIfInBounds_toArray,List.set_cons_zero,List.set_cons_succ];have HSf:=qh (hS.pick [0,1,2,3,4,5,6,7,8,9] (by decide));clear hS;have q0:=HSf.out.cell (v:=.int .i64 ((S:Int)+(Q:Int))) 2 0 rfl rfl;have q1:=HSf.out.cell (v:=.slice am (L1+L2) cm) 2 1 rfl rfl;have q2:=HSf.out.cell (v:=.slice af (F1+F2) cf) 2 2 rfl rfl;have q3:=HSf.out.cell (v:=.slice ae (E1+E2) ce) 2 3 rfl rfl;go_wp2;refine bodyPost_ret (v:=.agg #[.int .i64 ((S:Int)+(Q:Int)),.slice am (L1+L2) cm,.slice af (F1+F2) cf,.slice ae (E1+E2) ce]) (by simp[results,Tryz.results80,go_sem,q0,q1,q2,q3]) rfl ?_;have hj:ZcH p q=⟨(S:Int)+(Q:Int),p.moves++q.moves.map (shM (S:Int)),p.firsts++q.firsts.map (·+(S:Int)),p.ends++q.ends.map (·+(S:Int))⟩:=by unfold ZcH shN;rw[HhSp.out,HhQq.out];simp only[NfaD.mk.injEq,and_true];omega
  rw[hj];refine⟨am,cm,af,cf,ae,ce,?_,?_⟩
  ·simp only[List.length_append,List.length_map,← hL1.out,← HhL2.out,← hF1.out,← HhF2.out,← hE1.out,← HhE2.out]
  simp only[List.length_append,List.length_map,← hL1.out,← HhL2.out,← hF1.out,← HhF2.out,← hE1.out,← HhE2.out];exact HSf.out.pick [3,6,9] (by decide)
 refine⟨false,false,false,false,false,false,false,false,false,false,false,false,false,false,false,false,false,false,false,false,false,false,false,false,false,false,false,false,none,0,none,0,none,0,none,0,none,0,0,0,rfl,by simp,by simp,by simp,by simp,by simp,by simp,(by simp),?_⟩;exact HS0.out.drew.pick [0,1,2,3,4,5,6,7,8,9] (by decide)
theorem ZdP (p q:NfaD):Zbx p q=(zeN,false)∨(Zal p=true∧Zal q=true∧Zal (ZcH p q)=true∧Zbx p q=(ZcH p q,true)):=by
 unfold Zbx limN;cases h1:Zal p
 ·exact .inl (if_neg (by simp))
 cases h2:Zal q
 ·exact .inl (if_neg (by simp))
 rw[if_pos ⟨rfl,rfl⟩];cases h3:Zal (ZcH p q)
 ·exact .inl (if_neg (by simp))
 exact .inr ⟨rfl,rfl,rfl,if_pos rfl⟩
theorem ZiO {p q:NfaD} (h:Zal p=false∨Zal q=false):Zbx p q=(zeN,false):=by
 rcases ZdP p q with h2|⟨h1,h2,-⟩
 ·exact h2
 rcases h with h|h
 ·rw[h] at h1;cases h1
 rw[h] at h2;cases h2
theorem ZkZ {p q:NfaD} (h1:Zal p=true) (h2:Zal q=true):Zbx p q=limN (ZcH p q):=if_pos ⟨h1,h2⟩
theorem ZkY {p q X:NfaD} (h:Zbx p q=(X,true)):Zal p=true∧Zal q=true∧Zal X=true∧X=ZcH p q:=by
 rcases ZdP p q with h2|⟨a1,a2,a3,h2⟩<;>rw[h2] at h<;>injection h with h3 h4
 ·cases h4
 subst h3;exact⟨a1,a2,a3,rfl⟩
theorem ZjD {p q X:NfaD} (h:Zbx p q=(X,false)):X=zeN:=by
 rcases ZdP p q with h2|⟨-,-,-,h2⟩<;>rw[h2] at h<;>injection h with h3 h4
 ·exact h3.symm
 cases h4
theorem Zgg (p q X:NfaD) (ok:Bool) (v u:Value) (w:World) (hX:Zbx p q=(X,ok)) (hp:NfaR 0 w v p) (hq:NfaR 0 w u q) :
  Calls Tryz.prog 32 #[v,u] w fun e w'=>RNt X ok w e w':=by
 have P:=qh hp;have Q:=qh hq;obtain⟨v1,v2,v3,rfl,h1,h2,h3,-,-⟩:=hp;obtain⟨u1,u2,u3,rfl,g1,g2,g3,-,-⟩:=hq;have hS0:=(((St.start w).alloc _ rfl #[.int .i64 p.states,v1,v2,v3] 28).alloc (w.heap.size+1) (by simp) #[.int .i64 q.states,u1,u2,u3] 28).alloc (w.heap.size+1+1) (by simp) #[.int .i64 0,.slice none 0 0,.slice none 0 0,.slice none 0 0] 28;have e0:=hS0.cell (v:=.int .i64 p.states) 0 0 rfl rfl;have e1:=hS0.cell (v:=v1) 0 1 rfl rfl;have e2:=hS0.cell (v:=v2) 0 2 rfl rfl;have e3:=hS0.cell (v:=v3) 0 3 rfl rfl;cases hp:Zal p
 ·rw[ZiO (.inl hp)] at hX
  injection hX with hX hk
  subst hX hk;have Hhp:=qh hp;clear hp;replace hS0:=qh hS0;clear h1 h2 h3 g1 g2 g3
  go_enter Tryz.func32, Tryz.ntmps32
  go_wp2_with fail;refine(Zab p _ _ (P.out.below hS0.out.bel) false Hhp.out).mono ?_;rintro e w1 ⟨rfl,hb1⟩;have HS1:=qh (hS0.out.call hb1);clear hb1 e0 e1 e2 e3;have f0:=HS1.out.fr 2 0 rfl;have k0:=HS1.out.cell (v:=.int .i64 0) 2 0 rfl rfl;have f1:=HS1.out.fr 2 1 rfl;have k1:=HS1.out.cell (v:=.slice none 0 0) 2 1 rfl rfl;have f2:=HS1.out.fr 2 2 rfl;have k2:=HS1.out.cell (v:=.slice none 0 0) 2 2 rfl rfl;have f3:=HS1.out.fr 2 3 rfl;have k3:=HS1.out.cell (v:=.slice none 0 0) 2 3 rfl rfl;have hq:=(((HS1.out.set 2 rfl 0 (.int .i64 0)).set 2 rfl 1 (.slice none 0 0)).set 2 rfl 2 (.slice none 0 0)).set 2 rfl 3 (.slice none 0 0);have Hq:=qh hq;have q0:=hq.cell (v:=.int .i64 0) 2 0 rfl rfl;have q1:=hq.cell (v:=.slice none 0 0) 2 1 rfl rfl;have q2:=hq.cell (v:=.slice none 0 0) 2 2 rfl rfl;have q3:=hq.cell (v:=.slice none 0 0) 2 3 rfl rfl;clear hq;go_wp2;refine bodyPost_ret (v:=.tuple #[.agg #[.int .i64 0,.slice none 0 0,.slice none 0 0,.slice none 0 0],.bool false]) (by simp[results,Tryz.results32,go_sem,q0,q1,q2,q3]) rfl ?_;exact ZaA Hq.out.bel
 cases hq:Zal q
 ·rw[ZiO (.inr hq)] at hX
  injection hX with hX hk
  subst hX hk;have Hhp:=qh hp;clear hp;have Hhq:=qh hq;clear hq;replace hS0:=qh hS0;clear h1 h2 h3 g1 g2 g3
  go_enter Tryz.func32, Tryz.ntmps32
  go_wp2_with fail;refine(Zab p _ _ (P.out.below hS0.out.bel) true Hhp.out).mono ?_;rintro e w1 ⟨rfl,hb1⟩;have HS1:=qh (hS0.out.call hb1);clear hb1 e0 e1 e2 e3;have e0:=HS1.out.cell (v:=.int .i64 q.states) 1 0 rfl rfl;have e1:=HS1.out.cell (v:=u1) 1 1 rfl rfl;have e2:=HS1.out.cell (v:=u2) 1 2 rfl rfl;have e3:=HS1.out.cell (v:=u3) 1 3 rfl rfl;go_wp2_with fail;refine(Zab q _ _ (Q.out.below HS1.out.bel) false Hhq.out).mono ?_;rintro e w2 ⟨rfl,hb2⟩;have HS2:=qh (HS1.out.call hb2);clear hb2 e0 e1 e2 e3;have f0:=HS2.out.fr 2 0 rfl;have k0:=HS2.out.cell (v:=.int .i64 0) 2 0 rfl rfl;have f1:=HS2.out.fr 2 1 rfl;have k1:=HS2.out.cell (v:=.slice none 0 0) 2 1 rfl rfl;have f2:=HS2.out.fr 2 2 rfl;have k2:=HS2.out.cell (v:=.slice none 0 0) 2 2 rfl rfl;have f3:=HS2.out.fr 2 3 rfl;have k3:=HS2.out.cell (v:=.slice none 0 0) 2 3 rfl rfl;have hq:=(((HS2.out.set 2 rfl 0 (.int .i64 0)).set 2 rfl 1 (.slice none 0 0)).set 2 rfl 2 (.slice none 0 0)).set 2 rfl 3 (.slice none 0 0);have Hq:=qh hq;have q0:=hq.cell (v:=.int .i64 0) 2 0 rfl rfl;have q1:=hq.cell (v:=.slice none 0 0) 2 1 rfl rfl;have q2:=hq.cell (v:=.slice none 0 0) 2 2 rfl rfl;have q3:=hq.cell (v:=.slice none 0 0) 2 3 rfl rfl;clear hq;go_wp2;refine bodyPost_ret (v:=.tuple #[.agg #[.int .i64 0,.slice none 0 0,.slice none 0 0,.slice none 0 0],.bool false]) (by simp[results,Tryz.results32,go_sem,q0,q1,q2,q3]) rfl ?_;exact ZaA Hq.out.bel
 rw[ZkZ hp hq] at hX;have Hst:=qh (fun (z:World) (hz:Below w.heap.size w z)=>ZhW p q v1 v2 v3 u1 u2 u3 z hp hq (h1.below hz) (h2.below hz) (h3.below hz) (g1.below hz) (g2.below hz) (g3.below hz));obtain⟨N,hN⟩:=eI (ZcH p q);have hNs:-9223372036854775808≤N.states∧N.states≤9223372036854775807:=by obtain⟨a,ha,ha40,-⟩:=Zai hp;obtain⟨b,hb,hb40,-⟩:=Zai hq;rw[hN];simp only[ZcH,shN];omega
 obtain⟨hNs0,hNs1⟩:=hNs;rw[← hN] at Hst hX;cases hNk:Zal N
 ·have hlm:limN N=(zeN,false):=if_neg (by rw[hNk];simp);rw[hlm] at hX
  injection hX with hX hk
  subst hX hk;have Hhp:=qh hp;clear hp;have Hhq:=qh hq;clear hq;replace hN:=qh hN;have HhNk:=qh hNk;clear hNk;replace hS0:=qh hS0;clear h1 h2 h3 g1 g2 g3 hlm
  go_enter Tryz.func32, Tryz.ntmps32
  go_wp2_with fail;refine(Zab p _ _ (P.out.below hS0.out.bel) true Hhp.out).mono ?_;rintro e w1 ⟨rfl,hb1⟩;have HS1:=qh (hS0.out.call hb1);clear hb1 e0 e1 e2 e3;have e0:=HS1.out.cell (v:=.int .i64 q.states) 1 0 rfl rfl;have e1:=HS1.out.cell (v:=u1) 1 1 rfl rfl;have e2:=HS1.out.cell (v:=u2) 1 2 rfl rfl;have e3:=HS1.out.cell (v:=u3) 1 3 rfl rfl;go_wp2_with fail;refine(Zab q _ _ (Q.out.below HS1.out.bel) true Hhq.out).mono ?_;rintro e w2 ⟨rfl,hb2⟩;have HS2:=qh (HS1.out.call hb2);clear hb2 e0 e1 e2 e3;have e0:=HS2.out.cell (v:=.int .i64 p.states) 0 0 rfl rfl;have e1:=HS2.out.cell (v:=v1) 0 1 rfl rfl;have e2:=HS2.out.cell (v:=v2) 0 2 rfl rfl;have e3:=HS2.out.cell (v:=v3) 0 3 rfl rfl;have g0:=HS2.out.cell (v:=.int .i64 q.states) 1 0 rfl rfl;have g1:=HS2.out.cell (v:=u1) 1 1 rfl rfl;have g2:=HS2.out.cell (v:=u2) 1 2 rfl rfl;have g3:=HS2.out.cell (v:=u3) 1 3 rfl rfl;go_wp2_with fail;refine(Hst.out _ HS2.out.bel).mono ?_;rintro e w3 ⟨a1,c1,a2,c2,a3,c3,rfl,hS'⟩;have HS3:=qh (HS2.out.cat hS');clear hS' e0 e1 e2 e3 g0 g1 g2 g3;have HN:=qh (ZaO (Zax (HS3.out.row 3 rfl)) (Zah (HS3.out.row 4 rfl)) (Zah (HS3.out.row 5 rfl)) hNs0 hNs1);go_wp2_with fail;refine(ZbQ N _ _ _ _ false HhNk.out HN.out).mono ?_;rintro e w4 ⟨rfl,hb4⟩;have HS4:=qh (HS3.out.call hb4);clear hb4;have f0:=HS4.out.fr 2 0 rfl;have k0:=HS4.out.cell (v:=.int .i64 0) 2 0 rfl rfl;have f1:=HS4.out.fr 2 1 rfl;have k1:=HS4.out.cell (v:=.slice none 0 0) 2 1 rfl rfl;have f2:=HS4.out.fr 2 2 rfl
  have k2:=HS4.out.cell (v:=.slice none 0 0) 2 2 rfl rfl;have f3:=HS4.out.fr 2 3 rfl;have k3:=HS4.out.cell (v:=.slice none 0 0) 2 3 rfl rfl;have hq:=(((HS4.out.set 2 rfl 0 (.int .i64 0)).set 2 rfl 1 (.slice none 0 0)).set 2 rfl 2 (.slice none 0 0)).set 2 rfl 3 (.slice none 0 0);have Hq:=qh hq;have q0:=hq.cell (v:=.int .i64 0) 2 0 rfl rfl;have q1:=hq.cell (v:=.slice none 0 0) 2 1 rfl rfl;have q2:=hq.cell (v:=.slice none 0 0) 2 2 rfl rfl;have q3:=hq.cell (v:=.slice none 0 0) 2 3 rfl rfl;clear hq;simp only[↓reduceIte,Bool.false_eq_true];go_wp2;refine bodyPost_ret (v:=.tuple #[.agg #[.int .i64 0,.slice none 0 0,.slice none 0 0,.slice none 0 0],.bool false]) (by simp[results,Tryz.results32,go_sem,q0,q1,q2,q3]) rfl ?_;exact ZaA Hq.out.bel
 have hlm:limN N=(N,true):=if_pos hNk;rw[hlm] at hX
 injection hX with hX hk
 subst hX hk;have Hhp:=qh hp;clear hp;have Hhq:=qh hq;clear hq;replace hN:=qh hN;have HhNk:=qh hNk;clear hNk;replace hS0:=qh hS0;clear h1 h2 h3 g1 g2 g3 hlm
 go_enter Tryz.func32, Tryz.ntmps32
 go_wp2_with fail;refine(Zab p _ _ (P.out.below hS0.out.bel) true Hhp.out).mono ?_;rintro e w1 ⟨rfl,hb1⟩;have HS1:=qh (hS0.out.call hb1);clear hb1 e0 e1 e2 e3;have e0:=HS1.out.cell (v:=.int .i64 q.states) 1 0 rfl rfl;have e1:=HS1.out.cell (v:=u1) 1 1 rfl rfl;have e2:=HS1.out.cell (v:=u2) 1 2 rfl rfl;have e3:=HS1.out.cell (v:=u3) 1 3 rfl rfl;go_wp2_with fail;refine(Zab q _ _ (Q.out.below HS1.out.bel) true Hhq.out).mono ?_;rintro e w2 ⟨rfl,hb2⟩;have HS2:=qh (HS1.out.call hb2);clear hb2 e0 e1 e2 e3;have e0:=HS2.out.cell (v:=.int .i64 p.states) 0 0 rfl rfl;have e1:=HS2.out.cell (v:=v1) 0 1 rfl rfl;have e2:=HS2.out.cell (v:=v2) 0 2 rfl rfl;have e3:=HS2.out.cell (v:=v3) 0 3 rfl rfl;have g0:=HS2.out.cell (v:=.int .i64 q.states) 1 0 rfl rfl;have g1:=HS2.out.cell (v:=u1) 1 1 rfl rfl;have g2:=HS2.out.cell (v:=u2) 1 2 rfl rfl;have g3:=HS2.out.cell (v:=u3) 1 3 rfl rfl;go_wp2_with fail;refine(Hst.out _ HS2.out.bel).mono ?_;rintro e w3 ⟨a1,c1,a2,c2,a3,c3,rfl,hS'⟩;have HS3:=qh (HS2.out.cat hS');clear hS' e0 e1 e2 e3 g0 g1 g2 g3;have HN:=qh (ZaO (Zax (HS3.out.row 3 rfl)) (Zah (HS3.out.row 4 rfl)) (Zah (HS3.out.row 5 rfl)) hNs0 hNs1);go_wp2_with fail;refine(ZbQ N _ _ _ _ true HhNk.out HN.out).mono ?_;rintro e w4 ⟨rfl,hb4⟩;have HS4:=qh (HS3.out.call hb4);clear hb4;have f0:=HS4.out.fr 2 0 rfl;have k0:=HS4.out.cell (v:=.int .i64 0) 2 0 rfl rfl;have f1:=HS4.out.fr 2 1 rfl;have k1:=HS4.out.cell (v:=.slice none 0 0) 2 1 rfl rfl;have f2:=HS4.out.fr 2 2 rfl
 have k2:=HS4.out.cell (v:=.slice none 0 0) 2 2 rfl rfl;have f3:=HS4.out.fr 2 3 rfl;have k3:=HS4.out.cell (v:=.slice none 0 0) 2 3 rfl rfl;have hq:=(((HS4.out.set 2 rfl 0 (.int .i64 N.states)).set 2 rfl 1 (.slice a1 N.moves.length c1)).set 2 rfl 2 (.slice a2 N.firsts.length c2)).set 2 rfl 3 (.slice a3 N.ends.length c3);have Hq:=qh hq;have q0:=hq.cell (v:=.int .i64 N.states) 2 0 rfl rfl;have q1:=hq.cell (v:=.slice a1 N.moves.length c1) 2 1 rfl rfl;have q2:=hq.cell (v:=.slice a2 N.firsts.length c2) 2 2 rfl rfl;have q3:=hq.cell (v:=.slice a3 N.ends.length c3) 2 3 rfl rfl;clear hq;simp only[↓reduceIte];go_wp2;refine bodyPost_ret (v:=.tuple #[.agg #[.int .i64 N.states,.slice a1 N.moves.length c1,.slice a2 N.firsts.length c2,.slice a3 N.ends.length c3],.bool true]) (by simp[results,Tryz.results32,go_sem,q0,q1,q2,q3]) rfl ?_;exact⟨a1,c1,a2,c2,a3,c3,rfl,Hq.out.pick [3,4,5] (by decide)⟩
end Go.Proofs.YtfikabecgaappaaGreat
