/-
  The walk over the program's exprOf and ExprOf.
  Conditions: the automaton reads as such; for exprOf it is valid.
-/
import Derived.Test.YtncekbbhgipdlaaGreatPs30Clp
set_option maxHeartbeats 32000000
set_option maxRecDepth 100000
namespace Go.Proofs.YtncekbbhgipdlaaGreat
open Go.RowKit
theorem Tryz.infoS1:(Tryz.prog.info? 28).map (fun i=>(i.zero,i.size,i.bytes))=some (some (.slice none 0 0),1,24):=by kernel_rfl
theorem Tryz.infoS2:(Tryz.prog.info? 70).map (fun i=>(i.zero,i.size,i.bytes))=some (some (.slice none 0 0),1,24):=by kernel_rfl
abbrev BxD (b b1 o1 N c1 b2 o2 c2:Nat):Ent:=Ent.box b #[.slice (some ⟨b1,o1,none⟩) N c1,.slice (some ⟨b2,o2,none⟩) N c2] 44
theorem ZeQ {a:Option Addr} {l c:Nat}:∀ u∈[Value.slice a l c],u.oneCell'=true:=by intro u hu;simp only[List.mem_singleton] at hu;subst hu;rfl
theorem Zoj (v:Value) (k:Nat):madeCells #[v] k=(List.replicate k v).toArray:=by
 unfold madeCells;apply Array.ext_getElem?;intro i;by_cases h:i<k
 ·simp[h,Nat.mod_one]
 simp[h]
theorem ZlL (x:DfaD) (v:Value) (w:World) (hd:Zah x.next x.ends=true) (h:DfaR 0 w v x) :
  Calls Tryz.prog 65 #[v] w fun e w'=>RKx x w e w':=by
 obtain⟨v1,v2,rfl,g1,g2⟩:=h;have hr:DfaR 0 w (.agg #[v1,v2]) x:=⟨_,_,rfl,g1,g2⟩;have hlen:=Zaj hd;have hf:=ZaJ hd;have hN0:0<x.next.length:=hf.1;obtain⟨b1,o1,c1,rfl,hc1,hc2,hb1,-⟩:=Zit g1 hd;obtain⟨b2,o2,c2,rfl,hd1,hd2,hb2,hend⟩:=Zk9 g2 hd;have hkE:=fun m hK h=>Zid (x:=x) hK h m
 have hDI:=fun (i j:Nat) (hi:i<x.next.length) (hj:j<x.next.length) (u:World) (hu:Below w.heap.size w u)=>ZlO x i j _ u hd hi hj (hr.below hu)
 obtain⟨N,hN⟩:=eI (x.next.length);have hen:x.ends.length=N:=by omega
 rw[← hN] at hc1 hN0 hend hr hkE hDI;rw[hen] at hd1 hr hDI;rw[hen,← hN];have hN40:N≤40:=by omega
 have hKP:kleP x↔kleK x N N∧(kleE x N).post.length≤60:=by rw[hN];exact Iff.rfl
 have hEN:(kleE x x.next.length).post=(kleE x N).post:=by rw[hN]
 replace hKP:=qh hKP;replace hEN:=qh hEN;obtain⟨k0,hk,hx0,hx1,hx2⟩:=info_parts Tryz.infoS2;obtain⟨s0,hs,hsz0,hsz1,hsz2⟩:=info_parts Tryz.infoS1;have hmk:∀ u:World,(Instr.makeSlice 69 (.int .i64 (N:Int)) (.int .i64 (N:Int))).run Tryz.prog u = .ok (.slice (some ⟨u.heap.size,0,none⟩) N N) (u.alloc (.cells (List.replicate N (Value.slice none 0 0)).toArray 70)):=fun u=>by have:=run_makeSlice (P:=Tryz.prog) (w:=u) 69 70 k0 (.slice none 0 0) Tryz.underlying69 hk hx0 .i64 .i64 (N:Int) (N:Int) (by omega) (Int.le_refl _) (by rw[hx1,Int.toNat_natCast];omega) (by rw[hx2];omega) (by omega);rw[this,hx1,Int.toNat_natCast,Nat.mul_one,← Zoj];rfl
 obtain⟨TT,hTT⟩:∃ T:Nat→Nat→Nat→List (Int × Int),T=fun k a b=>(kleT x k a b).post:=⟨_,rfl⟩
 have HS:=qh ((St.start w).alloc _ rfl #[.slice (some ⟨b1,o1,none⟩) N c1,.slice (some ⟨b2,o2,none⟩) N c2] 44);have Hd:=qh hd;have Hmk:=qh hmk;have Hend:=qh hend;have HkE:=qh hkE;have HDI:=qh hDI;have e0:=HS.out.cell (v:=.slice (some ⟨b1,o1,none⟩) N c1) 0 0 rfl rfl;have hm1:=Hmk.out (w.alloc (.cells #[.slice (some ⟨b1,o1,none⟩) N c1,.slice (some ⟨b2,o2,none⟩) N c2] 44));have HhN:=qh hN;clear hN;have HhTT:=qh hTT;clear hTT;have Hhs:=qh hs;clear hs;have Hhsz0:=qh hsz0;clear hsz0;have Hhsz1:=qh hsz1;clear hsz1;have Hhsz2:=qh hsz2;clear hsz2;clear hr g1 g2 hd hmk hend hkE hDI hf hlen hx0 hx1 hx2 hk hen
 go_enter Tryz.func65, Tryz.ntmps65
 go_wp2_with fail;obtain⟨bw,hbw⟩:∃ b,w.heap.size+1=b:=⟨_,rfl⟩;rw[hbw];have hS1:=((HS.out.alloc bw (by simp[← hbw]) (List.replicate N (Value.slice none 0 0)).toArray 70).boxrow 1 N 1 (List.replicate N (Value.slice none 0 0)) rfl (by rw[List.length_replicate,Nat.mul_one]) (by unfold maxLen;omega)).know0 (P:=fun u=>TabI u 0 N (List.replicate N (Value.slice none 0 0)) [] (TT 0)) (fun u q hq=>absurd hq (Nat.not_lt_zero q));have HS1:Hid (St w _ [BxD w.heap.size b1 o1 N c1 b2 o2 c2,Ent.row 70 1 (.slice (some ⟨bw,0,none⟩) N N) N (List.replicate N (Value.slice none 0 0)),Ent.know Ent.nil (fun u=>TabI u 0 N (List.replicate N (Value.slice none 0 0)) [] (TT 0))]):=qh hS1;clear e0 hm1 hS1
 go_loopw [23] (fun iv wr=>∃ (i:Nat) (zs:List Value) (css:List (List Value)) (F:Ent),iv = .int .i64 (i:Int)∧i≤N∧zs.length=N∧css.length=i∧(∀ q,i≤q→q<N→zs[q]? = some (Value.slice none 0 0)) ∧  St w wr [BxD w.heap.size b1 o1 N c1 b2 o2 c2,Ent.row 70 1 (.slice (some ⟨bw,0,none⟩) N N) N zs,Ent.know F (fun u=>TabI u i N zs css (TT 0))]) (fun iv _=>N-(intOf iv).toNat)
 case atStart=>exact⟨0,_,[],_,rfl,Nat.zero_le _,List.length_replicate,rfl,fun q _ hq=>by rw[List.getElem?_replicate,if_pos hq],HS1.out⟩
 case round =>
  obtain⟨i,zs,css,F,rfl,hiN,hzs,hcss,hnl,hS⟩:=hrel;have HS2:=qh hS;have Hhzs:=qh hzs;clear hzs;have Hhcss:=qh hcss;clear hcss;have Hnl:=qh hnl;clear hS hnl HS1;by_cases hi:i<N
  ·have hiI:(i:Int)<(N:Int):=by omega
   have hwi:IntKind.i64.wrap ((i:Int)+1)=(i:Int)+1:=IntWalk.i64_in _ (by omega);have HS3:Hid (St w wr [BxD w.heap.size b1 o1 N c1 b2 o2 c2,Ent.row 70 1 (.slice (some ⟨bw,0,none⟩) N N) N zs,Ent.row 28 1 (.slice none 0 0) 0 [],Ent.know F (fun u=>GrowP u i N 0 zs css [] (TT 0))]):=qh (((HS2.out.nilRow 28 1).pick [0,1,3,2] (by decide)).same 3 rfl _ (fun h=>⟨h.1,fun u hu=>⟨h.2 u hu,fun q hq=>absurd hq (Nat.not_lt_zero q)⟩⟩) fun _ hk=>hk);go_wp2_with fail
   go_loopw [27] (fun jv wr=>∃ (j:Nat) (ws cs:List Value) (ga:Option Addr) (ca:Nat) (G:Ent),jv = .int .i64 (j:Int)∧j≤N∧ws.length=N∧cs.length=j∧ws[i]? = some (.slice ga j ca)∧(∀ q,i+1≤q→q<N→ws[q]? = some (Value.slice none 0 0)) ∧  St w wr [BxD w.heap.size b1 o1 N c1 b2 o2 c2,Ent.row 70 1 (.slice (some ⟨bw,0,none⟩) N N) N ws,Ent.row 28 1 (.slice ga j ca) j cs,Ent.know G (fun u=>GrowP u i N j ws css cs (TT 0))]) (fun jv _=>N-(intOf jv).toNat)
   case atStart=>exact⟨0,zs,[],none,0,F,rfl,Nat.zero_le _,Hhzs.out,rfl,Hnl.out i (Nat.le_refl i) hi,fun q hq hqN=>Hnl.out q (by omega) hqN,HS3.out⟩
   case round =>
    obtain⟨j,ws,cs,ga,ca,G,rfl,hjN,hws,hcs,hzi,hnl,hS⟩:=hrel;have HS4:=qh hS;have Hhws:=qh hws;clear hws;have Hhcs:=qh hcs;clear hcs;have Hhnl:=qh hnl;clear hnl;have Hzi:=qh hzi;clear hS hzi HS3 HS2;by_cases hj:j<N
    ·have hjI:(j:Int)<(N:Int):=by omega
     have hwj:IntKind.i64.wrap ((j:Int)+1)=(j:Int)+1:=IntWalk.i64_in _ (by omega);have hwjj:IntKind.i64.wrap ((j:Int)+1)=((j+1:Nat):Int):=by rw[hwj];omega
     obtain⟨D,hD⟩:=eI (TT 0 i j);have hDij:=HDI.out i j hi hj;have hDT:(dirE x i j).post=D:=by rw[hD,HhTT.out];rfl
     rw[hDT] at hDij;have HDij:=qh hDij;replace hD:=qh hD;clear hDij hDT hwjj
     go_upto_region 9 with fail
     refine wp_region_any (by kernel_rfl) ?_
     refine Zar (fun A listed a w'=>∃ (l0 l1 l2 l3 l4 l5 l6 l7 l8 l9 l10 l11 l12 l13:Bool) (g1:Option Addr) (k1:Nat) (F1:Ent) (bn0:Nat) (g7:Nat) (c7:Nat),listed=#[l0,l1,l2,l3,l4,l5,l6,l7,l8,l9,l10,l11,l12,l13]∧(l10=true→l9=true)∧(l11=true→l9=true)∧(l13=true→l5=true∧l11=true) ∧
       a=⟨(((((((((((((A.tmps.setIfInBounds 30 (if l0=true then .slice (some ⟨bw,0,none⟩) N N else A.tmps.getD 30 undef)).setIfInBounds 31 (if l1=true then .int .i64 (i:Int) else A.tmps.getD 31 undef)).setIfInBounds 32 (if l2=true then .slice (some ⟨bw,0,none⟩) N N else A.tmps.getD 32 undef)).setIfInBounds 33 (if l3=true then .int .i64 (i:Int) else A.tmps.getD 33 undef)).setIfInBounds 34 (if l4=true then .pointer (some ⟨bw,i,none⟩) else A.tmps.getD 34 undef)).setIfInBounds 35 (if l5=true then .slice ga j ca else A.tmps.getD 35 undef)).setIfInBounds 36 (if l6=true then .agg #[.slice (some ⟨b1,o1,none⟩) N c1,.slice (some ⟨b2,o2,none⟩) N c2] else A.tmps.getD 36 undef)).setIfInBounds 37 (if l7=true then .int .i64 (i:Int) else A.tmps.getD 37 undef)).setIfInBounds 38 (if l8=true then .int .i64 (j:Int) else A.tmps.getD 38 undef)).setIfInBounds 39 (if l9=true then .slice g1 D.length k1 else A.tmps.getD 39 undef)).setIfInBounds 40 (if l10=true then .slice (some ⟨bn0,0,none⟩) 1 1 else A.tmps.getD 40 undef)).setIfInBounds 41 (if l11=true then .slice (some ⟨g7,0,none⟩) (j+1) c7 else A.tmps.getD 41 undef)).setIfInBounds 42 (if l12=true then .pointer (some ⟨bw,i,none⟩) else A.tmps.getD 42 undef)),A.defers⟩ ∧
       St w w' [BxD w.heap.size b1 o1 N c1 b2 o2 c2,(if l13=true then Ent.row 70 1 (.slice (some ⟨bw,0,none⟩) N N) N ((ws).set (i) (.slice (some ⟨g7,0,none⟩) (j+1) c7)) else Ent.row 70 1 (.slice (some ⟨bw,0,none⟩) N N) N (ws)),(if l11=true then Ent.row 28 1 (.slice (some ⟨g7,0,none⟩) (j+1) c7) (j+1) (cs++[.slice g1 D.length k1]) else Ent.row 28 1 (.slice ga j ca) j (cs)),Ent.know G (fun u=>GrowP u i N j ws css cs (TT 0)),(if l9=true then Ent.mkQ (fun _=>True) F1 (.slice g1 D.length k1) D else Ent.nil),(if l10=true then Ent.box bn0 #[.slice g1 D.length k1] 28 else Ent.nil)]) ?_ ?_ ?_
     ·rintro listed a w' ⟨l0,l1,l2,l3,l4,l5,l6,l7,l8,l9,l10,l11,l12,l13,g1,k1,F1,bn0,g7,c7,rfl,hd10,hd11,hd13,rfl,hS⟩ i hi;obtain⟨hun,o,ho,hall⟩:=mem_ready.1 hi;have hlt:=(Array.getElem?_eq_some_iff.1 ho).1;refine wpOp_step ho (fun K hK => ?_);clear hi;have HS:=qh hS;clear hS;simp only[w_1,w_2,w_3,w_4,w_5,w_6,w_7,w_8];obtain h|h|h|h|h|h|h|h|h|h|h|h|h|h:i=0∨i=1∨i=2∨i=3∨i=4∨i=5∨i=6∨i=7∨i=8∨i=9∨i=10∨i=11∨i=12∨i=13:=by simp at hlt;omega
      all_goals subst h
      all_goals simp only[w_5,w_6,w_7,w_9] at ho
      all_goals subst ho
      all_goals simp[Region.binds] at hun hall
      ·subst hun;go_simp;exact hK _ _ ⟨_,_,_,_,_,_,_,_,_,_,_,_,_,_,g1,k1,F1,bn0,g7,c7,rfl,hd10,hd11,hd13,(by simp),HS.out⟩
      ·subst hun;go_simp;exact hK _ _ ⟨_,_,_,_,_,_,_,_,_,_,_,_,_,_,g1,k1,F1,bn0,g7,c7,rfl,hd10,hd11,hd13,(by simp),HS.out⟩
      ·subst hun;go_simp;exact hK _ _ ⟨_,_,_,_,_,_,_,_,_,_,_,_,_,_,g1,k1,F1,bn0,g7,c7,rfl,hd10,hd11,hd13,(by simp),HS.out⟩
      ·subst hun;go_simp;exact hK _ _ ⟨_,_,_,_,_,_,_,_,_,_,_,_,_,_,g1,k1,F1,bn0,g7,c7,rfl,hd10,hd11,hd13,(by simp),HS.out⟩
      ·obtain⟨rfl,rfl⟩:=hall;subst hun;go_simp;exact hK _ _ ⟨_,_,_,_,_,_,_,_,_,_,_,_,_,_,g1,k1,F1,bn0,g7,c7,rfl,hd10,hd11,hd13,(by simp),HS.out⟩
      ·obtain rfl:=hall;subst hun;obtain rfl:l13=false:=offL hd13 rfl;have e0:=HS.out.rcell (v:=.slice ga j ca) 1 (i) rfl (by omega) Hzi.out;go_simp;exact hK _ _ ⟨_,_,_,_,_,_,_,_,_,_,_,_,_,_,g1,k1,F1,bn0,g7,c7,rfl,hd10,hd11,by simp,(by simp),HS.out⟩
      ·subst hun;have e0:=HS.out.cell (v:=.slice (some ⟨b1,o1,none⟩) N c1) 0 0 rfl rfl;have e1:=HS.out.cell (v:=.slice (some ⟨b2,o2,none⟩) N c2) 0 1 rfl rfl;go_simp;exact hK _ _ ⟨_,_,_,_,_,_,_,_,_,_,_,_,_,_,g1,k1,F1,bn0,g7,c7,rfl,hd10,hd11,hd13,(by simp),HS.out⟩
      ·subst hun;go_simp;exact hK _ _ ⟨_,_,_,_,_,_,_,_,_,_,_,_,_,_,g1,k1,F1,bn0,g7,c7,rfl,hd10,hd11,hd13,(by simp),HS.out⟩
      ·subst hun;go_simp;exact hK _ _ ⟨_,_,_,_,_,_,_,_,_,_,_,_,_,_,g1,k1,F1,bn0,g7,c7,rfl,hd10,hd11,hd13,(by simp),HS.out⟩
      ·obtain⟨rfl,rfl,rfl⟩:=hall;subst hun;obtain rfl:l10=false:=by cases l10 with|false=>rfl|true=>simpa using hd10 rfl
       obtain rfl:l11=false:=by cases l11 with|false=>rfl|true=>simpa using hd11 rfl
       obtain rfl:l13=false:=offR hd13 rfl;go_simp
       go_at_call 111
       refine(HDij.out _ HS.out.bel).mono ?_;rintro e u1 ⟨a8,d8,F8,rfl,hS8⟩;have hS2:=(HS.out.cat hS8).pick [0,1,2,3,6,5] (by decide);have HhS2:=qh hS2;clear hS2;go_simp;exact hK _ _ ⟨_,_,_,_,_,_,_,_,_,_,_,_,_,_,a8,d8,F8,bn0,g7,c7,rfl,by simp,by simp,by simp,(by simp),HhS2.out⟩
      ·obtain rfl:=hall;subst hun;have hS2:=(HS.out.alloc _ rfl #[.slice g1 D.length k1] 28).pick [0,1,2,3,4,6] (by decide);have HhS2:=qh hS2;clear hS2;go_simp;exact hK _ _ ⟨_,_,_,_,_,_,_,_,_,_,_,_,_,_,g1,k1,F1,_,g7,c7,rfl,by simp,hd11,hd13,(by simp),HhS2.out⟩
      ·obtain⟨rfl,rfl,rfl⟩:=hall;subst hun;obtain rfl:l13=false:=offR hd13 rfl;refine step_append_lies (a:=⟨_,_⟩) _ (by rfl) _ _ _ (by rfl) w.heap.size 28 s0 ((.slice none 0 0)) 1 24 Tryz.underlying70 Hhs.out Hhsz0.out Hhsz1.out Hhsz2.out (by rfl) (by omega) (.slice ga j ca) j (cs) (by rfl) (HS.out.row 2 rfl) ⟨bn0,0,none⟩ 1 1 [.slice g1 D.length k1] (by rfl) (by rfl) (World.news_of_block (HS.out.box 5 rfl)) ZeQ (by omega) (by unfold maxLen;omega) (by omega) HS.out.size _ rfl ?_;intro g8 c8 w8 hown8 hgrow8 hat8 hlt8;have HS8:=qh (HS.out.app 2 rfl hown8 hgrow8 hat8);clear hown8 hgrow8 hat8;go_simp;exact hK _ _ ⟨_,_,_,_,_,_,_,_,_,_,_,_,_,_,g1,k1,F1,bn0,g8,c8,rfl,by simp,by simp,by simp,(by simp),HS8.out⟩
      ·obtain⟨rfl,rfl,-,-,rfl,rfl,rfl,rfl,rfl,rfl,rfl,rfl,rfl,rfl⟩:=hall;subst hun;go_simp;exact hK _ _ ⟨_,_,_,_,_,_,_,_,_,_,_,_,_,_,g1,k1,F1,bn0,g7,c7,rfl,by simp,by simp,hd13,(by simp),HS.out⟩
      obtain⟨rfl,rfl,rfl,rfl,rfl,rfl,rfl,rfl,rfl,rfl,rfl,rfl,rfl,-⟩:=hall;subst hun;have f0:=HS.out.rfr 1 (i) rfl;have k0:=HS.out.rcell (v:=.slice ga j ca) 1 (i) rfl (by omega) Hzi.out;go_simp;exact hK _ _ ⟨_,_,_,_,_,_,_,_,_,_,_,_,_,_,g1,k1,F1,bn0,g7,c7,rfl,by simp,by simp,by simp,(by simp),(HS.out.store 1 rfl (i) (.slice (some ⟨g7,0,none⟩) (j+1) c7))⟩
     ·rintro listed a w' ⟨l0,l1,l2,l3,l4,l5,l6,l7,l8,l9,l10,l11,l12,l13,g1,k1,F1,bn0,g7,c7,rfl,hd10,hd11,hd13,rfl,hS⟩ hr;obtain⟨rfl,rfl,rfl,rfl,rfl,rfl,rfl,rfl,rfl,rfl,rfl,rfl,rfl,rfl,-⟩:=zA (ZaK (by kernel_rfl) rfl hr) rfl;clear hr hd10 hd11 hd13;simp only[↓reduceIte] at hS ⊢;simp only[w_1,w_2,w_3];have hS5:=(hS.pick [0,1,2,3,4] (by decide)).knowAll (A:=[_,_,_]) (P:=fun u=>GrowP u i N (j+1) (ws.set i (.slice (some ⟨g7,0,none⟩) (j+1) c7)) css (cs++[.slice g1 D.length k1]) (TT 0)) fun u h=>(Zap h 0 rfl).more Hhcs.out (fun q hq=>ZgI (by omega)) (by rw[← hD.out];exact Zb0 h 1 rfl trivial)
      have HS5:=qh hS5;clear hS hS5;go_wp2;go_roundw
      case rel =>refine⟨j+1,_,_,_,_,_,by go_num,by omega,by rw[List.length_set];exact Hhws.out,by rw[List.length_append,Hhcs.out];rfl,List.getElem?_set_self (by rw[Hhws.out];omega),fun q hq hqN => ?_,HS5.out⟩;rw[List.getElem?_set_ne (by omega)];exact Hhnl.out q hq hqN
      case measure=>simp[intOf];omega
     refine⟨false,false,false,false,false,false,false,false,false,false,false,false,false,false,none,0,Ent.nil,0,0,0,rfl,by simp,by simp,by simp,(by simp),?_⟩;exact HS4.out.drew.pick [0,1,2,3,4,5] (by decide)
    have hjI:¬ (j:Int)<(N:Int):=by omega
    have hjN2:N=j:=by omega
    subst hjN2;go_wp2;go_roundw
    case rel =>
     have h9:=HS4.out.knowAll (A:=[_,_]) (P:=fun u=>TabI u (i+1) N ws (css++[cs]) (TT 0)) fun u h=>(Zap h 1 rfl).done (ZbZ h 0 rfl) (by omega) Hhcss.out (by rw[List.getD_eq_getElem?_getD,Hzi.out];rfl)
     exact⟨i+1,ws,css++[cs],_,by go_num,by omega,Hhws.out,by rw[List.length_append,Hhcss.out];rfl,Hhnl.out,h9⟩
    case measure=>simp[intOf];omega
  have hiI:¬ (i:Int)<(N:Int):=by omega
  have hiN2:N=i:=by omega
  subst hiN2;have h9:=HS2.out.knowAll (A:=[_]) (P:=fun u=>TabX u (.slice (some ⟨bw,0,none⟩) N N) N zs css (TT 0)) fun u h=>ZhP (ZbZ h 0 rfl) (by omega) (Zap h 1 rfl)
  have HS3:=qh h9;clear h9 HS2 hbw;go_wp2_with fail
  go_loopw [5,46] (fun wv kv wr=>∃ (k bw cw:Nat) (zs:List Value) (css:List (List Value)) (F:Ent),kv = .int .i64 (k:Int)∧k≤N∧kleK x N k∧wv = .slice (some ⟨bw,0,none⟩) N cw∧St w wr [BxD w.heap.size b1 o1 N c1 b2 o2 c2,Ent.know F (fun u=>TabX u (.slice (some ⟨bw,0,none⟩) N cw) N zs css (TT k))]) (fun _ kv _=>N-(intOf kv).toNat)
  case atStart=>exact⟨0,bw,N,zs,css,_,rfl,Nat.zero_le _,Zjf x N,rfl,HS3.out⟩
  case round =>
   clear HS3 Hnl Hhzs Hhcss;obtain⟨k,bw,cw,zs,css,F,rfl,hkN,hK,rfl,hS⟩:=hrel;obtain⟨BX,hBX⟩:∃ B:World→Prop,B=fun u=>TabX u (.slice (some ⟨bw,0,none⟩) N cw) N zs css (TT k):=⟨_,rfl⟩
   rw[← hBX] at hS;have HTX:Hid (∀ u,BX u→TabX u (.slice (some ⟨bw,0,none⟩) N cw) N zs css (TT k)):=qh (by rw[hBX];exact fun u h=>h);have HS2:=qh hS;have HhK:=qh hK;clear hK;clear hS hBX;by_cases hk:k<N
   ·have hkI:(k:Int)<(N:Int):=by omega
    have hwk:IntKind.i64.wrap ((k:Int)+1)=(k:Int)+1:=IntWalk.i64_in _ (by omega);have hm1:=Hmk.out wr;have hS3:=((HS2.out.alloc wr.heap.size rfl (List.replicate N (Value.slice none 0 0)).toArray 70).boxrow 2 N 1 (List.replicate N (Value.slice none 0 0)) rfl (by rw[List.length_replicate,Nat.mul_one]) (by unfold maxLen;omega));go_wp2_with fail;obtain⟨bn,hbn⟩:∃ b,wr.heap.size=b:=⟨_,rfl⟩;rw[hbn] at hS3 hm1;rw[hbn];have hS4:=(hS3.pick [0,2,1] (by decide)).knowMore (P:=fun u=>BX u∧TabI u 0 N (List.replicate N (Value.slice none 0 0)) [] (TT (k+1))) 2 rfl fun u h=>⟨h,fun q hq=>absurd hq (Nat.not_lt_zero q)⟩
    have HS3:Hid (St w _ [BxD w.heap.size b1 o1 N c1 b2 o2 c2,Ent.row 70 1 (.slice (some ⟨bn,0,none⟩) N N) N (List.replicate N (Value.slice none 0 0)),Ent.know F (fun u=>BX u∧TabI u 0 N (List.replicate N (Value.slice none 0 0)) [] (TT (k+1)))]):=qh hS4;clear hS3 hS4 hm1 hbn HS2
    go_loopw [52] (fun iv wr=>∃ (i:Nat) (zs:List Value) (css:List (List Value)) (F:Ent),iv = .int .i64 (i:Int)∧i≤N∧zs.length=N∧css.length=i∧(∀ q,i≤q→q<N→zs[q]? = some (Value.slice none 0 0))∧(∀ q,q<i→∀ y,y<N→kleB x k q y)∧St w wr [BxD w.heap.size b1 o1 N c1 b2 o2 c2,Ent.row 70 1 (.slice (some ⟨bn,0,none⟩) N N) N zs,Ent.know F (fun u=>BX u∧TabI u i N zs css (TT (k+1)))]) (fun iv _=>N-(intOf iv).toNat)
    case atStart=>exact⟨0,_,[],_,rfl,Nat.zero_le _,List.length_replicate,rfl,fun q _ hq=>by rw[List.getElem?_replicate,if_pos hq],fun q hq=>absurd hq (Nat.not_lt_zero q),HS3.out⟩
    case round =>
     obtain⟨i,zs,css,F,rfl,hiN,hzs,hcss,hnl,hbi,hS⟩:=hrel;have HS2:=qh hS;have Hhzs:=qh hzs;clear hzs;have Hhcss:=qh hcss;clear hcss;have Hhbi:=qh hbi;clear hbi;have Hnl:=qh hnl;clear hS hnl HS3;by_cases hi:i<N
     ·have hiI:(i:Int)<(N:Int):=by omega
      have hwi:IntKind.i64.wrap ((i:Int)+1)=(i:Int)+1:=IntWalk.i64_in _ (by omega);have HS3:Hid (St w wr [BxD w.heap.size b1 o1 N c1 b2 o2 c2,Ent.row 70 1 (.slice (some ⟨bn,0,none⟩) N N) N zs,Ent.row 28 1 (.slice none 0 0) 0 [],Ent.know F (fun u=>BX u∧GrowP u i N 0 zs css [] (TT (k+1)))]):=qh (((HS2.out.nilRow 28 1).pick [0,1,3,2] (by decide)).knowMore (P:=fun u=>BX u∧GrowP u i N 0 zs css [] (TT (k+1))) 3 rfl fun u h=>⟨h.1,h.2,fun q hq=>absurd hq (Nat.not_lt_zero q)⟩);go_wp2_with fail
      go_loopw [56] (fun jv wr=>∃ (j:Nat) (ws cs:List Value) (ga:Option Addr) (ca:Nat) (G:Ent),jv = .int .i64 (j:Int)∧j≤N∧ws.length=N∧cs.length=j∧ws[i]? = some (.slice ga j ca)∧(∀ q,i+1≤q→q<N→ws[q]? = some (Value.slice none 0 0))∧(∀ y,y<j→kleB x k i y)∧St w wr [BxD w.heap.size b1 o1 N c1 b2 o2 c2,Ent.row 70 1 (.slice (some ⟨bn,0,none⟩) N N) N ws,Ent.row 28 1 (.slice ga j ca) j cs,Ent.know G (fun u=>BX u∧GrowP u i N j ws css cs (TT (k+1)))]) (fun jv _=>N-(intOf jv).toNat)
      case atStart=>exact⟨0,zs,[],none,0,F,rfl,Nat.zero_le _,Hhzs.out,rfl,Hnl.out i (Nat.le_refl i) hi,fun q hq hqN=>Hnl.out q (by omega) hqN,fun q hq=>absurd hq (Nat.not_lt_zero q),HS3.out⟩
      case round =>
       obtain⟨j,ws,cs,ga,ca,G,rfl,hjN,hws,hcs,hzi,hnl,hbb,hS⟩:=hrel;have HS4:=qh hS;have Hhws:=qh hws;clear hws;have Hhcs:=qh hcs;clear hcs;have Hhnl:=qh hnl;clear hnl;have Hhbb:=qh hbb;clear hbb;have Hzi:=qh hzi;clear hS hzi HS3 HS2;by_cases hj:j<N
       ·have hjI:(j:Int)<(N:Int):=by omega
        have hwj:IntKind.i64.wrap ((j:Int)+1)=(j:Int)+1:=IntWalk.i64_in _ (by omega);have hX:=HTX.out _ (HS4.out.know 3 rfl).1;obtain⟨ri,ci,hri⟩:=hX.rowf hi;obtain⟨rk,ck,hrk⟩:=hX.rowf hk;obtain⟨g0,d0,hg0⟩:=hX.cellf hk hk;obtain⟨g1,d1,hg1⟩:=hX.cellf hi hk;obtain⟨g2,d2,hg2⟩:=hX.cellf hk hj;obtain⟨g3,d3,hg3⟩:=hX.cellf hi hj;have hRi:=fun u h=>(HTX.out u h).row hi hri
        have hRk:=fun u h=>(HTX.out u h).row hk hrk
        have hC0:=fun u h=>(HTX.out u h).cell hk hk hrk hg0
        have hC1:=fun u h=>(HTX.out u h).cell hi hk hri hg1
        have hC2:=fun u h=>(HTX.out u h).cell hk hj hrk hg2
        have hC3:=fun u h=>(HTX.out u h).cell hi hj hri hg3
        obtain⟨S,J,W,hS,hJ,hW,hE,hWe,hl1,hl2,hl3,hl4,hl5⟩:=Zje x k i j;have hA0:=ZbN HhK.out hk hk;have hA1:=ZbN HhK.out hi hk;have hA2:=ZbN HhK.out hk hj;have hB:=ZbN HhK.out hi hj;have hTk:∀ a b,TT k a b=(kleT x k a b).post:=fun a b=>by rw[HhTT.out]
        have hTs:(kleT x (k+1) i j).post=TT (k+1) i j:=by rw[HhTT.out]
        simp only[hTk] at hC0 hC1 hC2 hC3;obtain⟨A0,hA0e⟩:∃ l,(kleT x k k k).post=l:=⟨_,rfl⟩;obtain⟨A1,hA1e⟩:∃ l,(kleT x k i k).post=l:=⟨_,rfl⟩;obtain⟨A2,hA2e⟩:∃ l,(kleT x k k j).post=l:=⟨_,rfl⟩;obtain⟨B,hBe⟩:∃ l,(kleT x k i j).post=l:=⟨_,rfl⟩;obtain⟨E,hEe⟩:∃ l,(kleT x (k+1) i j).post=l:=⟨_,rfl⟩;rw[hA0e] at hC0 hS hl1 hl5 hA0;rw[hA1e] at hC1 hJ hl2 hA1;rw[hA2e] at hC2 hW hl3 hA2;rw[hBe] at hC3 hE hl4 hB;rw[hEe] at hE hl4 hTs;have hEt:=hTs;have HRi:=qh hRi;have HRk:=qh hRk;have HC0:=qh hC0;have HC1:=qh hC1;have HC2:=qh hC2;have HC3:=qh hC3;have HhS:=qh hS;clear hS;have HhJ:=qh hJ;clear hJ;have HhW:=qh hW;clear hW;have HhE:=qh hE;clear hE;have HhWe:=qh hWe;clear hWe;have HhEe:=qh hEe;clear hEe;have HhEt:=qh hEt;clear hEt;clear hX hRi hRk hC0 hC1 hC2 hC3 hri hrk hg0 hg1 hg2 hg3 hTk hTs hA0e hA1e hA2e hBe
        go_upto_region 22 with fail
        refine wp_region_any (by kernel_rfl) ?_
        refine Zar (fun A listed a w'=>∃ (l0 l1 l2 l3 l4 l5 l6 l7 l8 l9 l10 l11 l12 l13 l14 l15 l16 l17 l18 l19 l20 l21 l22 l23 l24:Bool) (gS:Option Addr) (dS:Nat) (FS:Ent) (gJ:Option Addr) (dJ:Nat) (FJ:Ent) (gW:Option Addr) (dW:Nat) (FW:Ent),listed=#[l0,l1,l2,l3,l4,l5,l6,l7,l8,l9,l10,l11,l12,l13,l14,l15,l16,l17,l18,l19,l20,l21,l22,l23,l24]∧(l15=true→l14=true)∧(l23=true→l15=true)∧(l24=true→l23=true) ∧
          a=⟨(((((((((((((((((((((((((A.tmps.setIfInBounds 59 (if l0=true then .slice (some ⟨bw,0,none⟩) N cw else A.tmps.getD 59 undef)).setIfInBounds 60 (if l1=true then .int .i64 (i:Int) else A.tmps.getD 60 undef)).setIfInBounds 61 (if l2=true then .pointer (some ⟨bw,i,none⟩) else A.tmps.getD 61 undef)).setIfInBounds 62 (if l3=true then .slice (some ⟨ri,0,none⟩) N ci else A.tmps.getD 62 undef)).setIfInBounds 63 (if l4=true then .int .i64 (k:Int) else A.tmps.getD 63 undef)).setIfInBounds 64 (if l5=true then .pointer (some ⟨ri,k,none⟩) else A.tmps.getD 64 undef)).setIfInBounds 65 (if l6=true then .slice g1 A1.length d1 else A.tmps.getD 65 undef)).setIfInBounds 66 (if l7=true then .slice (some ⟨bw,0,none⟩) N cw else A.tmps.getD 66 undef)).setIfInBounds 67 (if l8=true then .int .i64 (k:Int) else A.tmps.getD 67 undef)).setIfInBounds 68 (if l9=true then .pointer (some ⟨bw,k,none⟩) else A.tmps.getD 68 undef)).setIfInBounds 69 (if l10=true then .slice (some ⟨rk,0,none⟩) N ck else A.tmps.getD 69 undef)).setIfInBounds 70 (if l11=true then .int .i64 (k:Int) else A.tmps.getD 70 undef)).setIfInBounds 71 (if l12=true then .pointer (some ⟨rk,k,none⟩) else A.tmps.getD 71 undef)).setIfInBounds 72 (if l13=true then .slice g0 A0.length d0 else A.tmps.getD 72 undef)).setIfInBounds 73 (if l14=true then .slice gS S.length dS else A.tmps.getD 73 undef)).setIfInBounds 74 (if l15=true then .slice gJ J.length dJ else A.tmps.getD 74 undef)).setIfInBounds 75 (if l16=true then .slice (some ⟨bw,0,none⟩) N cw else A.tmps.getD 75 undef)).setIfInBounds 76 (if l17=true then .int .i64 (k:Int) else A.tmps.getD 76 undef)).setIfInBounds 77 (if l18=true then .pointer (some ⟨bw,k,none⟩) else A.tmps.getD 77 undef)).setIfInBounds 78 (if l19=true then .slice (some ⟨rk,0,none⟩) N ck else A.tmps.getD 78 undef)).setIfInBounds 79 (if l20=true then .int .i64 (j:Int) else A.tmps.getD 79 undef)).setIfInBounds 80 (if l21=true then .pointer (some ⟨rk,j,none⟩) else A.tmps.getD 80 undef)).setIfInBounds 81 (if l22=true then .slice g2 A2.length d2 else A.tmps.getD 81 undef)).setIfInBounds 82 (if l23=true then .slice gW W.length dW else A.tmps.getD 82 undef)).setIfInBounds 12 (if l24=true then .slice gW W.length dW else A.tmps.getD 12 undef)),A.defers⟩ ∧
          St w w' [BxD w.heap.size b1 o1 N c1 b2 o2 c2,Ent.row 70 1 (.slice (some ⟨bn,0,none⟩) N N) N (ws),Ent.row 28 1 (.slice ga j ca) j (cs),Ent.know G (fun u=>BX u∧GrowP u i N j ws css cs (TT (k+1))),(if l14=true then Ent.mkQ (fun u=>Pairs 0 u (.slice g0 A0.length d0) A0) FS (.slice gS S.length dS) S else Ent.nil),(if l15=true then Ent.mkQ (fun u=>Pairs 0 u (.slice g1 A1.length d1) A1∧Pairs 0 u (.slice gS S.length dS) S) FJ (.slice gJ J.length dJ) J else Ent.nil),(if l23=true then Ent.mkQ (fun u=>Pairs 0 u (.slice gJ J.length dJ) J∧Pairs 0 u (.slice g2 A2.length d2) A2) FW (.slice gW W.length dW) W else Ent.nil)]) ?_ ?_ ?_
        ·rintro listed a w' ⟨l0,l1,l2,l3,l4,l5,l6,l7,l8,l9,l10,l11,l12,l13,l14,l15,l16,l17,l18,l19,l20,l21,l22,l23,l24,gS,dS,FS,gJ,dJ,FJ,gW,dW,FW,rfl,hd15,hd23,hd24,rfl,hS⟩ i hi;obtain⟨hun,o,ho,hall⟩:=mem_ready.1 hi;have hlt:=(Array.getElem?_eq_some_iff.1 ho).1;refine wpOp_step ho (fun K hK => ?_);clear hi;have HS:=qh hS;clear hS;simp only[w_1,w_2,w_3,w_4,w_5,w_6,w_7,w_8];obtain h|h|h|h|h|h|h|h|h|h|h|h|h|h|h|h|h|h|h|h|h|h|h|h|h:i=0∨i=1∨i=2∨i=3∨i=4∨i=5∨i=6∨i=7∨i=8∨i=9∨i=10∨i=11∨i=12∨i=13∨i=14∨i=15∨i=16∨i=17∨i=18∨i=19∨i=20∨i=21∨i=22∨i=23∨i=24:=by simp at hlt;omega
         all_goals subst h
         all_goals simp only[w_5,w_6,w_7,w_9] at ho
         all_goals subst ho
         all_goals simp[Region.binds] at hun hall
         ·subst hun;go_simp;exact hK _ _ ⟨_,_,_,_,_,_,_,_,_,_,_,_,_,_,_,_,_,_,_,_,_,_,_,_,_,gS,dS,FS,gJ,dJ,FJ,gW,dW,FW,rfl,hd15,hd23,hd24,(by simp),HS.out⟩
         ·subst hun;go_simp;exact hK _ _ ⟨_,_,_,_,_,_,_,_,_,_,_,_,_,_,_,_,_,_,_,_,_,_,_,_,_,gS,dS,FS,gJ,dJ,FJ,gW,dW,FW,rfl,hd15,hd23,hd24,(by simp),HS.out⟩
         ·obtain⟨rfl,rfl⟩:=hall;subst hun;go_simp;exact hK _ _ ⟨_,_,_,_,_,_,_,_,_,_,_,_,_,_,_,_,_,_,_,_,_,_,_,_,_,gS,dS,FS,gJ,dJ,FJ,gW,dW,FW,rfl,hd15,hd23,hd24,(by simp),HS.out⟩
         ·obtain rfl:=hall;subst hun;have e0:=HRi.out _ (HS.out.know 3 rfl).1;go_simp;exact hK _ _ ⟨_,_,_,_,_,_,_,_,_,_,_,_,_,_,_,_,_,_,_,_,_,_,_,_,_,gS,dS,FS,gJ,dJ,FJ,gW,dW,FW,rfl,hd15,hd23,hd24,(by simp),HS.out⟩
         ·subst hun;go_simp;exact hK _ _ ⟨_,_,_,_,_,_,_,_,_,_,_,_,_,_,_,_,_,_,_,_,_,_,_,_,_,gS,dS,FS,gJ,dJ,FJ,gW,dW,FW,rfl,hd15,hd23,hd24,(by simp),HS.out⟩
         ·obtain⟨rfl,rfl⟩:=hall;subst hun;go_simp;exact hK _ _ ⟨_,_,_,_,_,_,_,_,_,_,_,_,_,_,_,_,_,_,_,_,_,_,_,_,_,gS,dS,FS,gJ,dJ,FJ,gW,dW,FW,rfl,hd15,hd23,hd24,(by simp),HS.out⟩
         ·obtain rfl:=hall;subst hun;have e0:=(HC1.out _ (HS.out.know 3 rfl).1).1;go_simp;exact hK _ _ ⟨_,_,_,_,_,_,_,_,_,_,_,_,_,_,_,_,_,_,_,_,_,_,_,_,_,gS,dS,FS,gJ,dJ,FJ,gW,dW,FW,rfl,hd15,hd23,hd24,(by simp),HS.out⟩
         ·subst hun;go_simp;exact hK _ _ ⟨_,_,_,_,_,_,_,_,_,_,_,_,_,_,_,_,_,_,_,_,_,_,_,_,_,gS,dS,FS,gJ,dJ,FJ,gW,dW,FW,rfl,hd15,hd23,hd24,(by simp),HS.out⟩
         ·subst hun;go_simp;exact hK _ _ ⟨_,_,_,_,_,_,_,_,_,_,_,_,_,_,_,_,_,_,_,_,_,_,_,_,_,gS,dS,FS,gJ,dJ,FJ,gW,dW,FW,rfl,hd15,hd23,hd24,(by simp),HS.out⟩
         ·obtain⟨rfl,rfl⟩:=hall;subst hun;go_simp;exact hK _ _ ⟨_,_,_,_,_,_,_,_,_,_,_,_,_,_,_,_,_,_,_,_,_,_,_,_,_,gS,dS,FS,gJ,dJ,FJ,gW,dW,FW,rfl,hd15,hd23,hd24,(by simp),HS.out⟩
         ·obtain rfl:=hall;subst hun;have e0:=HRk.out _ (HS.out.know 3 rfl).1;go_simp;exact hK _ _ ⟨_,_,_,_,_,_,_,_,_,_,_,_,_,_,_,_,_,_,_,_,_,_,_,_,_,gS,dS,FS,gJ,dJ,FJ,gW,dW,FW,rfl,hd15,hd23,hd24,(by simp),HS.out⟩
         ·subst hun;go_simp;exact hK _ _ ⟨_,_,_,_,_,_,_,_,_,_,_,_,_,_,_,_,_,_,_,_,_,_,_,_,_,gS,dS,FS,gJ,dJ,FJ,gW,dW,FW,rfl,hd15,hd23,hd24,(by simp),HS.out⟩
         ·obtain⟨rfl,rfl⟩:=hall;subst hun;go_simp;exact hK _ _ ⟨_,_,_,_,_,_,_,_,_,_,_,_,_,_,_,_,_,_,_,_,_,_,_,_,_,gS,dS,FS,gJ,dJ,FJ,gW,dW,FW,rfl,hd15,hd23,hd24,(by simp),HS.out⟩
         ·obtain rfl:=hall;subst hun;have e0:=(HC0.out _ (HS.out.know 3 rfl).1).1;go_simp;exact hK _ _ ⟨_,_,_,_,_,_,_,_,_,_,_,_,_,_,_,_,_,_,_,_,_,_,_,_,_,gS,dS,FS,gJ,dJ,FJ,gW,dW,FW,rfl,hd15,hd23,hd24,(by simp),HS.out⟩
         ·obtain rfl:=hall;subst hun;obtain rfl:l15=false:=by cases l15 with|false=>rfl|true=>simpa using hd15 rfl
          obtain rfl:l23=false:=by cases l23 with|false=>rfl|true=>simpa using hd23 rfl
          obtain rfl:l24=false:=by cases l24 with|false=>rfl|true=>simpa using hd24 rfl
          go_simp
          go_at_call 54
          refine(ZiN A0 S HhS.out _ _ (by omega) (by omega) (HC0.out _ (HS.out.know 3 rfl).1).2).mono ?_;rintro e u1 ⟨a8,d8,F8,rfl,hS8⟩;have hS2:=(HS.out.cat hS8).pick [0,1,2,3,7,5,6] (by decide);have HhS2:=qh hS2;clear hS2;go_simp;exact hK _ _ ⟨_,_,_,_,_,_,_,_,_,_,_,_,_,_,_,_,_,_,_,_,_,_,_,_,_,a8,d8,F8,gJ,dJ,FJ,gW,dW,FW,rfl,by simp,by simp,by simp,(by simp),HhS2.out⟩
         ·obtain⟨rfl,rfl⟩:=hall;subst hun;obtain rfl:l23=false:=by cases l23 with|false=>rfl|true=>simpa using hd23 rfl
          obtain rfl:l24=false:=by cases l24 with|false=>rfl|true=>simpa using hd24 rfl
          go_simp
          go_at_call 94
          refine(Zgy A1 S J HhJ.out _ _ _ (by omega) (by omega) (HC1.out _ (HS.out.know 3 rfl).1).2 (HS.out.mkQ 4 rfl (HC0.out _ (HS.out.know 3 rfl).1).2)).mono ?_;rintro e u1 ⟨a8,d8,F8,rfl,hS8⟩;have hS2:=(HS.out.cat hS8).pick [0,1,2,3,4,7,6] (by decide);have HhS2:=qh hS2;clear hS2;go_simp;exact hK _ _ ⟨_,_,_,_,_,_,_,_,_,_,_,_,_,_,_,_,_,_,_,_,_,_,_,_,_,gS,dS,FS,a8,d8,F8,gW,dW,FW,rfl,by simp,by simp,by simp,(by simp),HhS2.out⟩
         ·subst hun;go_simp;exact hK _ _ ⟨_,_,_,_,_,_,_,_,_,_,_,_,_,_,_,_,_,_,_,_,_,_,_,_,_,gS,dS,FS,gJ,dJ,FJ,gW,dW,FW,rfl,hd15,hd23,hd24,(by simp),HS.out⟩
         ·subst hun;go_simp;exact hK _ _ ⟨_,_,_,_,_,_,_,_,_,_,_,_,_,_,_,_,_,_,_,_,_,_,_,_,_,gS,dS,FS,gJ,dJ,FJ,gW,dW,FW,rfl,hd15,hd23,hd24,(by simp),HS.out⟩
         ·obtain⟨rfl,rfl⟩:=hall;subst hun;go_simp;exact hK _ _ ⟨_,_,_,_,_,_,_,_,_,_,_,_,_,_,_,_,_,_,_,_,_,_,_,_,_,gS,dS,FS,gJ,dJ,FJ,gW,dW,FW,rfl,hd15,hd23,hd24,(by simp),HS.out⟩
         ·obtain rfl:=hall;subst hun;have e0:=HRk.out _ (HS.out.know 3 rfl).1;go_simp;exact hK _ _ ⟨_,_,_,_,_,_,_,_,_,_,_,_,_,_,_,_,_,_,_,_,_,_,_,_,_,gS,dS,FS,gJ,dJ,FJ,gW,dW,FW,rfl,hd15,hd23,hd24,(by simp),HS.out⟩
         ·subst hun;go_simp;exact hK _ _ ⟨_,_,_,_,_,_,_,_,_,_,_,_,_,_,_,_,_,_,_,_,_,_,_,_,_,gS,dS,FS,gJ,dJ,FJ,gW,dW,FW,rfl,hd15,hd23,hd24,(by simp),HS.out⟩
         ·obtain⟨rfl,rfl⟩:=hall;subst hun;go_simp;exact hK _ _ ⟨_,_,_,_,_,_,_,_,_,_,_,_,_,_,_,_,_,_,_,_,_,_,_,_,_,gS,dS,FS,gJ,dJ,FJ,gW,dW,FW,rfl,hd15,hd23,hd24,(by simp),HS.out⟩
         ·obtain rfl:=hall;subst hun;have e0:=(HC2.out _ (HS.out.know 3 rfl).1).1;go_simp;exact hK _ _ ⟨_,_,_,_,_,_,_,_,_,_,_,_,_,_,_,_,_,_,_,_,_,_,_,_,_,gS,dS,FS,gJ,dJ,FJ,gW,dW,FW,rfl,hd15,hd23,hd24,(by simp),HS.out⟩
         ·obtain⟨rfl,rfl,-⟩:=hall;subst hun;obtain rfl:=hd15 rfl;obtain rfl:l24=false:=by cases l24 with|false=>rfl|true=>simpa using hd24 rfl
          go_simp
          go_at_call 94
          refine(Zgy J A2 W HhW.out _ _ _ (by omega) (by omega) (HS.out.mkQ 5 rfl ⟨(HC1.out _ (HS.out.know 3 rfl).1).2,(HS.out.mkQ 4 rfl (HC0.out _ (HS.out.know 3 rfl).1).2)⟩) (HC2.out _ (HS.out.know 3 rfl).1).2).mono ?_;rintro e u1 ⟨a8,d8,F8,rfl,hS8⟩;have hS2:=(HS.out.cat hS8).pick [0,1,2,3,4,5,7] (by decide);have HhS2:=qh hS2;clear hS2;go_simp;exact hK _ _ ⟨_,_,_,_,_,_,_,_,_,_,_,_,_,_,_,_,_,_,_,_,_,_,_,_,_,gS,dS,FS,gJ,dJ,FJ,a8,d8,F8,rfl,by simp,by simp,by simp,(by simp),HhS2.out⟩
         obtain⟨rfl,rfl,rfl,rfl,rfl,rfl,rfl,rfl,rfl,rfl,rfl,rfl,rfl,rfl,rfl,rfl,rfl,rfl,rfl,rfl,rfl,rfl,rfl,rfl,-⟩:=hall;subst hun;go_simp;exact hK _ _ ⟨_,_,_,_,_,_,_,_,_,_,_,_,_,_,_,_,_,_,_,_,_,_,_,_,_,gS,dS,FS,gJ,dJ,FJ,gW,dW,FW,rfl,by simp,by simp,by simp,(by simp),HS.out⟩
        ·rintro listed a w' ⟨l0,l1,l2,l3,l4,l5,l6,l7,l8,l9,l10,l11,l12,l13,l14,l15,l16,l17,l18,l19,l20,l21,l22,l23,l24,gS,dS,FS,gJ,dJ,FJ,gW,dW,FW,rfl,hd15,hd23,hd24,rfl,hS⟩ hr;obtain⟨rfl,rfl,rfl,rfl,rfl,rfl,rfl,rfl,rfl,rfl,rfl,rfl,rfl,rfl,rfl,rfl,rfl,rfl,rfl,rfl,rfl,rfl,rfl,rfl,rfl,-⟩:=zA (ZaK (by kernel_rfl) rfl hr) rfl;clear hr hd15 hd23 hd24;simp only[↓reduceIte] at hS ⊢;simp only[w_1,w_2,w_3];have hS5:=(hS.pick [0,1,2,3,4,5,6] (by decide)).knowAll (A:=[_,_,_]) (P:=fun u=>(BX u∧GrowP u i N j ws css cs (TT (k+1)))∧Pairs 0 u (.slice gW W.length dW) W) fun u h=>⟨(Zap h 0 rfl),Zb0 h 3 rfl ⟨Zb0 h 2 rfl ⟨(HC1.out u (Zap h 0 rfl).1).2,Zb0 h 1 rfl (HC0.out u (Zap h 0 rfl).1).2⟩,(HC2.out u (Zap h 0 rfl).1).2⟩⟩
         have HS5:=qh hS5;clear hS hS5 HS4;have q0:=HRi.out _ (HS5.out.know 3 rfl).1.1;have q1:=(HC3.out _ (HS5.out.know 3 rfl).1.1).1;go_wp2_with fail;refine(Zdd B W E HhE.out _ _ _ (by omega) (by omega) (HC3.out _ (HS5.out.know 3 rfl).1.1).2 (HS5.out.know 3 rfl).2).mono ?_;rintro e w6 ⟨gE,dE,FE,rfl,hS6⟩;have hS7:=(HS5.out.cat hS6).knowAll (A:=[_,_,_]) (P:=fun u=>(BX u∧GrowP u i N j ws css cs (TT (k+1)))∧Pairs 0 u (.slice gE E.length dE) E) fun u h=>⟨(Zap h 0 rfl).1,Zb0 h 1 rfl ⟨(HC3.out u (Zap h 0 rfl).1.1).2,(Zap h 0 rfl).2⟩⟩
         have HS7:=qh hS7;clear hS6 hS7 q0 q1 HS5;by_cases hWl:60<W.length
         ·have hWI:(60:Int)<(W.length:Int):=by omega
          have hbad:¬ kleP x:=fun hp=>by have h1:=(((hKP.out).1 hp).1 k hk i hi j hj).1;rw[← HhWe.out] at h1;omega
          have Hhbad:=qh hbad;clear hbad;go_wp2
          go_ret2
          exact⟨none,0,0,false,rfl,fun hp=>absurd hp Hhbad.out,fun _=>rfl,HS7.out.bel⟩
         have hWI:¬ (60:Int)<(W.length:Int):=by omega
         by_cases hEl:60<E.length
         ·have hEI:(60:Int)<(E.length:Int):=by omega
          have hbad:¬ kleP x:=fun hp=>by have h1:=(((hKP.out).1 hp).1 k hk i hi j hj).2;rw[HhEe.out] at h1;omega
          have Hhbad:=qh hbad;clear hbad;go_wp2
          go_ret2
          exact⟨none,0,0,false,rfl,fun hp=>absurd hp Hhbad.out,fun _=>rfl,HS7.out.bel⟩
         have hEI:¬ (60:Int)<(E.length:Int):=by omega
         have hgood:kleB x k i j:=⟨by rw[← HhWe.out];omega,by rw[HhEe.out];omega⟩;have Hhgood:=qh hgood;clear hgood;have l0:=HS7.out.rcell (v:=.slice ga j ca) 1 i rfl (by omega) Hzi.out;have HSa:=qh (HS7.out.alloc_ (.cells #[.slice gE E.length dE] 28));have HRw:=qh (HSa.out.row 2 rfl);go_wp2_with (at_builtin;refine wpList_append_lies _ rfl _ _ _ rfl _ 28 s0 (.slice none 0 0) 1 24 Tryz.underlying70 Hhs.out Hhsz0.out Hhsz1.out Hhsz2.out rfl (by omega) _ j _ rfl HRw.out ⟨w6.heap.size,0,none⟩ 1 1 [.slice gE E.length dE] rfl rfl (World.news_of_block (heap_alloc_new w6 _)) ZeQ (by omega) (by unfold maxLen;omega) (by omega) HSa.out.size _ rfl ?_;intro g6 c6 w6 hown6 hgrow6 hat6 hlt6;have HS6:=qh (HSa.out.app 2 rfl hown6 hgrow6 hat6);have f0:=HS6.out.rfr 1 i rfl;have k0:=HS6.out.rcell (v:=.slice ga j ca) 1 i rfl (by omega) Hzi.out;clear hown6 hgrow6 hat6);go_roundw
         case rel =>
          have h9:=((HS6.out.store 1 rfl i (.slice (some ⟨g6,0,none⟩) (j+1) c6)).pick [0,1,2,3] (by decide)).knowMore (P:=fun u=>BX u∧GrowP u i N (j+1) (ws.set i (.slice (some ⟨g6,0,none⟩) (j+1) c6)) css (cs++[.slice gE E.length dE]) (TT (k+1))) 3 rfl fun u h=>⟨h.1.1,h.1.2.more Hhcs.out (fun q hq=>ZgI (by omega)) (by rw[← HhEt.out];exact h.2)⟩
          refine⟨j+1,_,_,_,_,_,by go_num,by omega,by rw[List.length_set];exact Hhws.out,by rw[List.length_append,Hhcs.out];rfl,List.getElem?_set_self (by rw[Hhws.out];omega),fun q hq hqN => ?_,fun y hy => ?_,h9⟩
          ·rw[List.getElem?_set_ne (by omega)];exact Hhnl.out q hq hqN
          by_cases hyj:y=j
          ·rw[hyj];exact Hhgood.out
          exact Hhbb.out y (by omega)
         case measure=>simp[intOf];omega
        refine⟨false,false,false,false,false,false,false,false,false,false,false,false,false,false,false,false,false,false,false,false,false,false,false,false,false,none,0,Ent.nil,none,0,Ent.nil,none,0,Ent.nil,rfl,by simp,by simp,by simp,(by simp),?_⟩;exact HS4.out.drew.pick [0,1,2,3,4,5,6] (by decide)
       have hjI:¬ (j:Int)<(N:Int):=by omega
       have hjN2:N=j:=by omega
       subst hjN2;go_wp2;go_roundw
       case rel =>
        have h9:=HS4.out.knowAll (A:=[_,_]) (P:=fun u=>BX u∧TabI u (i+1) N ws (css++[cs]) (TT (k+1))) fun u h=>⟨(Zap h 1 rfl).1,(Zap h 1 rfl).2.done (ZbZ h 0 rfl) (by omega) Hhcss.out (by rw[List.getD_eq_getElem?_getD,Hzi.out];rfl)⟩
        refine⟨i+1,ws,css++[cs],_,by go_num,by omega,Hhws.out,by rw[List.length_append,Hhcss.out];rfl,Hhnl.out,fun q hq y hy => ?_,h9⟩;by_cases hqi:q=i
        ·rw[hqi];exact Hhbb.out y hy
        exact Hhbi.out q (by omega) y hy
       case measure=>simp[intOf];omega
     have hiI:¬ (i:Int)<(N:Int):=by omega
     have hiN2:N=i:=by omega
     subst hiN2;have h9:=HS2.out.knowAll (A:=[_]) (P:=fun u=>TabX u (.slice (some ⟨bn,0,none⟩) N N) N zs css (TT (k+1))) fun u h=>ZhP (ZbZ h 0 rfl) (by omega) (Zap h 1 rfl).2
     have HS4:=qh h9;clear h9;go_wp2;go_roundw
     case rel =>
      refine⟨k+1,bn,N,zs,css,_,by go_num,by omega,fun q hq a ha b hb => ?_,rfl,HS4.out⟩;by_cases hqk:q=k
      ·rw[hqk];exact Hhbi.out a ha b hb
      exact HhK.out q (by omega) a ha b hb
     case measure=>simp[intOf];omega
   have hkI:¬ (k:Int)<(N:Int):=by omega
   have hkN2:N=k:=by omega
   subst hkN2;go_wp2_with fail;refine(ZbL 1 _).mono ?_;rintro e w8 ⟨a8,c8,rfl,hS8⟩;have hS9:=(HS2.out.cat hS8).knowAll (A:=[_]) (P:=fun u=>BX u∧Pairs 0 u (.slice a8 1 c8) [(1,0)]) fun u h=>⟨Zap h 0 rfl,Zbp (xs:=[(1,0)]) (ZbZ h 1 rfl)⟩
   have HS9:=qh hS9;have e0:=HS9.out.cell (v:=.slice (some ⟨b2,o2,none⟩) N c2) 0 1 rfl rfl;clear hS8 hS9 HS2;go_wp2_with fail;clear e0
   go_loopw [14,118] (fun ev jv wr=>∃ (j c:Nat) (g:Option Addr) (F:Ent),jv = .int .i64 (j:Int)∧j≤N∧ev = .slice g (kleE x j).post.length c∧St w wr [BxD w.heap.size b1 o1 N c1 b2 o2 c2,Ent.know F (fun u=>BX u∧Pairs 0 u (.slice g (kleE x j).post.length c) (kleE x j).post)]) (fun _ jv _=>N-(intOf jv).toNat)
   case atStart=>exact⟨0,c8,a8,_,rfl,Nat.zero_le _,rfl,HS9.out⟩
   case round =>
    obtain⟨j,c,g,F,rfl,hjN,rfl,hS⟩:=hrel;have HS4:=qh hS;clear hS HS9;have hl:=HkE.out j HhK.out hN0 (by omega);by_cases hj:j<N
    ·have hjI:(j:Int)<(N:Int):=by omega
     have hN0I:(0:Int)<(N:Int):=by omega
     have hwj:IntKind.i64.wrap ((j:Int)+1)=(j:Int)+1:=IntWalk.i64_in _ (by omega);obtain⟨z,hz⟩:=eJ (enD x j);have r0:=(bcell HS4.out.bel b2 _ hb2).trans (Hend.out j hj);rw[hz] at r0;cases z with
     | false =>
      as_aux_lemma =>
      have hst:=Zjh hz;have Hhst:=qh hst;clear hst;have Hhz:=qh hz;clear hz;go_wp2_with fail;go_roundw
      case rel =>have h9:=HS4.out;rw[← Hhst.out] at h9;exact⟨j+1,c,g,F,by go_num,by omega,by rw[Hhst.out],h9⟩
      case measure=>simp[intOf];omega
     | true =>
      as_aux_lemma =>
      have hst:=Zjg HhN.out hz;have hX:=HTX.out _ (HS4.out.know 1 rfl).1;obtain⟨ri,ci,hri⟩:=hX.rowf hN0;obtain⟨g3,d3,hg3⟩:=hX.cellf hN0 hj;have hRi:=fun u h=>(HTX.out u h).row hN0 hri
      have hC3:=fun u h=>(HTX.out u h).cell hN0 hj hri hg3
      have hB:=ZbN HhK.out hN0 hj;have hTk:∀ a b,TT N a b=(kleT x N a b).post:=fun a b=>by rw[HhTT.out]
      simp only[hTk] at hC3;obtain⟨B,hBe⟩:∃ l,(kleT x N 0 j).post=l:=⟨_,rfl⟩;obtain⟨D,hD⟩:∃ l,(kleE x j).post=l:=⟨_,rfl⟩;obtain⟨E,hE⟩:∃ l,(kleE x (j+1)).post=l:=⟨_,rfl⟩;rw[hBe] at hC3 hB hst;rw[hD] at hl HS4 hst ⊢;rw[hE] at hst;have HRi:=qh hRi;have HC3:=qh hC3;have Hhst:=qh hst;clear hst;have Hhz:=qh hz;clear hz;have HhE:=qh hE;clear hE;replace hD:=qh hD;clear hX hRi hC3 hri hg3 hTk hBe;have q0:=HRi.out _ (HS4.out.know 1 rfl).1;have q1:=(HC3.out _ (HS4.out.know 1 rfl).1).1;go_wp2_with fail;refine(Zdd D B E Hhst.out _ _ _ (by omega) (by omega) (HS4.out.know 1 rfl).2 (HC3.out _ (HS4.out.know 1 rfl).1).2).mono ?_;rintro e w6 ⟨gE,dE,FE,rfl,hS6⟩;have hS7:=(HS4.out.cat hS6).knowAll (A:=[_]) (P:=fun u=>BX u∧Pairs 0 u (.slice gE E.length dE) E) fun u h=>⟨(Zap h 0 rfl).1,Zb0 h 1 rfl ⟨(Zap h 0 rfl).2,(HC3.out u (Zap h 0 rfl).1).2⟩⟩
      have HS7:=qh hS7;clear hS6 hS7 q0 q1 r0;go_wp2_with fail;go_roundw
      case rel =>have h9:=HS7.out;rw[← HhE.out] at h9;exact⟨j+1,dE,gE,_,by go_num,by omega,by rw[HhE.out],h9⟩
      case measure=>simp[intOf];omega
    have hjI:¬ (j:Int)<(N:Int):=by omega
    have hjN2:N=j:=by omega
    subst hjN2;have hpos:=Zao (kleE x N);obtain⟨D,hD⟩:∃ l,(kleE x N).post=l:=⟨_,rfl⟩;rw[hD] at hl HS4 hpos ⊢;have hkp:=hKP.out;have hen:=hEN.out;rw[hD] at hkp hen;have HP:=qh (HS4.out.know 1 rfl).2;by_cases h60:D.length≤60
    ·have h60I:(D.length:Int)≤60:=by omega
     have hp:kleP x:=hkp.2 ⟨HhK.out,h60⟩;have Hhp:=qh hp;clear hp;have Hhen:=qh hen;clear hen;clear hkp;go_wp2_with fail;refine(ZhG D hpos _ _ (by omega) HP.out).mono ?_;rintro e w9 ⟨a9,c9,rfl,hS9⟩;have HS9:=qh (HS4.out.cat hS9);clear hS9;go_wp2
     go_ret2
     exact⟨a9,_,c9,true,rfl,fun _=>⟨rfl,by rw[Hhen.out],by rw[Hhen.out];exact Zbp (Za4 (HS9.out.row 2 rfl) (Nat.zero_le _))⟩,fun hn=>absurd Hhp.out hn,HS9.out.bel⟩
    have h60I:¬ (D.length:Int)≤60:=by omega
    have hp:¬ kleP x:=fun h=>h60 (hkp.1 h).2
    have Hhp:=qh hp;clear hp;have Hhen:=qh hen;clear hen;clear hkp;go_wp2_with fail;refine(ZhG D hpos _ _ (by omega) HP.out).mono ?_;rintro e w9 ⟨a9,c9,rfl,hS9⟩;have HS9:=qh (HS4.out.cat hS9);clear hS9;go_wp2
    go_ret2
    exact⟨a9,_,c9,decide ((D.length:Int)≤60),rfl,fun hn=>absurd hn Hhp.out,fun _=>decide_eq_false (by omega),HS9.out.bel⟩
end Go.Proofs.YtncekbbhgipdlaaGreat
