/-
  The walk over the program's direct: the letters from a state to another one.
  Conditions: the automaton is valid and reads as such; both states are below its number of states.
-/
import Derived.Test.YtehmjmjedopkkaaGreatPn45Drw
set_option maxHeartbeats 16000000
set_option maxRecDepth 100000
namespace Go.Proofs.YtehmjmjedopkkaaGreat
open Go.RowKit
theorem Zbh {u:World} {e:Nat} {v:Value} {xs:List (Int × Int)} (hr:u.ownsRow 0 e 2 v xs.length (xs.flatMap Zab)):Pairs 0 u v xs:=((Zaa hr).sl (by omega)).mono (Nat.zero_le _)
theorem ZiY {x:DfaD} {i j c:Nat} (h:nxD x i c=j):mkL 5 0 (dirC x i j c).post (Ex.ltr (Fin.ofNat 3 c)).post=(dirC x i j (c+1)).post:=by rw[ZfO,dirC,if_pos h]
theorem ZiZ {x:DfaD} {i j c:Nat} (h:nxD x i c≠j):dirC x i j (c+1)=dirC x i j c:=by rw[dirC,if_neg h]
theorem Zkj {c:Nat} (hc:c<3):(Ex.ltr (Fin.ofNat 3 c)).post=[(3,(c:Int))]:=by show [(3,(((Fin.ofNat 3 c).val:Nat):Int))]=_;rw[show(Fin.ofNat 3 c).val=c from Nat.mod_eq_of_lt (by omega)]
theorem Zlu (x:DfaD) (i j:Nat) (v:Value) (w:World) (hd:Zaf x.next x.ends=true) (hi:i<x.next.length) (_:j<x.next.length) (h:DfaR 0 w v x) :
  Calls Tryz.prog 84 #[v,.int .i64 (i:Int),.int .i64 (j:Int)] w fun e w'=>RQm (fun _=>True) (dirE x i j).post w e w':=by
 obtain⟨v1,v2,rfl,g1,g2⟩:=h;have hf:=Zaw hd;obtain⟨b1,o1,c1,rfl,hc1,hc2,hb1,hrow⟩:=ZhY g1 hd;obtain⟨q,t0,s0,hq,hs1,hs2,hqb,hcs⟩:=hrow i hi;have hCl:=fun c=>Zfm x i j c
 have hn40:x.next.length≤40:=by have:=Zad hd;omega
 obtain⟨N,hN⟩:=eI (x.next.length);rw[← hN] at hc1 hi hn40;rw[← hN];have HS:=qh ((St.start w).alloc _ rfl #[.slice (some ⟨b1,o1,none⟩) N c1,v2] 32);have e0:=HS.out.cell (v:=.slice (some ⟨b1,o1,none⟩) N c1) 0 0 rfl rfl;have Hcs:=qh hcs;have HCl:=qh hCl;have Hq:=qh hq;have hiI:(i:Int)<(N:Int):=by omega
 obtain⟨G,hG⟩:∃ M,(dirE x i j).post=M:=⟨_,rfl⟩;rw[hG];have HhG:=qh hG;clear hG;replace hN:=qh hN;have Hhd:=qh hd;clear hd;clear g1 g2 hrow hcs hCl hf hq
 go_enter Tryz.func84, Tryz.ntmps84
 go_wp2_with fail;refine(Zc3 1 _).mono ?_;rintro e w2 ⟨a2,c2,rfl,hS2⟩;have HS2:Hid (St w w2 [Ent.box w.heap.size #[.slice (some ⟨b1,o1,none⟩) N c1,v2] 32,Ent.row 55 2 (.slice a2 1 c2) 1 [.int .i64 1,.int .i64 0]]):=qh (HS.out.cat hS2);have HS3:=qh (HS2.out.knowAll (A:=[Ent.box w.heap.size #[.slice (some ⟨b1,o1,none⟩) N c1,v2] 32]) (P:=fun u=>Pairs 0 u (.slice a2 1 c2) [(1,0)]) fun u h=>Zbh (xs:=[(1,0)]) (ZbO h 0 rfl));clear hS2 HS2 e0;have e0:=HS3.out.cell (v:=.slice (some ⟨b1,o1,none⟩) N c1) 0 0 rfl rfl;have e1:=(bcell HS3.out.bel b1 _ hb1).trans Hq.out;go_wp2_with fail;clear e0 e1
 go_loopw [7,17] (fun ev cv wr=>∃ (c k:Nat) (g:Option Addr) (F:Ent),cv = .int .i64 (c:Int)∧c≤3∧ev = .slice g (dirC x i j c).post.length k∧St w wr [Ent.box w.heap.size #[.slice (some ⟨b1,o1,none⟩) N c1,v2] 32,Ent.know F (fun u=>Pairs 0 u (.slice g (dirC x i j c).post.length k) (dirC x i j c).post)]) (fun _ cv _=>3-(intOf cv).toNat)
 case atStart=>exact⟨0,c2,a2,_,rfl,by omega,rfl,HS3.out⟩
 case round =>
  obtain⟨c,k,g,F,rfl,hc,rfl,hS⟩:=hrel;have HS4:=qh hS;clear hS HS3;have hP:=HS4.out.know 1 rfl;have hl:=HCl.out c;by_cases hc3:c<3
  ·have hcI:(c:Int)<3:=by omega
   have hwc:IntKind.i64.wrap ((c:Int)+1)=(c:Int)+1:=IntWalk.i64_in _ (by omega);have hwt:t0+c=t0+c:=rfl;have r0:=(bcell HS4.out.bel q _ hqb).trans (Hcs.out c hc3);by_cases hz:nxD x i c=j
   ·as_aux_lemma =>
    have hst:=ZiY hz;rw[Zkj hc3] at hst;obtain⟨E,hE⟩:=eI ((dirC x i j c).post);obtain⟨G,hG⟩:=eI ((dirC x i j (c+1)).post);rw[← hE,← hG] at hst;rw[← hE] at hl hP HS4;rw[← hE];rw[hz] at r0;have HS5:=qh ((HS4.out.alloc wr.heap.size rfl #[.int .i64 3,.int .i64 (c:Int)] 55).boxrow 2 1 2 [.int .i64 3,.int .i64 (c:Int)] rfl rfl (by unfold maxLen;omega));have HX:=qh (HS5.out.know 1 rfl);have HY:=qh (Zbh (xs:=[(3,(c:Int))]) (ZaX (HS5.out.row 2 rfl) (Nat.zero_le _)));have Hhst:=qh hst;clear hst;replace hE:=qh hE;have HhG:=qh hG;clear hG;have Hhz:=qh hz;clear hz;clear hP;go_wp2_with fail;refine(Zc4 E [(3,(c:Int))] G Hhst.out _ _ _ (by omega) (by simp) HX.out HY.out).mono ?_;rintro e w6 ⟨g6,k6,F6,rfl,hS6⟩;have hS7:=(HS5.out.cat hS6).knowAll (A:=[Ent.box w.heap.size #[.slice (some ⟨b1,o1,none⟩) N c1,v2] 32]) (P:=fun u=>Pairs 0 u (.slice g6 G.length k6) G) fun u h=>Zen h 2 rfl ⟨Zas h 0 rfl,Zbh (xs:=[(3,(c:Int))]) (ZbO h 1 rfl)⟩
    have HS7:=qh hS7;clear hS6 hS7;go_wp2_with fail;go_roundw
    case rel =>have h9:=HS7.out;rw[HhG.out] at h9;exact⟨c+1,k6,g6,_,by go_num,by omega,by rw[HhG.out],h9⟩
    case measure=>simp[intOf];omega
   as_aux_lemma =>
   have hzI:¬ ((nxD x i c:Nat):Int)=(j:Int):=by omega
   have hst:=ZiZ hz;have Hhst:=qh hst;clear hst;have Hhz:=qh hz;clear hz;clear hP;go_wp2_with fail;go_roundw
   case rel =>
    refine⟨c+1,k,g,F,by go_num,by omega,?_,?_⟩
    ·rw[Hhst.out]
    rw[Hhst.out];exact HS4.out
   case measure=>simp[intOf];omega
  have hcI:¬ (c:Int)<3:=by omega
  have hc9:c=3:=by omega
  subst hc9;by_cases hij:i=j
  ·as_aux_lemma =>
   have hst:mkL 5 0 (dirC x i j 3).post Ex.one.post=G:=by rw[← HhG.out,ZfO,dirE,if_pos hij]
   obtain⟨E,hE⟩:=eI ((dirC x i j 3).post);rw[← hE] at hst;rw[← hE] at hl hP HS4;rw[← hE];have hijI:(i:Int)=(j:Int):=by omega
   have Hhst:=qh hst;clear hst;replace hE:=qh hE;clear hP;go_wp2_with fail;refine(Zc3 2 _).mono ?_;rintro e w5 ⟨a5,c5,rfl,hS5⟩;have HS5:Hid (St w w5 [Ent.box w.heap.size #[.slice (some ⟨b1,o1,none⟩) N c1,v2] 32,Ent.know F (fun u=>Pairs 0 u (.slice g E.length k) E),Ent.row 55 2 (.slice a5 1 c5) 1 [.int .i64 2,.int .i64 0]]):=qh (HS4.out.cat hS5);have HX:=qh (HS5.out.know 1 rfl);have HY:=qh (Zbh (xs:=[(2,0)]) (ZaX (HS5.out.row 2 rfl) (Nat.zero_le _)));clear hS5;go_wp2_with fail;refine(Zc4 E [(2,0)] G Hhst.out _ _ _ (by omega) (by simp) HX.out HY.out).mono ?_;rintro e w6 ⟨g6,k6,F6,rfl,hS6⟩;have HS6:=qh ((HS5.out.cat hS6).pick [1,2,3] (by decide));clear hS6;go_wp2_with fail;go_ret;exact Zjr HS6.out fun u _ h=>Zen h 2 rfl ⟨Zas h 0 rfl,Zbh (xs:=[(2,0)]) (ZbO h 1 rfl)⟩
  as_aux_lemma =>
  have hst:(dirC x i j 3).post=G:=by rw[← HhG.out,dirE,if_neg hij]
  have hijI:¬ (i:Int)=(j:Int):=by omega
  rw[hst] at hl HS4 ⊢;have Hhst:=qh hst;clear hst;clear hP;go_wp2_with fail;go_ret;exact Zjr (HS4.out.pick [1] (by decide)) fun u _ h=>Zas h 0 rfl
theorem Zg6 (xs:List (Int × Int)) (hp:1≤xs.length) (v:Value) (w:World) (hl:xs.length≤1000000) (h:Pairs 0 w v xs) :
  Calls Tryz.prog 28 #[v] w fun e w'=>RPo xs w e w':=by
 have hx:=h;obtain⟨a,cap,rfl,hc1,hc2,hr⟩:=h.form;obtain⟨b,off,rfl,-⟩:=hr (by omega);obtain⟨i0,hi,hz0,hz1,hz2⟩:=info_parts Tryz.infoPart;have HS0:=qh (((St.start w).alloc _ rfl #[] 55).boxrow 0 0 2 [] rfl rfl (Nat.zero_le _));have HX:=qh (hx.below HS0.out.bel);have qT:=fun (w':World)=>Lib.run_eql_slice_nil (P:=Tryz.prog) w' 23 55 (some ⟨b,off,none⟩) xs.length cap 0 0 Tryz.underlying23
 simp only[Option.isNone] at qT;replace hi:=qh hi;have Hhz0:=qh hz0;clear hz0;have Hhz1:=qh hz1;clear hz1;have Hhz2:=qh hz2;clear hz2;clear hr hx h
 go_enter Tryz.func28, Tryz.ntmps28
 go_wp2_with (at_builtin;refine Zaj _ rfl _ _ _ rfl _ 55 i0 (.agg #[.int .i64 0,.int .i64 0]) 2 16 Tryz.underlying23 hi.out Hhz0.out Hhz1.out Hhz2.out rfl (by omega) _ 0 _ rfl (HS0.out.row 0 rfl) _ xs.length (xs.flatMap Zab) rfl HX.out ZcE (by unfold maxLen;omega) (by omega) HS0.out.size ?_;intro a6 c6 w6 hown6 hgrow6 hat6;have hS6:=HS0.out.appS 0 rfl hown6 hgrow6 hat6;simp only[Nat.zero_add,List.nil_append] at hS6;(try simp only[Nat.zero_add]);have HS6:=qh hS6;clear hown6 hgrow6 hat6 hS6);go_ret;exact⟨a6,c6,rfl,HS6.out⟩
end Go.Proofs.YtehmjmjedopkkaaGreat
