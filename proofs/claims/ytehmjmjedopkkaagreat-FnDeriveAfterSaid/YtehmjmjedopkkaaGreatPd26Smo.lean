/-
  The walk over the program's derived, by the tree.
  Condition: the expression reads as such.
-/
import Derived.Test.YtehmjmjedopkkaaGreatPd24Hew
import Derived.Test.YtehmjmjedopkkaaGreatPd25Smp2
set_option maxHeartbeats 16000000
set_option maxRecDepth 100000
namespace Go.Proofs.YtehmjmjedopkkaaGreat
open Go.RowKit
def DrvC (lt:Nat) (t:Ex):Prop:=∀ (v:Value) (w:World),Pairs 0 w v t.post→Calls Tryz.prog 61 #[v,.int .i64 (lt:Int)] w fun e w'=>RQm (fun u=>Pairs 0 u v t.post) (drvE lt t).post w e w'
theorem Zhj {X:World→Prop} {k:Int} {a:Option Addr} {c:Nat} {w w':World} (hS:St w w' [Ent.row 55 2 (.slice a 1 c) 1 ([(k,0)].flatMap Zaa)]):RQm X [(k,0)] w (.returned (.slice a 1 c)) w' :=
 ⟨a,c,_,rfl,hS.same 0 rfl (Ent.mkQ X (Ent.row 55 2 (.slice a 1 c) 1 ([(k,0)].flatMap Zaa)) _ [(k,0)]) (fun h=>⟨h,fun _ _ h2=>Zad (xs:=[(k,0)]) h2⟩) fun _ hj=>hj⟩
theorem ZnL (lt:Nat) :DrvC lt (Ex.zero):=by
 intro v w h;have h60:(Ex.zero).post.length≤60:=by show 1≤60;decide
 have HO:=qh (fun (u:World) (hb:Below w.heap.size w u)=>Zbd (Ex.zero) 1 0 rfl Zb5 v u (h.below hb));have Hh:=qh h;have hP:=h;rw[show(Ex.zero).post=(([]:List (Int × Int)))++[(1,0)] from rfl] at hP;obtain⟨bb,off,cap,rfl,hc1,hc2,hbl,hcell⟩:=Za7 hP;obtain⟨m,hm⟩:=eI ((([]:List (Int × Int))).length);rw[← hm] at hc1 hcell Hh HO;rw[← hm];have hmI:m≤59:=by rw[hm];simp[Ex.post] at h60 ⊢
 obtain⟨k1,k2⟩:=hcell w (Below.refl _ _);have hw1:IntKind.i64.wrap ((m:Int)+1-1)=(m:Int):=by rw[IntWalk.i64_in _ (by omega)];omega
 have HS0:=qh ((St.start w).alloc w.heap.size rfl #[.int .i64 1,.int .i64 0] 55);replace hm:=qh hm;clear h hP hcell
 go_enter Tryz.func61, Tryz.ntmps61
 go_wp2_with fail;refine(HO.out _ HS0.out.bel).mono ?_;rintro e w2 ⟨rfl,hb2⟩;have HS2:=qh (HS0.out.call hb2);have e0:=HS2.out.cell (v:=.int .i64 1) 0 0 rfl rfl;have e1:=HS2.out.cell (v:=.int .i64 0) 0 1 rfl rfl;clear hb2;go_wp2_with fail;refine(ZbR 1 _).mono ?_;rintro e w8 ⟨a8,c8,rfl,hS8⟩;have HS8:=qh ((HS2.out.cat hS8).pick [1] (by decide));clear hS8;go_wp2;go_ret;exact Zhj HS8.out
theorem ZoQ (lt:Nat) :DrvC lt (Ex.one):=by
 intro v w h;have h60:(Ex.one).post.length≤60:=by show 1≤60;decide
 have HO:=qh (fun (u:World) (hb:Below w.heap.size w u)=>Zbd (Ex.one) 2 0 rfl Zb4 v u (h.below hb));have Hh:=qh h;have hP:=h;rw[show(Ex.one).post=(([]:List (Int × Int)))++[(2,0)] from rfl] at hP;obtain⟨bb,off,cap,rfl,hc1,hc2,hbl,hcell⟩:=Za7 hP;obtain⟨m,hm⟩:=eI ((([]:List (Int × Int))).length);rw[← hm] at hc1 hcell Hh HO;rw[← hm];have hmI:m≤59:=by rw[hm];simp[Ex.post] at h60 ⊢
 obtain⟨k1,k2⟩:=hcell w (Below.refl _ _);have hw1:IntKind.i64.wrap ((m:Int)+1-1)=(m:Int):=by rw[IntWalk.i64_in _ (by omega)];omega
 have HS0:=qh ((St.start w).alloc w.heap.size rfl #[.int .i64 2,.int .i64 0] 55);replace hm:=qh hm;clear h hP hcell
 go_enter Tryz.func61, Tryz.ntmps61
 go_wp2_with fail;refine(HO.out _ HS0.out.bel).mono ?_;rintro e w2 ⟨rfl,hb2⟩;have HS2:=qh (HS0.out.call hb2);have e0:=HS2.out.cell (v:=.int .i64 2) 0 0 rfl rfl;have e1:=HS2.out.cell (v:=.int .i64 0) 0 1 rfl rfl;clear hb2;go_wp2_with fail;refine(ZbR 1 _).mono ?_;rintro e w8 ⟨a8,c8,rfl,hS8⟩;have HS8:=qh ((HS2.out.cat hS8).pick [1] (by decide));clear hS8;go_wp2;go_ret;exact Zhj HS8.out
theorem ZoS (lt:Nat) (ch:Fin 3) :DrvC lt (Ex.ltr ch):=by
 intro v w h;have h60:(Ex.ltr ch).post.length≤60:=by show 1≤60;decide
 have HO:=qh (fun (u:World) (hb:Below w.heap.size w u)=>Zbd (Ex.ltr ch) 3 (ch.val:Int) rfl (ZbN ch) v u (h.below hb));have Hh:=qh h;have hP:=h;rw[show(Ex.ltr ch).post=(([]:List (Int × Int)))++[(3,(ch.val:Int))] from rfl] at hP;obtain⟨bb,off,cap,rfl,hc1,hc2,hbl,hcell⟩:=Za7 hP;obtain⟨m,hm⟩:=eI ((([]:List (Int × Int))).length);rw[← hm] at hc1 hcell Hh HO;rw[← hm];have hmI:m≤59:=by rw[hm];simp[Ex.post] at h60 ⊢
 obtain⟨k1,k2⟩:=hcell w (Below.refl _ _);have hw1:IntKind.i64.wrap ((m:Int)+1-1)=(m:Int):=by rw[IntWalk.i64_in _ (by omega)];omega
 have HS0:=qh ((St.start w).alloc w.heap.size rfl #[.int .i64 3,.int .i64 (ch.val:Int)] 55);replace hm:=qh hm;clear h hP hcell
 go_enter Tryz.func61, Tryz.ntmps61
 go_wp2_with fail;refine(HO.out _ HS0.out.bel).mono ?_;rintro e w2 ⟨rfl,hb2⟩;have HS2:=qh (HS0.out.call hb2);have e0:=HS2.out.cell (v:=.int .i64 3) 0 0 rfl rfl;have e1:=HS2.out.cell (v:=.int .i64 (ch.val:Int)) 0 1 rfl rfl;clear hb2;by_cases hc:ch.val=lt
 ·have hf:drvE lt (Ex.ltr ch) = .one:=by rw[show drvE lt (.ltr ch)=(if ch.val=lt then .one else .zero) from rfl,if_pos hc]
  subst hc;replace hf:=qh hf;go_wp2_with fail;refine(ZbR 2 _).mono ?_;rintro e w8 ⟨a8,c8,rfl,hS8⟩;have HS8:=qh ((HS2.out.cat hS8).pick [1] (by decide));clear hS8;go_wp2;go_ret;rw[hf.out];exact Zhj HS8.out
 have hf:drvE lt (Ex.ltr ch) = .zero:=by rw[show drvE lt (.ltr ch)=(if ch.val=lt then .one else .zero) from rfl,if_neg hc]
 obtain⟨q1,q2,q3,q4⟩:=Zaj (show ¬ ((ch.val:Int)=(lt:Int)) by omega);replace hf:=qh hf;clear hc;go_wp2_with fail;refine(ZbR 1 _).mono ?_;rintro e w8 ⟨a8,c8,rfl,hS8⟩;have HS8:=qh ((HS2.out.cat hS8).pick [1] (by decide));clear hS8;go_wp2;go_ret;rw[hf.out];exact Zhj HS8.out
theorem ZnM (lt:Nat) (ta:Ex) (h60:(Ex.star ta).post.length≤60) (hta:DrvC lt ta):DrvC lt (Ex.star ta):=by
 intro v w h;have HO:=qh (fun (u:World) (hb:Below w.heap.size w u)=>ZbP ta (Ex.star ta) 8 0 rfl ZcV v u h60 (h.below hb));have Hh:=qh h;have hP:=h;rw[show(Ex.star ta).post=(ta.post)++[(8,0)] from rfl] at hP;obtain⟨bb,off,cap,rfl,hc1,hc2,hbl,hcell⟩:=Za7 hP;obtain⟨m,hm⟩:=eI ((ta.post).length);rw[← hm] at hc1 hcell Hh HO;rw[← hm];have hmI:m≤59:=by rw[hm];simp[Ex.post] at h60 ⊢;omega
 obtain⟨k1,k2⟩:=hcell w (Below.refl _ _);have hw1:IntKind.i64.wrap ((m:Int)+1-1)=(m:Int):=by rw[IntWalk.i64_in _ (by omega)];omega
 have HS0:=qh ((St.start w).alloc w.heap.size rfl #[.int .i64 8,.int .i64 0] 55);replace hm:=qh hm;clear h hP hcell;obtain⟨PA,hPA⟩:∃ l,(drvE lt ta).post=l:=⟨_,rfl⟩;have HTA:=qh (show ∀ (v:Value) (w:World),Pairs 0 w v ta.post→Calls Tryz.prog 61 #[v,.int .i64 (lt:Int)] w fun e w'=>RQm (fun u=>Pairs 0 u v ta.post) PA w e w' from fun v w hp=>by have h9:=hta v w hp;rw[hPA] at h9;exact h9);obtain⟨PB,hPB⟩:∃ l,(simE (.star ta)).post=l:=⟨_,rfl⟩;have HTB:=qh (show ∀ (v:Value) (w:World),Pairs 0 w v (Ex.star ta).post→Calls Tryz.prog 97 #[v] w fun e w'=>RQm (fun u=>Pairs 0 u v (Ex.star ta).post) PB w e w' from fun v w hp=>by have h9:=ZjJ (.star ta) h60 v w hp;rw[hPB] at h9;exact h9);obtain⟨M,hM⟩:∃ l,(drvE lt (Ex.star ta)).post=l:=⟨_,rfl⟩;have hk:mkL 4 0 PA PB=M:=by rw[← hPA,← hPB,← hM];exact Zdx _ _
 have hl1:=Zaz lt (t:=ta) (by simp[Ex.post] at h60;omega);have hl2:=Nat.le_trans (Zax (.star ta)) h60;rw[hPA] at hl1;rw[hPB] at hl2;rw[hM];replace hPA:=qh hPA;have HhPB:=qh hPB;clear hPB;replace hM:=qh hM;have Hhk:=qh hk;clear hk;clear hta
 go_enter Tryz.func61, Tryz.ntmps61
 go_wp2_with fail;refine(HO.out _ HS0.out.bel).mono ?_;rintro e w2 ⟨g,va,rfl,hS,hv⟩;have HV:=qh hv;have HPa:=qh (hv _ Hh.out);have HS2:=qh (HS0.out.cat hS);have e0:=HS2.out.cell (v:=.int .i64 8) 0 0 rfl rfl;have e1:=HS2.out.cell (v:=.int .i64 0) 0 1 rfl rfl;have r0:=HS2.out.rcell (v:=va) 1 0 rfl (by omega) rfl;clear hS hv;go_wp2_with fail;refine(HTA.out _ _ (HPa.out.below HS2.out.bel)).mono ?_;rintro e w3 ⟨g3,c3,F3,rfl,hS3⟩;have HS3:=qh (HS2.out.cat hS3);clear hS3;go_wp2_with fail;refine(HTB.out _ _ (Hh.out.below HS3.out.bel)).mono ?_;rintro e w4 ⟨g4,c4,F4,rfl,hS4⟩;have HS4:=qh (HS3.out.cat hS4);clear hS4;go_wp2_with fail;refine(Zf3 PA PB M Hhk.out _ _ _ (by omega) (by omega) (HS4.out.mkQ 2 rfl (HPa.out.below HS4.out.bel)) (HS4.out.mkQ 3 rfl (Hh.out.below HS4.out.bel))).mono ?_;rintro e w5 ⟨g5,c5,F5,rfl,hS5⟩;have HS5:=qh ((HS4.out.cat hS5).pick [2,3,4] (by decide));clear hS5;go_wp2;go_ret;exact Zcj HS5.out fun u hx ha=>Zbk ha 2 rfl ⟨Zbk ha 0 rfl (HV.out u hx),Zbk ha 1 rfl hx⟩
theorem ZoR (lt:Nat) (ta:Ex) (h60:(Ex.neg ta).post.length≤60) (hta:DrvC lt ta):DrvC lt (Ex.neg ta):=by
 intro v w h;have HO:=qh (fun (u:World) (hb:Below w.heap.size w u)=>ZbP ta (Ex.neg ta) 7 0 rfl ZdZ v u h60 (h.below hb));have Hh:=qh h;have hP:=h;rw[show(Ex.neg ta).post=(ta.post)++[(7,0)] from rfl] at hP;obtain⟨bb,off,cap,rfl,hc1,hc2,hbl,hcell⟩:=Za7 hP;obtain⟨m,hm⟩:=eI ((ta.post).length);rw[← hm] at hc1 hcell Hh HO;rw[← hm];have hmI:m≤59:=by rw[hm];simp[Ex.post] at h60 ⊢;omega
 obtain⟨k1,k2⟩:=hcell w (Below.refl _ _);have hw1:IntKind.i64.wrap ((m:Int)+1-1)=(m:Int):=by rw[IntWalk.i64_in _ (by omega)];omega
 have HS0:=qh ((St.start w).alloc w.heap.size rfl #[.int .i64 7,.int .i64 0] 55);replace hm:=qh hm;clear h hP hcell;obtain⟨PA,hPA⟩:∃ l,(drvE lt ta).post=l:=⟨_,rfl⟩;have HTA:=qh (show ∀ (v:Value) (w:World),Pairs 0 w v ta.post→Calls Tryz.prog 61 #[v,.int .i64 (lt:Int)] w fun e w'=>RQm (fun u=>Pairs 0 u v ta.post) PA w e w' from fun v w hp=>by have h9:=hta v w hp;rw[hPA] at h9;exact h9);obtain⟨M,hM⟩:∃ l,(drvE lt (Ex.neg ta)).post=l:=⟨_,rfl⟩;have hk:mkL 7 0 PA []=M:=by rw[← hPA,← hM];exact Zhz _
 have hl1:=Zaz lt (t:=ta) (by simp[Ex.post] at h60;omega);have hl3:=Zap (drvE lt ta);rw[hPA] at hl1 hl3;rw[hM];replace hPA:=qh hPA;replace hM:=qh hM;have Hhk:=qh hk;clear hk;clear hta
 go_enter Tryz.func61, Tryz.ntmps61
 go_wp2_with fail;refine(HO.out _ HS0.out.bel).mono ?_;rintro e w2 ⟨g,va,rfl,hS,hv⟩;have HV:=qh hv;have HPa:=qh (hv _ Hh.out);have HS2:=qh (HS0.out.cat hS);have e0:=HS2.out.cell (v:=.int .i64 7) 0 0 rfl rfl;have e1:=HS2.out.cell (v:=.int .i64 0) 0 1 rfl rfl;have r0:=HS2.out.rcell (v:=va) 1 0 rfl (by omega) rfl;clear hS hv;go_wp2_with fail;refine(HTA.out _ _ (HPa.out.below HS2.out.bel)).mono ?_;rintro e w3 ⟨g3,c3,F3,rfl,hS3⟩;have HS3:=qh (HS2.out.cat hS3);have HPb:=qh (HS3.out.mkQ 2 rfl (HPa.out.below HS3.out.bel));clear hS3;go_wp2_with fail;refine(ZjU PA M Hhk.out _ _ (by omega) (by omega) HPb.out).mono ?_;rintro e w4 ⟨g4,c4,F4,rfl,hS4⟩;have HS4:=qh ((HS3.out.cat hS4).pick [2,3] (by decide));clear hS4;go_wp2;go_ret;exact Zcj HS4.out fun u hx ha=>Zbk ha 1 rfl (Zbk ha 0 rfl (HV.out u hx))
theorem ZoT (lt:Nat) (ta tb:Ex) (h60:(Ex.alt ta tb).post.length≤60) (hta:DrvC lt ta) (htb:DrvC lt tb):DrvC lt (Ex.alt ta tb):=by
 intro v w h;have HO:=qh (fun (u:World) (hb:Below w.heap.size w u)=>Za2 ta tb (Ex.alt ta tb) 5 0 rfl Zd0 v u h60 (h.below hb));have Hh:=qh h;have hP:=h;rw[show(Ex.alt ta tb).post=(ta.post++tb.post)++[(5,0)] from rfl] at hP;obtain⟨bb,off,cap,rfl,hc1,hc2,hbl,hcell⟩:=Za7 hP;obtain⟨m,hm⟩:=eI ((ta.post++tb.post).length);rw[← hm] at hc1 hcell Hh HO;rw[← hm];have hmI:m≤59:=by rw[hm];simp[Ex.post] at h60 ⊢;omega
 obtain⟨k1,k2⟩:=hcell w (Below.refl _ _);have hw1:IntKind.i64.wrap ((m:Int)+1-1)=(m:Int):=by rw[IntWalk.i64_in _ (by omega)];omega
 have HS0:=qh ((St.start w).alloc w.heap.size rfl #[.int .i64 5,.int .i64 0] 55);replace hm:=qh hm;clear h hP hcell;obtain⟨PA,hPA⟩:∃ l,(drvE lt ta).post=l:=⟨_,rfl⟩;have HTA:=qh (show ∀ (v:Value) (w:World),Pairs 0 w v ta.post→Calls Tryz.prog 61 #[v,.int .i64 (lt:Int)] w fun e w'=>RQm (fun u=>Pairs 0 u v ta.post) PA w e w' from fun v w hp=>by have h9:=hta v w hp;rw[hPA] at h9;exact h9);obtain⟨PB,hPB⟩:∃ l,(drvE lt tb).post=l:=⟨_,rfl⟩;have HTB:=qh (show ∀ (v:Value) (w:World),Pairs 0 w v tb.post→Calls Tryz.prog 61 #[v,.int .i64 (lt:Int)] w fun e w'=>RQm (fun u=>Pairs 0 u v tb.post) PB w e w' from fun v w hp=>by have h9:=htb v w hp;rw[hPB] at h9;exact h9);obtain⟨M,hM⟩:∃ l,(drvE lt (Ex.alt ta tb)).post=l:=⟨_,rfl⟩;have hk:mkL 5 0 PA PB=M:=by rw[← hPA,← hPB,← hM];exact ZeE _ _
 have hl1:=Zaz lt (t:=ta) (by simp[Ex.post] at h60;omega);have hl2:=Zaz lt (t:=tb) (by simp[Ex.post] at h60;omega);rw[hPA] at hl1;rw[hPB] at hl2;rw[hM];replace hPA:=qh hPA;have HhPB:=qh hPB;clear hPB;replace hM:=qh hM;have Hhk:=qh hk;clear hk;clear hta htb
 go_enter Tryz.func61, Tryz.ntmps61
 go_wp2_with fail;refine(HO.out _ HS0.out.bel).mono ?_;rintro e w2 ⟨g,va,vb,rfl,hS,hv⟩;have HV:=qh hv;have HPa:=qh (hv _ Hh.out).1;have HPb:=qh (hv _ Hh.out).2;have HSr:=qh (HS0.out.cat hS);have e0:=HSr.out.cell (v:=.int .i64 5) 0 0 rfl rfl;have e1:=HSr.out.cell (v:=.int .i64 0) 0 1 rfl rfl;clear hS hv
 go_upto_region 20 with fail
 refine wp_region_any (by kernel_rfl) ?_
 refine Zam (fun A listed a w'=>∃ (l0 l1 l2 l3 l4 l5 l6 l7 l8 l9 l10 l11 l12 l13:Bool) (g1:Option Addr) (c1:Nat) (F1:Ent) (g2:Option Addr) (c2:Nat) (F2:Ent) (g9:Option Addr) (c9:Nat) (F9:Ent),listed=#[l0,l1,l2,l3,l4,l5,l6,l7,l8,l9,l10,l11,l12,l13]∧(l12=true→l6=true∧l11=true)∧(l13=true→l12=true) ∧
   a=⟨((((((((((((((A.tmps.setIfInBounds 72 (if l0=true then .pointer (some ⟨w.heap.size,0,none⟩) else A.tmps.getD 72 undef)).setIfInBounds 73 (if l1=true then .int .i64 5 else A.tmps.getD 73 undef)).setIfInBounds 74 (if l2=true then .slice (some ⟨g,0,none⟩) 2 2 else A.tmps.getD 74 undef)).setIfInBounds 75 (if l3=true then .pointer (some ⟨g,0,none⟩) else A.tmps.getD 75 undef)).setIfInBounds 76 (if l4=true then va else A.tmps.getD 76 undef)).setIfInBounds 77 (if l5=true then .int .i64 (lt:Int) else A.tmps.getD 77 undef)).setIfInBounds 78 (if l6=true then .slice g1 PA.length c1 else A.tmps.getD 78 undef)).setIfInBounds 79 (if l7=true then .slice (some ⟨g,0,none⟩) 2 2 else A.tmps.getD 79 undef)).setIfInBounds 80 (if l8=true then .pointer (some ⟨g,1,none⟩) else A.tmps.getD 80 undef)).setIfInBounds 81 (if l9=true then vb else A.tmps.getD 81 undef)).setIfInBounds 82 (if l10=true then .int .i64 (lt:Int) else A.tmps.getD 82 undef)).setIfInBounds 83 (if l11=true then .slice g2 PB.length c2 else A.tmps.getD 83 undef)).setIfInBounds 84 (if l12=true then .slice g9 M.length c9 else A.tmps.getD 84 undef)).setIfInBounds 4 (if l13=true then .slice g9 M.length c9 else A.tmps.getD 4 undef)),A.defers⟩ ∧
   St w w' [Ent.box w.heap.size #[.int .i64 5,.int .i64 0] 55,Ent.row 23 1 (.slice (some ⟨g,0,none⟩) 2 2) 2 ([va,vb]),(if l6=true then Ent.mkQ (fun u=>Pairs 0 u va ta.post) F1 (.slice g1 PA.length c1) PA else Ent.nil),(if l11=true then Ent.mkQ (fun u=>Pairs 0 u vb tb.post) F2 (.slice g2 PB.length c2) PB else Ent.nil),(if l12=true then Ent.mkQ (fun u=>Pairs 0 u (.slice g1 PA.length c1) PA∧Pairs 0 u (.slice g2 PB.length c2) PB) F9 (.slice g9 M.length c9) M else Ent.nil)]) ?_ ?_ ?_
 ·rintro listed a w' ⟨l0,l1,l2,l3,l4,l5,l6,l7,l8,l9,l10,l11,l12,l13,g1,c1,F1,g2,c2,F2,g9,c9,F9,rfl,hd12,hd13,rfl,hS⟩ i hi;obtain⟨hun,o,ho,hall⟩:=mem_ready.1 hi;have hlt:=(Array.getElem?_eq_some_iff.1 ho).1;refine wpOp_step ho (fun K hK => ?_);clear hi;have HS:=qh hS;clear hS;simp only[List.setIfInBounds_toArray,List.set_cons_zero,List.set_cons_succ,Array.getD_eq_getD_getElem?,List.getElem?_toArray,List.getElem?_cons_zero,List.getElem?_cons_succ,Option.getD_some];obtain h|h|h|h|h|h|h|h|h|h|h|h|h|h:i=0∨i=1∨i=2∨i=3∨i=4∨i=5∨i=6∨i=7∨i=8∨i=9∨i=10∨i=11∨i=12∨i=13:=by simp at hlt;omega
  all_goals subst h
  all_goals simp only[List.getElem?_toArray,List.getElem?_cons_zero,List.getElem?_cons_succ,Option.some.injEq] at ho
  all_goals subst ho
  all_goals simp[Region.binds] at hun hall
  ·subst hun;go_simp;exact hK _ _ ⟨true,l1,l2,l3,l4,l5,l6,l7,l8,l9,l10,l11,l12,l13,g1,c1,F1,g2,c2,F2,g9,c9,F9,rfl,hd12,hd13,(by simp),HS.out⟩
  ·obtain rfl:=hall;subst hun;have e0:=HS.out.cell (v:=.int .i64 5) 0 0 rfl rfl;go_simp;exact hK _ _ ⟨true,true,l2,l3,l4,l5,l6,l7,l8,l9,l10,l11,l12,l13,g1,c1,F1,g2,c2,F2,g9,c9,F9,rfl,hd12,hd13,(by simp),HS.out⟩
  ·subst hun;go_simp;exact hK _ _ ⟨l0,l1,true,l3,l4,l5,l6,l7,l8,l9,l10,l11,l12,l13,g1,c1,F1,g2,c2,F2,g9,c9,F9,rfl,hd12,hd13,(by simp),HS.out⟩
  ·obtain rfl:=hall;subst hun;go_simp;exact hK _ _ ⟨l0,l1,true,true,l4,l5,l6,l7,l8,l9,l10,l11,l12,l13,g1,c1,F1,g2,c2,F2,g9,c9,F9,rfl,hd12,hd13,(by simp),HS.out⟩
  ·obtain rfl:=hall;subst hun;have e0:=HS.out.rcell (v:=va) 1 (0) rfl (by omega) rfl;go_simp;exact hK _ _ ⟨l0,l1,l2,true,true,l5,l6,l7,l8,l9,l10,l11,l12,l13,g1,c1,F1,g2,c2,F2,g9,c9,F9,rfl,hd12,hd13,(by simp),HS.out⟩
  ·subst hun;go_simp;exact hK _ _ ⟨l0,l1,l2,l3,l4,true,l6,l7,l8,l9,l10,l11,l12,l13,g1,c1,F1,g2,c2,F2,g9,c9,F9,rfl,hd12,hd13,(by simp),HS.out⟩
  ·obtain⟨rfl,rfl⟩:=hall;subst hun;obtain rfl:l12=false:=offL hd12 rfl;obtain rfl:l13=false:=by cases l13 with|false=>rfl|true=>simpa using hd13 rfl
   go_simp
   go_at_call 61
   refine(HTA.out _ _ (HPa.out.below HS.out.bel)).mono ?_;rintro e u1 ⟨a8,d8,F8,rfl,hS8⟩;have hS2:=(HS.out.cat hS8).pick [0,1,5,3,4] (by decide);have HhS2:=qh hS2;clear hS2;go_simp;exact hK _ _ ⟨l0,l1,l2,l3,true,true,true,l7,l8,l9,l10,l11,false,false,a8,d8,F8,g2,c2,F2,g9,c9,F9,rfl,by simp,by simp,(by simp),HhS2.out⟩
  ·subst hun;go_simp;exact hK _ _ ⟨l0,l1,l2,l3,l4,l5,l6,true,l8,l9,l10,l11,l12,l13,g1,c1,F1,g2,c2,F2,g9,c9,F9,rfl,hd12,hd13,(by simp),HS.out⟩
  ·obtain rfl:=hall;subst hun;go_simp;exact hK _ _ ⟨l0,l1,l2,l3,l4,l5,l6,true,true,l9,l10,l11,l12,l13,g1,c1,F1,g2,c2,F2,g9,c9,F9,rfl,hd12,hd13,(by simp),HS.out⟩
  ·obtain rfl:=hall;subst hun;have e0:=HS.out.rcell (v:=vb) 1 (1) rfl (by omega) rfl;go_simp;exact hK _ _ ⟨l0,l1,l2,l3,l4,l5,l6,l7,true,true,l10,l11,l12,l13,g1,c1,F1,g2,c2,F2,g9,c9,F9,rfl,hd12,hd13,(by simp),HS.out⟩
  ·subst hun;go_simp;exact hK _ _ ⟨l0,l1,l2,l3,l4,l5,l6,l7,l8,l9,true,l11,l12,l13,g1,c1,F1,g2,c2,F2,g9,c9,F9,rfl,hd12,hd13,(by simp),HS.out⟩
  ·obtain⟨rfl,rfl,rfl⟩:=hall;subst hun;obtain rfl:l12=false:=offR hd12 rfl;obtain rfl:l13=false:=by cases l13 with|false=>rfl|true=>simpa using hd13 rfl
   go_simp
   go_at_call 61
   refine(HTB.out _ _ (HPb.out.below HS.out.bel)).mono ?_;rintro e u1 ⟨a8,d8,F8,rfl,hS8⟩;have hS2:=(HS.out.cat hS8).pick [0,1,2,5,4] (by decide);have HhS2:=qh hS2;clear hS2;go_simp;exact hK _ _ ⟨l0,l1,l2,l3,l4,l5,true,l7,l8,true,true,true,false,false,g1,c1,F1,a8,d8,F8,g9,c9,F9,rfl,by simp,by simp,(by simp),HhS2.out⟩
  ·obtain⟨rfl,rfl,rfl⟩:=hall;subst hun;obtain rfl:l13=false:=by cases l13 with|false=>rfl|true=>simpa using hd13 rfl
   go_simp
   go_at_call 99
   refine(Zdj 5 (by decide) PA PB M Hhk.out _ _ _ (by omega) (by omega) (HS.out.mkQ 2 rfl (HPa.out.below HS.out.bel)) (HS.out.mkQ 3 rfl (HPb.out.below HS.out.bel))).mono ?_;rintro e u1 ⟨a8,d8,F8,rfl,hS8⟩;have hS2:=(HS.out.cat hS8).pick [0,1,2,3,5] (by decide);have HhS2:=qh hS2;clear hS2;go_simp;exact hK _ _ ⟨l0,true,l2,l3,l4,l5,true,l7,l8,l9,l10,true,true,false,g1,c1,F1,g2,c2,F2,a8,d8,F8,rfl,by simp,by simp,(by simp),HhS2.out⟩
  obtain⟨rfl,rfl,rfl,rfl,rfl,rfl,rfl,rfl,rfl,rfl,rfl,rfl,rfl,-⟩:=hall;subst hun;go_simp;exact hK _ _ ⟨true,true,true,true,true,true,true,true,true,true,true,true,true,true,g1,c1,F1,g2,c2,F2,g9,c9,F9,rfl,by simp,by simp,(by simp),HS.out⟩
 ·rintro listed a w' ⟨l0,l1,l2,l3,l4,l5,l6,l7,l8,l9,l10,l11,l12,l13,g1,c1,F1,g2,c2,F2,g9,c9,F9,rfl,hd12,hd13,rfl,hS⟩ hr;have hall:=Zan (by kernel_rfl) rfl hr;obtain rfl:l0=true:=by simpa using hall 0 (by simp)
  obtain rfl:l1=true:=by simpa using hall 1 (by simp)
  obtain rfl:l2=true:=by simpa using hall 2 (by simp)
  obtain rfl:l3=true:=by simpa using hall 3 (by simp)
  obtain rfl:l4=true:=by simpa using hall 4 (by simp)
  obtain rfl:l5=true:=by simpa using hall 5 (by simp)
  obtain rfl:l6=true:=by simpa using hall 6 (by simp)
  obtain rfl:l7=true:=by simpa using hall 7 (by simp)
  obtain rfl:l8=true:=by simpa using hall 8 (by simp)
  obtain rfl:l9=true:=by simpa using hall 9 (by simp)
  obtain rfl:l10=true:=by simpa using hall 10 (by simp)
  obtain rfl:l11=true:=by simpa using hall 11 (by simp)
  obtain rfl:l12=true:=by simpa using hall 12 (by simp)
  obtain rfl:l13=true:=by simpa using hall 13 (by simp)
  clear hall hr hd12 hd13;simp only[↓reduceIte] at hS ⊢;simp only[List.setIfInBounds_toArray,List.set_cons_zero,List.set_cons_succ];have HS5:=qh hS;clear hS;go_wp2;go_ret;exact Zcj (HS5.out.pick [2,3,4] (by decide)) fun u hx ha=>Zbk ha 2 rfl ⟨Zbk ha 0 rfl (HV.out u hx).1,Zbk ha 1 rfl (HV.out u hx).2⟩
 refine⟨false,false,false,false,false,false,false,false,false,false,false,false,false,false,none,0,Ent.nil,none,0,Ent.nil,none,0,Ent.nil,rfl,by simp,by simp,(by simp),?_⟩;exact HSr.out.drew.pick [0,1,2,3,4] (by decide)
theorem ZnO (lt:Nat) (ta tb:Ex) (h60:(Ex.both ta tb).post.length≤60) (hta:DrvC lt ta) (htb:DrvC lt tb):DrvC lt (Ex.both ta tb):=by
 intro v w h;have HO:=qh (fun (u:World) (hb:Below w.heap.size w u)=>Za2 ta tb (Ex.both ta tb) 6 0 rfl ZcX v u h60 (h.below hb));have Hh:=qh h;have hP:=h;rw[show(Ex.both ta tb).post=(ta.post++tb.post)++[(6,0)] from rfl] at hP;obtain⟨bb,off,cap,rfl,hc1,hc2,hbl,hcell⟩:=Za7 hP;obtain⟨m,hm⟩:=eI ((ta.post++tb.post).length);rw[← hm] at hc1 hcell Hh HO;rw[← hm];have hmI:m≤59:=by rw[hm];simp[Ex.post] at h60 ⊢;omega
 obtain⟨k1,k2⟩:=hcell w (Below.refl _ _);have hw1:IntKind.i64.wrap ((m:Int)+1-1)=(m:Int):=by rw[IntWalk.i64_in _ (by omega)];omega
 have HS0:=qh ((St.start w).alloc w.heap.size rfl #[.int .i64 6,.int .i64 0] 55);replace hm:=qh hm;clear h hP hcell;obtain⟨PA,hPA⟩:∃ l,(drvE lt ta).post=l:=⟨_,rfl⟩;have HTA:=qh (show ∀ (v:Value) (w:World),Pairs 0 w v ta.post→Calls Tryz.prog 61 #[v,.int .i64 (lt:Int)] w fun e w'=>RQm (fun u=>Pairs 0 u v ta.post) PA w e w' from fun v w hp=>by have h9:=hta v w hp;rw[hPA] at h9;exact h9);obtain⟨PB,hPB⟩:∃ l,(drvE lt tb).post=l:=⟨_,rfl⟩;have HTB:=qh (show ∀ (v:Value) (w:World),Pairs 0 w v tb.post→Calls Tryz.prog 61 #[v,.int .i64 (lt:Int)] w fun e w'=>RQm (fun u=>Pairs 0 u v tb.post) PB w e w' from fun v w hp=>by have h9:=htb v w hp;rw[hPB] at h9;exact h9);obtain⟨M,hM⟩:∃ l,(drvE lt (Ex.both ta tb)).post=l:=⟨_,rfl⟩;have hk:mkL 6 0 PA PB=M:=by rw[← hPA,← hPB,← hM];exact Zfj _ _
 have hl1:=Zaz lt (t:=ta) (by simp[Ex.post] at h60;omega);have hl2:=Zaz lt (t:=tb) (by simp[Ex.post] at h60;omega);rw[hPA] at hl1;rw[hPB] at hl2;rw[hM];replace hPA:=qh hPA;have HhPB:=qh hPB;clear hPB;replace hM:=qh hM;have Hhk:=qh hk;clear hk;clear hta htb
 go_enter Tryz.func61, Tryz.ntmps61
 go_wp2_with fail;refine(HO.out _ HS0.out.bel).mono ?_;rintro e w2 ⟨g,va,vb,rfl,hS,hv⟩;have HV:=qh hv;have HPa:=qh (hv _ Hh.out).1;have HPb:=qh (hv _ Hh.out).2;have HSr:=qh (HS0.out.cat hS);have e0:=HSr.out.cell (v:=.int .i64 6) 0 0 rfl rfl;have e1:=HSr.out.cell (v:=.int .i64 0) 0 1 rfl rfl;clear hS hv
 go_upto_region 20 with fail
 refine wp_region_any (by kernel_rfl) ?_
 refine Zam (fun A listed a w'=>∃ (l0 l1 l2 l3 l4 l5 l6 l7 l8 l9 l10 l11 l12 l13:Bool) (g1:Option Addr) (c1:Nat) (F1:Ent) (g2:Option Addr) (c2:Nat) (F2:Ent) (g9:Option Addr) (c9:Nat) (F9:Ent),listed=#[l0,l1,l2,l3,l4,l5,l6,l7,l8,l9,l10,l11,l12,l13]∧(l12=true→l6=true∧l11=true)∧(l13=true→l12=true) ∧
   a=⟨((((((((((((((A.tmps.setIfInBounds 72 (if l0=true then .pointer (some ⟨w.heap.size,0,none⟩) else A.tmps.getD 72 undef)).setIfInBounds 73 (if l1=true then .int .i64 6 else A.tmps.getD 73 undef)).setIfInBounds 74 (if l2=true then .slice (some ⟨g,0,none⟩) 2 2 else A.tmps.getD 74 undef)).setIfInBounds 75 (if l3=true then .pointer (some ⟨g,0,none⟩) else A.tmps.getD 75 undef)).setIfInBounds 76 (if l4=true then va else A.tmps.getD 76 undef)).setIfInBounds 77 (if l5=true then .int .i64 (lt:Int) else A.tmps.getD 77 undef)).setIfInBounds 78 (if l6=true then .slice g1 PA.length c1 else A.tmps.getD 78 undef)).setIfInBounds 79 (if l7=true then .slice (some ⟨g,0,none⟩) 2 2 else A.tmps.getD 79 undef)).setIfInBounds 80 (if l8=true then .pointer (some ⟨g,1,none⟩) else A.tmps.getD 80 undef)).setIfInBounds 81 (if l9=true then vb else A.tmps.getD 81 undef)).setIfInBounds 82 (if l10=true then .int .i64 (lt:Int) else A.tmps.getD 82 undef)).setIfInBounds 83 (if l11=true then .slice g2 PB.length c2 else A.tmps.getD 83 undef)).setIfInBounds 84 (if l12=true then .slice g9 M.length c9 else A.tmps.getD 84 undef)).setIfInBounds 4 (if l13=true then .slice g9 M.length c9 else A.tmps.getD 4 undef)),A.defers⟩ ∧
   St w w' [Ent.box w.heap.size #[.int .i64 6,.int .i64 0] 55,Ent.row 23 1 (.slice (some ⟨g,0,none⟩) 2 2) 2 ([va,vb]),(if l6=true then Ent.mkQ (fun u=>Pairs 0 u va ta.post) F1 (.slice g1 PA.length c1) PA else Ent.nil),(if l11=true then Ent.mkQ (fun u=>Pairs 0 u vb tb.post) F2 (.slice g2 PB.length c2) PB else Ent.nil),(if l12=true then Ent.mkQ (fun u=>Pairs 0 u (.slice g1 PA.length c1) PA∧Pairs 0 u (.slice g2 PB.length c2) PB) F9 (.slice g9 M.length c9) M else Ent.nil)]) ?_ ?_ ?_
 ·rintro listed a w' ⟨l0,l1,l2,l3,l4,l5,l6,l7,l8,l9,l10,l11,l12,l13,g1,c1,F1,g2,c2,F2,g9,c9,F9,rfl,hd12,hd13,rfl,hS⟩ i hi;obtain⟨hun,o,ho,hall⟩:=mem_ready.1 hi;have hlt:=(Array.getElem?_eq_some_iff.1 ho).1;refine wpOp_step ho (fun K hK => ?_);clear hi;have HS:=qh hS;clear hS;simp only[List.setIfInBounds_toArray,List.set_cons_zero,List.set_cons_succ,Array.getD_eq_getD_getElem?,List.getElem?_toArray,List.getElem?_cons_zero,List.getElem?_cons_succ,Option.getD_some];obtain h|h|h|h|h|h|h|h|h|h|h|h|h|h:i=0∨i=1∨i=2∨i=3∨i=4∨i=5∨i=6∨i=7∨i=8∨i=9∨i=10∨i=11∨i=12∨i=13:=by simp at hlt;omega
  all_goals subst h
  all_goals simp only[List.getElem?_toArray,List.getElem?_cons_zero,List.getElem?_cons_succ,Option.some.injEq] at ho
  all_goals subst ho
  all_goals simp[Region.binds] at hun hall
  ·subst hun;go_simp;exact hK _ _ ⟨true,l1,l2,l3,l4,l5,l6,l7,l8,l9,l10,l11,l12,l13,g1,c1,F1,g2,c2,F2,g9,c9,F9,rfl,hd12,hd13,(by simp),HS.out⟩
  ·obtain rfl:=hall;subst hun;have e0:=HS.out.cell (v:=.int .i64 6) 0 0 rfl rfl;go_simp;exact hK _ _ ⟨true,true,l2,l3,l4,l5,l6,l7,l8,l9,l10,l11,l12,l13,g1,c1,F1,g2,c2,F2,g9,c9,F9,rfl,hd12,hd13,(by simp),HS.out⟩
  ·subst hun;go_simp;exact hK _ _ ⟨l0,l1,true,l3,l4,l5,l6,l7,l8,l9,l10,l11,l12,l13,g1,c1,F1,g2,c2,F2,g9,c9,F9,rfl,hd12,hd13,(by simp),HS.out⟩
  ·obtain rfl:=hall;subst hun;go_simp;exact hK _ _ ⟨l0,l1,true,true,l4,l5,l6,l7,l8,l9,l10,l11,l12,l13,g1,c1,F1,g2,c2,F2,g9,c9,F9,rfl,hd12,hd13,(by simp),HS.out⟩
  ·obtain rfl:=hall;subst hun;have e0:=HS.out.rcell (v:=va) 1 (0) rfl (by omega) rfl;go_simp;exact hK _ _ ⟨l0,l1,l2,true,true,l5,l6,l7,l8,l9,l10,l11,l12,l13,g1,c1,F1,g2,c2,F2,g9,c9,F9,rfl,hd12,hd13,(by simp),HS.out⟩
  ·subst hun;go_simp;exact hK _ _ ⟨l0,l1,l2,l3,l4,true,l6,l7,l8,l9,l10,l11,l12,l13,g1,c1,F1,g2,c2,F2,g9,c9,F9,rfl,hd12,hd13,(by simp),HS.out⟩
  ·obtain⟨rfl,rfl⟩:=hall;subst hun;obtain rfl:l12=false:=offL hd12 rfl;obtain rfl:l13=false:=by cases l13 with|false=>rfl|true=>simpa using hd13 rfl
   go_simp
   go_at_call 61
   refine(HTA.out _ _ (HPa.out.below HS.out.bel)).mono ?_;rintro e u1 ⟨a8,d8,F8,rfl,hS8⟩;have hS2:=(HS.out.cat hS8).pick [0,1,5,3,4] (by decide);have HhS2:=qh hS2;clear hS2;go_simp;exact hK _ _ ⟨l0,l1,l2,l3,true,true,true,l7,l8,l9,l10,l11,false,false,a8,d8,F8,g2,c2,F2,g9,c9,F9,rfl,by simp,by simp,(by simp),HhS2.out⟩
  ·subst hun;go_simp;exact hK _ _ ⟨l0,l1,l2,l3,l4,l5,l6,true,l8,l9,l10,l11,l12,l13,g1,c1,F1,g2,c2,F2,g9,c9,F9,rfl,hd12,hd13,(by simp),HS.out⟩
  ·obtain rfl:=hall;subst hun;go_simp;exact hK _ _ ⟨l0,l1,l2,l3,l4,l5,l6,true,true,l9,l10,l11,l12,l13,g1,c1,F1,g2,c2,F2,g9,c9,F9,rfl,hd12,hd13,(by simp),HS.out⟩
  ·obtain rfl:=hall;subst hun;have e0:=HS.out.rcell (v:=vb) 1 (1) rfl (by omega) rfl;go_simp;exact hK _ _ ⟨l0,l1,l2,l3,l4,l5,l6,l7,true,true,l10,l11,l12,l13,g1,c1,F1,g2,c2,F2,g9,c9,F9,rfl,hd12,hd13,(by simp),HS.out⟩
  ·subst hun;go_simp;exact hK _ _ ⟨l0,l1,l2,l3,l4,l5,l6,l7,l8,l9,true,l11,l12,l13,g1,c1,F1,g2,c2,F2,g9,c9,F9,rfl,hd12,hd13,(by simp),HS.out⟩
  ·obtain⟨rfl,rfl,rfl⟩:=hall;subst hun;obtain rfl:l12=false:=offR hd12 rfl;obtain rfl:l13=false:=by cases l13 with|false=>rfl|true=>simpa using hd13 rfl
   go_simp
   go_at_call 61
   refine(HTB.out _ _ (HPb.out.below HS.out.bel)).mono ?_;rintro e u1 ⟨a8,d8,F8,rfl,hS8⟩;have hS2:=(HS.out.cat hS8).pick [0,1,2,5,4] (by decide);have HhS2:=qh hS2;clear hS2;go_simp;exact hK _ _ ⟨l0,l1,l2,l3,l4,l5,true,l7,l8,true,true,true,false,false,g1,c1,F1,a8,d8,F8,g9,c9,F9,rfl,by simp,by simp,(by simp),HhS2.out⟩
  ·obtain⟨rfl,rfl,rfl⟩:=hall;subst hun;obtain rfl:l13=false:=by cases l13 with|false=>rfl|true=>simpa using hd13 rfl
   go_simp
   go_at_call 99
   refine(Zdj 6 (by decide) PA PB M Hhk.out _ _ _ (by omega) (by omega) (HS.out.mkQ 2 rfl (HPa.out.below HS.out.bel)) (HS.out.mkQ 3 rfl (HPb.out.below HS.out.bel))).mono ?_;rintro e u1 ⟨a8,d8,F8,rfl,hS8⟩;have hS2:=(HS.out.cat hS8).pick [0,1,2,3,5] (by decide);have HhS2:=qh hS2;clear hS2;go_simp;exact hK _ _ ⟨l0,true,l2,l3,l4,l5,true,l7,l8,l9,l10,true,true,false,g1,c1,F1,g2,c2,F2,a8,d8,F8,rfl,by simp,by simp,(by simp),HhS2.out⟩
  obtain⟨rfl,rfl,rfl,rfl,rfl,rfl,rfl,rfl,rfl,rfl,rfl,rfl,rfl,-⟩:=hall;subst hun;go_simp;exact hK _ _ ⟨true,true,true,true,true,true,true,true,true,true,true,true,true,true,g1,c1,F1,g2,c2,F2,g9,c9,F9,rfl,by simp,by simp,(by simp),HS.out⟩
 ·rintro listed a w' ⟨l0,l1,l2,l3,l4,l5,l6,l7,l8,l9,l10,l11,l12,l13,g1,c1,F1,g2,c2,F2,g9,c9,F9,rfl,hd12,hd13,rfl,hS⟩ hr;have hall:=Zan (by kernel_rfl) rfl hr;obtain rfl:l0=true:=by simpa using hall 0 (by simp)
  obtain rfl:l1=true:=by simpa using hall 1 (by simp)
  obtain rfl:l2=true:=by simpa using hall 2 (by simp)
  obtain rfl:l3=true:=by simpa using hall 3 (by simp)
  obtain rfl:l4=true:=by simpa using hall 4 (by simp)
  obtain rfl:l5=true:=by simpa using hall 5 (by simp)
  obtain rfl:l6=true:=by simpa using hall 6 (by simp)
  obtain rfl:l7=true:=by simpa using hall 7 (by simp)
  obtain rfl:l8=true:=by simpa using hall 8 (by simp)
  obtain rfl:l9=true:=by simpa using hall 9 (by simp)
  obtain rfl:l10=true:=by simpa using hall 10 (by simp)
  obtain rfl:l11=true:=by simpa using hall 11 (by simp)
  obtain rfl:l12=true:=by simpa using hall 12 (by simp)
  obtain rfl:l13=true:=by simpa using hall 13 (by simp)
  clear hall hr hd12 hd13;simp only[↓reduceIte] at hS ⊢;simp only[List.setIfInBounds_toArray,List.set_cons_zero,List.set_cons_succ];have HS5:=qh hS;clear hS;go_wp2;go_ret;exact Zcj (HS5.out.pick [2,3,4] (by decide)) fun u hx ha=>Zbk ha 2 rfl ⟨Zbk ha 0 rfl (HV.out u hx).1,Zbk ha 1 rfl (HV.out u hx).2⟩
 refine⟨false,false,false,false,false,false,false,false,false,false,false,false,false,false,none,0,Ent.nil,none,0,Ent.nil,none,0,Ent.nil,rfl,by simp,by simp,(by simp),?_⟩;exact HSr.out.drew.pick [0,1,2,3,4] (by decide)
theorem ZnN (lt:Nat) (ta tb:Ex) (h60:(Ex.join ta tb).post.length≤60) (hta:DrvC lt ta) (htb:DrvC lt tb):DrvC lt (Ex.join ta tb):=by
 intro v w h;have HO:=qh (fun (u:World) (hb:Below w.heap.size w u)=>Za2 ta tb (Ex.join ta tb) 4 0 rfl ZcW v u h60 (h.below hb));have Hh:=qh h;have hP:=h;rw[show(Ex.join ta tb).post=(ta.post++tb.post)++[(4,0)] from rfl] at hP;obtain⟨bb,off,cap,rfl,hc1,hc2,hbl,hcell⟩:=Za7 hP;obtain⟨m,hm⟩:=eI ((ta.post++tb.post).length);rw[← hm] at hc1 hcell Hh HO;rw[← hm];have hmI:m≤59:=by rw[hm];simp[Ex.post] at h60 ⊢;omega
 obtain⟨k1,k2⟩:=hcell w (Below.refl _ _);have hw1:IntKind.i64.wrap ((m:Int)+1-1)=(m:Int):=by rw[IntWalk.i64_in _ (by omega)];omega
 have HS0:=qh ((St.start w).alloc w.heap.size rfl #[.int .i64 4,.int .i64 0] 55);replace hm:=qh hm;clear h hP hcell;obtain⟨PA,hPA⟩:∃ l,(drvE lt ta).post=l:=⟨_,rfl⟩;have HTA:=qh (show ∀ (v:Value) (w:World),Pairs 0 w v ta.post→Calls Tryz.prog 61 #[v,.int .i64 (lt:Int)] w fun e w'=>RQm (fun u=>Pairs 0 u v ta.post) PA w e w' from fun v w hp=>by have h9:=hta v w hp;rw[hPA] at h9;exact h9);obtain⟨PB,hPB⟩:∃ l,(simE tb).post=l:=⟨_,rfl⟩;have HTB:=qh (show ∀ (v:Value) (w:World),Pairs 0 w v tb.post→Calls Tryz.prog 97 #[v] w fun e w'=>RQm (fun u=>Pairs 0 u v tb.post) PB w e w' from fun v w hp=>by have h9:=ZjJ tb (by simp[Ex.post] at h60;omega) v w hp;rw[hPB] at h9;exact h9);obtain⟨PD,hPD⟩:∃ l,(drvE lt tb).post=l:=⟨_,rfl⟩;have HTD:=qh (show ∀ (v:Value) (w:World),Pairs 0 w v tb.post→Calls Tryz.prog 61 #[v,.int .i64 (lt:Int)] w fun e w'=>RQm (fun u=>Pairs 0 u v tb.post) PD w e w' from fun v w hp=>by have h9:=htb v w hp;rw[hPD] at h9;exact h9);obtain⟨M,hM⟩:∃ l,(Zbe (drvE lt ta) (simE tb)).post=l:=⟨_,rfl⟩;have hk1:mkL 4 0 PA PB=M:=by rw[← hPA,← hPB,← hM];exact Zdx _ _
 obtain⟨M2,hM2⟩:∃ l,(Zcu (Zbe (drvE lt ta) (simE tb)) (drvE lt tb)).post=l:=⟨_,rfl⟩;have hk2:mkL 5 0 M PD=M2:=by rw[← hPD,← hM2,← hM];exact ZeE _ _
 have hlM:=ZcN (drvE lt ta) (simE tb);have hl1:=Zaz lt (t:=ta) (by simp[Ex.post] at h60;omega);have hl2:=Zaz lt (t:=tb) (by simp[Ex.post] at h60;omega);have hl3:=Zax tb;have hl4:tb.post.length≤60:=by simp[Ex.post] at h60;omega
 have HE:=qh (fun (v:Value) (u:World) h=>Ziv ta (by simp[Ex.post] at h60;omega) v u h);rw[hM,hPA,hPB] at hlM;rw[hPA] at hl1;rw[hPB] at hl3;rw[hPD] at hl2;have hf0:hasE ta=false→(drvE lt (Ex.join ta tb)).post=M:=fun h=>by rw[← hM,show drvE lt (.join ta tb)=(if hasE ta=true then Zcu (Zbe (drvE lt ta) (simE tb)) (drvE lt tb) else Zbe (drvE lt ta) (simE tb)) from rfl,if_neg (by rw[h];decide)]
 have hf1:hasE ta=true→(drvE lt (Ex.join ta tb)).post=M2:=fun h=>by rw[← hM2,show drvE lt (.join ta tb)=(if hasE ta=true then Zcu (Zbe (drvE lt ta) (simE tb)) (drvE lt tb) else Zbe (drvE lt ta) (simE tb)) from rfl,if_pos h]
 obtain⟨Z,hZ⟩:∃ l,(drvE lt (Ex.join ta tb)).post=l:=⟨_,rfl⟩;rw[hZ] at hf0 hf1;rw[hZ];obtain⟨z,hz⟩:=eJ (hasE ta);rw[hz] at HE hf0 hf1;replace hPA:=qh hPA;have HhPB:=qh hPB;clear hPB;have HhPD:=qh hPD;clear hPD;replace hM:=qh hM;have HhM2:=qh hM2;clear hM2;have Hhk1:=qh hk1;clear hk1;have Hhk2:=qh hk2;clear hk2;have HhZ:=qh hZ;clear hZ;have Hhz:=qh hz;clear hz;clear hta htb
 go_enter Tryz.func61, Tryz.ntmps61
 go_wp2_with fail;refine(HO.out _ HS0.out.bel).mono ?_;rintro e w2 ⟨g,va,vb,rfl,hS,hv⟩;have HV:=qh hv;have HPa:=qh (hv _ Hh.out).1;have HPb:=qh (hv _ Hh.out).2;have HSr:=qh (HS0.out.cat hS);have e0:=HSr.out.cell (v:=.int .i64 4) 0 0 rfl rfl;have e1:=HSr.out.cell (v:=.int .i64 0) 0 1 rfl rfl;clear hS hv
 go_upto_region 16 with fail
 refine wp_region_any (by kernel_rfl) ?_
 refine Zam (fun A listed a w'=>∃ (l0 l1 l2 l3 l4 l5 l6 l7 l8 l9 l10:Bool) (g1:Option Addr) (c1:Nat) (F1:Ent) (g2:Option Addr) (c2:Nat) (F2:Ent) (g9:Option Addr) (c9:Nat) (F9:Ent),listed=#[l0,l1,l2,l3,l4,l5,l6,l7,l8,l9,l10]∧(l9=true→l4=true∧l8=true)∧(l10=true→l9=true) ∧
   a=⟨(((((((((((A.tmps.setIfInBounds 50 (if l0=true then .slice (some ⟨g,0,none⟩) 2 2 else A.tmps.getD 50 undef)).setIfInBounds 51 (if l1=true then .pointer (some ⟨g,0,none⟩) else A.tmps.getD 51 undef)).setIfInBounds 52 (if l2=true then va else A.tmps.getD 52 undef)).setIfInBounds 53 (if l3=true then .int .i64 (lt:Int) else A.tmps.getD 53 undef)).setIfInBounds 54 (if l4=true then .slice g1 PA.length c1 else A.tmps.getD 54 undef)).setIfInBounds 55 (if l5=true then .slice (some ⟨g,0,none⟩) 2 2 else A.tmps.getD 55 undef)).setIfInBounds 56 (if l6=true then .pointer (some ⟨g,1,none⟩) else A.tmps.getD 56 undef)).setIfInBounds 57 (if l7=true then vb else A.tmps.getD 57 undef)).setIfInBounds 58 (if l8=true then .slice g2 PB.length c2 else A.tmps.getD 58 undef)).setIfInBounds 59 (if l9=true then .slice g9 M.length c9 else A.tmps.getD 59 undef)).setIfInBounds 7 (if l10=true then .slice g9 M.length c9 else A.tmps.getD 7 undef)),A.defers⟩ ∧
   St w w' [Ent.box w.heap.size #[.int .i64 4,.int .i64 0] 55,Ent.row 23 1 (.slice (some ⟨g,0,none⟩) 2 2) 2 ([va,vb]),(if l4=true then Ent.mkQ (fun u=>Pairs 0 u va ta.post) F1 (.slice g1 PA.length c1) PA else Ent.nil),(if l8=true then Ent.mkQ (fun u=>Pairs 0 u vb tb.post) F2 (.slice g2 PB.length c2) PB else Ent.nil),(if l9=true then Ent.mkQ (fun u=>Pairs 0 u (.slice g1 PA.length c1) PA∧Pairs 0 u (.slice g2 PB.length c2) PB) F9 (.slice g9 M.length c9) M else Ent.nil)]) ?_ ?_ ?_
 ·rintro listed a w' ⟨l0,l1,l2,l3,l4,l5,l6,l7,l8,l9,l10,g1,c1,F1,g2,c2,F2,g9,c9,F9,rfl,hd9,hd10,rfl,hS⟩ i hi;obtain⟨hun,o,ho,hall⟩:=mem_ready.1 hi;have hlt:=(Array.getElem?_eq_some_iff.1 ho).1;refine wpOp_step ho (fun K hK => ?_);clear hi;have HS:=qh hS;clear hS;simp only[List.setIfInBounds_toArray,List.set_cons_zero,List.set_cons_succ,Array.getD_eq_getD_getElem?,List.getElem?_toArray,List.getElem?_cons_zero,List.getElem?_cons_succ,Option.getD_some];obtain h|h|h|h|h|h|h|h|h|h|h:i=0∨i=1∨i=2∨i=3∨i=4∨i=5∨i=6∨i=7∨i=8∨i=9∨i=10:=by simp at hlt;omega
  all_goals subst h
  all_goals simp only[List.getElem?_toArray,List.getElem?_cons_zero,List.getElem?_cons_succ,Option.some.injEq] at ho
  all_goals subst ho
  all_goals simp[Region.binds] at hun hall
  ·subst hun;go_simp;exact hK _ _ ⟨true,l1,l2,l3,l4,l5,l6,l7,l8,l9,l10,g1,c1,F1,g2,c2,F2,g9,c9,F9,rfl,hd9,hd10,(by simp),HS.out⟩
  ·obtain rfl:=hall;subst hun;go_simp;exact hK _ _ ⟨true,true,l2,l3,l4,l5,l6,l7,l8,l9,l10,g1,c1,F1,g2,c2,F2,g9,c9,F9,rfl,hd9,hd10,(by simp),HS.out⟩
  ·obtain rfl:=hall;subst hun;have e0:=HS.out.rcell (v:=va) 1 (0) rfl (by omega) rfl;go_simp;exact hK _ _ ⟨l0,true,true,l3,l4,l5,l6,l7,l8,l9,l10,g1,c1,F1,g2,c2,F2,g9,c9,F9,rfl,hd9,hd10,(by simp),HS.out⟩
  ·subst hun;go_simp;exact hK _ _ ⟨l0,l1,l2,true,l4,l5,l6,l7,l8,l9,l10,g1,c1,F1,g2,c2,F2,g9,c9,F9,rfl,hd9,hd10,(by simp),HS.out⟩
  ·obtain⟨rfl,rfl⟩:=hall;subst hun;obtain rfl:l9=false:=offL hd9 rfl;obtain rfl:l10=false:=by cases l10 with|false=>rfl|true=>simpa using hd10 rfl
   go_simp
   go_at_call 61
   refine(HTA.out _ _ (HPa.out.below HS.out.bel)).mono ?_;rintro e u1 ⟨a8,d8,F8,rfl,hS8⟩;have hS2:=(HS.out.cat hS8).pick [0,1,5,3,4] (by decide);have HhS2:=qh hS2;clear hS2;go_simp;exact hK _ _ ⟨l0,l1,true,true,true,l5,l6,l7,l8,false,false,a8,d8,F8,g2,c2,F2,g9,c9,F9,rfl,by simp,by simp,(by simp),HhS2.out⟩
  ·subst hun;go_simp;exact hK _ _ ⟨l0,l1,l2,l3,l4,true,l6,l7,l8,l9,l10,g1,c1,F1,g2,c2,F2,g9,c9,F9,rfl,hd9,hd10,(by simp),HS.out⟩
  ·obtain rfl:=hall;subst hun;go_simp;exact hK _ _ ⟨l0,l1,l2,l3,l4,true,true,l7,l8,l9,l10,g1,c1,F1,g2,c2,F2,g9,c9,F9,rfl,hd9,hd10,(by simp),HS.out⟩
  ·obtain rfl:=hall;subst hun;have e0:=HS.out.rcell (v:=vb) 1 (1) rfl (by omega) rfl;go_simp;exact hK _ _ ⟨l0,l1,l2,l3,l4,l5,true,true,l8,l9,l10,g1,c1,F1,g2,c2,F2,g9,c9,F9,rfl,hd9,hd10,(by simp),HS.out⟩
  ·obtain⟨rfl,rfl⟩:=hall;subst hun;obtain rfl:l9=false:=offR hd9 rfl;obtain rfl:l10=false:=by cases l10 with|false=>rfl|true=>simpa using hd10 rfl
   go_simp
   go_at_call 97
   refine(HTB.out _ _ (HPb.out.below HS.out.bel)).mono ?_;rintro e u1 ⟨a8,d8,F8,rfl,hS8⟩;have hS2:=(HS.out.cat hS8).pick [0,1,2,5,4] (by decide);have HhS2:=qh hS2;clear hS2;go_simp;exact hK _ _ ⟨l0,l1,l2,l3,true,l5,l6,true,true,false,false,g1,c1,F1,a8,d8,F8,g9,c9,F9,rfl,by simp,by simp,(by simp),HhS2.out⟩
  ·obtain⟨rfl,rfl⟩:=hall;subst hun;obtain rfl:l10=false:=by cases l10 with|false=>rfl|true=>simpa using hd10 rfl
   go_simp
   go_at_call 85
   refine(Zf3 PA PB M Hhk1.out _ _ _ (by omega) (by omega) (HS.out.mkQ 2 rfl (HPa.out.below HS.out.bel)) (HS.out.mkQ 3 rfl (HPb.out.below HS.out.bel))).mono ?_;rintro e u1 ⟨a8,d8,F8,rfl,hS8⟩;have hS2:=(HS.out.cat hS8).pick [0,1,2,3,5] (by decide);have HhS2:=qh hS2;clear hS2;go_simp;exact hK _ _ ⟨l0,l1,l2,l3,true,l5,l6,l7,true,true,false,g1,c1,F1,g2,c2,F2,a8,d8,F8,rfl,by simp,by simp,(by simp),HhS2.out⟩
  obtain⟨rfl,rfl,rfl,rfl,rfl,rfl,rfl,rfl,rfl,rfl,-⟩:=hall;subst hun;go_simp;exact hK _ _ ⟨true,true,true,true,true,true,true,true,true,true,true,g1,c1,F1,g2,c2,F2,g9,c9,F9,rfl,by simp,by simp,(by simp),HS.out⟩
 ·rintro listed a w' ⟨l0,l1,l2,l3,l4,l5,l6,l7,l8,l9,l10,g1,c1,F1,g2,c2,F2,g9,c9,F9,rfl,hd9,hd10,rfl,hS⟩ hr;have hall:=Zan (by kernel_rfl) rfl hr;obtain rfl:l0=true:=by simpa using hall 0 (by simp)
  obtain rfl:l1=true:=by simpa using hall 1 (by simp)
  obtain rfl:l2=true:=by simpa using hall 2 (by simp)
  obtain rfl:l3=true:=by simpa using hall 3 (by simp)
  obtain rfl:l4=true:=by simpa using hall 4 (by simp)
  obtain rfl:l5=true:=by simpa using hall 5 (by simp)
  obtain rfl:l6=true:=by simpa using hall 6 (by simp)
  obtain rfl:l7=true:=by simpa using hall 7 (by simp)
  obtain rfl:l8=true:=by simpa using hall 8 (by simp)
  obtain rfl:l9=true:=by simpa using hall 9 (by simp)
  obtain rfl:l10=true:=by simpa using hall 10 (by simp)
  clear hall hr hd9 hd10;simp only[↓reduceIte] at hS ⊢;simp only[List.setIfInBounds_toArray,List.set_cons_zero,List.set_cons_succ];have HS5:=qh hS;have r0:=hS.rcell (v:=va) 1 0 rfl (by omega) rfl;clear hS;go_wp2_with fail;refine(HE.out _ _ (HPa.out.below HS5.out.bel)).mono ?_;rintro e w6 ⟨rfl,hb6⟩;have HS6:=qh (HS5.out.call hb6);have r1:=HS6.out.rcell (v:=vb) 1 1 rfl (by omega) rfl;clear hb6 r0;cases z
  ·obtain rfl:=hf0 rfl;clear hf1;go_wp2;go_ret;exact Zcj (HS6.out.pick [2,3,4] (by decide)) fun u hx ha=>Zbk ha 2 rfl ⟨Zbk ha 0 rfl (HV.out u hx).1,Zbk ha 1 rfl (HV.out u hx).2⟩
  obtain rfl:=hf1 rfl;clear hf0;go_wp2_with fail;refine(HTD.out _ _ (HPb.out.below HS6.out.bel)).mono ?_;rintro e w7 ⟨g7,c7,F7,rfl,hS7⟩;have HS7:=qh (HS6.out.cat hS7);clear hS7 r1;go_wp2_with fail;refine(Zjo M PD Z Hhk2.out _ _ _ (by omega) (by omega) (HS7.out.mkQ 4 rfl ⟨HS7.out.mkQ 2 rfl (HPa.out.below HS7.out.bel),HS7.out.mkQ 3 rfl (HPb.out.below HS7.out.bel)⟩) (HS7.out.mkQ 5 rfl (HPb.out.below HS7.out.bel))).mono ?_;rintro e w8 ⟨g8,c8,F8,rfl,hS8⟩;have HS8:=qh ((HS7.out.cat hS8).pick [2,3,4,5,6] (by decide));clear hS8;go_wp2;go_ret;exact Zcj HS8.out fun u hx ha=>Zbk ha 4 rfl ⟨Zbk ha 2 rfl ⟨Zbk ha 0 rfl (HV.out u hx).1,Zbk ha 1 rfl (HV.out u hx).2⟩,Zbk ha 3 rfl (HV.out u hx).2⟩
 refine⟨false,false,false,false,false,false,false,false,false,false,false,none,0,Ent.nil,none,0,Ent.nil,none,0,Ent.nil,rfl,by simp,by simp,(by simp),?_⟩;exact HSr.out.drew.pick [0,1,2,3,4] (by decide)
theorem ZnK (lt:Nat):∀ t:Ex,t.post.length≤60→DrvC lt t:=by
 intro t
 induction t with
 | zero=>exact fun _=>ZnL lt
 | one=>exact fun _=>ZoQ lt
 | ltr c=>exact fun _=>ZoS lt c
 | join a b ha hb=>exact fun h=>ZnN lt a b h (ha (by simp[Ex.post] at h;omega)) (hb (by simp[Ex.post] at h;omega))
 | alt a b ha hb=>exact fun h=>ZoT lt a b h (ha (by simp[Ex.post] at h;omega)) (hb (by simp[Ex.post] at h;omega))
 | both a b ha hb=>exact fun h=>ZnO lt a b h (ha (by simp[Ex.post] at h;omega)) (hb (by simp[Ex.post] at h;omega))
 | neg a ha=>exact fun h=>ZoR lt a h (ha (by simp[Ex.post] at h;omega))
 | star a ha=>exact fun h=>ZnM lt a h (ha (by simp[Ex.post] at h;omega))
end Go.Proofs.YtehmjmjedopkkaaGreat
