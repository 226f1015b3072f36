/-
  The walk over the program's simplified, by the tree.
  Condition: the expression reads as such.
-/
import Derived.Test.YtncekbbhgipdlaaGreatPs30Clp
set_option maxHeartbeats 16000000
set_option maxRecDepth 100000
namespace Go.Proofs.YtncekbbhgipdlaaGreat
open Go.RowKit
def SimC (t:Ex):Prop:=∀ (v:Value) (w:World),Pairs 0 w v t.post→Calls Tryz.prog 23 #[v] w fun e w'=>RQm (fun u=>Pairs 0 u v t.post) (simE t).post w e w'
theorem ZnZ :SimC (Ex.zero):=by
 intro v w h;have h60:(Ex.zero).post.length≤60:=by show 1≤60;decide
 have HO:=qh (Zc7 (Ex.zero) 1 0 rfl Zeh v w h);have Hh:=qh h;have hP:=h;rw[show(Ex.zero).post=(([]:List (Int × Int)))++[(1,0)] from rfl] at hP;obtain⟨bb,off,cap,rfl,hc1,hc2,hbl,hcell⟩:=ZbM hP;obtain⟨m,hm⟩:=eI ((([]:List (Int × Int))).length);rw[← hm] at hc1 hcell Hh HO;rw[← hm];have hmI:m≤59:=by rw[hm];simp[Ex.post] at h60 ⊢
 have Hcell:=qh hcell;obtain⟨k1,k2⟩:=hcell w (Below.refl _ _);have hw1:IntKind.i64.wrap ((m:Int)+1-1)=(m:Int):=by rw[IntWalk.i64_in _ (by omega)];omega
 have HS0:=qh (St.start w);replace hm:=qh hm;clear h hP hcell
 go_enter Tryz.func23, Tryz.ntmps23
 go_wp2_with fail;refine HO.out.mono ?_;rintro e w2 ⟨rfl,hb2⟩;have HS2:=qh (HS0.out.call hb2);clear hb2;go_wp2;go_ret;exact Zmo HS2.out (Hh.out.below HS2.out.bel) fun u h=>h
theorem Zpc :SimC (Ex.one):=by
 intro v w h;have h60:(Ex.one).post.length≤60:=by show 1≤60;decide
 have HO:=qh (Zc7 (Ex.one) 2 0 rfl Zeg v w h);have Hh:=qh h;have hP:=h;rw[show(Ex.one).post=(([]:List (Int × Int)))++[(2,0)] from rfl] at hP;obtain⟨bb,off,cap,rfl,hc1,hc2,hbl,hcell⟩:=ZbM hP;obtain⟨m,hm⟩:=eI ((([]:List (Int × Int))).length);rw[← hm] at hc1 hcell Hh HO;rw[← hm];have hmI:m≤59:=by rw[hm];simp[Ex.post] at h60 ⊢
 have Hcell:=qh hcell;obtain⟨k1,k2⟩:=hcell w (Below.refl _ _);have hw1:IntKind.i64.wrap ((m:Int)+1-1)=(m:Int):=by rw[IntWalk.i64_in _ (by omega)];omega
 have HS0:=qh (St.start w);replace hm:=qh hm;clear h hP hcell
 go_enter Tryz.func23, Tryz.ntmps23
 go_wp2_with fail;refine HO.out.mono ?_;rintro e w2 ⟨rfl,hb2⟩;have HS2:=qh (HS0.out.call hb2);clear hb2;go_wp2;go_ret;exact Zmo HS2.out (Hh.out.below HS2.out.bel) fun u h=>h
theorem Zpe (ch:Fin 3) :SimC (Ex.ltr ch):=by
 intro v w h;have h60:(Ex.ltr ch).post.length≤60:=by show 1≤60;decide
 have HO:=qh (Zc7 (Ex.ltr ch) 3 (ch.val:Int) rfl (ZdI ch) v w h);have Hh:=qh h;have hP:=h;rw[show(Ex.ltr ch).post=(([]:List (Int × Int)))++[(3,(ch.val:Int))] from rfl] at hP;obtain⟨bb,off,cap,rfl,hc1,hc2,hbl,hcell⟩:=ZbM hP;obtain⟨m,hm⟩:=eI ((([]:List (Int × Int))).length);rw[← hm] at hc1 hcell Hh HO;rw[← hm];have hmI:m≤59:=by rw[hm];simp[Ex.post] at h60 ⊢
 have Hcell:=qh hcell;obtain⟨k1,k2⟩:=hcell w (Below.refl _ _);have hw1:IntKind.i64.wrap ((m:Int)+1-1)=(m:Int):=by rw[IntWalk.i64_in _ (by omega)];omega
 have HS0:=qh (St.start w);replace hm:=qh hm;clear h hP hcell
 go_enter Tryz.func23, Tryz.ntmps23
 go_wp2_with fail;refine HO.out.mono ?_;rintro e w2 ⟨rfl,hb2⟩;have HS2:=qh (HS0.out.call hb2);clear hb2;go_wp2;go_ret;exact Zmo HS2.out (Hh.out.below HS2.out.bel) fun u h=>h
theorem Zn0 (ta:Ex) (h60:(Ex.star ta).post.length≤60) (hta:SimC ta):SimC (Ex.star ta):=by
 intro v w h;have HO:=qh (ZcK ta (Ex.star ta) 8 0 rfl Zd1 v w h60 h);have Hh:=qh h;have hP:=h;rw[show(Ex.star ta).post=(ta.post)++[(8,0)] from rfl] at hP;obtain⟨bb,off,cap,rfl,hc1,hc2,hbl,hcell⟩:=ZbM hP;obtain⟨m,hm⟩:=eI ((ta.post).length);rw[← hm] at hc1 hcell Hh HO;rw[← hm];have hmI:m≤59:=by rw[hm];simp[Ex.post] at h60 ⊢;omega
 have Hcell:=qh hcell;obtain⟨k1,k2⟩:=hcell w (Below.refl _ _);have hw1:IntKind.i64.wrap ((m:Int)+1-1)=(m:Int):=by rw[IntWalk.i64_in _ (by omega)];omega
 have HS0:=qh (St.start w);replace hm:=qh hm;clear h hP hcell;obtain⟨PA,hPA⟩:∃ l,(simE ta).post=l:=⟨_,rfl⟩;have HTA:=qh (show ∀ (v:Value) (w:World),Pairs 0 w v ta.post→Calls Tryz.prog 23 #[v] w fun e w'=>RQm (fun u=>Pairs 0 u v ta.post) PA w e w' from fun v w hp=>by have h9:=hta v w hp;rw[hPA] at h9;exact h9);obtain⟨M,hM⟩:∃ l,(simE (Ex.star ta)).post=l:=⟨_,rfl⟩;have hk:mkL 8 0 PA []=M:=by rw[← hPA,← hM];exact Zh9 _
 have hl1:=Zbg ta;have hl2:ta.post.length≤60:=by simp[Ex.post] at h60;omega
 have hl3:=Zao (simE ta);rw[hPA] at hl1 hl3;rw[hM];replace hPA:=qh hPA;replace hM:=qh hM;have Hhk:=qh hk;clear hk;clear hta
 go_enter Tryz.func23, Tryz.ntmps23
 go_wp2_with fail;refine HO.out.mono ?_;rintro e w2 ⟨g,va,rfl,hS,hv⟩;have HS2:=qh hS;have HV:=qh hv;have HPa:=qh (hv _ (Hh.out.below hS.bel));have r0:=hS.rcell (v:=va) 0 0 rfl (by omega) rfl;clear hS hv;go_wp2_with fail;refine(HTA.out _ _ HPa.out).mono ?_;rintro e w3 ⟨g3,c3,F3,rfl,hS3⟩;have HS3:=qh (HS2.out.cat hS3);have HPb:=qh (HS3.out.mkQ 1 rfl (HPa.out.below hS3.bel));clear hS3;go_wp2_with fail;refine(ZiN PA M Hhk.out _ _ (by omega) (by omega) HPb.out).mono ?_;rintro e w4 ⟨g4,c4,F4,rfl,hS4⟩;have HS4:=qh ((HS3.out.cat hS4).pick [1,2] (by decide));clear hS4;go_wp2;go_ret;exact Zdp HS4.out fun u hx ha=>Zb0 ha 1 rfl (Zb0 ha 0 rfl (HV.out u hx))
theorem Zpd (ta:Ex) (h60:(Ex.neg ta).post.length≤60) (hta:SimC ta):SimC (Ex.neg ta):=by
 intro v w h;have HO:=qh (ZcK ta (Ex.neg ta) 7 0 rfl Zgd v w h60 h);have Hh:=qh h;have hP:=h;rw[show(Ex.neg ta).post=(ta.post)++[(7,0)] from rfl] at hP;obtain⟨bb,off,cap,rfl,hc1,hc2,hbl,hcell⟩:=ZbM hP;obtain⟨m,hm⟩:=eI ((ta.post).length);rw[← hm] at hc1 hcell Hh HO;rw[← hm];have hmI:m≤59:=by rw[hm];simp[Ex.post] at h60 ⊢;omega
 have Hcell:=qh hcell;obtain⟨k1,k2⟩:=hcell w (Below.refl _ _);have hw1:IntKind.i64.wrap ((m:Int)+1-1)=(m:Int):=by rw[IntWalk.i64_in _ (by omega)];omega
 have HS0:=qh (St.start w);replace hm:=qh hm;clear h hP hcell;obtain⟨PA,hPA⟩:∃ l,(simE ta).post=l:=⟨_,rfl⟩;have HTA:=qh (show ∀ (v:Value) (w:World),Pairs 0 w v ta.post→Calls Tryz.prog 23 #[v] w fun e w'=>RQm (fun u=>Pairs 0 u v ta.post) PA w e w' from fun v w hp=>by have h9:=hta v w hp;rw[hPA] at h9;exact h9);obtain⟨M,hM⟩:∃ l,(simE (Ex.neg ta)).post=l:=⟨_,rfl⟩;have hk:mkL 7 0 PA []=M:=by rw[← hPA,← hM];exact ZmP _
 have hl1:=Zbg ta;have hl2:ta.post.length≤60:=by simp[Ex.post] at h60;omega
 have hl3:=Zao (simE ta);rw[hPA] at hl1 hl3;rw[hM];replace hPA:=qh hPA;replace hM:=qh hM;have Hhk:=qh hk;clear hk;clear hta
 go_enter Tryz.func23, Tryz.ntmps23
 go_wp2_with fail;refine HO.out.mono ?_;rintro e w2 ⟨g,va,rfl,hS,hv⟩;have HS2:=qh hS;have HV:=qh hv;have HPa:=qh (hv _ (Hh.out.below hS.bel));have r0:=hS.rcell (v:=va) 0 0 rfl (by omega) rfl;clear hS hv;go_wp2_with fail;refine(HTA.out _ _ HPa.out).mono ?_;rintro e w3 ⟨g3,c3,F3,rfl,hS3⟩;have HS3:=qh (HS2.out.cat hS3);have HPb:=qh (HS3.out.mkQ 1 rfl (HPa.out.below hS3.bel));clear hS3;go_wp2_with fail;refine(Zob PA M Hhk.out _ _ (by omega) (by omega) HPb.out).mono ?_;rintro e w4 ⟨g4,c4,F4,rfl,hS4⟩;have HS4:=qh ((HS3.out.cat hS4).pick [1,2] (by decide));clear hS4;go_wp2;go_ret;exact Zdp HS4.out fun u hx ha=>Zb0 ha 1 rfl (Zb0 ha 0 rfl (HV.out u hx))
theorem Zn1 (ta tb:Ex) (h60:(Ex.join ta tb).post.length≤60) (hta:SimC ta) (htb:SimC tb):SimC (Ex.join ta tb):=by
 intro v w h;have HO:=qh (Zb3 ta tb (Ex.join ta tb) 4 0 rfl Zd2 v w h60 h);have Hh:=qh h;have hP:=h;rw[show(Ex.join ta tb).post=(ta.post++tb.post)++[(4,0)] from rfl] at hP;obtain⟨bb,off,cap,rfl,hc1,hc2,hbl,hcell⟩:=ZbM hP;obtain⟨m,hm⟩:=eI ((ta.post++tb.post).length);rw[← hm] at hc1 hcell Hh HO;rw[← hm];have hmI:m≤59:=by rw[hm];simp[Ex.post] at h60 ⊢;omega
 have Hcell:=qh hcell;obtain⟨k1,k2⟩:=hcell w (Below.refl _ _);have hw1:IntKind.i64.wrap ((m:Int)+1-1)=(m:Int):=by rw[IntWalk.i64_in _ (by omega)];omega
 have HS0:=qh (St.start w);replace hm:=qh hm;clear h hP hcell;obtain⟨PA,hPA⟩:∃ l,(simE ta).post=l:=⟨_,rfl⟩;have HTA:=qh (show ∀ (v:Value) (w:World),Pairs 0 w v ta.post→Calls Tryz.prog 23 #[v] w fun e w'=>RQm (fun u=>Pairs 0 u v ta.post) PA w e w' from fun v w hp=>by have h9:=hta v w hp;rw[hPA] at h9;exact h9);obtain⟨PB,hPB⟩:∃ l,(simE tb).post=l:=⟨_,rfl⟩;have HTB:=qh (show ∀ (v:Value) (w:World),Pairs 0 w v tb.post→Calls Tryz.prog 23 #[v] w fun e w'=>RQm (fun u=>Pairs 0 u v tb.post) PB w e w' from fun v w hp=>by have h9:=htb v w hp;rw[hPB] at h9;exact h9);obtain⟨M,hM⟩:∃ l,(simE (Ex.join ta tb)).post=l:=⟨_,rfl⟩;have hk:mkL 4 0 PA PB=M:=by rw[← hPA,← hPB,← hM];exact ZfM _ _
 have hl1:=Zbg ta;have hl2:=Zbg tb;have hl3:ta.post.length+tb.post.length≤60:=by simp[Ex.post] at h60;omega
 rw[hPA] at hl1;rw[hPB] at hl2;rw[hM];replace hPA:=qh hPA;have HhPB:=qh hPB;clear hPB;replace hM:=qh hM;have Hhk:=qh hk;clear hk;clear hta htb
 go_enter Tryz.func23, Tryz.ntmps23
 go_wp2_with fail;refine HO.out.mono ?_;rintro e w2 ⟨g,va,vb,rfl,hS,hv⟩;have HS2:=qh hS;have HV:=qh hv;have HPa:=qh (hv _ Hh.out).1;have HPb:=qh (hv _ Hh.out).2;have HSr:=qh hS;clear hS hv
 go_upto_region 10 with fail
 refine wp_region_any (by kernel_rfl) ?_
 refine Zar (fun A listed a w'=>∃ (l0 l1 l2 l3 l4 l5 l6 l7 l8 l9 l10:Bool) (g1:Option Addr) (c1:Nat) (F1:Ent) (g2:Option Addr) (c2:Nat) (F2:Ent) (g9:Option Addr) (c9:Nat) (F9:Ent),listed=#[l0,l1,l2,l3,l4,l5,l6,l7,l8,l9,l10]∧(l9=true→l4=true∧l8=true)∧(l10=true→l9=true) ∧
   a=⟨(((((((((((A.tmps.setIfInBounds 33 (if l0=true then .int .i64 4 else A.tmps.getD 33 undef)).setIfInBounds 34 (if l1=true then .slice (some ⟨g,0,none⟩) 2 2 else A.tmps.getD 34 undef)).setIfInBounds 35 (if l2=true then .pointer (some ⟨g,0,none⟩) else A.tmps.getD 35 undef)).setIfInBounds 36 (if l3=true then va else A.tmps.getD 36 undef)).setIfInBounds 37 (if l4=true then .slice g1 PA.length c1 else A.tmps.getD 37 undef)).setIfInBounds 38 (if l5=true then .slice (some ⟨g,0,none⟩) 2 2 else A.tmps.getD 38 undef)).setIfInBounds 39 (if l6=true then .pointer (some ⟨g,1,none⟩) else A.tmps.getD 39 undef)).setIfInBounds 40 (if l7=true then vb else A.tmps.getD 40 undef)).setIfInBounds 41 (if l8=true then .slice g2 PB.length c2 else A.tmps.getD 41 undef)).setIfInBounds 42 (if l9=true then .slice g9 M.length c9 else A.tmps.getD 42 undef)).setIfInBounds 2 (if l10=true then .slice g9 M.length c9 else A.tmps.getD 2 undef)),A.defers⟩ ∧
   St w w' [Ent.row 28 1 (.slice (some ⟨g,0,none⟩) 2 2) 2 ([va,vb]),(if l4=true then Ent.mkQ (fun u=>Pairs 0 u va ta.post) F1 (.slice g1 PA.length c1) PA else Ent.nil),(if l8=true then Ent.mkQ (fun u=>Pairs 0 u vb tb.post) F2 (.slice g2 PB.length c2) PB else Ent.nil),(if l9=true then Ent.mkQ (fun u=>Pairs 0 u (.slice g1 PA.length c1) PA∧Pairs 0 u (.slice g2 PB.length c2) PB) F9 (.slice g9 M.length c9) M else Ent.nil)]) ?_ ?_ ?_
 ·rintro listed a w' ⟨l0,l1,l2,l3,l4,l5,l6,l7,l8,l9,l10,g1,c1,F1,g2,c2,F2,g9,c9,F9,rfl,hd9,hd10,rfl,hS⟩ i hi;obtain⟨hun,o,ho,hall⟩:=mem_ready.1 hi;have hlt:=(Array.getElem?_eq_some_iff.1 ho).1;refine wpOp_step ho (fun K hK => ?_);clear hi;have HS:=qh hS;clear hS;simp only[w_1,w_2,w_3,w_4,w_5,w_6,w_7,w_8];obtain h|h|h|h|h|h|h|h|h|h|h:i=0∨i=1∨i=2∨i=3∨i=4∨i=5∨i=6∨i=7∨i=8∨i=9∨i=10:=by simp at hlt;omega
  all_goals subst h
  all_goals simp only[w_5,w_6,w_7,w_9] at ho
  all_goals subst ho
  all_goals simp[Region.binds] at hun hall
  ·subst hun;go_simp;exact hK _ _ ⟨_,_,_,_,_,_,_,_,_,_,_,g1,c1,F1,g2,c2,F2,g9,c9,F9,rfl,hd9,hd10,(by simp),HS.out⟩
  ·subst hun;go_simp;exact hK _ _ ⟨_,_,_,_,_,_,_,_,_,_,_,g1,c1,F1,g2,c2,F2,g9,c9,F9,rfl,hd9,hd10,(by simp),HS.out⟩
  ·obtain rfl:=hall;subst hun;go_simp;exact hK _ _ ⟨_,_,_,_,_,_,_,_,_,_,_,g1,c1,F1,g2,c2,F2,g9,c9,F9,rfl,hd9,hd10,(by simp),HS.out⟩
  ·obtain rfl:=hall;subst hun;have e0:=HS.out.rcell (v:=va) 0 (0) rfl (by omega) rfl;go_simp;exact hK _ _ ⟨_,_,_,_,_,_,_,_,_,_,_,g1,c1,F1,g2,c2,F2,g9,c9,F9,rfl,hd9,hd10,(by simp),HS.out⟩
  ·obtain rfl:=hall;subst hun;obtain rfl:l9=false:=offL hd9 rfl;obtain rfl:l10=false:=by cases l10 with|false=>rfl|true=>simpa using hd10 rfl
   go_simp
   go_at_call 23
   refine(HTA.out _ _ (HPa.out.below HS.out.bel)).mono ?_;rintro e u1 ⟨a8,d8,F8,rfl,hS8⟩;have hS2:=(HS.out.cat hS8).pick [0,4,2,3] (by decide);have HhS2:=qh hS2;clear hS2;go_simp;exact hK _ _ ⟨_,_,_,_,_,_,_,_,_,_,_,a8,d8,F8,g2,c2,F2,g9,c9,F9,rfl,by simp,by simp,(by simp),HhS2.out⟩
  ·subst hun;go_simp;exact hK _ _ ⟨_,_,_,_,_,_,_,_,_,_,_,g1,c1,F1,g2,c2,F2,g9,c9,F9,rfl,hd9,hd10,(by simp),HS.out⟩
  ·obtain rfl:=hall;subst hun;go_simp;exact hK _ _ ⟨_,_,_,_,_,_,_,_,_,_,_,g1,c1,F1,g2,c2,F2,g9,c9,F9,rfl,hd9,hd10,(by simp),HS.out⟩
  ·obtain rfl:=hall;subst hun;have e0:=HS.out.rcell (v:=vb) 0 (1) rfl (by omega) rfl;go_simp;exact hK _ _ ⟨_,_,_,_,_,_,_,_,_,_,_,g1,c1,F1,g2,c2,F2,g9,c9,F9,rfl,hd9,hd10,(by simp),HS.out⟩
  ·obtain⟨rfl,rfl⟩:=hall;subst hun;obtain rfl:l9=false:=offR hd9 rfl;obtain rfl:l10=false:=by cases l10 with|false=>rfl|true=>simpa using hd10 rfl
   go_simp
   go_at_call 23
   refine(HTB.out _ _ (HPb.out.below HS.out.bel)).mono ?_;rintro e u1 ⟨a8,d8,F8,rfl,hS8⟩;have hS2:=(HS.out.cat hS8).pick [0,1,4,3] (by decide);have HhS2:=qh hS2;clear hS2;go_simp;exact hK _ _ ⟨_,_,_,_,_,_,_,_,_,_,_,g1,c1,F1,a8,d8,F8,g9,c9,F9,rfl,by simp,by simp,(by simp),HhS2.out⟩
  ·obtain⟨rfl,rfl,rfl⟩:=hall;subst hun;obtain rfl:l10=false:=by cases l10 with|false=>rfl|true=>simpa using hd10 rfl
   go_simp
   go_at_call 55
   refine(Zgo 4 (by decide) PA PB M Hhk.out _ _ _ (by omega) (by omega) (HS.out.mkQ 1 rfl (HPa.out.below HS.out.bel)) (HS.out.mkQ 2 rfl (HPb.out.below HS.out.bel))).mono ?_;rintro e u1 ⟨a8,d8,F8,rfl,hS8⟩;have hS2:=(HS.out.cat hS8).pick [0,1,2,4] (by decide);have HhS2:=qh hS2;clear hS2;go_simp;exact hK _ _ ⟨_,_,_,_,_,_,_,_,_,_,_,g1,c1,F1,g2,c2,F2,a8,d8,F8,rfl,by simp,by simp,(by simp),HhS2.out⟩
  obtain⟨rfl,rfl,rfl,rfl,rfl,rfl,rfl,rfl,rfl,rfl,-⟩:=hall;subst hun;go_simp;exact hK _ _ ⟨_,_,_,_,_,_,_,_,_,_,_,g1,c1,F1,g2,c2,F2,g9,c9,F9,rfl,by simp,by simp,(by simp),HS.out⟩
 ·rintro listed a w' ⟨l0,l1,l2,l3,l4,l5,l6,l7,l8,l9,l10,g1,c1,F1,g2,c2,F2,g9,c9,F9,rfl,hd9,hd10,rfl,hS⟩ hr;obtain⟨rfl,rfl,rfl,rfl,rfl,rfl,rfl,rfl,rfl,rfl,rfl,-⟩:=zA (ZaK (by kernel_rfl) rfl hr) rfl;clear hr hd9 hd10;simp only[↓reduceIte] at hS ⊢;simp only[w_1,w_2,w_3];have HS5:=qh hS;clear hS;go_wp2;go_ret;exact Zdp (HS5.out.pick [1,2,3] (by decide)) fun u hx ha=>Zb0 ha 2 rfl ⟨Zb0 ha 0 rfl (HV.out u hx).1,Zb0 ha 1 rfl (HV.out u hx).2⟩
 refine⟨false,false,false,false,false,false,false,false,false,false,false,none,0,Ent.nil,none,0,Ent.nil,none,0,Ent.nil,rfl,by simp,by simp,(by simp),?_⟩;exact HSr.out.drew.pick [0,1,2,3] (by decide)
theorem Zpf (ta tb:Ex) (h60:(Ex.alt ta tb).post.length≤60) (hta:SimC ta) (htb:SimC tb):SimC (Ex.alt ta tb):=by
 intro v w h;have HO:=qh (Zb3 ta tb (Ex.alt ta tb) 5 0 rfl Zge v w h60 h);have Hh:=qh h;have hP:=h;rw[show(Ex.alt ta tb).post=(ta.post++tb.post)++[(5,0)] from rfl] at hP;obtain⟨bb,off,cap,rfl,hc1,hc2,hbl,hcell⟩:=ZbM hP;obtain⟨m,hm⟩:=eI ((ta.post++tb.post).length);rw[← hm] at hc1 hcell Hh HO;rw[← hm];have hmI:m≤59:=by rw[hm];simp[Ex.post] at h60 ⊢;omega
 have Hcell:=qh hcell;obtain⟨k1,k2⟩:=hcell w (Below.refl _ _);have hw1:IntKind.i64.wrap ((m:Int)+1-1)=(m:Int):=by rw[IntWalk.i64_in _ (by omega)];omega
 have HS0:=qh (St.start w);replace hm:=qh hm;clear h hP hcell;obtain⟨PA,hPA⟩:∃ l,(simE ta).post=l:=⟨_,rfl⟩;have HTA:=qh (show ∀ (v:Value) (w:World),Pairs 0 w v ta.post→Calls Tryz.prog 23 #[v] w fun e w'=>RQm (fun u=>Pairs 0 u v ta.post) PA w e w' from fun v w hp=>by have h9:=hta v w hp;rw[hPA] at h9;exact h9);obtain⟨PB,hPB⟩:∃ l,(simE tb).post=l:=⟨_,rfl⟩;have HTB:=qh (show ∀ (v:Value) (w:World),Pairs 0 w v tb.post→Calls Tryz.prog 23 #[v] w fun e w'=>RQm (fun u=>Pairs 0 u v tb.post) PB w e w' from fun v w hp=>by have h9:=htb v w hp;rw[hPB] at h9;exact h9);obtain⟨M,hM⟩:∃ l,(simE (Ex.alt ta tb)).post=l:=⟨_,rfl⟩;have hk:mkL 5 0 PA PB=M:=by rw[← hPA,← hPB,← hM];exact Zd6 _ _
 have hl1:=Zbg ta;have hl2:=Zbg tb;have hl3:ta.post.length+tb.post.length≤60:=by simp[Ex.post] at h60;omega
 rw[hPA] at hl1;rw[hPB] at hl2;rw[hM];replace hPA:=qh hPA;have HhPB:=qh hPB;clear hPB;replace hM:=qh hM;have Hhk:=qh hk;clear hk;clear hta htb
 go_enter Tryz.func23, Tryz.ntmps23
 go_wp2_with fail;refine HO.out.mono ?_;rintro e w2 ⟨g,va,vb,rfl,hS,hv⟩;have HS2:=qh hS;have HV:=qh hv;have HPa:=qh (hv _ Hh.out).1;have HPb:=qh (hv _ Hh.out).2;have HSr:=qh hS;clear hS hv
 go_upto_region 10 with fail
 refine wp_region_any (by kernel_rfl) ?_
 refine Zar (fun A listed a w'=>∃ (l0 l1 l2 l3 l4 l5 l6 l7 l8 l9 l10:Bool) (g1:Option Addr) (c1:Nat) (F1:Ent) (g2:Option Addr) (c2:Nat) (F2:Ent) (g9:Option Addr) (c9:Nat) (F9:Ent),listed=#[l0,l1,l2,l3,l4,l5,l6,l7,l8,l9,l10]∧(l9=true→l4=true∧l8=true)∧(l10=true→l9=true) ∧
   a=⟨(((((((((((A.tmps.setIfInBounds 33 (if l0=true then .int .i64 5 else A.tmps.getD 33 undef)).setIfInBounds 34 (if l1=true then .slice (some ⟨g,0,none⟩) 2 2 else A.tmps.getD 34 undef)).setIfInBounds 35 (if l2=true then .pointer (some ⟨g,0,none⟩) else A.tmps.getD 35 undef)).setIfInBounds 36 (if l3=true then va else A.tmps.getD 36 undef)).setIfInBounds 37 (if l4=true then .slice g1 PA.length c1 else A.tmps.getD 37 undef)).setIfInBounds 38 (if l5=true then .slice (some ⟨g,0,none⟩) 2 2 else A.tmps.getD 38 undef)).setIfInBounds 39 (if l6=true then .pointer (some ⟨g,1,none⟩) else A.tmps.getD 39 undef)).setIfInBounds 40 (if l7=true then vb else A.tmps.getD 40 undef)).setIfInBounds 41 (if l8=true then .slice g2 PB.length c2 else A.tmps.getD 41 undef)).setIfInBounds 42 (if l9=true then .slice g9 M.length c9 else A.tmps.getD 42 undef)).setIfInBounds 2 (if l10=true then .slice g9 M.length c9 else A.tmps.getD 2 undef)),A.defers⟩ ∧
   St w w' [Ent.row 28 1 (.slice (some ⟨g,0,none⟩) 2 2) 2 ([va,vb]),(if l4=true then Ent.mkQ (fun u=>Pairs 0 u va ta.post) F1 (.slice g1 PA.length c1) PA else Ent.nil),(if l8=true then Ent.mkQ (fun u=>Pairs 0 u vb tb.post) F2 (.slice g2 PB.length c2) PB else Ent.nil),(if l9=true then Ent.mkQ (fun u=>Pairs 0 u (.slice g1 PA.length c1) PA∧Pairs 0 u (.slice g2 PB.length c2) PB) F9 (.slice g9 M.length c9) M else Ent.nil)]) ?_ ?_ ?_
 ·rintro listed a w' ⟨l0,l1,l2,l3,l4,l5,l6,l7,l8,l9,l10,g1,c1,F1,g2,c2,F2,g9,c9,F9,rfl,hd9,hd10,rfl,hS⟩ i hi;obtain⟨hun,o,ho,hall⟩:=mem_ready.1 hi;have hlt:=(Array.getElem?_eq_some_iff.1 ho).1;refine wpOp_step ho (fun K hK => ?_);clear hi;have HS:=qh hS;clear hS;simp only[w_1,w_2,w_3,w_4,w_5,w_6,w_7,w_8];obtain h|h|h|h|h|h|h|h|h|h|h:i=0∨i=1∨i=2∨i=3∨i=4∨i=5∨i=6∨i=7∨i=8∨i=9∨i=10:=by simp at hlt;omega
  all_goals subst h
  all_goals simp only[w_5,w_6,w_7,w_9] at ho
  all_goals subst ho
  all_goals simp[Region.binds] at hun hall
  ·subst hun;go_simp;exact hK _ _ ⟨_,_,_,_,_,_,_,_,_,_,_,g1,c1,F1,g2,c2,F2,g9,c9,F9,rfl,hd9,hd10,(by simp),HS.out⟩
  ·subst hun;go_simp;exact hK _ _ ⟨_,_,_,_,_,_,_,_,_,_,_,g1,c1,F1,g2,c2,F2,g9,c9,F9,rfl,hd9,hd10,(by simp),HS.out⟩
  ·obtain rfl:=hall;subst hun;go_simp;exact hK _ _ ⟨_,_,_,_,_,_,_,_,_,_,_,g1,c1,F1,g2,c2,F2,g9,c9,F9,rfl,hd9,hd10,(by simp),HS.out⟩
  ·obtain rfl:=hall;subst hun;have e0:=HS.out.rcell (v:=va) 0 (0) rfl (by omega) rfl;go_simp;exact hK _ _ ⟨_,_,_,_,_,_,_,_,_,_,_,g1,c1,F1,g2,c2,F2,g9,c9,F9,rfl,hd9,hd10,(by simp),HS.out⟩
  ·obtain rfl:=hall;subst hun;obtain rfl:l9=false:=offL hd9 rfl;obtain rfl:l10=false:=by cases l10 with|false=>rfl|true=>simpa using hd10 rfl
   go_simp
   go_at_call 23
   refine(HTA.out _ _ (HPa.out.below HS.out.bel)).mono ?_;rintro e u1 ⟨a8,d8,F8,rfl,hS8⟩;have hS2:=(HS.out.cat hS8).pick [0,4,2,3] (by decide);have HhS2:=qh hS2;clear hS2;go_simp;exact hK _ _ ⟨_,_,_,_,_,_,_,_,_,_,_,a8,d8,F8,g2,c2,F2,g9,c9,F9,rfl,by simp,by simp,(by simp),HhS2.out⟩
  ·subst hun;go_simp;exact hK _ _ ⟨_,_,_,_,_,_,_,_,_,_,_,g1,c1,F1,g2,c2,F2,g9,c9,F9,rfl,hd9,hd10,(by simp),HS.out⟩
  ·obtain rfl:=hall;subst hun;go_simp;exact hK _ _ ⟨_,_,_,_,_,_,_,_,_,_,_,g1,c1,F1,g2,c2,F2,g9,c9,F9,rfl,hd9,hd10,(by simp),HS.out⟩
  ·obtain rfl:=hall;subst hun;have e0:=HS.out.rcell (v:=vb) 0 (1) rfl (by omega) rfl;go_simp;exact hK _ _ ⟨_,_,_,_,_,_,_,_,_,_,_,g1,c1,F1,g2,c2,F2,g9,c9,F9,rfl,hd9,hd10,(by simp),HS.out⟩
  ·obtain⟨rfl,rfl⟩:=hall;subst hun;obtain rfl:l9=false:=offR hd9 rfl;obtain rfl:l10=false:=by cases l10 with|false=>rfl|true=>simpa using hd10 rfl
   go_simp
   go_at_call 23
   refine(HTB.out _ _ (HPb.out.below HS.out.bel)).mono ?_;rintro e u1 ⟨a8,d8,F8,rfl,hS8⟩;have hS2:=(HS.out.cat hS8).pick [0,1,4,3] (by decide);have HhS2:=qh hS2;clear hS2;go_simp;exact hK _ _ ⟨_,_,_,_,_,_,_,_,_,_,_,g1,c1,F1,a8,d8,F8,g9,c9,F9,rfl,by simp,by simp,(by simp),HhS2.out⟩
  ·obtain⟨rfl,rfl,rfl⟩:=hall;subst hun;obtain rfl:l10=false:=by cases l10 with|false=>rfl|true=>simpa using hd10 rfl
   go_simp
   go_at_call 55
   refine(Zgo 5 (by decide) PA PB M Hhk.out _ _ _ (by omega) (by omega) (HS.out.mkQ 1 rfl (HPa.out.below HS.out.bel)) (HS.out.mkQ 2 rfl (HPb.out.below HS.out.bel))).mono ?_;rintro e u1 ⟨a8,d8,F8,rfl,hS8⟩;have hS2:=(HS.out.cat hS8).pick [0,1,2,4] (by decide);have HhS2:=qh hS2;clear hS2;go_simp;exact hK _ _ ⟨_,_,_,_,_,_,_,_,_,_,_,g1,c1,F1,g2,c2,F2,a8,d8,F8,rfl,by simp,by simp,(by simp),HhS2.out⟩
  obtain⟨rfl,rfl,rfl,rfl,rfl,rfl,rfl,rfl,rfl,rfl,-⟩:=hall;subst hun;go_simp;exact hK _ _ ⟨_,_,_,_,_,_,_,_,_,_,_,g1,c1,F1,g2,c2,F2,g9,c9,F9,rfl,by simp,by simp,(by simp),HS.out⟩
 ·rintro listed a w' ⟨l0,l1,l2,l3,l4,l5,l6,l7,l8,l9,l10,g1,c1,F1,g2,c2,F2,g9,c9,F9,rfl,hd9,hd10,rfl,hS⟩ hr;obtain⟨rfl,rfl,rfl,rfl,rfl,rfl,rfl,rfl,rfl,rfl,rfl,-⟩:=zA (ZaK (by kernel_rfl) rfl hr) rfl;clear hr hd9 hd10;simp only[↓reduceIte] at hS ⊢;simp only[w_1,w_2,w_3];have HS5:=qh hS;clear hS;go_wp2;go_ret;exact Zdp (HS5.out.pick [1,2,3] (by decide)) fun u hx ha=>Zb0 ha 2 rfl ⟨Zb0 ha 0 rfl (HV.out u hx).1,Zb0 ha 1 rfl (HV.out u hx).2⟩
 refine⟨false,false,false,false,false,false,false,false,false,false,false,none,0,Ent.nil,none,0,Ent.nil,none,0,Ent.nil,rfl,by simp,by simp,(by simp),?_⟩;exact HSr.out.drew.pick [0,1,2,3] (by decide)
theorem Zn2 (ta tb:Ex) (h60:(Ex.both ta tb).post.length≤60) (hta:SimC ta) (htb:SimC tb):SimC (Ex.both ta tb):=by
 intro v w h;have HO:=qh (Zb3 ta tb (Ex.both ta tb) 6 0 rfl Zd3 v w h60 h);have Hh:=qh h;have hP:=h;rw[show(Ex.both ta tb).post=(ta.post++tb.post)++[(6,0)] from rfl] at hP;obtain⟨bb,off,cap,rfl,hc1,hc2,hbl,hcell⟩:=ZbM hP;obtain⟨m,hm⟩:=eI ((ta.post++tb.post).length);rw[← hm] at hc1 hcell Hh HO;rw[← hm];have hmI:m≤59:=by rw[hm];simp[Ex.post] at h60 ⊢;omega
 have Hcell:=qh hcell;obtain⟨k1,k2⟩:=hcell w (Below.refl _ _);have hw1:IntKind.i64.wrap ((m:Int)+1-1)=(m:Int):=by rw[IntWalk.i64_in _ (by omega)];omega
 have HS0:=qh (St.start w);replace hm:=qh hm;clear h hP hcell;obtain⟨PA,hPA⟩:∃ l,(simE ta).post=l:=⟨_,rfl⟩;have HTA:=qh (show ∀ (v:Value) (w:World),Pairs 0 w v ta.post→Calls Tryz.prog 23 #[v] w fun e w'=>RQm (fun u=>Pairs 0 u v ta.post) PA w e w' from fun v w hp=>by have h9:=hta v w hp;rw[hPA] at h9;exact h9);obtain⟨PB,hPB⟩:∃ l,(simE tb).post=l:=⟨_,rfl⟩;have HTB:=qh (show ∀ (v:Value) (w:World),Pairs 0 w v tb.post→Calls Tryz.prog 23 #[v] w fun e w'=>RQm (fun u=>Pairs 0 u v tb.post) PB w e w' from fun v w hp=>by have h9:=htb v w hp;rw[hPB] at h9;exact h9);obtain⟨M,hM⟩:∃ l,(simE (Ex.both ta tb)).post=l:=⟨_,rfl⟩;have hk:mkL 6 0 PA PB=M:=by rw[← hPA,← hPB,← hM];exact ZkD _ _
 have hl1:=Zbg ta;have hl2:=Zbg tb;have hl3:ta.post.length+tb.post.length≤60:=by simp[Ex.post] at h60;omega
 rw[hPA] at hl1;rw[hPB] at hl2;rw[hM];replace hPA:=qh hPA;have HhPB:=qh hPB;clear hPB;replace hM:=qh hM;have Hhk:=qh hk;clear hk;clear hta htb
 go_enter Tryz.func23, Tryz.ntmps23
 go_wp2_with fail;refine HO.out.mono ?_;rintro e w2 ⟨g,va,vb,rfl,hS,hv⟩;have HS2:=qh hS;have HV:=qh hv;have HPa:=qh (hv _ Hh.out).1;have HPb:=qh (hv _ Hh.out).2;have HSr:=qh hS;clear hS hv
 go_upto_region 10 with fail
 refine wp_region_any (by kernel_rfl) ?_
 refine Zar (fun A listed a w'=>∃ (l0 l1 l2 l3 l4 l5 l6 l7 l8 l9 l10:Bool) (g1:Option Addr) (c1:Nat) (F1:Ent) (g2:Option Addr) (c2:Nat) (F2:Ent) (g9:Option Addr) (c9:Nat) (F9:Ent),listed=#[l0,l1,l2,l3,l4,l5,l6,l7,l8,l9,l10]∧(l9=true→l4=true∧l8=true)∧(l10=true→l9=true) ∧
   a=⟨(((((((((((A.tmps.setIfInBounds 33 (if l0=true then .int .i64 6 else A.tmps.getD 33 undef)).setIfInBounds 34 (if l1=true then .slice (some ⟨g,0,none⟩) 2 2 else A.tmps.getD 34 undef)).setIfInBounds 35 (if l2=true then .pointer (some ⟨g,0,none⟩) else A.tmps.getD 35 undef)).setIfInBounds 36 (if l3=true then va else A.tmps.getD 36 undef)).setIfInBounds 37 (if l4=true then .slice g1 PA.length c1 else A.tmps.getD 37 undef)).setIfInBounds 38 (if l5=true then .slice (some ⟨g,0,none⟩) 2 2 else A.tmps.getD 38 undef)).setIfInBounds 39 (if l6=true then .pointer (some ⟨g,1,none⟩) else A.tmps.getD 39 undef)).setIfInBounds 40 (if l7=true then vb else A.tmps.getD 40 undef)).setIfInBounds 41 (if l8=true then .slice g2 PB.length c2 else A.tmps.getD 41 undef)).setIfInBounds 42 (if l9=true then .slice g9 M.length c9 else A.tmps.getD 42 undef)).setIfInBounds 2 (if l10=true then .slice g9 M.length c9 else A.tmps.getD 2 undef)),A.defers⟩ ∧
   St w w' [Ent.row 28 1 (.slice (some ⟨g,0,none⟩) 2 2) 2 ([va,vb]),(if l4=true then Ent.mkQ (fun u=>Pairs 0 u va ta.post) F1 (.slice g1 PA.length c1) PA else Ent.nil),(if l8=true then Ent.mkQ (fun u=>Pairs 0 u vb tb.post) F2 (.slice g2 PB.length c2) PB else Ent.nil),(if l9=true then Ent.mkQ (fun u=>Pairs 0 u (.slice g1 PA.length c1) PA∧Pairs 0 u (.slice g2 PB.length c2) PB) F9 (.slice g9 M.length c9) M else Ent.nil)]) ?_ ?_ ?_
 ·rintro listed a w' ⟨l0,l1,l2,l3,l4,l5,l6,l7,l8,l9,l10,g1,c1,F1,g2,c2,F2,g9,c9,F9,rfl,hd9,hd10,rfl,hS⟩ i hi;obtain⟨hun,o,ho,hall⟩:=mem_ready.1 hi;have hlt:=(Array.getElem?_eq_some_iff.1 ho).1;refine wpOp_step ho (fun K hK => ?_);clear hi;have HS:=qh hS;clear hS;simp only[w_1,w_2,w_3,w_4,w_5,w_6,w_7,w_8];obtain h|h|h|h|h|h|h|h|h|h|h:i=0∨i=1∨i=2∨i=3∨i=4∨i=5∨i=6∨i=7∨i=8∨i=9∨i=10:=by simp at hlt;omega
  all_goals subst h
  all_goals simp only[w_5,w_6,w_7,w_9] at ho
  all_goals subst ho
  all_goals simp[Region.binds] at hun hall
  ·subst hun;go_simp;exact hK _ _ ⟨_,_,_,_,_,_,_,_,_,_,_,g1,c1,F1,g2,c2,F2,g9,c9,F9,rfl,hd9,hd10,(by simp),HS.out⟩
  ·subst hun;go_simp;exact hK _ _ ⟨_,_,_,_,_,_,_,_,_,_,_,g1,c1,F1,g2,c2,F2,g9,c9,F9,rfl,hd9,hd10,(by simp),HS.out⟩
  ·obtain rfl:=hall;subst hun;go_simp;exact hK _ _ ⟨_,_,_,_,_,_,_,_,_,_,_,g1,c1,F1,g2,c2,F2,g9,c9,F9,rfl,hd9,hd10,(by simp),HS.out⟩
  ·obtain rfl:=hall;subst hun;have e0:=HS.out.rcell (v:=va) 0 (0) rfl (by omega) rfl;go_simp;exact hK _ _ ⟨_,_,_,_,_,_,_,_,_,_,_,g1,c1,F1,g2,c2,F2,g9,c9,F9,rfl,hd9,hd10,(by simp),HS.out⟩
  ·obtain rfl:=hall;subst hun;obtain rfl:l9=false:=offL hd9 rfl;obtain rfl:l10=false:=by cases l10 with|false=>rfl|true=>simpa using hd10 rfl
   go_simp
   go_at_call 23
   refine(HTA.out _ _ (HPa.out.below HS.out.bel)).mono ?_;rintro e u1 ⟨a8,d8,F8,rfl,hS8⟩;have hS2:=(HS.out.cat hS8).pick [0,4,2,3] (by decide);have HhS2:=qh hS2;clear hS2;go_simp;exact hK _ _ ⟨_,_,_,_,_,_,_,_,_,_,_,a8,d8,F8,g2,c2,F2,g9,c9,F9,rfl,by simp,by simp,(by simp),HhS2.out⟩
  ·subst hun;go_simp;exact hK _ _ ⟨_,_,_,_,_,_,_,_,_,_,_,g1,c1,F1,g2,c2,F2,g9,c9,F9,rfl,hd9,hd10,(by simp),HS.out⟩
  ·obtain rfl:=hall;subst hun;go_simp;exact hK _ _ ⟨_,_,_,_,_,_,_,_,_,_,_,g1,c1,F1,g2,c2,F2,g9,c9,F9,rfl,hd9,hd10,(by simp),HS.out⟩
  ·obtain rfl:=hall;subst hun;have e0:=HS.out.rcell (v:=vb) 0 (1) rfl (by omega) rfl;go_simp;exact hK _ _ ⟨_,_,_,_,_,_,_,_,_,_,_,g1,c1,F1,g2,c2,F2,g9,c9,F9,rfl,hd9,hd10,(by simp),HS.out⟩
  ·obtain⟨rfl,rfl⟩:=hall;subst hun;obtain rfl:l9=false:=offR hd9 rfl;obtain rfl:l10=false:=by cases l10 with|false=>rfl|true=>simpa using hd10 rfl
   go_simp
   go_at_call 23
   refine(HTB.out _ _ (HPb.out.below HS.out.bel)).mono ?_;rintro e u1 ⟨a8,d8,F8,rfl,hS8⟩;have hS2:=(HS.out.cat hS8).pick [0,1,4,3] (by decide);have HhS2:=qh hS2;clear hS2;go_simp;exact hK _ _ ⟨_,_,_,_,_,_,_,_,_,_,_,g1,c1,F1,a8,d8,F8,g9,c9,F9,rfl,by simp,by simp,(by simp),HhS2.out⟩
  ·obtain⟨rfl,rfl,rfl⟩:=hall;subst hun;obtain rfl:l10=false:=by cases l10 with|false=>rfl|true=>simpa using hd10 rfl
   go_simp
   go_at_call 55
   refine(Zgo 6 (by decide) PA PB M Hhk.out _ _ _ (by omega) (by omega) (HS.out.mkQ 1 rfl (HPa.out.below HS.out.bel)) (HS.out.mkQ 2 rfl (HPb.out.below HS.out.bel))).mono ?_;rintro e u1 ⟨a8,d8,F8,rfl,hS8⟩;have hS2:=(HS.out.cat hS8).pick [0,1,2,4] (by decide);have HhS2:=qh hS2;clear hS2;go_simp;exact hK _ _ ⟨_,_,_,_,_,_,_,_,_,_,_,g1,c1,F1,g2,c2,F2,a8,d8,F8,rfl,by simp,by simp,(by simp),HhS2.out⟩
  obtain⟨rfl,rfl,rfl,rfl,rfl,rfl,rfl,rfl,rfl,rfl,-⟩:=hall;subst hun;go_simp;exact hK _ _ ⟨_,_,_,_,_,_,_,_,_,_,_,g1,c1,F1,g2,c2,F2,g9,c9,F9,rfl,by simp,by simp,(by simp),HS.out⟩
 ·rintro listed a w' ⟨l0,l1,l2,l3,l4,l5,l6,l7,l8,l9,l10,g1,c1,F1,g2,c2,F2,g9,c9,F9,rfl,hd9,hd10,rfl,hS⟩ hr;obtain⟨rfl,rfl,rfl,rfl,rfl,rfl,rfl,rfl,rfl,rfl,rfl,-⟩:=zA (ZaK (by kernel_rfl) rfl hr) rfl;clear hr hd9 hd10;simp only[↓reduceIte] at hS ⊢;simp only[w_1,w_2,w_3];have HS5:=qh hS;clear hS;go_wp2;go_ret;exact Zdp (HS5.out.pick [1,2,3] (by decide)) fun u hx ha=>Zb0 ha 2 rfl ⟨Zb0 ha 0 rfl (HV.out u hx).1,Zb0 ha 1 rfl (HV.out u hx).2⟩
 refine⟨false,false,false,false,false,false,false,false,false,false,false,none,0,Ent.nil,none,0,Ent.nil,none,0,Ent.nil,rfl,by simp,by simp,(by simp),?_⟩;exact HSr.out.drew.pick [0,1,2,3] (by decide)
theorem Zn5:∀ t:Ex,t.post.length≤60→SimC t:=by
 intro t
 induction t with
 | zero=>exact fun _=>ZnZ
 | one=>exact fun _=>Zpc
 | ltr c=>exact fun _=>Zpe c
 | join a b ha hb=>exact fun h=>Zn1 a b h (ha (by simp[Ex.post] at h;omega)) (hb (by simp[Ex.post] at h;omega))
 | alt a b ha hb=>exact fun h=>Zpf a b h (ha (by simp[Ex.post] at h;omega)) (hb (by simp[Ex.post] at h;omega))
 | both a b ha hb=>exact fun h=>Zn2 a b h (ha (by simp[Ex.post] at h;omega)) (hb (by simp[Ex.post] at h;omega))
 | neg a ha=>exact fun h=>Zpd a h (ha (by simp[Ex.post] at h;omega))
 | star a ha=>exact fun h=>Zn0 a h (ha (by simp[Ex.post] at h;omega))
end Go.Proofs.YtncekbbhgipdlaaGreat
