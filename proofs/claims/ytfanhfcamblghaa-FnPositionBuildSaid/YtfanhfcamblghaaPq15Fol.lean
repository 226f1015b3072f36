/-
  The walk over the program's follows, by the tree.
  Conditions: the expression reads as such, and has neither both nor not; the function handed over adds a pair.
-/
import Derived.Test.YtfanhfcamblghaaPq14Edg
set_option maxHeartbeats 16000000
set_option maxRecDepth 100000
namespace Go.Proofs.Ytfanhfcamblghaa
open Go.RowKit
structure AddK (c1 c2:Value) (P:List Nat) (M:List (Nat × Nat)→Ent):Prop where
 add:∀ (G:List (Nat × Nat)) (p q:Nat),p∈P→q∈P→∀ (w0 w:World) (X:Ent),St w0 w [M G,X]→Calls Try.prog 35 #[.int .i64 (p:Int),.int .i64 (q:Int),c1,c2] w fun e w'=>e = .returned (.tuple #[])∧St w0 w' [M (G++[(p,q)]),X]
def FolC (c1 c2:Value) (P:List Nat) (M:List (Nat × Nat)→Ent) (t:Ex):Prop:=∀ (G:List (Nat × Nat)) (n:Nat) (v:Value) (w0 w:World) (X:Ent),n+t.post.length≤10000→Pairs 0 w0 v t.post→(∀ p q,(p,q)∈flP t n→p∈P∧q∈P)→St w0 w [M G,X] →
 Calls Try.prog 34 #[v,.int .i64 (n:Int),.func (.func 35) #[] #[c1,c2]] w fun e w'=>e = .returned (.tuple #[])∧St w0 w' [M (G++flP t n),X]
theorem Zl9 {c1 c2:Value} {P:List Nat} {M:List (Nat × Nat)→Ent} (hK:AddK c1 c2 P M) :FolC c1 c2 P M (Ex.zero):=by
 intro G n v w0 w X hnb h0 hPP hS;have h60:(Ex.zero).post.length≤60:=by show 1≤60;decide
 have h:=h0.below hS.bel;have HO:=qh (ZaX (Ex.zero) 1 0 rfl Zbx v w h);have H0:=qh h0;have hP:=h0;rw[show(Ex.zero).post=(([]:List (Int × Int)))++[(1,0)] from rfl] at hP;obtain⟨bb,off,cap,rfl,hc1,hc2,hbl,hcell⟩:=ZaS hP;obtain⟨m,hm⟩:=eI ((([]:List (Int × Int))).length);rw[← hm] at hc1 hcell H0 HO;rw[← hm];have hmI:m≤59:=by rw[hm];simp[Ex.post] at h60 ⊢
 have Hcell:=qh hcell;have hw1:IntKind.i64.wrap ((m:Int)+1-1)=(m:Int):=by rw[IntWalk.i64_in _ (by omega)];omega
 have HS0:=qh hS;have HPP:=qh hPP;replace hm:=qh hm;clear h h0 hP hcell hS hPP;have hf:flP (Ex.zero) n=[]:=rfl;rw[hf,List.append_nil];clear hf HPP
 go_enter Try.func34, Try.ntmps34
 go_wp2_with fail;refine HO.out.mono ?_;rintro e w2 ⟨rfl,hb2⟩;have HS2:=qh (HS0.out.call hb2);obtain⟨k1,k2⟩:=Hcell.out _ HS2.out.bel;clear hb2;go_wp2
 go_loopw [20] (fun i wr=>i = .int .i64 0∧w2=wr) (fun _ _=>0)
 case atStart=>exact⟨rfl,rfl⟩
 case round =>
  obtain⟨rfl,rfl⟩:=hrel;go_wp2
  go_loopw [77] (fun i wr=>i = .int .i64 0∧w2=wr) (fun _ _=>0)
  case atStart=>exact⟨rfl,rfl⟩
  case round =>obtain⟨rfl,rfl⟩:=hrel;go_wp2;refine bodyPost_end (v:=.tuple #[]) (by simp[results,Try.results34,go_sem]) rfl ⟨rfl,HS2.out⟩
theorem Znd {c1 c2:Value} {P:List Nat} {M:List (Nat × Nat)→Ent} (hK:AddK c1 c2 P M) :FolC c1 c2 P M (Ex.one):=by
 intro G n v w0 w X hnb h0 hPP hS;have h60:(Ex.one).post.length≤60:=by show 1≤60;decide
 have h:=h0.below hS.bel;have HO:=qh (ZaX (Ex.one) 2 0 rfl Zbw v w h);have H0:=qh h0;have hP:=h0;rw[show(Ex.one).post=(([]:List (Int × Int)))++[(2,0)] from rfl] at hP;obtain⟨bb,off,cap,rfl,hc1,hc2,hbl,hcell⟩:=ZaS hP;obtain⟨m,hm⟩:=eI ((([]:List (Int × Int))).length);rw[← hm] at hc1 hcell H0 HO;rw[← hm];have hmI:m≤59:=by rw[hm];simp[Ex.post] at h60 ⊢
 have Hcell:=qh hcell;have hw1:IntKind.i64.wrap ((m:Int)+1-1)=(m:Int):=by rw[IntWalk.i64_in _ (by omega)];omega
 have HS0:=qh hS;have HPP:=qh hPP;replace hm:=qh hm;clear h h0 hP hcell hS hPP;have hf:flP (Ex.one) n=[]:=rfl;rw[hf,List.append_nil];clear hf HPP
 go_enter Try.func34, Try.ntmps34
 go_wp2_with fail;refine HO.out.mono ?_;rintro e w2 ⟨rfl,hb2⟩;have HS2:=qh (HS0.out.call hb2);obtain⟨k1,k2⟩:=Hcell.out _ HS2.out.bel;clear hb2;go_wp2
 go_loopw [20] (fun i wr=>i = .int .i64 0∧w2=wr) (fun _ _=>0)
 case atStart=>exact⟨rfl,rfl⟩
 case round =>
  obtain⟨rfl,rfl⟩:=hrel;go_wp2
  go_loopw [77] (fun i wr=>i = .int .i64 0∧w2=wr) (fun _ _=>0)
  case atStart=>exact⟨rfl,rfl⟩
  case round =>obtain⟨rfl,rfl⟩:=hrel;go_wp2;refine bodyPost_end (v:=.tuple #[]) (by simp[results,Try.results34,go_sem]) rfl ⟨rfl,HS2.out⟩
theorem Zne {c1 c2:Value} {P:List Nat} {M:List (Nat × Nat)→Ent} (hK:AddK c1 c2 P M) (ch:Fin 3) :FolC c1 c2 P M (Ex.ltr ch):=by
 intro G n v w0 w X hnb h0 hPP hS;have h60:(Ex.ltr ch).post.length≤60:=by show 1≤60;decide
 have h:=h0.below hS.bel;have HO:=qh (ZaX (Ex.ltr ch) 3 (ch.val:Int) rfl (Zbk ch) v w h);have H0:=qh h0;have hP:=h0;rw[show(Ex.ltr ch).post=(([]:List (Int × Int)))++[(3,(ch.val:Int))] from rfl] at hP;obtain⟨bb,off,cap,rfl,hc1,hc2,hbl,hcell⟩:=ZaS hP;obtain⟨m,hm⟩:=eI ((([]:List (Int × Int))).length);rw[← hm] at hc1 hcell H0 HO;rw[← hm];have hmI:m≤59:=by rw[hm];simp[Ex.post] at h60 ⊢
 have Hcell:=qh hcell;have hw1:IntKind.i64.wrap ((m:Int)+1-1)=(m:Int):=by rw[IntWalk.i64_in _ (by omega)];omega
 have HS0:=qh hS;have HPP:=qh hPP;replace hm:=qh hm;clear h h0 hP hcell hS hPP;have hf:flP (Ex.ltr ch) n=[]:=rfl;rw[hf,List.append_nil];clear hf HPP
 go_enter Try.func34, Try.ntmps34
 go_wp2_with fail;refine HO.out.mono ?_;rintro e w2 ⟨rfl,hb2⟩;have HS2:=qh (HS0.out.call hb2);obtain⟨k1,k2⟩:=Hcell.out _ HS2.out.bel;clear hb2;go_wp2
 go_loopw [20] (fun i wr=>i = .int .i64 0∧w2=wr) (fun _ _=>0)
 case atStart=>exact⟨rfl,rfl⟩
 case round =>
  obtain⟨rfl,rfl⟩:=hrel;go_wp2
  go_loopw [77] (fun i wr=>i = .int .i64 0∧w2=wr) (fun _ _=>0)
  case atStart=>exact⟨rfl,rfl⟩
  case round =>obtain⟨rfl,rfl⟩:=hrel;go_wp2;refine bodyPost_end (v:=.tuple #[]) (by simp[results,Try.results34,go_sem]) rfl ⟨rfl,HS2.out⟩
theorem Zma {c1 c2:Value} {P:List Nat} {M:List (Nat × Nat)→Ent} (hK:AddK c1 c2 P M) (ta:Ex) (h60:(Ex.star ta).post.length≤60) (hpta:plnE ta) (hta:FolC c1 c2 P M ta):FolC c1 c2 P M (Ex.star ta):=by
 intro G n v w0 w X hnb h0 hPP hS;have h:=h0.below hS.bel;have HO:=qh (Zde ta (Ex.star ta) 8 0 rfl Zct v w h60 h);have H0:=qh h0;have hP:=h0;rw[show(Ex.star ta).post=(ta.post)++[(8,0)] from rfl] at hP;obtain⟨bb,off,cap,rfl,hc1,hc2,hbl,hcell⟩:=ZaS hP;obtain⟨m,hm⟩:=eI ((ta.post).length);rw[← hm] at hc1 hcell H0 HO;rw[← hm];have hmI:m≤59:=by rw[hm];simp[Ex.post] at h60 ⊢;omega
 have Hcell:=qh hcell;have hw1:IntKind.i64.wrap ((m:Int)+1-1)=(m:Int):=by rw[IntWalk.i64_in _ (by omega)];omega
 have HS0:=qh hS;have HPP:=qh hPP;replace hm:=qh hm;clear h h0 hP hcell hS hPP;obtain⟨LA,hLA⟩:∃ l,edP false ta (n)=l:=⟨_,rfl⟩;have hlLA:=ZaA false ta (n);have HLA:=qh (show ∀ (v:Value) (w:World),Pairs 0 w v ta.post→Calls Try.prog 88 #[v,.int .i64 ((n:Nat):Int),.bool false] w fun e w'=>ROn LA w e w' from fun v w hp=>by have h9:=Zda false ta hpta (by simp[Ex.post] at h60;omega) (n) v w (by simp[Ex.post] at hnb;omega) hp;rw[hLA] at h9;exact h9);rw[hLA] at hlLA;obtain⟨FI,hFI⟩:∃ l,edP true ta (n)=l:=⟨_,rfl⟩;have hlFI:=ZaA true ta (n);have HFI:=qh (show ∀ (v:Value) (w:World),Pairs 0 w v ta.post→Calls Try.prog 88 #[v,.int .i64 ((n:Nat):Int),.bool true] w fun e w'=>ROn FI w e w' from fun v w hp=>by have h9:=Zda true ta hpta (by simp[Ex.post] at h60;omega) (n) v w (by simp[Ex.post] at hnb;omega) hp;rw[hFI] at h9;exact h9);rw[hFI] at hlFI;have hf:flP (.star ta) n=flP ta n++Zar LA FI:=by rw[← hLA,← hFI];rfl
 have HPL:=qh (show ∀ x y,x∈LA→y∈FI→x∈P∧y∈P from fun x y hx hy=>HPP.out x y (by rw[hf];exact List.mem_append.2 (.inr (ZaK.2 ⟨hx,hy⟩))));have HTA:=qh (fun (w:World) (X:Ent) (v:Value) (hv:Pairs 0 w0 v ta.post) (hS:St w0 w [M G,X])=>hta G n v w0 w X (by simp[Ex.post] at hnb;omega) hv (fun p q h=>HPP.out p q (by rw[hf];exact List.mem_append.2 (.inl h))) hS);rw[hf];obtain⟨GB,hGB⟩:∃ g,G++flP ta n=g:=⟨_,rfl⟩;rw[← List.append_assoc,hGB];rw[hGB] at HTA;obtain⟨nl,hnl⟩:∃ l,LA.length=l:=⟨_,rfl⟩;obtain⟨nf,hnf⟩:∃ l,FI.length=l:=⟨_,rfl⟩;have hl2:ta.post.length≤60:=by simp[Ex.post] at h60;omega
 have hnl60:nl≤60:=by omega
 have hnf60:nf≤60:=by omega
 have Hhnl:=qh hnl;clear hnl;have Hhnf:=qh hnf;clear hnf;replace hLA:=qh hLA;replace hFI:=qh hFI;have HhGB:=qh hGB;clear hGB;clear hf HPP hta
 go_enter Try.func34, Try.ntmps34
 go_wp2_with fail;refine HO.out.mono ?_;rintro e w2 ⟨g,va,rfl,hS,hv⟩;have HPa:=qh (hv _ H0.out);have HS2:=qh (HS0.out.cat hS);obtain⟨k1,k2⟩:=Hcell.out _ HS2.out.bel;clear hS hv;go_wp2
 go_loopw [20] (fun i wr=>(i = .int .i64 0∧w2=wr)∨(i = .int .i64 1∧St w0 wr [M GB,Ent.all [X,Ent.row 23 1 (.slice (some ⟨g,0,none⟩) 1 1) 1 [va]]])) (fun i _=>1-(intOf i).toNat)
 case atStart=>exact .inl ⟨rfl,rfl⟩
 case round =>
  rcases hrel with⟨rfl,rfl⟩|⟨rfl,hS⟩
  ·have r0:=HS2.out.rcell (v:=va) 2 0 rfl (by omega) rfl;go_wp2_with fail;refine(HTA.out _ _ _ HPa.out (St.pack (A:=[M G]) (R:=[X,Ent.row 23 1 (.slice (some ⟨g,0,none⟩) 1 1) 1 [va]]) HS2.out)).mono ?_;rintro e w3 ⟨rfl,hS3⟩;have HS3:=qh hS3;clear hS3;go_wp2;go_roundw
   case rel=>exact .inr ⟨rfl,HS3.out⟩
   case measure=>simp[intOf]
  have hT:=St.unpack (A:=[M G]) (A':=[M GB]) (R:=[X,Ent.row 23 1 (.slice (some ⟨g,0,none⟩) 1 1) 1 [va]]) HS2.out hS;have HSr:=qh hT;obtain⟨k3,k4⟩:=Hcell.out _ hT.bel;clear hS hT k1 k2
  go_upto_region 14 with fail
  refine wp_region_any (by kernel_rfl) ?_
  refine Zaf (fun A listed a w'=>∃ (l0 l1 l2 l3 l4 l5 l6 l7 l8 l9 l10 l11:Bool) (g1:Option Addr) (d1:Nat) (g2:Option Addr) (d2:Nat),listed=#[l0,l1,l2,l3,l4,l5,l6,l7,l8,l9,l10,l11]∧(l10=true→l4=true)∧(l11=true→l9=true) ∧
    a=⟨((((((((((((A.tmps.setIfInBounds 65 (if l0=true then .slice (some ⟨g,0,none⟩) 1 1 else A.tmps.getD 65 undef)).setIfInBounds 66 (if l1=true then .pointer (some ⟨g,0,none⟩) else A.tmps.getD 66 undef)).setIfInBounds 67 (if l2=true then va else A.tmps.getD 67 undef)).setIfInBounds 68 (if l3=true then .int .i64 (n:Int) else A.tmps.getD 68 undef)).setIfInBounds 69 (if l4=true then .slice g1 LA.length d1 else A.tmps.getD 69 undef)).setIfInBounds 70 (if l5=true then .slice (some ⟨g,0,none⟩) 1 1 else A.tmps.getD 70 undef)).setIfInBounds 71 (if l6=true then .pointer (some ⟨g,0,none⟩) else A.tmps.getD 71 undef)).setIfInBounds 72 (if l7=true then va else A.tmps.getD 72 undef)).setIfInBounds 73 (if l8=true then .int .i64 (n:Int) else A.tmps.getD 73 undef)).setIfInBounds 74 (if l9=true then .slice g2 FI.length d2 else A.tmps.getD 74 undef)).setIfInBounds 10 (if l10=true then .slice g1 LA.length d1 else A.tmps.getD 10 undef)).setIfInBounds 11 (if l11=true then .slice g2 FI.length d2 else A.tmps.getD 11 undef)),A.defers⟩ ∧
    St w0 w' [M GB,X,Ent.row 23 1 (.slice (some ⟨g,0,none⟩) 1 1) 1 ([va]),(if l4=true then Ent.row 3 1 (.slice g1 LA.length d1) LA.length (natC LA) else Ent.nil),(if l9=true then Ent.row 3 1 (.slice g2 FI.length d2) FI.length (natC FI) else Ent.nil)]) ?_ ?_ ?_
  ·rintro listed a w' ⟨l0,l1,l2,l3,l4,l5,l6,l7,l8,l9,l10,l11,g1,d1,g2,d2,rfl,hd10,hd11,rfl,hS⟩ i hi;obtain⟨hun,o,ho,hall⟩:=mem_ready.1 hi;have hlt:=(Array.getElem?_eq_some_iff.1 ho).1;refine wpOp_step ho (fun K hK => ?_);clear hi;have HS:=qh hS;clear hS;simp only[List.setIfInBounds_toArray,List.set_cons_zero,List.set_cons_succ,Array.getD_eq_getD_getElem?,List.getElem?_toArray,List.getElem?_cons_zero,List.getElem?_cons_succ,Option.getD_some];obtain h|h|h|h|h|h|h|h|h|h|h|h:i=0∨i=1∨i=2∨i=3∨i=4∨i=5∨i=6∨i=7∨i=8∨i=9∨i=10∨i=11:=by simp at hlt;omega
   all_goals subst h
   all_goals simp only[List.getElem?_toArray,List.getElem?_cons_zero,List.getElem?_cons_succ,Option.some.injEq] at ho
   all_goals subst ho
   all_goals simp[Region.binds] at hun hall
   ·subst hun;go_simp;exact hK _ _ ⟨true,l1,l2,l3,l4,l5,l6,l7,l8,l9,l10,l11,g1,d1,g2,d2,rfl,hd10,hd11,(by simp),HS.out⟩
   ·obtain rfl:=hall;subst hun;go_simp;exact hK _ _ ⟨true,true,l2,l3,l4,l5,l6,l7,l8,l9,l10,l11,g1,d1,g2,d2,rfl,hd10,hd11,(by simp),HS.out⟩
   ·obtain rfl:=hall;subst hun;have e0:=HS.out.rcell (v:=va) 2 (0) rfl (by omega) rfl;go_simp;exact hK _ _ ⟨l0,true,true,l3,l4,l5,l6,l7,l8,l9,l10,l11,g1,d1,g2,d2,rfl,hd10,hd11,(by simp),HS.out⟩
   ·subst hun;go_simp;exact hK _ _ ⟨l0,l1,l2,true,l4,l5,l6,l7,l8,l9,l10,l11,g1,d1,g2,d2,rfl,hd10,hd11,(by simp),HS.out⟩
   ·obtain⟨rfl,rfl⟩:=hall;subst hun;obtain rfl:l10=false:=by cases l10 with|false=>rfl|true=>simpa using hd10 rfl
    go_simp
    go_at_call 88
    refine(HLA.out _ _ (HPa.out.below HS.out.bel)).mono ?_;rintro e u1 ⟨a8,d8,rfl,hS8⟩;have hS2:=(HS.out.cat hS8).pick [0,1,2,5,4] (by decide);have HhS2:=qh hS2;clear hS2;go_simp;exact hK _ _ ⟨l0,l1,true,true,true,l5,l6,l7,l8,l9,false,l11,a8,d8,g2,d2,rfl,by simp,hd11,(by simp),HhS2.out⟩
   ·subst hun;go_simp;exact hK _ _ ⟨l0,l1,l2,l3,l4,true,l6,l7,l8,l9,l10,l11,g1,d1,g2,d2,rfl,hd10,hd11,(by simp),HS.out⟩
   ·obtain rfl:=hall;subst hun;go_simp;exact hK _ _ ⟨l0,l1,l2,l3,l4,true,true,l7,l8,l9,l10,l11,g1,d1,g2,d2,rfl,hd10,hd11,(by simp),HS.out⟩
   ·obtain rfl:=hall;subst hun;have e0:=HS.out.rcell (v:=va) 2 (0) rfl (by omega) rfl;go_simp;exact hK _ _ ⟨l0,l1,l2,l3,l4,l5,true,true,l8,l9,l10,l11,g1,d1,g2,d2,rfl,hd10,hd11,(by simp),HS.out⟩
   ·subst hun;go_simp;exact hK _ _ ⟨l0,l1,l2,l3,l4,l5,l6,l7,true,l9,l10,l11,g1,d1,g2,d2,rfl,hd10,hd11,(by simp),HS.out⟩
   ·obtain⟨rfl,rfl,rfl⟩:=hall;subst hun;obtain rfl:l11=false:=by cases l11 with|false=>rfl|true=>simpa using hd11 rfl
    go_simp
    go_at_call 88
    refine(HFI.out _ _ (HPa.out.below HS.out.bel)).mono ?_;rintro e u1 ⟨a8,d8,rfl,hS8⟩;have hS2:=(HS.out.cat hS8).pick [0,1,2,3,5] (by decide);have HhS2:=qh hS2;clear hS2;go_simp;exact hK _ _ ⟨l0,l1,l2,l3,true,l5,l6,true,true,true,l10,false,g1,d1,a8,d8,rfl,hd10,by simp,(by simp),HhS2.out⟩
   ·obtain⟨rfl,rfl,rfl,rfl,rfl,rfl,-⟩:=hall;subst hun;go_simp;exact hK _ _ ⟨true,true,true,true,true,l5,l6,l7,l8,true,true,l11,g1,d1,g2,d2,rfl,by simp,hd11,(by simp),HS.out⟩
   obtain⟨rfl,rfl,rfl,rfl,rfl,rfl,rfl,rfl,rfl,rfl,rfl,-⟩:=hall;subst hun;go_simp;exact hK _ _ ⟨true,true,true,true,true,true,true,true,true,true,true,true,g1,d1,g2,d2,rfl,by simp,by simp,(by simp),HS.out⟩
  ·rintro listed a w' ⟨l0,l1,l2,l3,l4,l5,l6,l7,l8,l9,l10,l11,g1,d1,g2,d2,rfl,hd10,hd11,rfl,hS⟩ hr;have hall:=Zag (by kernel_rfl) rfl hr;obtain rfl:l0=true:=by simpa using hall 0 (by simp)
   obtain rfl:l1=true:=by simpa using hall 1 (by simp)
   obtain rfl:l2=true:=by simpa using hall 2 (by simp)
   obtain rfl:l3=true:=by simpa using hall 3 (by simp)
   obtain rfl:l4=true:=by simpa using hall 4 (by simp)
   obtain rfl:l5=true:=by simpa using hall 5 (by simp)
   obtain rfl:l6=true:=by simpa using hall 6 (by simp)
   obtain rfl:l7=true:=by simpa using hall 7 (by simp)
   obtain rfl:l8=true:=by simpa using hall 8 (by simp)
   obtain rfl:l9=true:=by simpa using hall 9 (by simp)
   obtain rfl:l10=true:=by simpa using hall 10 (by simp)
   obtain rfl:l11=true:=by simpa using hall 11 (by simp)
   clear hall hr hd10 hd11;simp only[↓reduceIte] at hS ⊢;simp only[List.setIfInBounds_toArray,List.set_cons_zero,List.set_cons_succ];have HS5:=qh (hS.pick [0,1,3,4] (by decide));clear hS;simp only[Hhnl.out,Hhnf.out];have HY:=qh (St.pack (A:=[M GB]) (R:=[X,Ent.row 3 1 (.slice g1 LA.length d1) LA.length (natC LA),Ent.row 3 1 (.slice g2 FI.length d2) FI.length (natC FI)]) HS5.out);clear HS5;have hYA:(Ent.all [X,Ent.row 3 1 (.slice g1 LA.length d1) LA.length (natC LA),Ent.row 3 1 (.slice g2 FI.length d2) FI.length (natC FI)]).inn (Ent.row 3 1 (.slice g1 LA.length d1) LA.length (natC LA)):=Ent.inn_all (by simp) (Ent.inn_refl _);have hYB:(Ent.all [X,Ent.row 3 1 (.slice g1 LA.length d1) LA.length (natC LA),Ent.row 3 1 (.slice g2 FI.length d2) FI.length (natC FI)]).inn (Ent.row 3 1 (.slice g2 FI.length d2) FI.length (natC FI)):=Ent.inn_all (by simp) (Ent.inn_refl _);have hYX:∀ u L,St w0 u [L,Ent.all [X,Ent.row 3 1 (.slice g1 LA.length d1) LA.length (natC LA),Ent.row 3 1 (.slice g2 FI.length d2) FI.length (natC FI)]]→St w0 u [L,X]:=fun u L hS=>hS.innSt 1 rfl (Ent.inn_all (by simp) (Ent.inn_refl _))
   obtain⟨Y,hY⟩:=eJ (Ent.all [X,Ent.row 3 1 (.slice g1 LA.length d1) LA.length (natC LA),Ent.row 3 1 (.slice g2 FI.length d2) FI.length (natC FI)]);rw[hY] at HY hYA hYB hYX;have HYA:=qh hYA;have HYB:=qh hYB;have HYX:=qh hYX;clear hY hYA hYB hYX;go_wp2
   go_loopw [77] (fun i wr=>∃ j:Nat,i = .int .i64 (j:Int)∧j≤nl∧St w0 wr [M (GB++Zar (LA.take j) FI),Y]) (fun i _=>nl-(intOf i).toNat)
   case atStart=>exact⟨0,rfl,Nat.zero_le _,by rw[show Zar (LA.take 0) FI=[] from rfl,List.append_nil];exact HY.out⟩
   case round =>
    obtain⟨j,rfl,hj,hS⟩:=hrel;have HSj:=qh hS;clear hS;by_cases hlt:j<nl
    ·have hltI:(j:Int)<(nl:Int):=by omega
     obtain⟨x,hx⟩:=eJ (LA.getD j 0);have hxc:(natC LA)[j]? = some (.int .i64 ((x:Nat):Int)):=by rw[← hx];exact ZaP (by rw[Hhnl.out];exact hlt)
     have hxm:x∈LA:=by rw[← hx,List.getD_eq_getElem?_getD,List.getElem?_eq_getElem (by rw[Hhnl.out];exact hlt)];exact List.getElem_mem _
     have hcut:LA.take (j+1)=LA.take j++[x]:=by rw[List.take_succ_eq_append_getElem (by rw[Hhnl.out];exact hlt),← hx];simp[Hhnl.out,hlt]
     have hcr:Zar (LA.take (j+1)) FI=Zar (LA.take j) FI++FI.map fun y=>(x,y):=by rw[hcut];simp[Zar]
     obtain⟨q1,q2,hq⟩:∃ ga ca,(Value.slice g1 nl d1) = .slice (some ⟨ga,0,none⟩) nl ca:=by have hT:=HSj.out.innSt 1 rfl HYA.out;rw[Hhnl.out] at hT;obtain⟨ga,ca,h1⟩:=hT.rowform 1 rfl (by omega);exact⟨ga,ca,h1⟩
     simp only[Value.slice.injEq,true_and] at hq;obtain⟨rfl,rfl⟩:=hq;have c0:=HSj.out.innRcell 1 j rfl HYA.out (by rw[Hhnl.out];omega) hxc;have Hhx:=qh hx;clear hx;have Hhxm:=qh hxm;clear hxm;have Hhcut:=qh hcut;clear hcut;have Hhcr:=qh hcr;clear hcr;clear hxc;go_wp2
     go_loopw [83] (fun i wr=>∃ z:Nat,i = .int .i64 (z:Int)∧z≤nf∧St w0 wr [M (GB++Zar (LA.take j) FI++(FI.take z).map fun y=>(x,y)),Y]) (fun i _=>nf-(intOf i).toNat)
     case atStart=>exact⟨0,rfl,Nat.zero_le _,by rw[show(FI.take 0).map (fun y=>(x,y))=[] from rfl,List.append_nil];exact HSj.out⟩
     case round =>
      obtain⟨z,rfl,hz,hS⟩:=hrel;have HSz:=qh hS;clear hS;by_cases hlz:z<nf
      ·have hlzI:(z:Int)<(nf:Int):=by omega
       obtain⟨y,hy⟩:∃ x,FI.getD z 0=x:=⟨_,rfl⟩;have hyc:(natC FI)[z]? = some (.int .i64 ((y:Nat):Int)):=by rw[← hy];exact ZaP (by rw[Hhnf.out];exact hlz)
       have hym:y∈FI:=by rw[← hy,List.getD_eq_getElem?_getD,List.getElem?_eq_getElem (by rw[Hhnf.out];exact hlz)];exact List.getElem_mem _
       have hcuz:(FI.take (z+1)).map (fun y=>(x,y))=(FI.take z).map (fun y=>(x,y))++[(x,y)]:=by
        have e1:FI.take (z+1)=FI.take z++[y]:=by rw[List.take_succ_eq_append_getElem (by rw[Hhnf.out];exact hlz),← hy];simp[Hhnf.out,hlz]
        rw[e1,List.map_append];rfl
       obtain⟨q3,q4,hq⟩:∃ ga ca,(Value.slice g2 nf d2) = .slice (some ⟨ga,0,none⟩) nf ca:=by have hT:=HSz.out.innSt 1 rfl HYB.out;rw[Hhnf.out] at hT;obtain⟨ga,ca,h1⟩:=hT.rowform 1 rfl (by omega);exact⟨ga,ca,h1⟩
       simp only[Value.slice.injEq,true_and] at hq;obtain⟨rfl,rfl⟩:=hq;have c1:=HSz.out.innRcell 1 z rfl HYB.out (by rw[Hhnf.out];omega) hyc;have HA:=qh (hK.add (GB++Zar (LA.take j) FI++(FI.take z).map fun y=>(x,y)) x y (HPL.out x y Hhxm.out hym).1 (HPL.out x y Hhxm.out hym).2 w0 _ Y HSz.out);have Hhcuz:=qh hcuz;clear hcuz;clear hyc hym hy;go_wp2_with fail;refine HA.out.mono ?_;rintro e w9 ⟨rfl,hS9⟩;have HS9:=qh hS9;clear hS9;go_wp2;go_roundw
       case rel=>first|exact⟨z+1,by go_num,by omega,by rw[Hhcuz.out,← List.append_assoc];exact HS9.out⟩|exact⟨_,_,_,_,_,_,_,_,_,_,⟨z+1,by go_num,by omega,by rw[Hhcuz.out,← List.append_assoc];exact HS9.out⟩,rfl⟩
       case measure=>simp[intOf];omega
      obtain rfl:z=nf:=by omega
      have hful:(FI.take z).map (fun y=>(x,y))=FI.map fun y=>(x,y):=by rw[List.take_of_length_le (by rw[Hhnf.out];exact Nat.le_refl _)]
      have Hhful:=qh hful;clear hful;clear hlz;go_wp2;go_roundw
      case rel=>exact⟨j+1,by go_num,by omega,by rw[Hhcr.out,← List.append_assoc,← Hhful.out];exact HSz.out⟩
      case measure=>simp[intOf];omega
    obtain rfl:j=nl:=by omega
    have hful:LA.take j=LA:=List.take_of_length_le (by rw[Hhnl.out];exact Nat.le_refl _);have Hhful:=qh hful;clear hful;clear hlt;go_wp2;refine bodyPost_end (v:=.tuple #[]) (by simp[results,Try.results34,go_sem]) rfl ⟨rfl,?_⟩;have h:=HYX.out _ _ HSj.out;rw[Hhful.out] at h;exact h
  refine⟨false,false,false,false,false,false,false,false,false,false,false,false,none,0,none,0,rfl,by simp,by simp,(by simp),?_⟩;exact HSr.out.drew.pick [0,1,2,3,4] (by decide)
theorem Znf {c1 c2:Value} {P:List Nat} {M:List (Nat × Nat)→Ent} (hK:AddK c1 c2 P M) (ta tb:Ex) (h60:(Ex.alt ta tb).post.length≤60) (hpta:plnE ta) (hptb:plnE tb) (hta:FolC c1 c2 P M ta) (htb:FolC c1 c2 P M tb):FolC c1 c2 P M (Ex.alt ta tb):=by
 intro G n v w0 w X hnb h0 hPP hS;have h:=h0.below hS.bel;have HO:=qh (Zbl ta tb (Ex.alt ta tb) 5 0 rfl ZdC v w h60 h);have H0:=qh h0;have hP:=h0;rw[show(Ex.alt ta tb).post=(ta.post++tb.post)++[(5,0)] from rfl] at hP;obtain⟨bb,off,cap,rfl,hc1,hc2,hbl,hcell⟩:=ZaS hP;obtain⟨m,hm⟩:=eI ((ta.post++tb.post).length);rw[← hm] at hc1 hcell H0 HO;rw[← hm];have hmI:m≤59:=by rw[hm];simp[Ex.post] at h60 ⊢;omega
 have Hcell:=qh hcell;have hw1:IntKind.i64.wrap ((m:Int)+1-1)=(m:Int):=by rw[IntWalk.i64_in _ (by omega)];omega
 have HS0:=qh hS;have HPP:=qh hPP;replace hm:=qh hm;clear h h0 hP hcell hS hPP;have hf:flP (.alt ta tb) n=flP ta n++flP tb (n+ta.post.length):=rfl;obtain⟨la,hla⟩:∃ l,ta.post.length=l:=⟨_,rfl⟩;obtain⟨GA,hGA⟩:∃ g,G++flP ta n=g:=⟨_,rfl⟩;obtain⟨GB,hGB⟩:∃ g,GA++flP tb (n+ta.post.length)=g:=⟨_,rfl⟩;have hta2:=fun (w:World) (X:Ent) (v:Value) (hv:Pairs 0 w0 v ta.post) (hS:St w0 w [M G,X])=>hta G n v w0 w X (by simp[Ex.post] at hnb;omega) hv (fun p q h=>HPP.out p q (by rw[hf];simp[h])) hS
 have htb2:=fun (w:World) (X:Ent) (v:Value) (hv:Pairs 0 w0 v tb.post) (hS:St w0 w [M GA,X])=>htb GA (n+ta.post.length) v w0 w X (by simp[Ex.post] at hnb;omega) hv (fun p q h=>HPP.out p q (by rw[hf];simp[h])) hS
 rw[hGA] at hta2;rw[hGB] at htb2;have hfin:G++flP (.alt ta tb) n=GB:=by rw[hf,← hGB,← hGA];simp[List.append_assoc]
 rw[hfin];have hal:ta.post.length+tb.post.length≤59:=by simp[Ex.post] at h60;omega
 have hn60:n+ta.post.length≤10000:=by simp[Ex.post] at hnb;omega
 rw[hla] at htb2 hal hn60;have HTA:=qh hta2;have HTB:=qh htb2;have hwl:IntKind.i64.wrap ((n:Int)+(la:Int))=(((n+la:Nat)):Int):=by rw[IntWalk.i64_in _ (by omega)];omega
 replace hGA:=qh hGA;have HhGB:=qh hGB;clear hGB;clear hf hfin HPP hta htb hta2 htb2
 go_enter Try.func34, Try.ntmps34
 go_wp2_with fail;refine HO.out.mono ?_;rintro e w2 ⟨g,va,vb,rfl,hS,hv⟩;have HPa:=qh (hv _ H0.out).1;have HPb:=qh (hv _ H0.out).2;obtain⟨aa,ca,rfl,-⟩:=HPa.out.form;rw[hla] at HPa hS;have HS2:=qh (HS0.out.cat hS);obtain⟨k1,k2⟩:=Hcell.out _ HS2.out.bel;clear hS hv hla;go_wp2
 go_loopw [20] (fun i wr=>(i = .int .i64 0∧w2=wr)∨(i = .int .i64 1∧St w0 wr [M GA,Ent.all [X,Ent.row 23 1 (.slice (some ⟨g,0,none⟩) 2 2) 2 [.slice aa la ca,vb]]])∨(i = .int .i64 2∧St w0 wr [M GB,Ent.all [X,Ent.row 23 1 (.slice (some ⟨g,0,none⟩) 2 2) 2 [.slice aa la ca,vb]]])) (fun i _=>2-(intOf i).toNat)
 case atStart=>exact .inl ⟨rfl,rfl⟩
 case round =>
  rcases hrel with⟨rfl,rfl⟩|⟨rfl,hS⟩|⟨rfl,hS⟩
  ·have r0:=HS2.out.rcell (v:=.slice aa la ca) 2 0 rfl (by omega) rfl;go_wp2_with fail;refine(HTA.out _ _ _ HPa.out (St.pack (A:=[M G]) (R:=[X,Ent.row 23 1 (.slice (some ⟨g,0,none⟩) 2 2) 2 [.slice aa la ca,vb]]) HS2.out)).mono ?_;rintro e w3 ⟨rfl,hS3⟩;have HS3:=qh hS3;clear hS3;go_wp2;go_roundw
   case rel=>exact .inr (.inl ⟨rfl,HS3.out⟩)
   case measure=>simp[intOf]
  ·have hT:=St.unpack (A:=[M G]) (A':=[M GA]) (R:=[X,Ent.row 23 1 (.slice (some ⟨g,0,none⟩) 2 2) 2 [.slice aa la ca,vb]]) HS2.out hS;have HSr:=qh hT;have r0:=hT.rcell (v:=.slice aa la ca) 2 0 rfl (by omega) rfl;have r1:=hT.rcell (v:=vb) 2 1 rfl (by omega) rfl;clear hS hT;go_wp2_with fail;refine(HTB.out _ _ _ HPb.out (St.pack (A:=[M GA]) (R:=[X,Ent.row 23 1 (.slice (some ⟨g,0,none⟩) 2 2) 2 [.slice aa la ca,vb]]) HSr.out)).mono ?_;rintro e w3 ⟨rfl,hS3⟩;have HS3:=qh hS3;clear hS3;go_wp2;go_roundw
   case rel=>exact .inr (.inr ⟨rfl,HS3.out⟩)
   case measure=>simp[intOf]
  have hT:=St.unpack (A:=[M G]) (A':=[M GB]) (R:=[X,Ent.row 23 1 (.slice (some ⟨g,0,none⟩) 2 2) 2 [.slice aa la ca,vb]]) HS2.out hS;have HSr:=qh hT;obtain⟨k3,k4⟩:=Hcell.out _ hT.bel;clear hS hT k1 k2;go_wp2
  go_loopw [77] (fun i wr'=>i = .int .i64 0∧wr=wr') (fun _ _=>0)
  case atStart=>exact⟨rfl,rfl⟩
  case round =>obtain⟨rfl,rfl⟩:=hrel;go_wp2;refine bodyPost_end (v:=.tuple #[]) (by simp[results,Try.results34,go_sem]) rfl ⟨rfl,HSr.out.pick [0,1] (by decide)⟩
theorem Zmb {c1 c2:Value} {P:List Nat} {M:List (Nat × Nat)→Ent} (hK:AddK c1 c2 P M) (ta tb:Ex) (h60:(Ex.join ta tb).post.length≤60) (hpta:plnE ta) (hptb:plnE tb) (hta:FolC c1 c2 P M ta) (htb:FolC c1 c2 P M tb):FolC c1 c2 P M (Ex.join ta tb):=by
 intro G n v w0 w X hnb h0 hPP hS;have h:=h0.below hS.bel;have HO:=qh (Zbl ta tb (Ex.join ta tb) 4 0 rfl Zcu v w h60 h);have H0:=qh h0;have hP:=h0;rw[show(Ex.join ta tb).post=(ta.post++tb.post)++[(4,0)] from rfl] at hP;obtain⟨bb,off,cap,rfl,hc1,hc2,hbl,hcell⟩:=ZaS hP;obtain⟨m,hm⟩:=eI ((ta.post++tb.post).length);rw[← hm] at hc1 hcell H0 HO;rw[← hm];have hmI:m≤59:=by rw[hm];simp[Ex.post] at h60 ⊢;omega
 have Hcell:=qh hcell;have hw1:IntKind.i64.wrap ((m:Int)+1-1)=(m:Int):=by rw[IntWalk.i64_in _ (by omega)];omega
 have HS0:=qh hS;have HPP:=qh hPP;replace hm:=qh hm;clear h h0 hP hcell hS hPP;obtain⟨LA,hLA⟩:∃ l,edP false ta (n)=l:=⟨_,rfl⟩;have hlLA:=ZaA false ta (n);have HLA:=qh (show ∀ (v:Value) (w:World),Pairs 0 w v ta.post→Calls Try.prog 88 #[v,.int .i64 ((n:Nat):Int),.bool false] w fun e w'=>ROn LA w e w' from fun v w hp=>by have h9:=Zda false ta hpta (by simp[Ex.post] at h60;omega) (n) v w (by simp[Ex.post] at hnb;omega) hp;rw[hLA] at h9;exact h9);rw[hLA] at hlLA;obtain⟨FI,hFI⟩:∃ l,edP true tb (n+ta.post.length)=l:=⟨_,rfl⟩;have hlFI:=ZaA true tb (n+ta.post.length);have HFI:=qh (show ∀ (v:Value) (w:World),Pairs 0 w v tb.post→Calls Try.prog 88 #[v,.int .i64 ((n+ta.post.length:Nat):Int),.bool true] w fun e w'=>ROn FI w e w' from fun v w hp=>by have h9:=Zda true tb hptb (by simp[Ex.post] at h60;omega) (n+ta.post.length) v w (by simp[Ex.post] at hnb;omega) hp;rw[hFI] at h9;exact h9);rw[hFI] at hlFI;have hf:flP (.join ta tb) n=flP ta n++flP tb (n+ta.post.length)++Zar LA FI:=by rw[← hLA,← hFI];rfl
 have HPL:=qh (show ∀ x y,x∈LA→y∈FI→x∈P∧y∈P from fun x y hx hy=>HPP.out x y (by rw[hf];exact List.mem_append.2 (.inr (ZaK.2 ⟨hx,hy⟩))));obtain⟨la,hla⟩:∃ l,ta.post.length=l:=⟨_,rfl⟩;obtain⟨GA,hGA⟩:∃ g,G++flP ta n=g:=⟨_,rfl⟩;obtain⟨GB,hGB⟩:∃ g,GA++flP tb (n+ta.post.length)=g:=⟨_,rfl⟩;have hta2:=fun (w:World) (X:Ent) (v:Value) (hv:Pairs 0 w0 v ta.post) (hS:St w0 w [M G,X])=>hta G n v w0 w X (by simp[Ex.post] at hnb;omega) hv (fun p q h=>HPP.out p q (by rw[hf];simp[h])) hS
 have htb2:=fun (w:World) (X:Ent) (v:Value) (hv:Pairs 0 w0 v tb.post) (hS:St w0 w [M GA,X])=>htb GA (n+ta.post.length) v w0 w X (by simp[Ex.post] at hnb;omega) hv (fun p q h=>HPP.out p q (by rw[hf];simp[h])) hS
 rw[hGA] at hta2;rw[hGB] at htb2;have hfin:G++flP (.join ta tb) n=GB++Zar LA FI:=by rw[hf,← hGB,← hGA];simp[List.append_assoc]
 rw[hfin];have hal:ta.post.length+tb.post.length≤59:=by simp[Ex.post] at h60;omega
 have hn60:n+ta.post.length≤10000:=by simp[Ex.post] at hnb;omega
 rw[hla] at htb2 hal hn60 HFI;have HTA:=qh hta2;have HTB:=qh htb2;have hwl:IntKind.i64.wrap ((n:Int)+(la:Int))=(((n+la:Nat)):Int):=by rw[IntWalk.i64_in _ (by omega)];omega
 obtain⟨nl,hnl⟩:∃ l,LA.length=l:=⟨_,rfl⟩;obtain⟨nf,hnf⟩:∃ l,FI.length=l:=⟨_,rfl⟩;have hnl60:nl≤60:=by omega
 have hnf60:nf≤60:=by omega
 have Hhnl:=qh hnl;clear hnl;have Hhnf:=qh hnf;clear hnf;replace hLA:=qh hLA;replace hFI:=qh hFI;have HhGA:=qh hGA;clear hGA;have HhGB:=qh hGB;clear hGB;clear hf hfin HPP hta htb hta2 htb2
 go_enter Try.func34, Try.ntmps34
 go_wp2_with fail;refine HO.out.mono ?_;rintro e w2 ⟨g,va,vb,rfl,hS,hv⟩;have HPa:=qh (hv _ H0.out).1;have HPb:=qh (hv _ H0.out).2;obtain⟨aa,ca,rfl,-⟩:=HPa.out.form;rw[hla] at HPa hS;have HS2:=qh (HS0.out.cat hS);obtain⟨k1,k2⟩:=Hcell.out _ HS2.out.bel;clear hS hv hla;go_wp2
 go_loopw [20] (fun i wr=>(i = .int .i64 0∧w2=wr)∨(i = .int .i64 1∧St w0 wr [M GA,Ent.all [X,Ent.row 23 1 (.slice (some ⟨g,0,none⟩) 2 2) 2 [.slice aa la ca,vb]]])∨(i = .int .i64 2∧St w0 wr [M GB,Ent.all [X,Ent.row 23 1 (.slice (some ⟨g,0,none⟩) 2 2) 2 [.slice aa la ca,vb]]])) (fun i _=>2-(intOf i).toNat)
 case atStart=>exact .inl ⟨rfl,rfl⟩
 case round =>
  rcases hrel with⟨rfl,rfl⟩|⟨rfl,hS⟩|⟨rfl,hS⟩
  ·have r0:=HS2.out.rcell (v:=.slice aa la ca) 2 0 rfl (by omega) rfl;go_wp2_with fail;refine(HTA.out _ _ _ HPa.out (St.pack (A:=[M G]) (R:=[X,Ent.row 23 1 (.slice (some ⟨g,0,none⟩) 2 2) 2 [.slice aa la ca,vb]]) HS2.out)).mono ?_;rintro e w3 ⟨rfl,hS3⟩;have HS3:=qh hS3;clear hS3;go_wp2;go_roundw
   case rel=>exact .inr (.inl ⟨rfl,HS3.out⟩)
   case measure=>simp[intOf]
  ·have hT:=St.unpack (A:=[M G]) (A':=[M GA]) (R:=[X,Ent.row 23 1 (.slice (some ⟨g,0,none⟩) 2 2) 2 [.slice aa la ca,vb]]) HS2.out hS;have HSr:=qh hT;have r0:=hT.rcell (v:=.slice aa la ca) 2 0 rfl (by omega) rfl;have r1:=hT.rcell (v:=vb) 2 1 rfl (by omega) rfl;clear hS hT;go_wp2_with fail;refine(HTB.out _ _ _ HPb.out (St.pack (A:=[M GA]) (R:=[X,Ent.row 23 1 (.slice (some ⟨g,0,none⟩) 2 2) 2 [.slice aa la ca,vb]]) HSr.out)).mono ?_;rintro e w3 ⟨rfl,hS3⟩;have HS3:=qh hS3;clear hS3;go_wp2;go_roundw
   case rel=>exact .inr (.inr ⟨rfl,HS3.out⟩)
   case measure=>simp[intOf]
  have hT:=St.unpack (A:=[M G]) (A':=[M GB]) (R:=[X,Ent.row 23 1 (.slice (some ⟨g,0,none⟩) 2 2) 2 [.slice aa la ca,vb]]) HS2.out hS;have HSr:=qh hT;obtain⟨k3,k4⟩:=Hcell.out _ hT.bel;clear hS hT k1 k2
  go_upto_region 12 with fail
  refine wp_region_any (by kernel_rfl) ?_
  refine Zaf (fun A listed a w'=>∃ (l0 l1 l2 l3 l4 l5 l6 l7 l8 l9 l10 l11 l12 l13 l14 l15 l16:Bool) (g1:Option Addr) (d1:Nat) (g2:Option Addr) (d2:Nat),listed=#[l0,l1,l2,l3,l4,l5,l6,l7,l8,l9,l10,l11,l12,l13,l14,l15,l16]∧(l15=true→l4=true)∧(l16=true→l14=true) ∧
    a=⟨(((((((((((((((((A.tmps.setIfInBounds 48 (if l0=true then .slice (some ⟨g,0,none⟩) 2 2 else A.tmps.getD 48 undef)).setIfInBounds 49 (if l1=true then .pointer (some ⟨g,0,none⟩) else A.tmps.getD 49 undef)).setIfInBounds 50 (if l2=true then .slice aa la ca else A.tmps.getD 50 undef)).setIfInBounds 51 (if l3=true then .int .i64 (n:Int) else A.tmps.getD 51 undef)).setIfInBounds 52 (if l4=true then .slice g1 LA.length d1 else A.tmps.getD 52 undef)).setIfInBounds 53 (if l5=true then .slice (some ⟨g,0,none⟩) 2 2 else A.tmps.getD 53 undef)).setIfInBounds 54 (if l6=true then .pointer (some ⟨g,1,none⟩) else A.tmps.getD 54 undef)).setIfInBounds 55 (if l7=true then vb else A.tmps.getD 55 undef)).setIfInBounds 56 (if l8=true then .int .i64 (n:Int) else A.tmps.getD 56 undef)).setIfInBounds 57 (if l9=true then .slice (some ⟨g,0,none⟩) 2 2 else A.tmps.getD 57 undef)).setIfInBounds 58 (if l10=true then .pointer (some ⟨g,0,none⟩) else A.tmps.getD 58 undef)).setIfInBounds 59 (if l11=true then .slice aa la ca else A.tmps.getD 59 undef)).setIfInBounds 60 (if l12=true then .int .i64 (la:Int) else A.tmps.getD 60 undef)).setIfInBounds 61 (if l13=true then .int .i64 ((n+la:Nat):Int) else A.tmps.getD 61 undef)).setIfInBounds 62 (if l14=true then .slice g2 FI.length d2 else A.tmps.getD 62 undef)).setIfInBounds 10 (if l15=true then .slice g1 LA.length d1 else A.tmps.getD 10 undef)).setIfInBounds 11 (if l16=true then .slice g2 FI.length d2 else A.tmps.getD 11 undef)),A.defers⟩ ∧
    St w0 w' [M GB,X,Ent.row 23 1 (.slice (some ⟨g,0,none⟩) 2 2) 2 ([.slice aa la ca,vb]),(if l4=true then Ent.row 3 1 (.slice g1 LA.length d1) LA.length (natC LA) else Ent.nil),(if l14=true then Ent.row 3 1 (.slice g2 FI.length d2) FI.length (natC FI) else Ent.nil)]) ?_ ?_ ?_
  ·rintro listed a w' ⟨l0,l1,l2,l3,l4,l5,l6,l7,l8,l9,l10,l11,l12,l13,l14,l15,l16,g1,d1,g2,d2,rfl,hd15,hd16,rfl,hS⟩ i hi;obtain⟨hun,o,ho,hall⟩:=mem_ready.1 hi;have hlt:=(Array.getElem?_eq_some_iff.1 ho).1;refine wpOp_step ho (fun K hK => ?_);clear hi;have HS:=qh hS;clear hS;simp only[List.setIfInBounds_toArray,List.set_cons_zero,List.set_cons_succ,Array.getD_eq_getD_getElem?,List.getElem?_toArray,List.getElem?_cons_zero,List.getElem?_cons_succ,Option.getD_some];obtain h|h|h|h|h|h|h|h|h|h|h|h|h|h|h|h|h:i=0∨i=1∨i=2∨i=3∨i=4∨i=5∨i=6∨i=7∨i=8∨i=9∨i=10∨i=11∨i=12∨i=13∨i=14∨i=15∨i=16:=by simp at hlt;omega
   all_goals subst h
   all_goals simp only[List.getElem?_toArray,List.getElem?_cons_zero,List.getElem?_cons_succ,Option.some.injEq] at ho
   all_goals subst ho
   all_goals simp[Region.binds] at hun hall
   ·subst hun;go_simp;exact hK _ _ ⟨true,l1,l2,l3,l4,l5,l6,l7,l8,l9,l10,l11,l12,l13,l14,l15,l16,g1,d1,g2,d2,rfl,hd15,hd16,(by simp),HS.out⟩
   ·obtain rfl:=hall;subst hun;go_simp;exact hK _ _ ⟨true,true,l2,l3,l4,l5,l6,l7,l8,l9,l10,l11,l12,l13,l14,l15,l16,g1,d1,g2,d2,rfl,hd15,hd16,(by simp),HS.out⟩
   ·obtain rfl:=hall;subst hun;have e0:=HS.out.rcell (v:=.slice aa la ca) 2 (0) rfl (by omega) rfl;go_simp;exact hK _ _ ⟨l0,true,true,l3,l4,l5,l6,l7,l8,l9,l10,l11,l12,l13,l14,l15,l16,g1,d1,g2,d2,rfl,hd15,hd16,(by simp),HS.out⟩
   ·subst hun;go_simp;exact hK _ _ ⟨l0,l1,l2,true,l4,l5,l6,l7,l8,l9,l10,l11,l12,l13,l14,l15,l16,g1,d1,g2,d2,rfl,hd15,hd16,(by simp),HS.out⟩
   ·obtain⟨rfl,rfl⟩:=hall;subst hun;obtain rfl:l15=false:=by cases l15 with|false=>rfl|true=>simpa using hd15 rfl
    go_simp
    go_at_call 88
    refine(HLA.out _ _ (HPa.out.below HS.out.bel)).mono ?_;rintro e u1 ⟨a8,d8,rfl,hS8⟩;have hS2:=(HS.out.cat hS8).pick [0,1,2,5,4] (by decide);have HhS2:=qh hS2;clear hS2;go_simp;exact hK _ _ ⟨l0,l1,true,true,true,l5,l6,l7,l8,l9,l10,l11,l12,l13,l14,false,l16,a8,d8,g2,d2,rfl,by simp,hd16,(by simp),HhS2.out⟩
   ·subst hun;go_simp;exact hK _ _ ⟨l0,l1,l2,l3,l4,true,l6,l7,l8,l9,l10,l11,l12,l13,l14,l15,l16,g1,d1,g2,d2,rfl,hd15,hd16,(by simp),HS.out⟩
   ·obtain rfl:=hall;subst hun;go_simp;exact hK _ _ ⟨l0,l1,l2,l3,l4,true,true,l7,l8,l9,l10,l11,l12,l13,l14,l15,l16,g1,d1,g2,d2,rfl,hd15,hd16,(by simp),HS.out⟩
   ·obtain rfl:=hall;subst hun;have e0:=HS.out.rcell (v:=vb) 2 (1) rfl (by omega) rfl;go_simp;exact hK _ _ ⟨l0,l1,l2,l3,l4,l5,true,true,l8,l9,l10,l11,l12,l13,l14,l15,l16,g1,d1,g2,d2,rfl,hd15,hd16,(by simp),HS.out⟩
   ·subst hun;go_simp;exact hK _ _ ⟨l0,l1,l2,l3,l4,l5,l6,l7,true,l9,l10,l11,l12,l13,l14,l15,l16,g1,d1,g2,d2,rfl,hd15,hd16,(by simp),HS.out⟩
   ·subst hun;go_simp;exact hK _ _ ⟨l0,l1,l2,l3,l4,l5,l6,l7,l8,true,l10,l11,l12,l13,l14,l15,l16,g1,d1,g2,d2,rfl,hd15,hd16,(by simp),HS.out⟩
   ·obtain rfl:=hall;subst hun;go_simp;exact hK _ _ ⟨l0,l1,l2,l3,l4,l5,l6,l7,l8,true,true,l11,l12,l13,l14,l15,l16,g1,d1,g2,d2,rfl,hd15,hd16,(by simp),HS.out⟩
   ·obtain rfl:=hall;subst hun;have e0:=HS.out.rcell (v:=.slice aa la ca) 2 (0) rfl (by omega) rfl;go_simp;exact hK _ _ ⟨l0,l1,l2,l3,l4,l5,l6,l7,l8,l9,true,true,l12,l13,l14,l15,l16,g1,d1,g2,d2,rfl,hd15,hd16,(by simp),HS.out⟩
   ·obtain rfl:=hall;subst hun;go_simp;exact hK _ _ ⟨l0,l1,l2,l3,l4,l5,l6,l7,l8,l9,l10,true,true,l13,l14,l15,l16,g1,d1,g2,d2,rfl,hd15,hd16,(by simp),HS.out⟩
   ·obtain⟨rfl,rfl⟩:=hall;subst hun;go_simp;exact hK _ _ ⟨l0,l1,l2,l3,l4,l5,l6,l7,true,l9,l10,l11,true,true,l14,l15,l16,g1,d1,g2,d2,rfl,hd15,hd16,(by simp),HS.out⟩
   ·obtain⟨rfl,rfl,rfl⟩:=hall;subst hun;obtain rfl:l16=false:=by cases l16 with|false=>rfl|true=>simpa using hd16 rfl
    go_simp
    go_at_call 88
    refine(HFI.out _ _ (HPb.out.below HS.out.bel)).mono ?_;rintro e u1 ⟨a8,d8,rfl,hS8⟩;have hS2:=(HS.out.cat hS8).pick [0,1,2,3,5] (by decide);have HhS2:=qh hS2;clear hS2;go_simp;exact hK _ _ ⟨l0,l1,l2,l3,true,l5,l6,true,l8,l9,l10,l11,l12,true,true,l15,false,g1,d1,a8,d8,rfl,hd15,by simp,(by simp),HhS2.out⟩
   ·obtain⟨rfl,rfl,rfl,rfl,rfl,rfl,-⟩:=hall;subst hun;go_simp;exact hK _ _ ⟨true,true,true,true,true,l5,l6,l7,l8,l9,l10,l11,l12,l13,true,true,l16,g1,d1,g2,d2,rfl,by simp,hd16,(by simp),HS.out⟩
   obtain⟨rfl,rfl,rfl,rfl,rfl,rfl,rfl,rfl,rfl,rfl,rfl,rfl,rfl,rfl,rfl,rfl,-⟩:=hall;subst hun;go_simp;exact hK _ _ ⟨true,true,true,true,true,true,true,true,true,true,true,true,true,true,true,true,true,g1,d1,g2,d2,rfl,by simp,by simp,(by simp),HS.out⟩
  ·rintro listed a w' ⟨l0,l1,l2,l3,l4,l5,l6,l7,l8,l9,l10,l11,l12,l13,l14,l15,l16,g1,d1,g2,d2,rfl,hd15,hd16,rfl,hS⟩ hr;have hall:=Zag (by kernel_rfl) rfl hr;obtain rfl:l0=true:=by simpa using hall 0 (by simp)
   obtain rfl:l1=true:=by simpa using hall 1 (by simp)
   obtain rfl:l2=true:=by simpa using hall 2 (by simp)
   obtain rfl:l3=true:=by simpa using hall 3 (by simp)
   obtain rfl:l4=true:=by simpa using hall 4 (by simp)
   obtain rfl:l5=true:=by simpa using hall 5 (by simp)
   obtain rfl:l6=true:=by simpa using hall 6 (by simp)
   obtain rfl:l7=true:=by simpa using hall 7 (by simp)
   obtain rfl:l8=true:=by simpa using hall 8 (by simp)
   obtain rfl:l9=true:=by simpa using hall 9 (by simp)
   obtain rfl:l10=true:=by simpa using hall 10 (by simp)
   obtain rfl:l11=true:=by simpa using hall 11 (by simp)
   obtain rfl:l12=true:=by simpa using hall 12 (by simp)
   obtain rfl:l13=true:=by simpa using hall 13 (by simp)
   obtain rfl:l14=true:=by simpa using hall 14 (by simp)
   obtain rfl:l15=true:=by simpa using hall 15 (by simp)
   obtain rfl:l16=true:=by simpa using hall 16 (by simp)
   clear hall hr hd15 hd16;simp only[↓reduceIte] at hS ⊢;simp only[List.setIfInBounds_toArray,List.set_cons_zero,List.set_cons_succ];have HS5:=qh (hS.pick [0,1,3,4] (by decide));clear hS;simp only[Hhnl.out,Hhnf.out];have HY:=qh (St.pack (A:=[M GB]) (R:=[X,Ent.row 3 1 (.slice g1 LA.length d1) LA.length (natC LA),Ent.row 3 1 (.slice g2 FI.length d2) FI.length (natC FI)]) HS5.out);clear HS5;have hYA:(Ent.all [X,Ent.row 3 1 (.slice g1 LA.length d1) LA.length (natC LA),Ent.row 3 1 (.slice g2 FI.length d2) FI.length (natC FI)]).inn (Ent.row 3 1 (.slice g1 LA.length d1) LA.length (natC LA)):=Ent.inn_all (by simp) (Ent.inn_refl _);have hYB:(Ent.all [X,Ent.row 3 1 (.slice g1 LA.length d1) LA.length (natC LA),Ent.row 3 1 (.slice g2 FI.length d2) FI.length (natC FI)]).inn (Ent.row 3 1 (.slice g2 FI.length d2) FI.length (natC FI)):=Ent.inn_all (by simp) (Ent.inn_refl _);have hYX:∀ u L,St w0 u [L,Ent.all [X,Ent.row 3 1 (.slice g1 LA.length d1) LA.length (natC LA),Ent.row 3 1 (.slice g2 FI.length d2) FI.length (natC FI)]]→St w0 u [L,X]:=fun u L hS=>hS.innSt 1 rfl (Ent.inn_all (by simp) (Ent.inn_refl _))
   obtain⟨Y,hY⟩:=eJ (Ent.all [X,Ent.row 3 1 (.slice g1 LA.length d1) LA.length (natC LA),Ent.row 3 1 (.slice g2 FI.length d2) FI.length (natC FI)]);rw[hY] at HY hYA hYB hYX;have HYA:=qh hYA;have HYB:=qh hYB;have HYX:=qh hYX;clear hY hYA hYB hYX;go_wp2
   go_loopw [77] (fun i wr=>∃ j:Nat,i = .int .i64 (j:Int)∧j≤nl∧St w0 wr [M (GB++Zar (LA.take j) FI),Y]) (fun i _=>nl-(intOf i).toNat)
   case atStart=>exact⟨0,rfl,Nat.zero_le _,by rw[show Zar (LA.take 0) FI=[] from rfl,List.append_nil];exact HY.out⟩
   case round =>
    obtain⟨j,rfl,hj,hS⟩:=hrel;have HSj:=qh hS;clear hS;by_cases hlt:j<nl
    ·have hltI:(j:Int)<(nl:Int):=by omega
     obtain⟨x,hx⟩:=eJ (LA.getD j 0);have hxc:(natC LA)[j]? = some (.int .i64 ((x:Nat):Int)):=by rw[← hx];exact ZaP (by rw[Hhnl.out];exact hlt)
     have hxm:x∈LA:=by rw[← hx,List.getD_eq_getElem?_getD,List.getElem?_eq_getElem (by rw[Hhnl.out];exact hlt)];exact List.getElem_mem _
     have hcut:LA.take (j+1)=LA.take j++[x]:=by rw[List.take_succ_eq_append_getElem (by rw[Hhnl.out];exact hlt),← hx];simp[Hhnl.out,hlt]
     have hcr:Zar (LA.take (j+1)) FI=Zar (LA.take j) FI++FI.map fun y=>(x,y):=by rw[hcut];simp[Zar]
     obtain⟨q1,q2,hq⟩:∃ ga ca,(Value.slice g1 nl d1) = .slice (some ⟨ga,0,none⟩) nl ca:=by have hT:=HSj.out.innSt 1 rfl HYA.out;rw[Hhnl.out] at hT;obtain⟨ga,ca,h1⟩:=hT.rowform 1 rfl (by omega);exact⟨ga,ca,h1⟩
     simp only[Value.slice.injEq,true_and] at hq;obtain⟨rfl,rfl⟩:=hq;have c0:=HSj.out.innRcell 1 j rfl HYA.out (by rw[Hhnl.out];omega) hxc;have Hhx:=qh hx;clear hx;have Hhxm:=qh hxm;clear hxm;have Hhcut:=qh hcut;clear hcut;have Hhcr:=qh hcr;clear hcr;clear hxc;go_wp2
     go_loopw [83] (fun i wr=>∃ z:Nat,i = .int .i64 (z:Int)∧z≤nf∧St w0 wr [M (GB++Zar (LA.take j) FI++(FI.take z).map fun y=>(x,y)),Y]) (fun i _=>nf-(intOf i).toNat)
     case atStart=>exact⟨0,rfl,Nat.zero_le _,by rw[show(FI.take 0).map (fun y=>(x,y))=[] from rfl,List.append_nil];exact HSj.out⟩
     case round =>
      obtain⟨z,rfl,hz,hS⟩:=hrel;have HSz:=qh hS;clear hS;by_cases hlz:z<nf
      ·have hlzI:(z:Int)<(nf:Int):=by omega
       obtain⟨y,hy⟩:∃ x,FI.getD z 0=x:=⟨_,rfl⟩;have hyc:(natC FI)[z]? = some (.int .i64 ((y:Nat):Int)):=by rw[← hy];exact ZaP (by rw[Hhnf.out];exact hlz)
       have hym:y∈FI:=by rw[← hy,List.getD_eq_getElem?_getD,List.getElem?_eq_getElem (by rw[Hhnf.out];exact hlz)];exact List.getElem_mem _
       have hcuz:(FI.take (z+1)).map (fun y=>(x,y))=(FI.take z).map (fun y=>(x,y))++[(x,y)]:=by
        have e1:FI.take (z+1)=FI.take z++[y]:=by rw[List.take_succ_eq_append_getElem (by rw[Hhnf.out];exact hlz),← hy];simp[Hhnf.out,hlz]
        rw[e1,List.map_append];rfl
       obtain⟨q3,q4,hq⟩:∃ ga ca,(Value.slice g2 nf d2) = .slice (some ⟨ga,0,none⟩) nf ca:=by have hT:=HSz.out.innSt 1 rfl HYB.out;rw[Hhnf.out] at hT;obtain⟨ga,ca,h1⟩:=hT.rowform 1 rfl (by omega);exact⟨ga,ca,h1⟩
       simp only[Value.slice.injEq,true_and] at hq;obtain⟨rfl,rfl⟩:=hq;have c1:=HSz.out.innRcell 1 z rfl HYB.out (by rw[Hhnf.out];omega) hyc;have HA:=qh (hK.add (GB++Zar (LA.take j) FI++(FI.take z).map fun y=>(x,y)) x y (HPL.out x y Hhxm.out hym).1 (HPL.out x y Hhxm.out hym).2 w0 _ Y HSz.out);have Hhcuz:=qh hcuz;clear hcuz;clear hyc hym hy;go_wp2_with fail;refine HA.out.mono ?_;rintro e w9 ⟨rfl,hS9⟩;have HS9:=qh hS9;clear hS9;go_wp2;go_roundw
       case rel=>first|exact⟨z+1,by go_num,by omega,by rw[Hhcuz.out,← List.append_assoc];exact HS9.out⟩|exact⟨_,_,_,_,_,_,_,_,_,_,⟨z+1,by go_num,by omega,by rw[Hhcuz.out,← List.append_assoc];exact HS9.out⟩,rfl⟩
       case measure=>simp[intOf];omega
      obtain rfl:z=nf:=by omega
      have hful:(FI.take z).map (fun y=>(x,y))=FI.map fun y=>(x,y):=by rw[List.take_of_length_le (by rw[Hhnf.out];exact Nat.le_refl _)]
      have Hhful:=qh hful;clear hful;clear hlz;go_wp2;go_roundw
      case rel=>exact⟨j+1,by go_num,by omega,by rw[Hhcr.out,← List.append_assoc,← Hhful.out];exact HSz.out⟩
      case measure=>simp[intOf];omega
    obtain rfl:j=nl:=by omega
    have hful:LA.take j=LA:=List.take_of_length_le (by rw[Hhnl.out];exact Nat.le_refl _);have Hhful:=qh hful;clear hful;clear hlt;go_wp2;refine bodyPost_end (v:=.tuple #[]) (by simp[results,Try.results34,go_sem]) rfl ⟨rfl,?_⟩;have h:=HYX.out _ _ HSj.out;rw[Hhful.out] at h;exact h
  refine⟨false,false,false,false,false,false,false,false,false,false,false,false,false,false,false,false,false,none,0,none,0,rfl,by simp,by simp,(by simp),?_⟩;exact HSr.out.drew.pick [0,1,2,3,4] (by decide)
theorem Zmd {c1 c2:Value} {P:List Nat} {M:List (Nat × Nat)→Ent} (hK:AddK c1 c2 P M):∀ t:Ex,plnE t→t.post.length≤60→FolC c1 c2 P M t:=by
 intro t
 induction t with
 | zero=>exact fun _ _=>Zl9 hK
 | one=>exact fun _ _=>Znd hK
 | ltr c=>exact fun _ _=>Zne hK c
 | join a b ha hb=>exact fun hp h=>Zmb hK a b h hp.1 hp.2 (ha hp.1 (by simp[Ex.post] at h;omega)) (hb hp.2 (by simp[Ex.post] at h;omega))
 | alt a b ha hb=>exact fun hp h=>Znf hK a b h hp.1 hp.2 (ha hp.1 (by simp[Ex.post] at h;omega)) (hb hp.2 (by simp[Ex.post] at h;omega))
 | both a b ha hb=>exact fun hp _=>hp.elim
 | neg a ha=>exact fun hp _=>hp.elim
 | star a ha=>exact fun hp h=>Zma hK a h hp (ha hp (by simp[Ex.post] at h;omega))
end Go.Proofs.Ytfanhfcamblghaa
