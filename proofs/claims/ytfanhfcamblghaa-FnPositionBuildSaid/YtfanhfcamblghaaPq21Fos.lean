/-
  The walk over the reference's l12Follow, by the tree.
  Conditions: the expression reads as such, and has neither both nor not.
-/
import Derived.Test.YtfanhfcamblghaaPq20Spu
set_option maxHeartbeats 16000000
set_option maxRecDepth 100000
namespace Go.Proofs.Ytfanhfcamblghaa
open Go.RowKit
def Zce (x:Nat × Nat):List Value:=[.int .i64 ((x.1:Nat):Int),.int .i64 ((x.2:Nat):Int)]
def FoS (w0 w:World) (po:Nat) (G:List (Nat × Nat)) (X:Ent):Prop:=∃ (a:Option Addr) (c:Nat) (vs:List Value),St w0 w [Ent.box po #[.slice a G.length c] 42,Ent.rows 26 3 (.slice a G.length c) vs (G.map Zce),X]
theorem FoS.bel {w0 w:World} {po:Nat} {G:List (Nat × Nat)} {X:Ent} (h:FoS w0 w po G X):Below w0.heap.size w0 w:=by obtain⟨a,c,vs,hS⟩:=h;exact hS.bel
theorem FoS.call {w0 w w':World} {po:Nat} {G:List (Nat × Nat)} {X:Ent} (h:FoS w0 w po G X) (hb:Below w.heap.size w w'):FoS w0 w' po G X:=by obtain⟨a,c,vs,hS⟩:=h;exact⟨a,c,vs,hS.call hb⟩
theorem FoS.alloc_ {w0 w:World} {po:Nat} {G:List (Nat × Nat)} {X:Ent} (h:FoS w0 w po G X) (o:Obj):FoS w0 (w.alloc o) po G X:=by obtain⟨a,c,vs,hS⟩:=h;exact⟨a,c,vs,hS.alloc_ o⟩
theorem FoS.rows {w0 w w':World} {po:Nat} {G:List (Nat × Nat)} {X A B:Ent} (h:FoS w0 w po G X) (hS':St w w' [A,B]):∃ (a:Option Addr) (c:Nat) (vs:List Value),St w0 w' [Ent.box po #[.slice a G.length c] 42,Ent.rows 26 3 (.slice a G.length c) vs (G.map Zce),X,B,A]:=by obtain⟨a,c,vs,hS⟩:=h;exact⟨a,c,vs,(hS.cat hS').pick [0,1,2,4,3] (by decide)⟩
theorem FoS.rows2 {w0 w w1 w':World} {po:Nat} {G:List (Nat × Nat)} {X A B C D:Ent} (h:FoS w0 w po G X) (hS':St w w1 [A,B]) (hS2:St w1 w' [C,D]):∃ (a:Option Addr) (c:Nat) (vs:List Value),St w0 w' [Ent.box po #[.slice a G.length c] 42,Ent.rows 26 3 (.slice a G.length c) vs (G.map Zce),X,B,C]:=by obtain⟨a,c,vs,hS⟩:=h;exact⟨a,c,vs,((hS.cat hS').cat hS2).pick [0,1,2,4,5] (by decide)⟩
theorem Zee (xs ys:List Nat):(Zar xs ys).length=xs.length*ys.length:=by
 unfold Zar
 induction xs with
 | nil=>simp
 | cons x xs ih=>rw[List.flatMap_cons,List.length_append,ih,List.length_map,List.length_cons,Nat.succ_mul];omega
def FolS (t:Ex):Prop:=∀ (G:List (Nat × Nat)) (n:Nat) (v:Value) (w0 w:World) (X:Ent) (po:Nat),n+t.post.length≤10000→G.length+(flP t n).length≤1000000→Pairs 0 w0 v t.post→FoS w0 w po G X →
 Calls Try.prog 42 #[v,.int .i64 (n:Int),.pointer (some ⟨po,0,none⟩)] w fun e w'=>e = .returned (.tuple #[])∧FoS w0 w' po (G++flP t n) X
theorem Zl6 :FolS (Ex.zero):=by
 intro G n v w0 w X po hnb hgl h0 hF;have h60:(Ex.zero).post.length≤60:=by show 1≤60;decide
 have hok:=Zal _ h60;have h:=h0.below hF.bel;have H0:=qh h0;have Hh:=qh h;have HF0:=qh hF;have hP:=h0;rw[show(Ex.zero).post=(([]:List (Int × Int)))++[(1,0)] from rfl] at hP;obtain⟨bb,off,cap,rfl,hc1,hc2,hbl,hcell⟩:=ZaS hP;obtain⟨m,hm⟩:=eI ((([]:List (Int × Int))).length);rw[← hm] at hc1 hcell H0 Hh;rw[← hm];have hmI:m≤59:=by rw[hm];simp[Ex.post] at h60 ⊢
 have Hcell:=qh hcell;have hw1:IntKind.i64.wrap ((m:Int)+1-1)=(m:Int):=by rw[IntWalk.i64_in _ (by omega)];omega
 replace hm:=qh hm;have Hhok:=qh hok;clear hok;clear h h0 hP hcell hF;have hf:flP (Ex.zero) n=[]:=rfl;rw[hf,List.append_nil];clear hf hgl
 go_enter Try.func42, Try.ntmps42
 go_wp2_with fail;refine(Za5 _ _ _ Hhok.out Hh.out).mono ?_;rintro e w2 ⟨vx,vy,xs,ys,hsp,rfl,hxy,hb2⟩;obtain⟨rfl,rfl⟩:=ZaV Zbx hsp;obtain⟨hx,hy⟩:=hxy _ H0.out;obtain⟨ax,cx,rfl,-⟩:=hx.form;obtain⟨ay,cy,rfl,-⟩:=hy.form;have HX:=qh hx;have HY:=qh hy;have HF2:=qh (HF0.out.call hb2);clear hsp hx hy hxy hb2;have HF3:=qh ((HF2.out.alloc_ (.cells #[] 3)).alloc_ (.cells #[] 3));obtain⟨k1,k2⟩:=Hcell.out _ HF3.out.bel;go_wp2
 go_loopw [10] (fun i wr=>i = .int .i64 0∧FoS w0 wr po G X) (fun _ _=>0)
 case atStart=>exact⟨rfl,HF3.out⟩
 case round =>obtain⟨rfl,hF⟩:=hrel;have HFz:=qh hF;clear hF;go_wp2;refine bodyPost_end (v:=.tuple #[]) (by simp[results,Try.results42,go_sem]) rfl ⟨rfl,HFz.out⟩
theorem Zna :FolS (Ex.one):=by
 intro G n v w0 w X po hnb hgl h0 hF;have h60:(Ex.one).post.length≤60:=by show 1≤60;decide
 have hok:=Zal _ h60;have h:=h0.below hF.bel;have H0:=qh h0;have Hh:=qh h;have HF0:=qh hF;have hP:=h0;rw[show(Ex.one).post=(([]:List (Int × Int)))++[(2,0)] from rfl] at hP;obtain⟨bb,off,cap,rfl,hc1,hc2,hbl,hcell⟩:=ZaS hP;obtain⟨m,hm⟩:=eI ((([]:List (Int × Int))).length);rw[← hm] at hc1 hcell H0 Hh;rw[← hm];have hmI:m≤59:=by rw[hm];simp[Ex.post] at h60 ⊢
 have Hcell:=qh hcell;have hw1:IntKind.i64.wrap ((m:Int)+1-1)=(m:Int):=by rw[IntWalk.i64_in _ (by omega)];omega
 replace hm:=qh hm;have Hhok:=qh hok;clear hok;clear h h0 hP hcell hF;have hf:flP (Ex.one) n=[]:=rfl;rw[hf,List.append_nil];clear hf hgl
 go_enter Try.func42, Try.ntmps42
 go_wp2_with fail;refine(Za5 _ _ _ Hhok.out Hh.out).mono ?_;rintro e w2 ⟨vx,vy,xs,ys,hsp,rfl,hxy,hb2⟩;obtain⟨rfl,rfl⟩:=ZaV Zbw hsp;obtain⟨hx,hy⟩:=hxy _ H0.out;obtain⟨ax,cx,rfl,-⟩:=hx.form;obtain⟨ay,cy,rfl,-⟩:=hy.form;have HX:=qh hx;have HY:=qh hy;have HF2:=qh (HF0.out.call hb2);clear hsp hx hy hxy hb2;have HF3:=qh ((HF2.out.alloc_ (.cells #[] 3)).alloc_ (.cells #[] 3));obtain⟨k1,k2⟩:=Hcell.out _ HF3.out.bel;go_wp2
 go_loopw [10] (fun i wr=>i = .int .i64 0∧FoS w0 wr po G X) (fun _ _=>0)
 case atStart=>exact⟨rfl,HF3.out⟩
 case round =>obtain⟨rfl,hF⟩:=hrel;have HFz:=qh hF;clear hF;go_wp2;refine bodyPost_end (v:=.tuple #[]) (by simp[results,Try.results42,go_sem]) rfl ⟨rfl,HFz.out⟩
theorem Znb (ch:Fin 3) :FolS (Ex.ltr ch):=by
 intro G n v w0 w X po hnb hgl h0 hF;have h60:(Ex.ltr ch).post.length≤60:=by show 1≤60;decide
 have hok:=Zal _ h60;have h:=h0.below hF.bel;have H0:=qh h0;have Hh:=qh h;have HF0:=qh hF;have hP:=h0;rw[show(Ex.ltr ch).post=(([]:List (Int × Int)))++[(3,(ch.val:Int))] from rfl] at hP;obtain⟨bb,off,cap,rfl,hc1,hc2,hbl,hcell⟩:=ZaS hP;obtain⟨m,hm⟩:=eI ((([]:List (Int × Int))).length);rw[← hm] at hc1 hcell H0 Hh;rw[← hm];have hmI:m≤59:=by rw[hm];simp[Ex.post] at h60 ⊢
 have Hcell:=qh hcell;have hw1:IntKind.i64.wrap ((m:Int)+1-1)=(m:Int):=by rw[IntWalk.i64_in _ (by omega)];omega
 replace hm:=qh hm;have Hhok:=qh hok;clear hok;clear h h0 hP hcell hF;have hf:flP (Ex.ltr ch) n=[]:=rfl;rw[hf,List.append_nil];clear hf hgl
 go_enter Try.func42, Try.ntmps42
 go_wp2_with fail;refine(Za5 _ _ _ Hhok.out Hh.out).mono ?_;rintro e w2 ⟨vx,vy,xs,ys,hsp,rfl,hxy,hb2⟩;obtain⟨rfl,rfl⟩:=ZaV (Zbk ch) hsp;obtain⟨hx,hy⟩:=hxy _ H0.out;obtain⟨ax,cx,rfl,-⟩:=hx.form;obtain⟨ay,cy,rfl,-⟩:=hy.form;have HX:=qh hx;have HY:=qh hy;have HF2:=qh (HF0.out.call hb2);clear hsp hx hy hxy hb2;have HF3:=qh ((HF2.out.alloc_ (.cells #[] 3)).alloc_ (.cells #[] 3));obtain⟨k1,k2⟩:=Hcell.out _ HF3.out.bel;go_wp2
 go_loopw [10] (fun i wr=>i = .int .i64 0∧FoS w0 wr po G X) (fun _ _=>0)
 case atStart=>exact⟨rfl,HF3.out⟩
 case round =>obtain⟨rfl,hF⟩:=hrel;have HFz:=qh hF;clear hF;go_wp2;refine bodyPost_end (v:=.tuple #[]) (by simp[results,Try.results42,go_sem]) rfl ⟨rfl,HFz.out⟩
theorem Zl7 (ta:Ex) (h60:(Ex.star ta).post.length≤60) (hpta:plnE ta) (hta:FolS ta):FolS (Ex.star ta):=by
 intro G n v w0 w X po hnb hgl h0 hF;have hok:=Zal _ h60;have h:=h0.below hF.bel;have H0:=qh h0;have Hh:=qh h;have HF0:=qh hF;have hP:=h0;rw[show(Ex.star ta).post=(ta.post)++[(8,0)] from rfl] at hP;obtain⟨bb,off,cap,rfl,hc1,hc2,hbl,hcell⟩:=ZaS hP;obtain⟨m,hm⟩:=eI ((ta.post).length);rw[← hm] at hc1 hcell H0 Hh;rw[← hm];have hmI:m≤59:=by rw[hm];simp[Ex.post] at h60 ⊢;omega
 have Hcell:=qh hcell;have hw1:IntKind.i64.wrap ((m:Int)+1-1)=(m:Int):=by rw[IntWalk.i64_in _ (by omega)];omega
 replace hm:=qh hm;have Hhok:=qh hok;clear hok;clear h h0 hP hcell hF;obtain⟨LA,hLA⟩:∃ l,edP false ta n=l:=⟨_,rfl⟩;obtain⟨FI,hFI⟩:∃ l,edP true ta n=l:=⟨_,rfl⟩;have hl1:=ZaA false ta n;have hl2:=ZaA true ta n;have HE:=qh (show ∀ (v:Value) (w:World),Pairs 0 w v ta.post→Calls Try.prog 41 #[v,.int .i64 ((n:Nat):Int)] w fun e w'=>RE2 FI LA w e w' from fun v w hp=>by have h9:=ZeO ta hpta (by simp[Ex.post] at h60;omega) (n) v w (by simp[Ex.post] at hnb;omega) hp;rw[hFI,hLA] at h9;exact h9);have hf:flP (.star ta) n=flP ta n++Zar LA FI:=by rw[← hLA,← hFI];rfl
 rw[hf,List.length_append] at hgl;obtain⟨GB,hGB⟩:∃ g,G++flP ta n=g:=⟨_,rfl⟩;have hgb:GB.length=G.length+(flP ta n).length:=by rw[← hGB,List.length_append]
 have HTA:=qh (fun (w:World) (X:Ent) (v:Value) (hv:Pairs 0 w0 v ta.post) (hS:FoS w0 w po G X)=>hta G n v w0 w X po (by simp[Ex.post] at hnb;omega) (by omega) hv hS);rw[hf,← List.append_assoc,hGB];rw[hGB] at HTA;rw[hLA] at hl1;rw[hFI] at hl2;have hl3:ta.post.length≤60:=by simp[Ex.post] at h60;omega
 have hpos:=ZaH ta;obtain⟨la,hla⟩:∃ l,ta.post.length=l:=⟨_,rfl⟩;obtain⟨nl,hnl⟩:∃ l,LA.length=l:=⟨_,rfl⟩;obtain⟨nf,hnf⟩:∃ l,FI.length=l:=⟨_,rfl⟩;have hnl60:nl≤60:=by omega
 have hnf60:nf≤60:=by omega
 have hGBl:GB.length≤1000000:=by omega
 obtain⟨k0,hk,hx0,hx1,hx2⟩:=info_parts Try.infoInts;replace hk:=qh hk;have Hhx0:=qh hx0;clear hx0;have Hhx1:=qh hx1;clear hx1;have Hhx2:=qh hx2;clear hx2;have Hhnl:=qh hnl;clear hnl;have Hhnf:=qh hnf;clear hnf;replace hLA:=qh hLA;replace hFI:=qh hFI;have HhGB:=qh hGB;clear hGB;clear hf hta hgl hgb hpta
 go_enter Try.func42, Try.ntmps42
 go_wp2_with fail;refine(Za5 _ _ _ Hhok.out Hh.out).mono ?_;rintro e w2 ⟨vx,vy,xs,ys,hsp,rfl,hxy,hb2⟩;obtain⟨rfl,rfl⟩:=Zdv (a:=ta) (p:=(8,0)) Zct hsp;obtain⟨hx,hy⟩:=hxy _ H0.out;obtain⟨ax,cx,rfl,-⟩:=hx.form;obtain⟨ay,cy,rfl,-⟩:=hy.form;have HX:=qh hx;have HY:=qh hy;have HF2:=qh (HF0.out.call hb2);rw[hla] at HX hpos hl1 hl2 hl3;rw[hla];have hposI:(0:Int)<(la:Int):=by omega
 clear hla;clear hsp hx hy hxy hb2;go_wp2_with fail;refine(HTA.out _ _ _ HX.out HF2.out).mono ?_;rintro e w3 ⟨rfl,hF3⟩;have HF4:=qh ((hF3.alloc_ (.cells #[] 3)).alloc_ (.cells #[] 3));obtain⟨k1,k2⟩:=Hcell.out _ HF4.out.bel;clear hF3;go_wp2_with fail;refine(HE.out _ _ (HX.out.below HF4.out.bel)).mono ?_;rintro e w5 ⟨g2,d2,g1,d1,rfl,hS5⟩;have HF5:=qh (HF4.out.rows hS5);clear hS5;simp only[Hhnl.out,Hhnf.out];have HYf:=qh (show FoS w0 _ po GB (Ent.all [X,Ent.row 3 1 (.slice g1 LA.length d1) LA.length (natC LA),Ent.row 3 1 (.slice g2 FI.length d2) FI.length (natC FI)]) from by obtain⟨a,c,vs,hS⟩:=HF5.out;exact⟨a,c,vs,St.pack (A:=[Ent.box po #[.slice a GB.length c] 42,Ent.rows 26 3 (.slice a GB.length c) vs (GB.map Zce)]) (R:=[X,Ent.row 3 1 (.slice g1 LA.length d1) LA.length (natC LA),Ent.row 3 1 (.slice g2 FI.length d2) FI.length (natC FI)]) hS⟩)
 clear HF5;have hYA:(Ent.all [X,Ent.row 3 1 (.slice g1 LA.length d1) LA.length (natC LA),Ent.row 3 1 (.slice g2 FI.length d2) FI.length (natC FI)]).inn (Ent.row 3 1 (.slice g1 LA.length d1) LA.length (natC LA)):=Ent.inn_all (by simp) (Ent.inn_refl _);have hYB:(Ent.all [X,Ent.row 3 1 (.slice g1 LA.length d1) LA.length (natC LA),Ent.row 3 1 (.slice g2 FI.length d2) FI.length (natC FI)]).inn (Ent.row 3 1 (.slice g2 FI.length d2) FI.length (natC FI)):=Ent.inn_all (by simp) (Ent.inn_refl _);have hYX:(Ent.all [X,Ent.row 3 1 (.slice g1 LA.length d1) LA.length (natC LA),Ent.row 3 1 (.slice g2 FI.length d2) FI.length (natC FI)]).inn X:=Ent.inn_all (by simp) (Ent.inn_refl _);obtain⟨Y,hY⟩:=eJ (Ent.all [X,Ent.row 3 1 (.slice g1 LA.length d1) LA.length (natC LA),Ent.row 3 1 (.slice g2 FI.length d2) FI.length (natC FI)]);rw[hY] at HYf hYA hYB hYX;have HYA:=qh hYA;have HYB:=qh hYB;have HYX:=qh hYX;clear hY hYA hYB hYX;go_wp2
 go_loopw [10] (fun i wr=>∃ j:Nat,i = .int .i64 (j:Int)∧j≤nl∧FoS w0 wr po (GB++Zar (LA.take j) FI) Y) (fun i _=>nl-(intOf i).toNat)
 case atStart=>exact⟨0,rfl,Nat.zero_le _,by rw[show Zar (LA.take 0) FI=[] from rfl,List.append_nil];exact HYf.out⟩
 case round =>
  obtain⟨j,rfl,hj,hS⟩:=hrel;have HSj:=qh hS;clear hS;by_cases hlt:j<nl
  ·have hltI:(j:Int)<(nl:Int):=by omega
   obtain⟨x,hx⟩:=eJ (LA.getD j 0);have hxc:(natC LA)[j]? = some (.int .i64 ((x:Nat):Int)):=by rw[← hx];exact ZaP (by rw[Hhnl.out];exact hlt)
   have hcut:LA.take (j+1)=LA.take j++[x]:=by rw[List.take_succ_eq_append_getElem (by rw[Hhnl.out];exact hlt),← hx];simp[Hhnl.out,hlt]
   have hcr:Zar (LA.take (j+1)) FI=Zar (LA.take j) FI++FI.map fun y=>(x,y):=by rw[hcut];simp[Zar]
   have hcl:(GB++Zar (LA.take j) FI).length≤1100000:=by have h1:=Zee (LA.take j) FI;have h2:(LA.take j).length*FI.length≤60*60:=Nat.mul_le_mul (by rw[List.length_take];omega) (by rw[Hhnf.out];omega);rw[List.length_append];omega
   obtain⟨q1,q2,hq⟩:∃ ga ca,(Value.slice g1 nl d1) = .slice (some ⟨ga,0,none⟩) nl ca:=by obtain⟨a,c,vs,hS⟩:=HSj.out;have hT:=hS.innSt 2 rfl HYA.out;rw[Hhnl.out] at hT;obtain⟨ga,ca,h1⟩:=hT.rowform 2 rfl (by omega);exact⟨ga,ca,h1⟩
   simp only[Value.slice.injEq,true_and] at hq;obtain⟨rfl,rfl⟩:=hq;have Hhx:=qh hx;clear hx;have Hhxc:=qh hxc;clear hxc;have Hhcut:=qh hcut;clear hcut;have Hhcr:=qh hcr;clear hcr;go_wp2
   go_loopw [11] (fun i wr=>∃ z:Nat,i = .int .i64 (z:Int)∧z≤nf∧FoS w0 wr po (GB++Zar (LA.take j) FI++(FI.take z).map fun y=>(x,y)) Y) (fun i _=>nf-(intOf i).toNat)
   case atStart=>exact⟨0,rfl,Nat.zero_le _,by rw[show(FI.take 0).map (fun y=>(x,y))=[] from rfl,List.append_nil];exact HSj.out⟩
   case round =>
    obtain⟨z,rfl,hz,ao,co,vs,hS⟩:=hrel;obtain⟨GG,hGG⟩:∃ g,GB++Zar (LA.take j) FI++(FI.take z).map (fun y=>(x,y))=g:=⟨_,rfl⟩;obtain⟨LG,hLG⟩:∃ l,GG.length=l:=⟨_,rfl⟩;have hLGb:LG≤1200000:=by rw[← hLG,← hGG,List.length_append,List.length_map,List.length_take];omega
    rw[hGG,hLG] at hS;by_cases hlz:z<nf
    ·have hlzI:(z:Int)<(nf:Int):=by omega
     have HSz:=qh hS;obtain⟨y,hy⟩:∃ x,FI.getD z 0=x:=⟨_,rfl⟩;have hyc:(natC FI)[z]? = some (.int .i64 ((y:Nat):Int)):=by rw[← hy];exact ZaP (by rw[Hhnf.out];exact hlz)
     have hcuz:(FI.take (z+1)).map (fun y=>(x,y))=(FI.take z).map (fun y=>(x,y))++[(x,y)]:=by
      have e1:FI.take (z+1)=FI.take z++[y]:=by rw[List.take_succ_eq_append_getElem (by rw[Hhnf.out];exact hlz),← hy];simp[Hhnf.out,hlz]
      rw[e1,List.map_append];rfl
     obtain⟨q3,q4,hq⟩:∃ ga ca,(Value.slice g2 nf d2) = .slice (some ⟨ga,0,none⟩) nf ca:=by have hT:=hS.innSt 2 rfl HYB.out;rw[Hhnf.out] at hT;obtain⟨ga,ca,h1⟩:=hT.rowform 2 rfl (by omega);exact⟨ga,ca,h1⟩
     simp only[Value.slice.injEq,true_and] at hq;obtain⟨rfl,rfl⟩:=hq;have Hhcuz:=qh hcuz;clear hcuz;have Hhyc:=qh hyc;clear hyc;have HhGG:=qh hGG;clear hGG;have HhLG:=qh hLG;clear hLG;clear hS hy;go_wp2;refine wp_region_any (by kernel_rfl) ?_
     refine Zaf (fun A listed a w'=>∃ (l0 l1 l2 l3 l4 l5 l6 l7 l8 l9 l10 l11 l12 l13 l14 l15 l16:Bool) (h7:Nat) (e7:Nat) (bn0:Nat) (bn1:Nat),listed=#[l0,l1,l2,l3,l4,l5,l6,l7,l8,l9,l10,l11,l12,l13,l14,l15,l16]∧(l12=true→l7=true∧l11=true)∧(l13=true→l12=true)∧(l14=true→l3=true∧l12=true∧l13=true)∧(l16=true→l14=true) ∧
       a=⟨((((((((((((((((A.tmps.setIfInBounds 80 (if l0=true then .pointer (some ⟨po,0,none⟩) else A.tmps.getD 80 undef)).setIfInBounds 81 (if l1=true then .pointer (some ⟨po,0,none⟩) else A.tmps.getD 81 undef)).setIfInBounds 82 (if l2=true then .pointer (some ⟨po,0,none⟩) else A.tmps.getD 82 undef)).setIfInBounds 83 (if l3=true then .slice ao LG co else A.tmps.getD 83 undef)).setIfInBounds 84 (if l4=true then .slice (some ⟨q1,0,none⟩) nl d1 else A.tmps.getD 84 undef)).setIfInBounds 85 (if l5=true then .int .i64 (j:Int) else A.tmps.getD 85 undef)).setIfInBounds 86 (if l6=true then .pointer (some ⟨q1,j,none⟩) else A.tmps.getD 86 undef)).setIfInBounds 87 (if l7=true then .int .i64 ((x:Nat):Int) else A.tmps.getD 87 undef)).setIfInBounds 88 (if l8=true then .slice (some ⟨q3,0,none⟩) nf d2 else A.tmps.getD 88 undef)).setIfInBounds 89 (if l9=true then .int .i64 (z:Int) else A.tmps.getD 89 undef)).setIfInBounds 90 (if l10=true then .pointer (some ⟨q3,z,none⟩) else A.tmps.getD 90 undef)).setIfInBounds 91 (if l11=true then .int .i64 ((y:Nat):Int) else A.tmps.getD 91 undef)).setIfInBounds 92 (if l12=true then .slice (some ⟨bn0,0,none⟩) 2 2 else A.tmps.getD 92 undef)).setIfInBounds 93 (if l13=true then .slice (some ⟨bn1,0,none⟩) 1 1 else A.tmps.getD 93 undef)).setIfInBounds 94 (if l14=true then .slice (some ⟨h7,0,none⟩) (LG+1) e7 else A.tmps.getD 94 undef)).setIfInBounds 95 (if l15=true then .pointer (some ⟨po,0,none⟩) else A.tmps.getD 95 undef)),A.defers⟩ ∧
       St w0 w' [(if l16=true then Ent.box po #[.slice (some ⟨h7,0,none⟩) (LG+1) e7] 42 else Ent.box po #[.slice ao LG co] 42),(if l14=true then Ent.rows 26 3 (.slice (some ⟨h7,0,none⟩) (LG+1) e7) (vs++[.slice (some ⟨bn0,0,none⟩) 2 2]) (GG.map Zce++[[.int .i64 ((x:Nat):Int),.int .i64 ((y:Nat):Int)]]) else Ent.rows 26 3 (.slice ao LG co) vs (GG.map Zce)),Y,(if l14=true then Ent.nil else(if l12=true then Ent.box bn0 #[.int .i64 ((x:Nat):Int),.int .i64 ((y:Nat):Int)] 3 else Ent.nil)),(if l13=true then Ent.box bn1 #[.slice (some ⟨bn0,0,none⟩) 2 2] 26 else Ent.nil)]) ?_ ?_ ?_
     ·rintro listed a w' ⟨l0,l1,l2,l3,l4,l5,l6,l7,l8,l9,l10,l11,l12,l13,l14,l15,l16,h7,e7,bn0,bn1,rfl,hd12,hd13,hd14,hd16,rfl,hS⟩ i hi;obtain⟨hun,o,ho,hall⟩:=mem_ready.1 hi;have hlt:=(Array.getElem?_eq_some_iff.1 ho).1;refine wpOp_step ho (fun K hK => ?_);clear hi;have HS:=qh hS;clear hS;simp only[List.setIfInBounds_toArray,List.set_cons_zero,List.set_cons_succ,Array.getD_eq_getD_getElem?,List.getElem?_toArray,List.getElem?_cons_zero,List.getElem?_cons_succ,Option.getD_some];obtain h|h|h|h|h|h|h|h|h|h|h|h|h|h|h|h|h:i=0∨i=1∨i=2∨i=3∨i=4∨i=5∨i=6∨i=7∨i=8∨i=9∨i=10∨i=11∨i=12∨i=13∨i=14∨i=15∨i=16:=by simp at hlt;omega
      all_goals subst h
      all_goals simp only[List.getElem?_toArray,List.getElem?_cons_zero,List.getElem?_cons_succ,Option.some.injEq] at ho
      all_goals subst ho
      all_goals simp[Region.binds] at hun hall
      ·subst hun;go_simp;exact hK _ _ ⟨true,l1,l2,l3,l4,l5,l6,l7,l8,l9,l10,l11,l12,l13,l14,l15,l16,h7,e7,bn0,bn1,rfl,hd12,hd13,hd14,hd16,(by simp),HS.out⟩
      ·subst hun;go_simp;exact hK _ _ ⟨l0,true,l2,l3,l4,l5,l6,l7,l8,l9,l10,l11,l12,l13,l14,l15,l16,h7,e7,bn0,bn1,rfl,hd12,hd13,hd14,hd16,(by simp),HS.out⟩
      ·obtain rfl:=hall;subst hun;go_simp;exact hK _ _ ⟨l0,true,true,l3,l4,l5,l6,l7,l8,l9,l10,l11,l12,l13,l14,l15,l16,h7,e7,bn0,bn1,rfl,hd12,hd13,hd14,hd16,(by simp),HS.out⟩
      ·obtain rfl:=hall;subst hun;obtain rfl:l14=false:=by cases l14 with|false=>rfl|true=>simpa using hd14 rfl
       obtain rfl:l16=false:=by cases l16 with|false=>rfl|true=>simpa using hd16 rfl
       have e0:=HS.out.cell (v:=.slice ao LG co) 0 0 rfl rfl;go_simp;exact hK _ _ ⟨l0,l1,true,true,l4,l5,l6,l7,l8,l9,l10,l11,l12,l13,false,l15,false,h7,e7,bn0,bn1,rfl,hd12,hd13,by simp,by simp,(by simp),HS.out⟩
      ·subst hun;go_simp;exact hK _ _ ⟨l0,l1,l2,l3,true,l5,l6,l7,l8,l9,l10,l11,l12,l13,l14,l15,l16,h7,e7,bn0,bn1,rfl,hd12,hd13,hd14,hd16,(by simp),HS.out⟩
      ·subst hun;go_simp;exact hK _ _ ⟨l0,l1,l2,l3,l4,true,l6,l7,l8,l9,l10,l11,l12,l13,l14,l15,l16,h7,e7,bn0,bn1,rfl,hd12,hd13,hd14,hd16,(by simp),HS.out⟩
      ·obtain⟨rfl,rfl⟩:=hall;subst hun;go_simp;exact hK _ _ ⟨l0,l1,l2,l3,true,true,true,l7,l8,l9,l10,l11,l12,l13,l14,l15,l16,h7,e7,bn0,bn1,rfl,hd12,hd13,hd14,hd16,(by simp),HS.out⟩
      ·obtain rfl:=hall;subst hun;obtain rfl:l12=false:=offL hd12 rfl;obtain rfl:l13=false:=by cases l13 with|false=>rfl|true=>simpa using hd13 rfl
       obtain rfl:l14=false:=by cases l14 with|false=>rfl|true=>simpa using hd14 rfl
       obtain rfl:l16=false:=by cases l16 with|false=>rfl|true=>simpa using hd16 rfl
       have e0:=HS.out.innRcell 2 j rfl HYA.out (by rw[Hhnl.out];omega) Hhxc.out;go_simp;exact hK _ _ ⟨l0,l1,l2,l3,l4,l5,true,true,l8,l9,l10,l11,false,false,false,l15,false,h7,e7,bn0,bn1,rfl,by simp,by simp,by simp,by simp,(by simp),HS.out⟩
      ·subst hun;go_simp;exact hK _ _ ⟨l0,l1,l2,l3,l4,l5,l6,l7,true,l9,l10,l11,l12,l13,l14,l15,l16,h7,e7,bn0,bn1,rfl,hd12,hd13,hd14,hd16,(by simp),HS.out⟩
      ·subst hun;go_simp;exact hK _ _ ⟨l0,l1,l2,l3,l4,l5,l6,l7,l8,true,l10,l11,l12,l13,l14,l15,l16,h7,e7,bn0,bn1,rfl,hd12,hd13,hd14,hd16,(by simp),HS.out⟩
      ·obtain⟨rfl,rfl⟩:=hall;subst hun;go_simp;exact hK _ _ ⟨l0,l1,l2,l3,l4,l5,l6,l7,true,true,true,l11,l12,l13,l14,l15,l16,h7,e7,bn0,bn1,rfl,hd12,hd13,hd14,hd16,(by simp),HS.out⟩
      ·obtain rfl:=hall;subst hun;obtain rfl:l12=false:=offR hd12 rfl;obtain rfl:l13=false:=by cases l13 with|false=>rfl|true=>simpa using hd13 rfl
       obtain rfl:l14=false:=by cases l14 with|false=>rfl|true=>simpa using hd14 rfl
       obtain rfl:l16=false:=by cases l16 with|false=>rfl|true=>simpa using hd16 rfl
       have e0:=HS.out.innRcell 2 z rfl HYB.out (by rw[Hhnf.out];omega) Hhyc.out;go_simp;exact hK _ _ ⟨l0,l1,l2,l3,l4,l5,l6,l7,l8,l9,true,true,false,false,false,l15,false,h7,e7,bn0,bn1,rfl,by simp,by simp,by simp,by simp,(by simp),HS.out⟩
      ·obtain⟨rfl,rfl⟩:=hall;subst hun;obtain rfl:l13=false:=by cases l13 with|false=>rfl|true=>simpa using hd13 rfl
       obtain rfl:l14=false:=by cases l14 with|false=>rfl|true=>simpa using hd14 rfl
       obtain rfl:l16=false:=by cases l16 with|false=>rfl|true=>simpa using hd16 rfl
       have hS2:=(HS.out.alloc _ rfl #[.int .i64 ((x:Nat):Int),.int .i64 ((y:Nat):Int)] 3).pick [0,1,2,5,4] (by decide);have HhS2:=qh hS2;clear hS2;go_simp;exact hK _ _ ⟨l0,l1,l2,l3,l4,l5,l6,true,l8,l9,l10,true,true,false,false,l15,false,h7,e7,_,bn1,rfl,by simp,by simp,by simp,by simp,(by simp),HhS2.out⟩
      ·obtain rfl:=hall;subst hun;obtain⟨rfl,rfl⟩:=hd12 rfl;obtain rfl:l14=false:=by cases l14 with|false=>rfl|true=>simpa using hd14 rfl
       obtain rfl:l16=false:=by cases l16 with|false=>rfl|true=>simpa using hd16 rfl
       have hS2:=(HS.out.alloc _ rfl #[.slice (some ⟨bn0,0,none⟩) 2 2] 26).pick [0,1,2,3,5] (by decide);have HhS2:=qh hS2;clear hS2;go_simp;exact hK _ _ ⟨l0,l1,l2,l3,l4,l5,l6,true,l8,l9,l10,true,true,true,false,l15,false,h7,e7,bn0,_,rfl,by simp,by simp,by simp,by simp,(by simp),HhS2.out⟩
      ·obtain⟨rfl,rfl⟩:=hall;subst hun;obtain rfl:=hd13 rfl;obtain⟨rfl,rfl⟩:=hd12 rfl;obtain rfl:l16=false:=by cases l16 with|false=>rfl|true=>simpa using hd16 rfl
       have HB:=qh (HS.out.boxrow 3 2 1 [.int .i64 ((x:Nat):Int),.int .i64 ((y:Nat):Int)] rfl rfl (by unfold maxLen;omega));refine step_append_lies (a:=⟨_,_⟩) _ (by rfl) _ _ _ (by rfl) w0.heap.size 26 k0 (.slice none 0 0) 1 24 Try.underlying42 hk.out Hhx0.out Hhx1.out Hhx2.out (by rfl) (by omega) (.slice ao LG co) LG vs (by rfl) (by have h:=(HB.out.rows 1 rfl).1;rw[List.length_map,HhLG.out] at h;exact h) ⟨bn1,0,none⟩ 1 1 [.slice (some ⟨bn0,0,none⟩) 2 2] (by rfl) (by rfl) (World.news_of_block (HB.out.box 4 rfl)) Zfi (by omega) (by unfold maxLen;omega) (by omega) HB.out.size _ rfl ?_;intro g8 c8 w8 hown8 hgrow8 hat8 hlt8;have HS8:=qh (HB.out.snoc 1 3 (by decide) rfl rfl (by decide) hgrow8 (by rw[List.length_map,HhLG.out];exact hown8) (ZiI hat8));clear hown8 hgrow8 hat8;go_simp;exact hK _ _ ⟨l0,l1,l2,true,l4,l5,l6,true,l8,l9,l10,true,true,true,true,l15,false,g8,c8,bn0,bn1,rfl,by simp,by simp,by simp,by simp,(by simp),HS8.out⟩
      ·obtain⟨rfl,rfl,rfl,rfl,rfl,rfl,rfl,rfl,rfl,rfl,rfl,rfl,rfl,rfl,rfl⟩:=hall;subst hun;go_simp;exact hK _ _ ⟨true,true,true,true,true,true,true,true,true,true,true,true,true,true,true,true,l16,h7,e7,bn0,bn1,rfl,by simp,by simp,by simp,hd16,(by simp),HS.out⟩
      obtain⟨rfl,rfl,rfl,rfl,rfl,rfl,rfl,rfl,rfl,rfl,rfl,rfl,rfl,rfl,rfl,rfl,-⟩:=hall;subst hun;have f0:=HS.out.fr 0 0 rfl;have k0:=HS.out.cell (v:=.slice ao LG co) 0 0 rfl rfl;go_simp;exact hK _ _ ⟨true,true,true,true,true,true,true,true,true,true,true,true,true,true,true,true,true,h7,e7,bn0,bn1,rfl,by simp,by simp,by simp,by simp,(by simp),(HS.out.set 0 rfl 0 (.slice (some ⟨h7,0,none⟩) (LG+1) e7))⟩
     ·rintro listed a w' ⟨l0,l1,l2,l3,l4,l5,l6,l7,l8,l9,l10,l11,l12,l13,l14,l15,l16,h7,e7,bn0,bn1,rfl,hd12,hd13,hd14,hd16,rfl,hS⟩ hr;have hall:=Zag (by kernel_rfl) rfl hr;obtain rfl:l0=true:=by simpa using hall 0 (by simp)
      obtain rfl:l1=true:=by simpa using hall 1 (by simp)
      obtain rfl:l2=true:=by simpa using hall 2 (by simp)
      obtain rfl:l3=true:=by simpa using hall 3 (by simp)
      obtain rfl:l4=true:=by simpa using hall 4 (by simp)
      obtain rfl:l5=true:=by simpa using hall 5 (by simp)
      obtain rfl:l6=true:=by simpa using hall 6 (by simp)
      obtain rfl:l7=true:=by simpa using hall 7 (by simp)
      obtain rfl:l8=true:=by simpa using hall 8 (by simp)
      obtain rfl:l9=true:=by simpa using hall 9 (by simp)
      obtain rfl:l10=true:=by simpa using hall 10 (by simp)
      obtain rfl:l11=true:=by simpa using hall 11 (by simp)
      obtain rfl:l12=true:=by simpa using hall 12 (by simp)
      obtain rfl:l13=true:=by simpa using hall 13 (by simp)
      obtain rfl:l14=true:=by simpa using hall 14 (by simp)
      obtain rfl:l15=true:=by simpa using hall 15 (by simp)
      obtain rfl:l16=true:=by simpa using hall 16 (by simp)
      clear hall hr hd12 hd13 hd14 hd16;simp only[↓reduceIte] at hS ⊢;simp only[List.setIfInBounds_toArray,List.set_cons_zero,List.set_cons_succ];have HS5:=qh hS;clear hS;go_wp2;go_roundw
      case rel =>refine⟨z+1,by go_num,by omega,some ⟨h7,0,none⟩,e7,vs++[.slice (some ⟨bn0,0,none⟩) 2 2],?_⟩;have h:=HS5.out.pick [0,1,2] (by decide);rw[Hhcuz.out,← List.append_assoc,HhGG.out,List.length_append,List.length_singleton,HhLG.out,List.map_append];exact h
      case measure=>simp[intOf];omega
     refine⟨false,false,false,false,false,false,false,false,false,false,false,false,false,false,false,false,false,0,0,0,0,rfl,by simp,by simp,by simp,by simp,(by simp),?_⟩;exact HSz.out.drew.pick [0,1,2,3,4] (by decide)
    obtain rfl:z=nf:=by omega
    have hful:(FI.take z).map (fun y=>(x,y))=FI.map fun y=>(x,y):=by rw[List.take_of_length_le (by rw[Hhnf.out];exact Nat.le_refl _)]
    rw[hful] at hGG;rw[← hLG,← hGG] at hS;have HSz:=qh (show FoS w0 wr po (GB++Zar (LA.take j) FI++FI.map fun y=>(x,y)) Y from⟨ao,co,vs,hS⟩);clear hlz hS hGG hLG hful;go_wp2;go_roundw
    case rel=>exact⟨j+1,by go_num,by omega,by rw[Hhcr.out,← List.append_assoc];exact HSz.out⟩
    case measure=>simp[intOf];omega
  obtain rfl:j=nl:=by omega
  have hful:LA.take j=LA:=List.take_of_length_le (by rw[Hhnl.out];exact Nat.le_refl _);have hout:FoS w0 wr po (GB++Zar LA FI) X:=by obtain⟨a,c,vs,hS⟩:=HSj.out;rw[hful] at hS;exact⟨a,c,vs,hS.innSt 2 rfl HYX.out⟩
  have Hhout:=qh hout;clear hout;clear hlt hful;go_wp2;refine bodyPost_end (v:=.tuple #[]) (by simp[results,Try.results42,go_sem]) rfl ⟨rfl,Hhout.out⟩
theorem Znc (ta tb:Ex) (h60:(Ex.alt ta tb).post.length≤60) (hpta:plnE ta) (hptb:plnE tb) (hta:FolS ta) (htb:FolS tb):FolS (Ex.alt ta tb):=by
 intro G n v w0 w X po hnb hgl h0 hF;have hok:=Zal _ h60;have h:=h0.below hF.bel;have H0:=qh h0;have Hh:=qh h;have HF0:=qh hF;have hP:=h0;rw[show(Ex.alt ta tb).post=(ta.post++tb.post)++[(5,0)] from rfl] at hP;obtain⟨bb,off,cap,rfl,hc1,hc2,hbl,hcell⟩:=ZaS hP;obtain⟨m,hm⟩:=eI ((ta.post++tb.post).length);rw[← hm] at hc1 hcell H0 Hh;rw[← hm];have hmI:m≤59:=by rw[hm];simp[Ex.post] at h60 ⊢;omega
 have Hcell:=qh hcell;have hw1:IntKind.i64.wrap ((m:Int)+1-1)=(m:Int):=by rw[IntWalk.i64_in _ (by omega)];omega
 replace hm:=qh hm;have Hhok:=qh hok;clear hok;clear h h0 hP hcell hF;have hf:flP (.alt ta tb) n=flP ta n++flP tb (n+ta.post.length):=rfl;rw[hf,List.length_append] at hgl;obtain⟨GA,hGA⟩:∃ g,G++flP ta n=g:=⟨_,rfl⟩;obtain⟨GB,hGB⟩:∃ g,GA++flP tb (n+ta.post.length)=g:=⟨_,rfl⟩;have hga:GA.length=G.length+(flP ta n).length:=by rw[← hGA,List.length_append]
 have hgb:GB.length=GA.length+(flP tb (n+ta.post.length)).length:=by rw[← hGB,List.length_append]
 have hta2:=fun (w:World) (X:Ent) (v:Value) (hv:Pairs 0 w0 v ta.post) (hS:FoS w0 w po G X)=>hta G n v w0 w X po (by simp[Ex.post] at hnb;omega) (by omega) hv hS
 have htb2:=fun (w:World) (X:Ent) (v:Value) (hv:Pairs 0 w0 v tb.post) (hS:FoS w0 w po GA X)=>htb GA (n+ta.post.length) v w0 w X po (by simp[Ex.post] at hnb;omega) (by omega) hv hS
 rw[hGA] at hta2;rw[hGB] at htb2;have hfin:G++flP (.alt ta tb) n=GB:=by rw[hf,← hGB,← hGA];simp[List.append_assoc]
 rw[hfin];have hal:ta.post.length+tb.post.length≤59:=by simp[Ex.post] at h60;omega
 have hn60:n+ta.post.length≤10000:=by simp[Ex.post] at hnb;omega
 have hpa:=ZaH ta;have hpb:=ZaH tb;obtain⟨la,hla⟩:∃ l,ta.post.length=l:=⟨_,rfl⟩;obtain⟨lb,hlb⟩:∃ l,tb.post.length=l:=⟨_,rfl⟩;rw[hla] at htb2 hal hn60 hpa;rw[hlb] at hal hpb;have HTA:=qh hta2;have HTB:=qh htb2;have hwl:IntKind.i64.wrap ((n:Int)+(la:Int))=(((n+la:Nat)):Int):=by rw[IntWalk.i64_in _ (by omega)];omega
 replace hGA:=qh hGA;have HhGB:=qh hGB;clear hGB;clear hf hfin hta htb hta2 htb2 hgl hga hgb hpta hptb
 go_enter Try.func42, Try.ntmps42
 go_wp2_with fail;refine(Za5 _ _ _ Hhok.out Hh.out).mono ?_;rintro e w2 ⟨vx,vy,xs,ys,hsp,rfl,hxy,hb2⟩;obtain⟨rfl,rfl⟩:=ZbF (a:=ta) (b:=tb) (p:=(5,0)) ZdC hsp;obtain⟨hx,hy⟩:=hxy _ H0.out;obtain⟨ax,cx,rfl,-⟩:=hx.form;obtain⟨ay,cy,rfl,-⟩:=hy.form;have HX:=qh hx;have HY:=qh hy;have HF2:=qh (HF0.out.call hb2);rw[hla] at HX;rw[hlb] at HY;rw[hla,hlb];have hpaI:(0:Int)<(la:Int):=by omega
 have hpbI:(0:Int)<(lb:Int):=by omega
 clear hla hlb;clear hsp hx hy hxy hb2;go_wp2_with fail;refine(HTA.out _ _ _ HX.out HF2.out).mono ?_;rintro e w3 ⟨rfl,hF3⟩;have HF3a:=qh hF3;clear hF3;go_wp2_with fail;refine(HTB.out _ _ _ HY.out HF3a.out).mono ?_;rintro e w4 ⟨rfl,hF4⟩;have HF3b:=qh hF4;clear hF4;have HF3:=qh ((HF3b.out.alloc_ (.cells #[] 3)).alloc_ (.cells #[] 3));obtain⟨k1,k2⟩:=Hcell.out _ HF3.out.bel;go_wp2
 go_loopw [10] (fun i wr=>i = .int .i64 0∧FoS w0 wr po GB X) (fun _ _=>0)
 case atStart=>exact⟨rfl,HF3.out⟩
 case round =>obtain⟨rfl,hF⟩:=hrel;have HFz:=qh hF;clear hF;go_wp2;refine bodyPost_end (v:=.tuple #[]) (by simp[results,Try.results42,go_sem]) rfl ⟨rfl,HFz.out⟩
theorem Zl8 (ta tb:Ex) (h60:(Ex.join ta tb).post.length≤60) (hpta:plnE ta) (hptb:plnE tb) (hta:FolS ta) (htb:FolS tb):FolS (Ex.join ta tb):=by
 intro G n v w0 w X po hnb hgl h0 hF;have hok:=Zal _ h60;have h:=h0.below hF.bel;have H0:=qh h0;have Hh:=qh h;have HF0:=qh hF;have hP:=h0;rw[show(Ex.join ta tb).post=(ta.post++tb.post)++[(4,0)] from rfl] at hP;obtain⟨bb,off,cap,rfl,hc1,hc2,hbl,hcell⟩:=ZaS hP;obtain⟨m,hm⟩:=eI ((ta.post++tb.post).length);rw[← hm] at hc1 hcell H0 Hh;rw[← hm];have hmI:m≤59:=by rw[hm];simp[Ex.post] at h60 ⊢;omega
 have Hcell:=qh hcell;have hw1:IntKind.i64.wrap ((m:Int)+1-1)=(m:Int):=by rw[IntWalk.i64_in _ (by omega)];omega
 replace hm:=qh hm;have Hhok:=qh hok;clear hok;clear h h0 hP hcell hF;obtain⟨LA,hLA⟩:∃ l,edP false ta n=l:=⟨_,rfl⟩;obtain⟨ZA,hZA⟩:∃ l,edP true ta n=l:=⟨_,rfl⟩;obtain⟨FI,hFI⟩:∃ l,edP true tb (n+ta.post.length)=l:=⟨_,rfl⟩;obtain⟨ZF,hZF⟩:∃ l,edP false tb (n+ta.post.length)=l:=⟨_,rfl⟩;have hl1:=ZaA false ta n;have hl2:=ZaA true tb (n+ta.post.length);have HE:=qh (show ∀ (v:Value) (w:World),Pairs 0 w v ta.post→Calls Try.prog 41 #[v,.int .i64 ((n:Nat):Int)] w fun e w'=>RE2 ZA LA w e w' from fun v w hp=>by have h9:=ZeO ta hpta (by simp[Ex.post] at h60;omega) (n) v w (by simp[Ex.post] at hnb;omega) hp;rw[hZA,hLA] at h9;exact h9);have HE2:=qh (show ∀ (v:Value) (w:World),Pairs 0 w v tb.post→Calls Try.prog 41 #[v,.int .i64 ((n+ta.post.length:Nat):Int)] w fun e w'=>RE2 FI ZF w e w' from fun v w hp=>by have h9:=ZeO tb hptb (by simp[Ex.post] at h60;omega) (n+ta.post.length) v w (by simp[Ex.post] at hnb;omega) hp;rw[hFI,hZF] at h9;exact h9);have hf:flP (.join ta tb) n=flP ta n++flP tb (n+ta.post.length)++Zar LA FI:=by rw[← hLA,← hFI];rfl
 rw[hf,List.length_append,List.length_append] at hgl;obtain⟨GA,hGA⟩:∃ g,G++flP ta n=g:=⟨_,rfl⟩;obtain⟨GB,hGB⟩:∃ g,GA++flP tb (n+ta.post.length)=g:=⟨_,rfl⟩;have hga:GA.length=G.length+(flP ta n).length:=by rw[← hGA,List.length_append]
 have hgb:GB.length=GA.length+(flP tb (n+ta.post.length)).length:=by rw[← hGB,List.length_append]
 have hta2:=fun (w:World) (X:Ent) (v:Value) (hv:Pairs 0 w0 v ta.post) (hS:FoS w0 w po G X)=>hta G n v w0 w X po (by simp[Ex.post] at hnb;omega) (by omega) hv hS
 have htb2:=fun (w:World) (X:Ent) (v:Value) (hv:Pairs 0 w0 v tb.post) (hS:FoS w0 w po GA X)=>htb GA (n+ta.post.length) v w0 w X po (by simp[Ex.post] at hnb;omega) (by omega) hv hS
 rw[hGA] at hta2;rw[hGB] at htb2;have hfin:G++flP (.join ta tb) n=GB++Zar LA FI:=by rw[hf,← hGB,← hGA];simp[List.append_assoc]
 rw[hfin];have hal:ta.post.length+tb.post.length≤59:=by simp[Ex.post] at h60;omega
 have hn60:n+ta.post.length≤10000:=by simp[Ex.post] at hnb;omega
 have hpa:=ZaH ta;have hpb:=ZaH tb;obtain⟨la,hla⟩:∃ l,ta.post.length=l:=⟨_,rfl⟩;obtain⟨lb,hlb⟩:∃ l,tb.post.length=l:=⟨_,rfl⟩;rw[hla] at htb2 hal hn60 hpa HE2 hl1;rw[hlb] at hal hpb hl2;have HTA:=qh hta2;have HTB:=qh htb2;have hwl:IntKind.i64.wrap ((n:Int)+(la:Int))=(((n+la:Nat)):Int):=by rw[IntWalk.i64_in _ (by omega)];omega
 rw[hLA] at hl1;rw[hFI] at hl2;obtain⟨nl,hnl⟩:∃ l,LA.length=l:=⟨_,rfl⟩;obtain⟨nf,hnf⟩:∃ l,FI.length=l:=⟨_,rfl⟩;have hnl60:nl≤60:=by omega
 have hnf60:nf≤60:=by omega
 have hGBl:GB.length≤1000000:=by omega
 obtain⟨k0,hk,hx0,hx1,hx2⟩:=info_parts Try.infoInts;replace hk:=qh hk;have Hhx0:=qh hx0;clear hx0;have Hhx1:=qh hx1;clear hx1;have Hhx2:=qh hx2;clear hx2;have Hhnl:=qh hnl;clear hnl;have Hhnf:=qh hnf;clear hnf;replace hLA:=qh hLA;replace hFI:=qh hFI;have HhZA:=qh hZA;clear hZA;have HhZF:=qh hZF;clear hZF;have HhGA:=qh hGA;clear hGA;have HhGB:=qh hGB;clear hGB;clear hf hfin hta htb hta2 htb2 hgl hga hgb hpta hptb
 go_enter Try.func42, Try.ntmps42
 go_wp2_with fail;refine(Za5 _ _ _ Hhok.out Hh.out).mono ?_;rintro e w2 ⟨vx,vy,xs,ys,hsp,rfl,hxy,hb2⟩;obtain⟨rfl,rfl⟩:=ZbF (a:=ta) (b:=tb) (p:=(4,0)) Zcu hsp;obtain⟨hx,hy⟩:=hxy _ H0.out;obtain⟨ax,cx,rfl,-⟩:=hx.form;obtain⟨ay,cy,rfl,-⟩:=hy.form;have HX:=qh hx;have HY:=qh hy;have HF2:=qh (HF0.out.call hb2);rw[hla] at HX;rw[hlb] at HY;rw[hla,hlb];have hpaI:(0:Int)<(la:Int):=by omega
 have hpbI:(0:Int)<(lb:Int):=by omega
 clear hla hlb;clear hsp hx hy hxy hb2;go_wp2_with fail;refine(HTA.out _ _ _ HX.out HF2.out).mono ?_;rintro e w3 ⟨rfl,hF3⟩;have HF3a:=qh hF3;clear hF3;go_wp2_with fail;refine(HTB.out _ _ _ HY.out HF3a.out).mono ?_;rintro e w4 ⟨rfl,hF4⟩;have HF3b:=qh hF4;clear hF4;have HF4:=qh ((HF3b.out.alloc_ (.cells #[] 3)).alloc_ (.cells #[] 3));obtain⟨k1,k2⟩:=Hcell.out _ HF4.out.bel;go_wp2_with fail;refine(HE.out _ _ (HX.out.below HF4.out.bel)).mono ?_;rintro e w5 ⟨g3,d3,g1,d1,rfl,hS5⟩;have HS5:=qh (HF4.out.bel);have HB5:=qh hS5;have HF6:=qh (HF4.out.call hS5.bel);clear hS5;go_wp2_with fail;refine(HE2.out _ _ (HY.out.below HF6.out.bel)).mono ?_;rintro e w6 ⟨g2,d2,g4,d4,rfl,hS6⟩;have HF5:=qh (HF4.out.rows2 HB5.out hS6);clear hS6;simp only[Hhnl.out,Hhnf.out];have HYf:=qh (show FoS w0 _ po GB (Ent.all [X,Ent.row 3 1 (.slice g1 LA.length d1) LA.length (natC LA),Ent.row 3 1 (.slice g2 FI.length d2) FI.length (natC FI)]) from by obtain⟨a,c,vs,hS⟩:=HF5.out;exact⟨a,c,vs,St.pack (A:=[Ent.box po #[.slice a GB.length c] 42,Ent.rows 26 3 (.slice a GB.length c) vs (GB.map Zce)]) (R:=[X,Ent.row 3 1 (.slice g1 LA.length d1) LA.length (natC LA),Ent.row 3 1 (.slice g2 FI.length d2) FI.length (natC FI)]) hS⟩)
 clear HF5;have hYA:(Ent.all [X,Ent.row 3 1 (.slice g1 LA.length d1) LA.length (natC LA),Ent.row 3 1 (.slice g2 FI.length d2) FI.length (natC FI)]).inn (Ent.row 3 1 (.slice g1 LA.length d1) LA.length (natC LA)):=Ent.inn_all (by simp) (Ent.inn_refl _);have hYB:(Ent.all [X,Ent.row 3 1 (.slice g1 LA.length d1) LA.length (natC LA),Ent.row 3 1 (.slice g2 FI.length d2) FI.length (natC FI)]).inn (Ent.row 3 1 (.slice g2 FI.length d2) FI.length (natC FI)):=Ent.inn_all (by simp) (Ent.inn_refl _);have hYX:(Ent.all [X,Ent.row 3 1 (.slice g1 LA.length d1) LA.length (natC LA),Ent.row 3 1 (.slice g2 FI.length d2) FI.length (natC FI)]).inn X:=Ent.inn_all (by simp) (Ent.inn_refl _);obtain⟨Y,hY⟩:=eJ (Ent.all [X,Ent.row 3 1 (.slice g1 LA.length d1) LA.length (natC LA),Ent.row 3 1 (.slice g2 FI.length d2) FI.length (natC FI)]);rw[hY] at HYf hYA hYB hYX;have HYA:=qh hYA;have HYB:=qh hYB;have HYX:=qh hYX;clear hY hYA hYB hYX;go_wp2
 go_loopw [10] (fun i wr=>∃ j:Nat,i = .int .i64 (j:Int)∧j≤nl∧FoS w0 wr po (GB++Zar (LA.take j) FI) Y) (fun i _=>nl-(intOf i).toNat)
 case atStart=>exact⟨0,rfl,Nat.zero_le _,by rw[show Zar (LA.take 0) FI=[] from rfl,List.append_nil];exact HYf.out⟩
 case round =>
  obtain⟨j,rfl,hj,hS⟩:=hrel;have HSj:=qh hS;clear hS;by_cases hlt:j<nl
  ·have hltI:(j:Int)<(nl:Int):=by omega
   obtain⟨x,hx⟩:=eJ (LA.getD j 0);have hxc:(natC LA)[j]? = some (.int .i64 ((x:Nat):Int)):=by rw[← hx];exact ZaP (by rw[Hhnl.out];exact hlt)
   have hcut:LA.take (j+1)=LA.take j++[x]:=by rw[List.take_succ_eq_append_getElem (by rw[Hhnl.out];exact hlt),← hx];simp[Hhnl.out,hlt]
   have hcr:Zar (LA.take (j+1)) FI=Zar (LA.take j) FI++FI.map fun y=>(x,y):=by rw[hcut];simp[Zar]
   have hcl:(GB++Zar (LA.take j) FI).length≤1100000:=by have h1:=Zee (LA.take j) FI;have h2:(LA.take j).length*FI.length≤60*60:=Nat.mul_le_mul (by rw[List.length_take];omega) (by rw[Hhnf.out];omega);rw[List.length_append];omega
   obtain⟨q1,q2,hq⟩:∃ ga ca,(Value.slice g1 nl d1) = .slice (some ⟨ga,0,none⟩) nl ca:=by obtain⟨a,c,vs,hS⟩:=HSj.out;have hT:=hS.innSt 2 rfl HYA.out;rw[Hhnl.out] at hT;obtain⟨ga,ca,h1⟩:=hT.rowform 2 rfl (by omega);exact⟨ga,ca,h1⟩
   simp only[Value.slice.injEq,true_and] at hq;obtain⟨rfl,rfl⟩:=hq;have Hhx:=qh hx;clear hx;have Hhxc:=qh hxc;clear hxc;have Hhcut:=qh hcut;clear hcut;have Hhcr:=qh hcr;clear hcr;go_wp2
   go_loopw [11] (fun i wr=>∃ z:Nat,i = .int .i64 (z:Int)∧z≤nf∧FoS w0 wr po (GB++Zar (LA.take j) FI++(FI.take z).map fun y=>(x,y)) Y) (fun i _=>nf-(intOf i).toNat)
   case atStart=>exact⟨0,rfl,Nat.zero_le _,by rw[show(FI.take 0).map (fun y=>(x,y))=[] from rfl,List.append_nil];exact HSj.out⟩
   case round =>
    obtain⟨z,rfl,hz,ao,co,vs,hS⟩:=hrel;obtain⟨GG,hGG⟩:∃ g,GB++Zar (LA.take j) FI++(FI.take z).map (fun y=>(x,y))=g:=⟨_,rfl⟩;obtain⟨LG,hLG⟩:∃ l,GG.length=l:=⟨_,rfl⟩;have hLGb:LG≤1200000:=by rw[← hLG,← hGG,List.length_append,List.length_map,List.length_take];omega
    rw[hGG,hLG] at hS;by_cases hlz:z<nf
    ·have hlzI:(z:Int)<(nf:Int):=by omega
     have HSz:=qh hS;obtain⟨y,hy⟩:∃ x,FI.getD z 0=x:=⟨_,rfl⟩;have hyc:(natC FI)[z]? = some (.int .i64 ((y:Nat):Int)):=by rw[← hy];exact ZaP (by rw[Hhnf.out];exact hlz)
     have hcuz:(FI.take (z+1)).map (fun y=>(x,y))=(FI.take z).map (fun y=>(x,y))++[(x,y)]:=by
      have e1:FI.take (z+1)=FI.take z++[y]:=by rw[List.take_succ_eq_append_getElem (by rw[Hhnf.out];exact hlz),← hy];simp[Hhnf.out,hlz]
      rw[e1,List.map_append];rfl
     obtain⟨q3,q4,hq⟩:∃ ga ca,(Value.slice g2 nf d2) = .slice (some ⟨ga,0,none⟩) nf ca:=by have hT:=hS.innSt 2 rfl HYB.out;rw[Hhnf.out] at hT;obtain⟨ga,ca,h1⟩:=hT.rowform 2 rfl (by omega);exact⟨ga,ca,h1⟩
     simp only[Value.slice.injEq,true_and] at hq;obtain⟨rfl,rfl⟩:=hq;have Hhcuz:=qh hcuz;clear hcuz;have Hhyc:=qh hyc;clear hyc;have HhGG:=qh hGG;clear hGG;have HhLG:=qh hLG;clear hLG;clear hS hy;go_wp2;refine wp_region_any (by kernel_rfl) ?_
     refine Zaf (fun A listed a w'=>∃ (l0 l1 l2 l3 l4 l5 l6 l7 l8 l9 l10 l11 l12 l13 l14 l15 l16:Bool) (h7:Nat) (e7:Nat) (bn0:Nat) (bn1:Nat),listed=#[l0,l1,l2,l3,l4,l5,l6,l7,l8,l9,l10,l11,l12,l13,l14,l15,l16]∧(l12=true→l7=true∧l11=true)∧(l13=true→l12=true)∧(l14=true→l3=true∧l12=true∧l13=true)∧(l16=true→l14=true) ∧
       a=⟨((((((((((((((((A.tmps.setIfInBounds 80 (if l0=true then .pointer (some ⟨po,0,none⟩) else A.tmps.getD 80 undef)).setIfInBounds 81 (if l1=true then .pointer (some ⟨po,0,none⟩) else A.tmps.getD 81 undef)).setIfInBounds 82 (if l2=true then .pointer (some ⟨po,0,none⟩) else A.tmps.getD 82 undef)).setIfInBounds 83 (if l3=true then .slice ao LG co else A.tmps.getD 83 undef)).setIfInBounds 84 (if l4=true then .slice (some ⟨q1,0,none⟩) nl d1 else A.tmps.getD 84 undef)).setIfInBounds 85 (if l5=true then .int .i64 (j:Int) else A.tmps.getD 85 undef)).setIfInBounds 86 (if l6=true then .pointer (some ⟨q1,j,none⟩) else A.tmps.getD 86 undef)).setIfInBounds 87 (if l7=true then .int .i64 ((x:Nat):Int) else A.tmps.getD 87 undef)).setIfInBounds 88 (if l8=true then .slice (some ⟨q3,0,none⟩) nf d2 else A.tmps.getD 88 undef)).setIfInBounds 89 (if l9=true then .int .i64 (z:Int) else A.tmps.getD 89 undef)).setIfInBounds 90 (if l10=true then .pointer (some ⟨q3,z,none⟩) else A.tmps.getD 90 undef)).setIfInBounds 91 (if l11=true then .int .i64 ((y:Nat):Int) else A.tmps.getD 91 undef)).setIfInBounds 92 (if l12=true then .slice (some ⟨bn0,0,none⟩) 2 2 else A.tmps.getD 92 undef)).setIfInBounds 93 (if l13=true then .slice (some ⟨bn1,0,none⟩) 1 1 else A.tmps.getD 93 undef)).setIfInBounds 94 (if l14=true then .slice (some ⟨h7,0,none⟩) (LG+1) e7 else A.tmps.getD 94 undef)).setIfInBounds 95 (if l15=true then .pointer (some ⟨po,0,none⟩) else A.tmps.getD 95 undef)),A.defers⟩ ∧
       St w0 w' [(if l16=true then Ent.box po #[.slice (some ⟨h7,0,none⟩) (LG+1) e7] 42 else Ent.box po #[.slice ao LG co] 42),(if l14=true then Ent.rows 26 3 (.slice (some ⟨h7,0,none⟩) (LG+1) e7) (vs++[.slice (some ⟨bn0,0,none⟩) 2 2]) (GG.map Zce++[[.int .i64 ((x:Nat):Int),.int .i64 ((y:Nat):Int)]]) else Ent.rows 26 3 (.slice ao LG co) vs (GG.map Zce)),Y,(if l14=true then Ent.nil else(if l12=true then Ent.box bn0 #[.int .i64 ((x:Nat):Int),.int .i64 ((y:Nat):Int)] 3 else Ent.nil)),(if l13=true then Ent.box bn1 #[.slice (some ⟨bn0,0,none⟩) 2 2] 26 else Ent.nil)]) ?_ ?_ ?_
     ·rintro listed a w' ⟨l0,l1,l2,l3,l4,l5,l6,l7,l8,l9,l10,l11,l12,l13,l14,l15,l16,h7,e7,bn0,bn1,rfl,hd12,hd13,hd14,hd16,rfl,hS⟩ i hi;obtain⟨hun,o,ho,hall⟩:=mem_ready.1 hi;have hlt:=(Array.getElem?_eq_some_iff.1 ho).1;refine wpOp_step ho (fun K hK => ?_);clear hi;have HS:=qh hS;clear hS;simp only[List.setIfInBounds_toArray,List.set_cons_zero,List.set_cons_succ,Array.getD_eq_getD_getElem?,List.getElem?_toArray,List.getElem?_cons_zero,List.getElem?_cons_succ,Option.getD_some];obtain h|h|h|h|h|h|h|h|h|h|h|h|h|h|h|h|h:i=0∨i=1∨i=2∨i=3∨i=4∨i=5∨i=6∨i=7∨i=8∨i=9∨i=10∨i=11∨i=12∨i=13∨i=14∨i=15∨i=16:=by simp at hlt;omega
      all_goals subst h
      all_goals simp only[List.getElem?_toArray,List.getElem?_cons_zero,List.getElem?_cons_succ,Option.some.injEq] at ho
      all_goals subst ho
      all_goals simp[Region.binds] at hun hall
      ·subst hun;go_simp;exact hK _ _ ⟨true,l1,l2,l3,l4,l5,l6,l7,l8,l9,l10,l11,l12,l13,l14,l15,l16,h7,e7,bn0,bn1,rfl,hd12,hd13,hd14,hd16,(by simp),HS.out⟩
      ·subst hun;go_simp;exact hK _ _ ⟨l0,true,l2,l3,l4,l5,l6,l7,l8,l9,l10,l11,l12,l13,l14,l15,l16,h7,e7,bn0,bn1,rfl,hd12,hd13,hd14,hd16,(by simp),HS.out⟩
      ·obtain rfl:=hall;subst hun;go_simp;exact hK _ _ ⟨l0,true,true,l3,l4,l5,l6,l7,l8,l9,l10,l11,l12,l13,l14,l15,l16,h7,e7,bn0,bn1,rfl,hd12,hd13,hd14,hd16,(by simp),HS.out⟩
      ·obtain rfl:=hall;subst hun;obtain rfl:l14=false:=by cases l14 with|false=>rfl|true=>simpa using hd14 rfl
       obtain rfl:l16=false:=by cases l16 with|false=>rfl|true=>simpa using hd16 rfl
       have e0:=HS.out.cell (v:=.slice ao LG co) 0 0 rfl rfl;go_simp;exact hK _ _ ⟨l0,l1,true,true,l4,l5,l6,l7,l8,l9,l10,l11,l12,l13,false,l15,false,h7,e7,bn0,bn1,rfl,hd12,hd13,by simp,by simp,(by simp),HS.out⟩
      ·subst hun;go_simp;exact hK _ _ ⟨l0,l1,l2,l3,true,l5,l6,l7,l8,l9,l10,l11,l12,l13,l14,l15,l16,h7,e7,bn0,bn1,rfl,hd12,hd13,hd14,hd16,(by simp),HS.out⟩
      ·subst hun;go_simp;exact hK _ _ ⟨l0,l1,l2,l3,l4,true,l6,l7,l8,l9,l10,l11,l12,l13,l14,l15,l16,h7,e7,bn0,bn1,rfl,hd12,hd13,hd14,hd16,(by simp),HS.out⟩
      ·obtain⟨rfl,rfl⟩:=hall;subst hun;go_simp;exact hK _ _ ⟨l0,l1,l2,l3,true,true,true,l7,l8,l9,l10,l11,l12,l13,l14,l15,l16,h7,e7,bn0,bn1,rfl,hd12,hd13,hd14,hd16,(by simp),HS.out⟩
      ·obtain rfl:=hall;subst hun;obtain rfl:l12=false:=offL hd12 rfl;obtain rfl:l13=false:=by cases l13 with|false=>rfl|true=>simpa using hd13 rfl
       obtain rfl:l14=false:=by cases l14 with|false=>rfl|true=>simpa using hd14 rfl
       obtain rfl:l16=false:=by cases l16 with|false=>rfl|true=>simpa using hd16 rfl
       have e0:=HS.out.innRcell 2 j rfl HYA.out (by rw[Hhnl.out];omega) Hhxc.out;go_simp;exact hK _ _ ⟨l0,l1,l2,l3,l4,l5,true,true,l8,l9,l10,l11,false,false,false,l15,false,h7,e7,bn0,bn1,rfl,by simp,by simp,by simp,by simp,(by simp),HS.out⟩
      ·subst hun;go_simp;exact hK _ _ ⟨l0,l1,l2,l3,l4,l5,l6,l7,true,l9,l10,l11,l12,l13,l14,l15,l16,h7,e7,bn0,bn1,rfl,hd12,hd13,hd14,hd16,(by simp),HS.out⟩
      ·subst hun;go_simp;exact hK _ _ ⟨l0,l1,l2,l3,l4,l5,l6,l7,l8,true,l10,l11,l12,l13,l14,l15,l16,h7,e7,bn0,bn1,rfl,hd12,hd13,hd14,hd16,(by simp),HS.out⟩
      ·obtain⟨rfl,rfl⟩:=hall;subst hun;go_simp;exact hK _ _ ⟨l0,l1,l2,l3,l4,l5,l6,l7,true,true,true,l11,l12,l13,l14,l15,l16,h7,e7,bn0,bn1,rfl,hd12,hd13,hd14,hd16,(by simp),HS.out⟩
      ·obtain rfl:=hall;subst hun;obtain rfl:l12=false:=offR hd12 rfl;obtain rfl:l13=false:=by cases l13 with|false=>rfl|true=>simpa using hd13 rfl
       obtain rfl:l14=false:=by cases l14 with|false=>rfl|true=>simpa using hd14 rfl
       obtain rfl:l16=false:=by cases l16 with|false=>rfl|true=>simpa using hd16 rfl
       have e0:=HS.out.innRcell 2 z rfl HYB.out (by rw[Hhnf.out];omega) Hhyc.out;go_simp;exact hK _ _ ⟨l0,l1,l2,l3,l4,l5,l6,l7,l8,l9,true,true,false,false,false,l15,false,h7,e7,bn0,bn1,rfl,by simp,by simp,by simp,by simp,(by simp),HS.out⟩
      ·obtain⟨rfl,rfl⟩:=hall;subst hun;obtain rfl:l13=false:=by cases l13 with|false=>rfl|true=>simpa using hd13 rfl
       obtain rfl:l14=false:=by cases l14 with|false=>rfl|true=>simpa using hd14 rfl
       obtain rfl:l16=false:=by cases l16 with|false=>rfl|true=>simpa using hd16 rfl
       have hS2:=(HS.out.alloc _ rfl #[.int .i64 ((x:Nat):Int),.int .i64 ((y:Nat):Int)] 3).pick [0,1,2,5,4] (by decide);have HhS2:=qh hS2;clear hS2;go_simp;exact hK _ _ ⟨l0,l1,l2,l3,l4,l5,l6,true,l8,l9,l10,true,true,false,false,l15,false,h7,e7,_,bn1,rfl,by simp,by simp,by simp,by simp,(by simp),HhS2.out⟩
      ·obtain rfl:=hall;subst hun;obtain⟨rfl,rfl⟩:=hd12 rfl;obtain rfl:l14=false:=by cases l14 with|false=>rfl|true=>simpa using hd14 rfl
       obtain rfl:l16=false:=by cases l16 with|false=>rfl|true=>simpa using hd16 rfl
       have hS2:=(HS.out.alloc _ rfl #[.slice (some ⟨bn0,0,none⟩) 2 2] 26).pick [0,1,2,3,5] (by decide);have HhS2:=qh hS2;clear hS2;go_simp;exact hK _ _ ⟨l0,l1,l2,l3,l4,l5,l6,true,l8,l9,l10,true,true,true,false,l15,false,h7,e7,bn0,_,rfl,by simp,by simp,by simp,by simp,(by simp),HhS2.out⟩
      ·obtain⟨rfl,rfl⟩:=hall;subst hun;obtain rfl:=hd13 rfl;obtain⟨rfl,rfl⟩:=hd12 rfl;obtain rfl:l16=false:=by cases l16 with|false=>rfl|true=>simpa using hd16 rfl
       have HB:=qh (HS.out.boxrow 3 2 1 [.int .i64 ((x:Nat):Int),.int .i64 ((y:Nat):Int)] rfl rfl (by unfold maxLen;omega));refine step_append_lies (a:=⟨_,_⟩) _ (by rfl) _ _ _ (by rfl) w0.heap.size 26 k0 (.slice none 0 0) 1 24 Try.underlying42 hk.out Hhx0.out Hhx1.out Hhx2.out (by rfl) (by omega) (.slice ao LG co) LG vs (by rfl) (by have h:=(HB.out.rows 1 rfl).1;rw[List.length_map,HhLG.out] at h;exact h) ⟨bn1,0,none⟩ 1 1 [.slice (some ⟨bn0,0,none⟩) 2 2] (by rfl) (by rfl) (World.news_of_block (HB.out.box 4 rfl)) Zfi (by omega) (by unfold maxLen;omega) (by omega) HB.out.size _ rfl ?_;intro g8 c8 w8 hown8 hgrow8 hat8 hlt8;have HS8:=qh (HB.out.snoc 1 3 (by decide) rfl rfl (by decide) hgrow8 (by rw[List.length_map,HhLG.out];exact hown8) (ZiI hat8));clear hown8 hgrow8 hat8;go_simp;exact hK _ _ ⟨l0,l1,l2,true,l4,l5,l6,true,l8,l9,l10,true,true,true,true,l15,false,g8,c8,bn0,bn1,rfl,by simp,by simp,by simp,by simp,(by simp),HS8.out⟩
      ·obtain⟨rfl,rfl,rfl,rfl,rfl,rfl,rfl,rfl,rfl,rfl,rfl,rfl,rfl,rfl,rfl⟩:=hall;subst hun;go_simp;exact hK _ _ ⟨true,true,true,true,true,true,true,true,true,true,true,true,true,true,true,true,l16,h7,e7,bn0,bn1,rfl,by simp,by simp,by simp,hd16,(by simp),HS.out⟩
      obtain⟨rfl,rfl,rfl,rfl,rfl,rfl,rfl,rfl,rfl,rfl,rfl,rfl,rfl,rfl,rfl,rfl,-⟩:=hall;subst hun;have f0:=HS.out.fr 0 0 rfl;have k0:=HS.out.cell (v:=.slice ao LG co) 0 0 rfl rfl;go_simp;exact hK _ _ ⟨true,true,true,true,true,true,true,true,true,true,true,true,true,true,true,true,true,h7,e7,bn0,bn1,rfl,by simp,by simp,by simp,by simp,(by simp),(HS.out.set 0 rfl 0 (.slice (some ⟨h7,0,none⟩) (LG+1) e7))⟩
     ·rintro listed a w' ⟨l0,l1,l2,l3,l4,l5,l6,l7,l8,l9,l10,l11,l12,l13,l14,l15,l16,h7,e7,bn0,bn1,rfl,hd12,hd13,hd14,hd16,rfl,hS⟩ hr;have hall:=Zag (by kernel_rfl) rfl hr;obtain rfl:l0=true:=by simpa using hall 0 (by simp)
      obtain rfl:l1=true:=by simpa using hall 1 (by simp)
      obtain rfl:l2=true:=by simpa using hall 2 (by simp)
      obtain rfl:l3=true:=by simpa using hall 3 (by simp)
      obtain rfl:l4=true:=by simpa using hall 4 (by simp)
      obtain rfl:l5=true:=by simpa using hall 5 (by simp)
      obtain rfl:l6=true:=by simpa using hall 6 (by simp)
      obtain rfl:l7=true:=by simpa using hall 7 (by simp)
      obtain rfl:l8=true:=by simpa using hall 8 (by simp)
      obtain rfl:l9=true:=by simpa using hall 9 (by simp)
      obtain rfl:l10=true:=by simpa using hall 10 (by simp)
      obtain rfl:l11=true:=by simpa using hall 11 (by simp)
      obtain rfl:l12=true:=by simpa using hall 12 (by simp)
      obtain rfl:l13=true:=by simpa using hall 13 (by simp)
      obtain rfl:l14=true:=by simpa using hall 14 (by simp)
      obtain rfl:l15=true:=by simpa using hall 15 (by simp)
      obtain rfl:l16=true:=by simpa using hall 16 (by simp)
      clear hall hr hd12 hd13 hd14 hd16;simp only[↓reduceIte] at hS ⊢;simp only[List.setIfInBounds_toArray,List.set_cons_zero,List.set_cons_succ];have HS5:=qh hS;clear hS;go_wp2;go_roundw
      case rel =>refine⟨z+1,by go_num,by omega,some ⟨h7,0,none⟩,e7,vs++[.slice (some ⟨bn0,0,none⟩) 2 2],?_⟩;have h:=HS5.out.pick [0,1,2] (by decide);rw[Hhcuz.out,← List.append_assoc,HhGG.out,List.length_append,List.length_singleton,HhLG.out,List.map_append];exact h
      case measure=>simp[intOf];omega
     refine⟨false,false,false,false,false,false,false,false,false,false,false,false,false,false,false,false,false,0,0,0,0,rfl,by simp,by simp,by simp,by simp,(by simp),?_⟩;exact HSz.out.drew.pick [0,1,2,3,4] (by decide)
    obtain rfl:z=nf:=by omega
    have hful:(FI.take z).map (fun y=>(x,y))=FI.map fun y=>(x,y):=by rw[List.take_of_length_le (by rw[Hhnf.out];exact Nat.le_refl _)]
    rw[hful] at hGG;rw[← hLG,← hGG] at hS;have HSz:=qh (show FoS w0 wr po (GB++Zar (LA.take j) FI++FI.map fun y=>(x,y)) Y from⟨ao,co,vs,hS⟩);clear hlz hS hGG hLG hful;go_wp2;go_roundw
    case rel=>exact⟨j+1,by go_num,by omega,by rw[Hhcr.out,← List.append_assoc];exact HSz.out⟩
    case measure=>simp[intOf];omega
  obtain rfl:j=nl:=by omega
  have hful:LA.take j=LA:=List.take_of_length_le (by rw[Hhnl.out];exact Nat.le_refl _);have hout:FoS w0 wr po (GB++Zar LA FI) X:=by obtain⟨a,c,vs,hS⟩:=HSj.out;rw[hful] at hS;exact⟨a,c,vs,hS.innSt 2 rfl HYX.out⟩
  have Hhout:=qh hout;clear hout;clear hlt hful;go_wp2;refine bodyPost_end (v:=.tuple #[]) (by simp[results,Try.results42,go_sem]) rfl ⟨rfl,Hhout.out⟩
theorem Zmc:∀ t:Ex,plnE t→t.post.length≤60→FolS t:=by
 intro t
 induction t with
 | zero=>exact fun _ _=>Zl6
 | one=>exact fun _ _=>Zna
 | ltr c=>exact fun _ _=>Znb c
 | join a b ha hb=>exact fun hp h=>Zl8 a b h hp.1 hp.2 (ha hp.1 (by simp[Ex.post] at h;omega)) (hb hp.2 (by simp[Ex.post] at h;omega))
 | alt a b ha hb=>exact fun hp h=>Znc a b h hp.1 hp.2 (ha hp.1 (by simp[Ex.post] at h;omega)) (hb hp.2 (by simp[Ex.post] at h;omega))
 | both a b ha hb=>exact fun hp _=>hp.elim
 | neg a ha=>exact fun hp _=>hp.elim
 | star a ha=>exact fun hp h=>Zl7 a h hp (ha hp (by simp[Ex.post] at h;omega))
end Go.Proofs.Ytfanhfcamblghaa
