/-
  The walks over impl.product with the functions that combine hands to it, and over sideBySide.
  Conditions: the automata read as such and are valid.
-/
import Derived.Test.YtfikabecgaappaaGreatPr16Jw
set_option maxHeartbeats 4000000
set_option maxRecDepth 100000
namespace Go.Proofs.YtfikabecgaappaaGreat
open Go.RowKit Go.Maps
theorem Zl3 (x y r:Bool) (hr:(x||y)=r) (w:World):Calls Tryz.prog 138 #[.bool x,.bool y] w fun e w'=>e = .returned (.bool r)∧w=w':=by subst hr;cases x<;>cases y<;>(go_enter Tryz.func138, Tryz.ntmps138;go_wp2;go_ret;exact⟨rfl,rfl⟩)
theorem ZgX (a b:DfaD) (x:Int × Int) (bf ba bb:Nat) (w:World) (hda:Zae a.next a.ends=true) (hdb:Zae b.next b.ends=true) (hf:Bx w bf #[.func (.func 138) #[] #[]] 160) (h1:DfaAt w ba a) (h2:DfaAt w bb b) (hx:ZbV a b x=true) :
  Calls Tryz.prog 190 #[.agg #[.int .i64 x.1,.int .i64 x.2],.pointer (some ⟨bf,0,none⟩),.pointer (some ⟨ba,0,none⟩),.pointer (some ⟨bb,0,none⟩)] w fun e w'=>e = .returned (.bool (ZbP (fun x y=>x||y) a b x))∧Below w.heap.size w w':=by
 obtain⟨i,j,rfl,hi,hj⟩:=Zb5 hx;have hla:=Zac hda;have hlb:=Zac hdb;obtain⟨u1,u2,hB1,-,g1⟩:=h1;obtain⟨u3,u4,hB2,-,g2⟩:=h2;obtain⟨q1,o1,c1,rfl,hc1,hm1,e1,d1⟩:=Zd9 g1 (i:=i) (by omega);obtain⟨q2,o2,c2,rfl,hc2,hm2,e2,d2⟩:=Zd9 g2 (i:=j) (by omega);obtain⟨ta,hta⟩:=eI (a.ends.getD i false);obtain⟨tb,htb⟩:=eI (b.ends.getD j false);rw[← hta] at e1;rw[← htb] at e2;obtain⟨r,hr⟩:=eJ ((ta||tb));have hres:ZbP (fun x y=>x||y) a b ((i:Int),(j:Int))=r:=by rw[← hr,hta,htb];rfl
 rw[hres];have ca:=hB1.cell 1;have cb:=hB2.cell 1;have cf:=hf.cell 0;simp only[List.getElem?_toArray,List.getElem?_cons_zero,List.getElem?_cons_succ] at ca cb cf;have d5:=hB1.lt;have d6:=hB2.lt;have d7:=hf.lt;obtain⟨l1,l2,l3⟩:=hla;obtain⟨l4,l5,l6⟩:=hlb;have hii:(i:Int)<a.ends.length:=by omega
 have hjj:(j:Int)<b.ends.length:=by omega
 have Hr:=qh hr;clear g1 g2 hB1 hB2 hta htb hx hda hdb hf hres hr l3 l6
 go_enter Tryz.func190, Tryz.ntmps190
 go_wp2
 go_quiet ((go_at_call 138;with_reducible exact ZgW (Zl3 _ _ _ Hr.out _)))
 go_wp2;go_ret;exact⟨rfl,below_drewN ((Below.refl _ _).alloc (Nat.le_refl _) _) _⟩
theorem Zl4 (x y r:Bool) (hr:(x&&y)=r) (w:World):Calls Tryz.prog 139 #[.bool x,.bool y] w fun e w'=>e = .returned (.bool r)∧w=w':=by subst hr;cases x<;>cases y<;>(go_enter Tryz.func139, Tryz.ntmps139;go_wp2;go_ret;exact⟨rfl,rfl⟩)
theorem ZgY (a b:DfaD) (x:Int × Int) (bf ba bb:Nat) (w:World) (hda:Zae a.next a.ends=true) (hdb:Zae b.next b.ends=true) (hf:Bx w bf #[.func (.func 139) #[] #[]] 160) (h1:DfaAt w ba a) (h2:DfaAt w bb b) (hx:ZbV a b x=true) :
  Calls Tryz.prog 190 #[.agg #[.int .i64 x.1,.int .i64 x.2],.pointer (some ⟨bf,0,none⟩),.pointer (some ⟨ba,0,none⟩),.pointer (some ⟨bb,0,none⟩)] w fun e w'=>e = .returned (.bool (ZbP (fun x y=>x&&y) a b x))∧Below w.heap.size w w':=by
 obtain⟨i,j,rfl,hi,hj⟩:=Zb5 hx;have hla:=Zac hda;have hlb:=Zac hdb;obtain⟨u1,u2,hB1,-,g1⟩:=h1;obtain⟨u3,u4,hB2,-,g2⟩:=h2;obtain⟨q1,o1,c1,rfl,hc1,hm1,e1,d1⟩:=Zd9 g1 (i:=i) (by omega);obtain⟨q2,o2,c2,rfl,hc2,hm2,e2,d2⟩:=Zd9 g2 (i:=j) (by omega);obtain⟨ta,hta⟩:=eI (a.ends.getD i false);obtain⟨tb,htb⟩:=eI (b.ends.getD j false);rw[← hta] at e1;rw[← htb] at e2;obtain⟨r,hr⟩:=eJ ((ta&&tb));have hres:ZbP (fun x y=>x&&y) a b ((i:Int),(j:Int))=r:=by rw[← hr,hta,htb];rfl
 rw[hres];have ca:=hB1.cell 1;have cb:=hB2.cell 1;have cf:=hf.cell 0;simp only[List.getElem?_toArray,List.getElem?_cons_zero,List.getElem?_cons_succ] at ca cb cf;have d5:=hB1.lt;have d6:=hB2.lt;have d7:=hf.lt;obtain⟨l1,l2,l3⟩:=hla;obtain⟨l4,l5,l6⟩:=hlb;have hii:(i:Int)<a.ends.length:=by omega
 have hjj:(j:Int)<b.ends.length:=by omega
 have Hr:=qh hr;clear g1 g2 hB1 hB2 hta htb hx hda hdb hf hres hr l3 l6
 go_enter Tryz.func190, Tryz.ntmps190
 go_wp2
 go_quiet ((go_at_call 139;with_reducible exact ZgW (Zl4 _ _ _ Hr.out _)))
 go_wp2;go_ret;exact⟨rfl,below_drewN ((Below.refl _ _).alloc (Nat.le_refl _) _) _⟩
theorem ZhK (φ:Fn) (f:Bool→Bool→Bool) (a b:DfaD) (most:Nat) (v1 v2:Value) (w:World) (hda:Zae a.next a.ends=true) (hdb:Zae b.next b.ends=true) (hm0:0<most) (hm1:most≤100000) (hp2:∀ (x:Int × Int) (bf ba bb:Nat) (w:World),Bx w bf #[.func φ #[] #[]] 160 → DfaAt w ba a→DfaAt w bb b→ZbV a b x=true→Calls Tryz.prog 190 #[.agg #[.int .i64 x.1,.int .i64 x.2],.pointer (some ⟨bf,0,none⟩),.pointer (some ⟨ba,0,none⟩),.pointer (some ⟨bb,0,none⟩)] w fun e w'=>e = .returned (.bool (ZbP f a b x))∧Below w.heap.size w w') (h1:DfaR 0 w v1 a) (h2:DfaR 0 w v2 b) :
  Calls Tryz.prog 171 #[v1,v2,.int .i64 most,.func φ #[] #[]] w fun e w'=>RExp (Zav a b) (ZbP f a b) most w.heap.size e w'∧Below w.heap.size w w':=by
 obtain⟨u1,u2,rfl,g1,g2⟩:=h1;obtain⟨u3,u4,rfl,g3,g4⟩:=h2
 go_enter Tryz.func171, Tryz.ntmps171
 go_wp2_with fail;obtain⟨W,hW⟩:=eI (((((w.alloc (.cells #[u1,u2] 37)).alloc (.cells #[u3,u4] 37)).alloc (.cells #[.func φ #[] #[]] 160)).alloc (.cells #[.slice none 0 0,.slice none 0 0] 37)));have hbW:Below w.heap.size w W:=by rw[hW];exact((((Below.refl _ _).alloc (Nat.le_refl _) _).alloc (by simp) _).alloc (by simp;omega) _).alloc (by simp;omega) _
 have xA:Bx W w.heap.size #[u1,u2] 37:=by rw[hW];exact(((Bx.new w _ _).alloc _).alloc _).alloc _
 have xB:Bx W (w.heap.size+1) #[u3,u4] 37:=by rw[hW];simpa using ((Bx.new (w.alloc (.cells #[u1,u2] 37)) #[u3,u4] 37).alloc _).alloc _
 have xF:Bx W (w.heap.size+1+1) #[.func φ #[] #[]] 160:=by rw[hW];simpa using (Bx.new ((w.alloc (.cells #[u1,u2] 37)).alloc (.cells #[u3,u4] 37)) #[.func φ #[] #[]] 160).alloc _
 have xR:Bx W (w.heap.size+1+1+1) #[.slice none 0 0,.slice none 0 0] 37:=by rw[hW];simpa using Bx.new (((w.alloc (.cells #[u1,u2] 37)).alloc (.cells #[u3,u4] 37)).alloc (.cells #[.func φ #[] #[]] 160)) #[.slice none 0 0,.slice none 0 0] 37
 have hA:DfaAt W w.heap.size a:=⟨u1,u2,xA,g1.below hbW,g2.below hbW⟩;have hB:DfaAt W (w.heap.size+1) b:=⟨u3,u4,xB,g3.below hbW,g4.below hbW⟩;have hz:=xR.lt;rw[← hW]
 refine(ZeU (Zav a b) (ZbP f a b) (fun x=>ZbV a b x=true) most (w.heap.size+1+1) w.heap.size (w.heap.size+1) W (ZfG hda hdb) (fun x c hc hx=>ZfH hda hdb hc hx) (fun x hx=>Zki hda hdb hx) hm0 hm1
  (fun x c w' hx hc hb=>ZhL a b x c _ _ w' hda hdb (hA.below hb) (hB.below hb) hx hc)
  (fun x w' hx hb=>hp2 x _ _ _ w' (xF.below hb xF.lt) (hA.below hb) (hB.below hb) hx)).mono ?_
 rintro e w2 ⟨hr,hb2⟩;have yR:=xR.below hb2 hz;have r0:=yR.cell 0;have r1:=yR.cell 1;have f0:=yR.fr 0;have f1:=yR.fr 1;simp only[List.getElem?_toArray,List.getElem?_cons_zero,List.getElem?_cons_succ] at r0 r1;unfold RExp at hr;have hbw2:=hbW.trans (hb2.mono hbW.size);have hz0:w.heap.size≤W.heap.size:=hbW.size;replace hbw2:=qh hbw2;have HyR:=qh yR;clear yR;clear hp2 hA hB xA xB xF xR g1 g2 g3 g4 hda hdb hW hbW hb2;by_cases hle:(bat (Zav a b) (0,0) most).met.length≤most
 ·rw[if_pos hle] at hr;obtain⟨an,cn,ae,ce,am,cm,rfl,⟨q1,q2,hq,hd1,hd2⟩,hp⟩:=hr;simp only[Value.agg.injEq] at hq;have e1:=congrArg (fun (l:Array Value)=>l[0]?) hq;have e2:=congrArg (fun (l:Array Value)=>l[1]?) hq;simp at e1 e2;subst e1;subst e2;clear hq;obtain⟨F,hF⟩:=eI ((bat (Zav a b) (0,0) most).met);rw[← hF] at hd1 hd2 hp hle;rw[← hF];have Hhd1:=qh hd1;clear hd1;have Hhd2:=qh hd2;clear hd2;have Hhp:=qh hp;clear hp;replace hF:=qh hF;go_wp2;have b1:=HyR.out.set 0 (.slice an F.length cn);have b2:=b1.set 1 (.slice ae F.length ce);have z0:=b2.cell 0;have z1:=b2.cell 1;simp only[List.getElem?_toArray,List.getElem?_cons_zero,List.getElem?_cons_succ,List.setIfInBounds_toArray,List.set_cons_zero,List.set_cons_succ] at z0 z1;have g1:=ZaC w2 (w.heap.size+1+1+1) 0 (.slice an F.length cn);have g2:=ZaC (w2.setCell ⟨w.heap.size+1+1+1,0,none⟩ (.slice an F.length cn)) (w.heap.size+1+1+1) 1 (.slice ae F.length ce);refine bodyPost_ret (v:=.tuple #[.agg #[.slice an F.length cn,.slice ae F.length ce],.slice am F.length cm,.bool true]) (by simp[results,Tryz.results171,go_sem,z0,z1]) rfl ⟨?_,?_⟩
  ·unfold RExp;rw[← hF.out,if_pos hle];have ha:∀ e,37 ≠ e→ZbQ w2 (some (w.heap.size+1+1+1)) e:=fun e he=>HyR.out.apart he
   have ha2:∀ e,37 ≠ e→ZbQ (w2.setCell ⟨w.heap.size+1+1+1,0,none⟩ (.slice an F.length cn)) (some (w.heap.size+1+1+1)) e:=fun e he=>b1.apart he
   refine⟨_,_,_,_,_,_,rfl,⟨_,_,rfl,?_,?_⟩,?_⟩
   ·exact((Hhd1.out.grown g1 (ha _ (by decide)) (ha _ (by decide))).grown g2 (ha2 _ (by decide)) (ha2 _ (by decide))).mono hz0 (by simp)
   ·exact Own.mono (Own.grown (Own.grown Hhd2.out g1 (ha _ (by decide))) g2 (ha2 _ (by decide))) hz0 (by simp)
   exact Own.mono (Own.grown (Own.grown Hhp.out g1 (ha _ (by decide))) g2 (ha2 _ (by decide))) hz0 (by simp)
  exact(hbw2.out.setCell (by simp;omega) _).setCell (by simp;omega) _
 rw[if_neg hle] at hr;subst hr;go_wp2;have b1:=HyR.out.set 0 (.slice none 0 0);have b2:=b1.set 1 (.slice none 0 0);have z0:=b2.cell 0;have z1:=b2.cell 1;simp only[List.getElem?_toArray,List.getElem?_cons_zero,List.getElem?_cons_succ,List.setIfInBounds_toArray,List.set_cons_zero,List.set_cons_succ] at z0 z1;refine bodyPost_ret (v:=.tuple #[.agg #[.slice none 0 0,.slice none 0 0],.slice none 0 0,.bool false]) (by simp[results,Tryz.results171,go_sem,z0,z1]) rfl ⟨?_,?_⟩
 ·unfold RExp;rw[if_neg hle]
 exact(hbw2.out.setCell (by simp;omega) _).setCell (by simp;omega) _
theorem ZdV (φ:Fn) (f:Bool→Bool→Bool) (K:Nat) (hK:K=40) (a b:DfaD) (D:DfaD) (fb:Bool) (hD:((Zbk K f a b).map minD).getD zeD=D) (hfb:((Zbk K f a b).map minD).isSome=fb) (v1 v2:Value) (w:World) (hda:Zae a.next a.ends=true) (hdb:Zae b.next b.ends=true) (hp2:∀ (x:Int × Int) (bf ba bb:Nat) (w:World),Bx w bf #[.func φ #[] #[]] 160 → DfaAt w ba a→DfaAt w bb b→ZbV a b x=true→Calls Tryz.prog 190 #[.agg #[.int .i64 x.1,.int .i64 x.2],.pointer (some ⟨bf,0,none⟩),.pointer (some ⟨ba,0,none⟩),.pointer (some ⟨bb,0,none⟩)] w fun e w'=>e = .returned (.bool (ZbP f a b x))∧Below w.heap.size w w') (h1:DfaR 0 w v1 a) (h2:DfaR 0 w v2 b) :
  Calls Tryz.prog 137 #[v1,v2,.func φ #[] #[]] w fun e w'=>RTt D fb w.heap.size e w'∧Below w.heap.size w w':=by
 have H1:=h1;have H2:=h2;obtain⟨u1,u2,rfl,g1,g2⟩:=h1;obtain⟨u3,u4,rfl,g3,g4⟩:=h2;have hS0:=(((St.start w).alloc _ rfl #[u1,u2] 37).alloc (w.heap.size+1) (by simp) #[u3,u4] 37).alloc (w.heap.size+1+1) (by simp) #[.slice none 0 0,.slice none 0 0] 37;have hpr:=fun (W:World) (hb:Below w.heap.size w W)=>ZhK φ f a b K (.agg #[u1,u2]) (.agg #[u3,u4]) W hda hdb (by omega) (by omega) hp2 (H1.below hb) (H2.below hb)
 have hK4:((K:Nat):Int)=40:=by omega
 rw[hK4] at hpr;have Hpr:=qh hpr;replace hS0:=qh hS0;have HhD:=qh hD;clear hD;have Hhfb:=qh hfb;clear hfb;replace hK:=qh hK;clear hpr H1 H2 g1 g2 g3 g4 hda hdb hK4
 go_enter Tryz.func137, Tryz.ntmps137
 have e0:=hS0.out.cell (v:=u1) 0 0 rfl rfl;have e1:=hS0.out.cell (v:=u2) 0 1 rfl rfl;have e2:=hS0.out.cell (v:=u3) 1 0 rfl rfl;have e3:=hS0.out.cell (v:=u4) 1 1 rfl rfl;go_wp2_with fail;refine(Hpr.out _ hS0.out.bel).mono ?_;rintro e w3 ⟨hr,hb3⟩;unfold RExp at hr;by_cases hle:(metP a b K).length≤K
 ·rw[if_pos hle] at hr;obtain⟨an,cn,ae,ce,am,cm,rfl,hown,-⟩:=hr;have htd:Zbk K f a b=some (Zap (Zav a b) (ZbP f a b) (metP a b K)):=if_pos hle;obtain⟨X,hX⟩:=eI (Zap (Zav a b) (ZbP f a b) (metP a b K));have hl1:X.next.length=(metP a b K).length:=by rw[hX];exact ZaL _ _ _
  have hl2:X.ends.length=(metP a b K).length:=by rw[hX];simp[Zap]
  rw[← hX] at hown htd;have hD:=HhD.out;have hfb:=Hhfb.out;rw[htd] at hD hfb;have hD:minD X=D:=hD;have hfb:true=fb:=hfb;subst hD;subst hfb;obtain⟨L,hL⟩:=eI ((metP a b K).length);rw[← hL] at hown hl1 hl2 hle;rw[← hL];have hL40:(L:Int)≤40:=by have:=hK.out;omega
  have hXo:Zae X.next X.ends=true:=Zbf hK.out htd;have hS4:=(hS0.out.call hb3).alloc _ rfl #[.slice an L cn,.slice ae L ce] 37;have hDR:DfaR 0 (w3.alloc (.cells #[.slice an L cn,.slice ae L ce] 37)) (.agg #[.slice an L cn,.slice ae L ce]) X:=(hown.r.mono (Nat.zero_le _)).below ((Below.refl _ _).alloc (Nat.le_refl _) _);have d0:=hS4.cell (v:=.slice an L cn) 3 0 rfl rfl;have d1:=hS4.cell (v:=.slice ae L ce) 3 1 rfl rfl;have HS4:=qh hS4;have HDR:=qh hDR;have Hhl1:=qh hl1;clear hl1;have Hhl2:=qh hl2;clear hl2;have Hhtd:=qh htd;clear htd;have HhXo:=qh hXo;clear hXo;have HhX:=qh hX;clear hX;have HhL:=qh hL;clear hL;clear hown hb3 hle hS4 hDR e0 e1 e2 e3;go_wp2_with fail;refine(ZbC X _ _ HhXo.out HDR.out).mono ?_;rintro e w5 ⟨a1,c1,a2,c2,rfl,hown,hb5⟩;obtain⟨M,hM⟩:=eI (minD X);rw[← hM] at hown;rw[← hM];have hS5:=HS4.out.call hb5;have f0:=hS5.fr 2 0 rfl;have f1:=hS5.fr 2 1 rfl;have k0:=hS5.cell (v:=.slice none 0 0) 2 0 rfl rfl;have k1:=hS5.cell (v:=.slice none 0 0) 2 1 rfl rfl;have hDM:=DMem.of hown HS4.out.size;have hb0:=hS5.box 2 rfl;have HS5:=qh hS5;have HDM:=qh hDM;have Hhb0:=qh hb0;clear hb0;have HhM:=qh hM;clear hM;clear hS5 hown hb5 hDM d0 d1;go_wp2;have hq:=(HS5.out.set 2 rfl 0 (.slice a1 M.next.length c1)).set 2 rfl 1 (.slice a2 M.ends.length c2);have q0:=hq.cell (v:=.slice a1 M.next.length c1) 2 0 rfl rfl;have q1:=hq.cell (v:=.slice a2 M.ends.length c2) 2 1 rfl rfl
  have hm:=(HDM.out.set Hhb0.out 0 (.slice a1 M.next.length c1)).set (Hhb0.out.set 0 _) 1 (.slice a2 M.ends.length c2);refine bodyPost_ret (v:=.tuple #[.agg #[.slice a1 M.next.length c1,.slice a2 M.ends.length c2],.bool true]) (by simp[results,Tryz.results137,go_sem,q0,q1]) rfl ⟨?_,hq.bel⟩;rw[← HhM.out];exact⟨a1,c1,a2,c2,rfl,_,_,rfl,hm.1,hm.2⟩
 rw[if_neg hle] at hr;subst hr;have htd:Zbk K f a b=none:=if_neg hle;have hD:=HhD.out;have hfb:=Hhfb.out;rw[htd] at hD hfb;have hD:zeD=D:=hD;have hfb:false=fb:=hfb;subst hD;subst hfb;have hS4:=(hS0.out.call hb3).alloc _ rfl #[.slice none 0 0,.slice none 0 0] 37;have f0:=hS4.fr 2 0 rfl;have f1:=hS4.fr 2 1 rfl;have k0:=hS4.cell (v:=.slice none 0 0) 2 0 rfl rfl;have k1:=hS4.cell (v:=.slice none 0 0) 2 1 rfl rfl;have HS4:=qh hS4;clear hb3 hle hS4 e0 e1 e2 e3;go_wp2;have hq:=(HS4.out.set 2 rfl 0 (.slice none 0 0)).set 2 rfl 1 (.slice none 0 0);have q0:=hq.cell (v:=.slice none 0 0) 2 0 rfl rfl;have q1:=hq.cell (v:=.slice none 0 0) 2 1 rfl rfl;refine bodyPost_ret (v:=.tuple #[.agg #[.slice none 0 0,.slice none 0 0],.bool false]) (by simp[results,Tryz.results137,go_sem,q0,q1]) rfl ⟨?_,hq.bel⟩;exact⟨none,0,none,0,rfl,ZgK _ _ _ _ _⟩
theorem Zhd (K:Nat) (hK:K=40) (a b:DfaD) (D:DfaD) (fb:Bool) (hD:((Zbk K (fun p q=>p||q) a b).map minD).getD zeD=D) (hfb:((Zbk K (fun p q=>p||q) a b).map minD).isSome=fb) (v1 v2:Value) (w:World) (hda:Zae a.next a.ends=true) (hdb:Zae b.next b.ends=true) (h1:DfaR 0 w v1 a) (h2:DfaR 0 w v2 b) :
  Calls Tryz.prog 137 #[v1,v2,.func (.func 138) #[] #[]] w fun e w'=>RTt D fb w.heap.size e w'∧Below w.heap.size w w' :=
 ZdV _ (fun p q=>p||q) K hK a b D fb hD hfb v1 v2 w hda hdb (fun x bf ba bb w' hf g1 g2 hx=>ZgX a b x bf ba bb w' hda hdb hf g1 g2 hx) h1 h2
theorem Zhe (K:Nat) (hK:K=40) (a b:DfaD) (D:DfaD) (fb:Bool) (hD:((Zbk K (fun p q=>p&&q) a b).map minD).getD zeD=D) (hfb:((Zbk K (fun p q=>p&&q) a b).map minD).isSome=fb) (v1 v2:Value) (w:World) (hda:Zae a.next a.ends=true) (hdb:Zae b.next b.ends=true) (h1:DfaR 0 w v1 a) (h2:DfaR 0 w v2 b) :
  Calls Tryz.prog 137 #[v1,v2,.func (.func 139) #[] #[]] w fun e w'=>RTt D fb w.heap.size e w'∧Below w.heap.size w w' :=
 ZdV _ (fun p q=>p&&q) K hK a b D fb hD hfb v1 v2 w hda hdb (fun x bf ba bb w' hf g1 g2 hx=>ZgY a b x bf ba bb w' hda hdb hf g1 g2 hx) h1 h2
end Go.Proofs.YtfikabecgaappaaGreat
