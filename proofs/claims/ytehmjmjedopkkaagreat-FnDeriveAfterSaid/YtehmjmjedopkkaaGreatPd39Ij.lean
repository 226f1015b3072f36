/-
  The walks over impl.product with the functions that combine hands to it, and over sideBySide.
  Conditions: the automata read as such and are valid.
-/
import Derived.Test.YtehmjmjedopkkaaGreatPd13Exp
import Derived.Test.YtehmjmjedopkkaaGreatPd32Wset
set_option maxHeartbeats 8000000
set_option maxRecDepth 100000
namespace Go.Proofs.YtehmjmjedopkkaaGreat
open Go.RowKit Go.Maps
theorem Zmn (x y r:Bool) (hr:(x||y)=r) (w:World):Calls Tryz.prog 109 #[.bool x,.bool y] w fun e w'=>e = .returned (.bool r)∧w=w':=by subst hr;cases x<;>cases y<;>(go_enter Tryz.func109, Tryz.ntmps109;go_wp2;go_ret;exact⟨rfl,rfl⟩)
theorem Zhp (a b:DfaD) (x:Int × Int) (bf ba bb:Nat) (w:World) (hda:Zai a.next a.ends=true) (hdb:Zai b.next b.ends=true) (hf:Bx w bf #[.func (.func 109) #[] #[]] 127) (h1:DfaAt w ba a) (h2:DfaAt w bb b) (hx:Zcx a b x=true) :
  Calls Tryz.prog 158 #[.agg #[.int .i64 x.1,.int .i64 x.2],.pointer (some ⟨bf,0,none⟩),.pointer (some ⟨ba,0,none⟩),.pointer (some ⟨bb,0,none⟩)] w fun e w'=>e = .returned (.bool (ZeK (fun x y=>x||y) a b x))∧Below w.heap.size w w':=by
 obtain⟨i,j,rfl,hi,hj⟩:=ZcO hx;have hla:=Zag hda;have hlb:=Zag hdb;obtain⟨u1,u2,hB1,-,g1⟩:=h1;obtain⟨u3,u4,hB2,-,g2⟩:=h2;obtain⟨q1,o1,c1,rfl,hc1,hm1,e1,d1⟩:=Zer g1 (i:=i) (by omega);obtain⟨q2,o2,c2,rfl,hc2,hm2,e2,d2⟩:=Zer g2 (i:=j) (by omega);obtain⟨ta,hta⟩:=eI (a.ends.getD i false);obtain⟨tb,htb⟩:=eI (b.ends.getD j false);rw[← hta] at e1;rw[← htb] at e2;obtain⟨r,hr⟩:=eJ ((ta||tb));have hres:ZeK (fun x y=>x||y) a b ((i:Int),(j:Int))=r:=by rw[← hr,hta,htb];rfl
 rw[hres];have ca:=hB1.cell 1;have cb:=hB2.cell 1;have cf:=hf.cell 0;simp only[List.getElem?_toArray,List.getElem?_cons_zero,List.getElem?_cons_succ] at ca cb cf;have d5:=hB1.lt;have d6:=hB2.lt;have d7:=hf.lt;obtain⟨l1,l2,l3⟩:=hla;obtain⟨l4,l5,l6⟩:=hlb;have hii:(i:Int)<a.ends.length:=by omega
 have hjj:(j:Int)<b.ends.length:=by omega
 have Hr:=qh hr;clear g1 g2 hB1 hB2 hta htb hx hda hdb hf hres hr l3 l6
 go_enter Tryz.func158, Tryz.ntmps158
 go_wp2
 go_quiet ((go_at_call 109;with_reducible exact Zhn (Zmn _ _ _ Hr.out _)))
 go_wp2;go_ret;exact⟨rfl,below_drewN ((Below.refl _ _).alloc (Nat.le_refl _) _) _⟩
theorem Zmo (x y r:Bool) (hr:(x&&y)=r) (w:World):Calls Tryz.prog 110 #[.bool x,.bool y] w fun e w'=>e = .returned (.bool r)∧w=w':=by subst hr;cases x<;>cases y<;>(go_enter Tryz.func110, Tryz.ntmps110;go_wp2;go_ret;exact⟨rfl,rfl⟩)
theorem Zhq (a b:DfaD) (x:Int × Int) (bf ba bb:Nat) (w:World) (hda:Zai a.next a.ends=true) (hdb:Zai b.next b.ends=true) (hf:Bx w bf #[.func (.func 110) #[] #[]] 127) (h1:DfaAt w ba a) (h2:DfaAt w bb b) (hx:Zcx a b x=true) :
  Calls Tryz.prog 158 #[.agg #[.int .i64 x.1,.int .i64 x.2],.pointer (some ⟨bf,0,none⟩),.pointer (some ⟨ba,0,none⟩),.pointer (some ⟨bb,0,none⟩)] w fun e w'=>e = .returned (.bool (ZeK (fun x y=>x&&y) a b x))∧Below w.heap.size w w':=by
 obtain⟨i,j,rfl,hi,hj⟩:=ZcO hx;have hla:=Zag hda;have hlb:=Zag hdb;obtain⟨u1,u2,hB1,-,g1⟩:=h1;obtain⟨u3,u4,hB2,-,g2⟩:=h2;obtain⟨q1,o1,c1,rfl,hc1,hm1,e1,d1⟩:=Zer g1 (i:=i) (by omega);obtain⟨q2,o2,c2,rfl,hc2,hm2,e2,d2⟩:=Zer g2 (i:=j) (by omega);obtain⟨ta,hta⟩:=eI (a.ends.getD i false);obtain⟨tb,htb⟩:=eI (b.ends.getD j false);rw[← hta] at e1;rw[← htb] at e2;obtain⟨r,hr⟩:=eJ ((ta&&tb));have hres:ZeK (fun x y=>x&&y) a b ((i:Int),(j:Int))=r:=by rw[← hr,hta,htb];rfl
 rw[hres];have ca:=hB1.cell 1;have cb:=hB2.cell 1;have cf:=hf.cell 0;simp only[List.getElem?_toArray,List.getElem?_cons_zero,List.getElem?_cons_succ] at ca cb cf;have d5:=hB1.lt;have d6:=hB2.lt;have d7:=hf.lt;obtain⟨l1,l2,l3⟩:=hla;obtain⟨l4,l5,l6⟩:=hlb;have hii:(i:Int)<a.ends.length:=by omega
 have hjj:(j:Int)<b.ends.length:=by omega
 have Hr:=qh hr;clear g1 g2 hB1 hB2 hta htb hx hda hdb hf hres hr l3 l6
 go_enter Tryz.func158, Tryz.ntmps158
 go_wp2
 go_quiet ((go_at_call 110;with_reducible exact Zhn (Zmo _ _ _ Hr.out _)))
 go_wp2;go_ret;exact⟨rfl,below_drewN ((Below.refl _ _).alloc (Nat.le_refl _) _) _⟩
theorem Zh7 (φ:Fn) (f:Bool→Bool→Bool) (a b:DfaD) (most:Nat) (v1 v2:Value) (w:World) (hda:Zai a.next a.ends=true) (hdb:Zai b.next b.ends=true) (hm0:0<most) (hm1:most≤100000) (hp2:∀ (x:Int × Int) (bf ba bb:Nat) (w:World),Bx w bf #[.func φ #[] #[]] 127 → DfaAt w ba a→DfaAt w bb b→Zcx a b x=true→Calls Tryz.prog 158 #[.agg #[.int .i64 x.1,.int .i64 x.2],.pointer (some ⟨bf,0,none⟩),.pointer (some ⟨ba,0,none⟩),.pointer (some ⟨bb,0,none⟩)] w fun e w'=>e = .returned (.bool (ZeK f a b x))∧Below w.heap.size w w') (h1:DfaR 0 w v1 a) (h2:DfaR 0 w v2 b) :
  Calls Tryz.prog 145 #[v1,v2,.int .i64 most,.func φ #[] #[]] w fun e w'=>RExp (ZcB a b) (ZeK f a b) most w.heap.size e w'∧Below w.heap.size w w':=by
 obtain⟨u1,u2,rfl,g1,g2⟩:=h1;obtain⟨u3,u4,rfl,g3,g4⟩:=h2
 go_enter Tryz.func145, Tryz.ntmps145
 go_wp2_with fail;obtain⟨W,hW⟩:=eI (((((w.alloc (.cells #[u1,u2] 32)).alloc (.cells #[u3,u4] 32)).alloc (.cells #[.func φ #[] #[]] 127)).alloc (.cells #[.slice none 0 0,.slice none 0 0] 32)));have hbW:Below w.heap.size w W:=by rw[hW];exact((((Below.refl _ _).alloc (Nat.le_refl _) _).alloc (by simp) _).alloc (by simp;omega) _).alloc (by simp;omega) _
 have xA:Bx W w.heap.size #[u1,u2] 32:=by rw[hW];exact(((Bx.new w _ _).alloc _).alloc _).alloc _
 have xB:Bx W (w.heap.size+1) #[u3,u4] 32:=by rw[hW];simpa using ((Bx.new (w.alloc (.cells #[u1,u2] 32)) #[u3,u4] 32).alloc _).alloc _
 have xF:Bx W (w.heap.size+1+1) #[.func φ #[] #[]] 127:=by rw[hW];simpa using (Bx.new ((w.alloc (.cells #[u1,u2] 32)).alloc (.cells #[u3,u4] 32)) #[.func φ #[] #[]] 127).alloc _
 have xR:Bx W (w.heap.size+1+1+1) #[.slice none 0 0,.slice none 0 0] 32:=by rw[hW];simpa using Bx.new (((w.alloc (.cells #[u1,u2] 32)).alloc (.cells #[u3,u4] 32)).alloc (.cells #[.func φ #[] #[]] 127)) #[.slice none 0 0,.slice none 0 0] 32
 have hA:DfaAt W w.heap.size a:=⟨u1,u2,xA,g1.below hbW,g2.below hbW⟩;have hB:DfaAt W (w.heap.size+1) b:=⟨u3,u4,xB,g3.below hbW,g4.below hbW⟩;have hz:=xR.lt;rw[← hW]
 refine(Ze9 (ZcB a b) (ZeK f a b) (fun x=>Zcx a b x=true) most (w.heap.size+1+1) w.heap.size (w.heap.size+1) W (Zjk hda hdb) (fun x c hc hx=>Zjl hda hdb hc hx) (fun x hx=>ZkP hda hdb hx) hm0 hm1
  (fun x c w' hx hc hb=>Zh8 a b x c _ _ w' hda hdb (hA.below hb) (hB.below hb) hx hc)
  (fun x w' hx hb=>hp2 x _ _ _ w' (xF.below hb xF.lt) (hA.below hb) (hB.below hb) hx)).mono ?_
 rintro e w2 ⟨hr,hb2⟩;have yR:=xR.below hb2 hz;have r0:=yR.cell 0;have r1:=yR.cell 1;have f0:=yR.fr 0;have f1:=yR.fr 1;simp only[List.getElem?_toArray,List.getElem?_cons_zero,List.getElem?_cons_succ] at r0 r1;unfold RExp at hr;have hbw2:=hbW.trans (hb2.mono hbW.size);have hz0:w.heap.size≤W.heap.size:=hbW.size;replace hbw2:=qh hbw2;have HyR:=qh yR;clear yR;clear hp2 hA hB xA xB xF xR g1 g2 g3 g4 hda hdb hW hbW hb2;by_cases hle:(bat (ZcB a b) (0,0) most).met.length≤most
 ·rw[if_pos hle] at hr;obtain⟨an,cn,ae,ce,am,cm,rfl,⟨q1,q2,hq,hd1,hd2⟩,hp⟩:=hr;simp only[Value.agg.injEq] at hq;have e1:=congrArg (fun (l:Array Value)=>l[0]?) hq;have e2:=congrArg (fun (l:Array Value)=>l[1]?) hq;simp at e1 e2;subst e1;subst e2;clear hq;obtain⟨F,hF⟩:=eI ((bat (ZcB a b) (0,0) most).met);rw[← hF] at hd1 hd2 hp hle;rw[← hF];have Hhd1:=qh hd1;clear hd1;have Hhd2:=qh hd2;clear hd2;have Hhp:=qh hp;clear hp;replace hF:=qh hF;go_wp2;have b1:=HyR.out.set 0 (.slice an F.length cn);have b2:=b1.set 1 (.slice ae F.length ce);have z0:=b2.cell 0;have z1:=b2.cell 1;simp only[List.getElem?_toArray,List.getElem?_cons_zero,List.getElem?_cons_succ,List.setIfInBounds_toArray,List.set_cons_zero,List.set_cons_succ] at z0 z1;have g1:=ZaC w2 (w.heap.size+1+1+1) 0 (.slice an F.length cn);have g2:=ZaC (w2.setCell ⟨w.heap.size+1+1+1,0,none⟩ (.slice an F.length cn)) (w.heap.size+1+1+1) 1 (.slice ae F.length ce);refine bodyPost_ret (v:=.tuple #[.agg #[.slice an F.length cn,.slice ae F.length ce],.slice am F.length cm,.bool true]) (by simp[results,Tryz.results145,go_sem,z0,z1]) rfl ⟨?_,?_⟩
  ·unfold RExp;rw[← hF.out,if_pos hle];have ha:∀ e,32 ≠ e→Zb0 w2 (some (w.heap.size+1+1+1)) e:=fun e he=>HyR.out.apart he
   have ha2:∀ e,32 ≠ e→Zb0 (w2.setCell ⟨w.heap.size+1+1+1,0,none⟩ (.slice an F.length cn)) (some (w.heap.size+1+1+1)) e:=fun e he=>b1.apart he
   refine⟨_,_,_,_,_,_,rfl,⟨_,_,rfl,?_,?_⟩,?_⟩
   ·exact((Hhd1.out.grown g1 (ha _ (by decide)) (ha _ (by decide))).grown g2 (ha2 _ (by decide)) (ha2 _ (by decide))).mono hz0 (by simp)
   ·exact Own.mono (Own.grown (Own.grown Hhd2.out g1 (ha _ (by decide))) g2 (ha2 _ (by decide))) hz0 (by simp)
   exact Own.mono (Own.grown (Own.grown Hhp.out g1 (ha _ (by decide))) g2 (ha2 _ (by decide))) hz0 (by simp)
  exact(hbw2.out.setCell (by simp;omega) _).setCell (by simp;omega) _
 rw[if_neg hle] at hr;subst hr;go_wp2;have b1:=HyR.out.set 0 (.slice none 0 0);have b2:=b1.set 1 (.slice none 0 0);have z0:=b2.cell 0;have z1:=b2.cell 1;simp only[List.getElem?_toArray,List.getElem?_cons_zero,List.getElem?_cons_succ,List.setIfInBounds_toArray,List.set_cons_zero,List.set_cons_succ] at z0 z1;refine bodyPost_ret (v:=.tuple #[.agg #[.slice none 0 0,.slice none 0 0],.slice none 0 0,.bool false]) (by simp[results,Tryz.results145,go_sem,z0,z1]) rfl ⟨?_,?_⟩
 ·unfold RExp;rw[if_neg hle]
 exact(hbw2.out.setCell (by simp;omega) _).setCell (by simp;omega) _
theorem Zee (φ:Fn) (f:Bool→Bool→Bool) (K:Nat) (hK:K=40) (a b:DfaD) (D:DfaD) (fb:Bool) (hD:((ZbX K f a b).map minD).getD zeD=D) (hfb:((ZbX K f a b).map minD).isSome=fb) (v1 v2:Value) (w:World) (hda:Zai a.next a.ends=true) (hdb:Zai b.next b.ends=true) (hp2:∀ (x:Int × Int) (bf ba bb:Nat) (w:World),Bx w bf #[.func φ #[] #[]] 127 → DfaAt w ba a→DfaAt w bb b→Zcx a b x=true→Calls Tryz.prog 158 #[.agg #[.int .i64 x.1,.int .i64 x.2],.pointer (some ⟨bf,0,none⟩),.pointer (some ⟨ba,0,none⟩),.pointer (some ⟨bb,0,none⟩)] w fun e w'=>e = .returned (.bool (ZeK f a b x))∧Below w.heap.size w w') (h1:DfaR 0 w v1 a) (h2:DfaR 0 w v2 b) :
  Calls Tryz.prog 108 #[v1,v2,.func φ #[] #[]] w fun e w'=>RTt D fb w.heap.size e w'∧Below w.heap.size w w':=by
 have H1:=h1;have H2:=h2;obtain⟨u1,u2,rfl,g1,g2⟩:=h1;obtain⟨u3,u4,rfl,g3,g4⟩:=h2;have hS0:=(((St.start w).alloc _ rfl #[u1,u2] 32).alloc (w.heap.size+1) (by simp) #[u3,u4] 32).alloc (w.heap.size+1+1) (by simp) #[.slice none 0 0,.slice none 0 0] 32;have hpr:=fun (W:World) (hb:Below w.heap.size w W)=>Zh7 φ f a b K (.agg #[u1,u2]) (.agg #[u3,u4]) W hda hdb (by omega) (by omega) hp2 (H1.below hb) (H2.below hb)
 have hK4:((K:Nat):Int)=40:=by omega
 rw[hK4] at hpr;have Hpr:=qh hpr;replace hS0:=qh hS0;have HhD:=qh hD;clear hD;have Hhfb:=qh hfb;clear hfb;replace hK:=qh hK;clear hpr H1 H2 g1 g2 g3 g4 hda hdb hK4
 go_enter Tryz.func108, Tryz.ntmps108
 have e0:=hS0.out.cell (v:=u1) 0 0 rfl rfl;have e1:=hS0.out.cell (v:=u2) 0 1 rfl rfl;have e2:=hS0.out.cell (v:=u3) 1 0 rfl rfl;have e3:=hS0.out.cell (v:=u4) 1 1 rfl rfl;go_wp2_with fail;refine(Hpr.out _ hS0.out.bel).mono ?_;rintro e w3 ⟨hr,hb3⟩;unfold RExp at hr;by_cases hle:(metP a b K).length≤K
 ·rw[if_pos hle] at hr;obtain⟨an,cn,ae,ce,am,cm,rfl,hown,-⟩:=hr;have htd:ZbX K f a b=some (Zar (ZcB a b) (ZeK f a b) (metP a b K)):=if_pos hle;obtain⟨X,hX⟩:=eI (Zar (ZcB a b) (ZeK f a b) (metP a b K));have hl1:X.next.length=(metP a b K).length:=by rw[hX];exact ZaK _ _ _
  have hl2:X.ends.length=(metP a b K).length:=by rw[hX];simp[Zar]
  rw[← hX] at hown htd;have hD:=HhD.out;have hfb:=Hhfb.out;rw[htd] at hD hfb;have hD:minD X=D:=hD;have hfb:true=fb:=hfb;subst hD;subst hfb;obtain⟨L,hL⟩:=eI ((metP a b K).length);rw[← hL] at hown hl1 hl2 hle;rw[← hL];have hL40:(L:Int)≤40:=by have:=hK.out;omega
  have hXo:Zai X.next X.ends=true:=ZbO hK.out htd;have hS4:=(hS0.out.call hb3).alloc _ rfl #[.slice an L cn,.slice ae L ce] 32;have hDR:DfaR 0 (w3.alloc (.cells #[.slice an L cn,.slice ae L ce] 32)) (.agg #[.slice an L cn,.slice ae L ce]) X:=(hown.r.mono (Nat.zero_le _)).below ((Below.refl _ _).alloc (Nat.le_refl _) _);have d0:=hS4.cell (v:=.slice an L cn) 3 0 rfl rfl;have d1:=hS4.cell (v:=.slice ae L ce) 3 1 rfl rfl;have HS4:=qh hS4;have HDR:=qh hDR;have Hhl1:=qh hl1;clear hl1;have Hhl2:=qh hl2;clear hl2;have Hhtd:=qh htd;clear htd;have HhXo:=qh hXo;clear hXo;have HhX:=qh hX;clear hX;have HhL:=qh hL;clear hL;clear hown hb3 hle hS4 hDR e0 e1 e2 e3;go_wp2_with fail;refine(Zbo X _ _ HhXo.out HDR.out).mono ?_;rintro e w5 ⟨a1,c1,a2,c2,rfl,hown,hb5⟩;obtain⟨M,hM⟩:=eI (minD X);rw[← hM] at hown;rw[← hM];have hS5:=HS4.out.call hb5;have f0:=hS5.fr 2 0 rfl;have f1:=hS5.fr 2 1 rfl;have k0:=hS5.cell (v:=.slice none 0 0) 2 0 rfl rfl;have k1:=hS5.cell (v:=.slice none 0 0) 2 1 rfl rfl;have hDM:=DMem.of hown HS4.out.size;have hb0:=hS5.box 2 rfl;have HS5:=qh hS5;have HDM:=qh hDM;have Hhb0:=qh hb0;clear hb0;have HhM:=qh hM;clear hM;clear hS5 hown hb5 hDM d0 d1;go_wp2;have hq:=(HS5.out.set 2 rfl 0 (.slice a1 M.next.length c1)).set 2 rfl 1 (.slice a2 M.ends.length c2);have q0:=hq.cell (v:=.slice a1 M.next.length c1) 2 0 rfl rfl;have q1:=hq.cell (v:=.slice a2 M.ends.length c2) 2 1 rfl rfl
  have hm:=(HDM.out.set Hhb0.out 0 (.slice a1 M.next.length c1)).set (Hhb0.out.set 0 _) 1 (.slice a2 M.ends.length c2);refine bodyPost_ret (v:=.tuple #[.agg #[.slice a1 M.next.length c1,.slice a2 M.ends.length c2],.bool true]) (by simp[results,Tryz.results108,go_sem,q0,q1]) rfl ⟨?_,hq.bel⟩;rw[← HhM.out];exact⟨a1,c1,a2,c2,rfl,_,_,rfl,hm.1,hm.2⟩
 rw[if_neg hle] at hr;subst hr;have htd:ZbX K f a b=none:=if_neg hle;have hD:=HhD.out;have hfb:=Hhfb.out;rw[htd] at hD hfb;have hD:zeD=D:=hD;have hfb:false=fb:=hfb;subst hD;subst hfb;have hS4:=(hS0.out.call hb3).alloc _ rfl #[.slice none 0 0,.slice none 0 0] 32;have f0:=hS4.fr 2 0 rfl;have f1:=hS4.fr 2 1 rfl;have k0:=hS4.cell (v:=.slice none 0 0) 2 0 rfl rfl;have k1:=hS4.cell (v:=.slice none 0 0) 2 1 rfl rfl;have HS4:=qh hS4;clear hb3 hle hS4 e0 e1 e2 e3;go_wp2;have hq:=(HS4.out.set 2 rfl 0 (.slice none 0 0)).set 2 rfl 1 (.slice none 0 0);have q0:=hq.cell (v:=.slice none 0 0) 2 0 rfl rfl;have q1:=hq.cell (v:=.slice none 0 0) 2 1 rfl rfl;refine bodyPost_ret (v:=.tuple #[.agg #[.slice none 0 0,.slice none 0 0],.bool false]) (by simp[results,Tryz.results108,go_sem,q0,q1]) rfl ⟨?_,hq.bel⟩;exact⟨none,0,none,0,rfl,Zg6 _ _ _ _ _⟩
theorem ZhE (K:Nat) (hK:K=40) (a b:DfaD) (D:DfaD) (fb:Bool) (hD:((ZbX K (fun p q=>p||q) a b).map minD).getD zeD=D) (hfb:((ZbX K (fun p q=>p||q) a b).map minD).isSome=fb) (v1 v2:Value) (w:World) (hda:Zai a.next a.ends=true) (hdb:Zai b.next b.ends=true) (h1:DfaR 0 w v1 a) (h2:DfaR 0 w v2 b) :
  Calls Tryz.prog 108 #[v1,v2,.func (.func 109) #[] #[]] w fun e w'=>RTt D fb w.heap.size e w'∧Below w.heap.size w w' :=
 Zee _ (fun p q=>p||q) K hK a b D fb hD hfb v1 v2 w hda hdb (fun x bf ba bb w' hf g1 g2 hx=>Zhp a b x bf ba bb w' hda hdb hf g1 g2 hx) h1 h2
theorem ZhF (K:Nat) (hK:K=40) (a b:DfaD) (D:DfaD) (fb:Bool) (hD:((ZbX K (fun p q=>p&&q) a b).map minD).getD zeD=D) (hfb:((ZbX K (fun p q=>p&&q) a b).map minD).isSome=fb) (v1 v2:Value) (w:World) (hda:Zai a.next a.ends=true) (hdb:Zai b.next b.ends=true) (h1:DfaR 0 w v1 a) (h2:DfaR 0 w v2 b) :
  Calls Tryz.prog 108 #[v1,v2,.func (.func 110) #[] #[]] w fun e w'=>RTt D fb w.heap.size e w'∧Below w.heap.size w w' :=
 Zee _ (fun p q=>p&&q) K hK a b D fb hD hfb v1 v2 w hda hdb (fun x bf ba bb w' hf g1 g2 hx=>Zhq a b x bf ba bb w' hda hdb hf g1 g2 hx) h1 h2
end Go.Proofs.YtehmjmjedopkkaaGreat
namespace Go.Proofs.YtehmjmjedopkkaaGreat
open Go.RowKit
theorem Zgh (xs:List (Int × Int × Int)) (v:Value) (w:World) (hl:xs.length≤1000000) (h:Moves 0 w v xs) :
  Calls Tryz.prog 105 #[v] w fun e w'=>∃ a c,e = .returned (.slice a xs.length c)∧St w w' [Ent.row 122 3 (.slice a xs.length c) xs.length (xs.flatMap Zao)]:=by
 have hx:=h;obtain⟨a,cap,rfl,hc1,hc2,hr⟩:=h.form;obtain⟨j0,hj,hy0,hy1,hy2⟩:=info_parts Tryz.infoMv;cases a with
 | none =>
  have h0:xs=[]:=by
   rcases Nat.eq_zero_or_pos xs.length with h0|h0
   ·exact List.eq_nil_of_length_eq_zero h0
   obtain⟨b,off,hb,-⟩:=hr h0;cases hb
  subst h0;have qT:=fun (w':World)=>Lib.run_eql_slice_nil (P:=Tryz.prog) w' 89 122 none 0 cap 0 0 Tryz.underlying89
  simp only[Option.isNone] at qT
  go_enter Tryz.func105, Tryz.ntmps105
  go_wp2;go_ret;exact⟨none,0,rfl,(St.start w).nilRow 122 3⟩
 | some ad =>
  have hS0:=((St.start w).alloc _ rfl #[] 122).boxrow 0 0 3 [] rfl rfl (Nat.zero_le _);have hRw:=hS0.row 0 rfl;have hX:=hx.below hS0.bel;replace hS0:=qh hS0;replace hRw:=qh hRw;have HhX:=qh hX;clear hX;have Hhx:=qh hx;clear hx;clear hr;have qT:=fun (w':World)=>Lib.run_eql_slice_nil (P:=Tryz.prog) w' 89 122 (some ad) xs.length cap 0 0 Tryz.underlying89
  simp only[Option.isNone] at qT
  go_enter Tryz.func105, Tryz.ntmps105
  go_wp2_with (at_builtin;refine Zal _ rfl _ _ _ rfl _ 122 j0 (.agg #[.int .i64 0,.int .i64 0,.int .i64 0]) 3 24 Tryz.underlying89 hj hy0 hy1 hy2 rfl (by omega) _ 0 _ rfl hRw.out _ xs.length (xs.flatMap Zao) rfl HhX.out Zpc (by unfold maxLen;omega) (by omega) hS0.out.size ?_;intro a6 c6 w6 hown6 hgrow6 hat6;have HS6:=qh (hS0.out.appS 0 rfl hown6 hgrow6 hat6);clear hown6 hgrow6 hat6);go_ret;have hq:St w w6 [Ent.row 122 3 (.slice a6 (0+xs.length) c6) (0+xs.length) (xs.flatMap Zao)]:=HS6.out;rw[Nat.zero_add] at hq;exact⟨a6,c6,rfl,hq⟩
theorem ZiV (n:NfaD) (m:Nat) (v1 v2 v3:Value) (w:World) (hm:n.states=(m:Int)) (hm40:m≤1000) (hml:n.moves.length≤1000) (hfl:n.firsts.length≤1000) (hel:n.ends.length≤1000) (h1:Moves 0 w v1 n.moves) (h2:Ints 0 w v2 n.firsts) (h3:Ints 0 w v3 n.ends) :
  Calls Tryz.prog 67 #[.agg #[.int .i64 n.states,v1,v2,v3]] w fun e w'=>RNfaS (Zct n) w e w':=by
 have hcl:=fun (u:World) (hu:Below w.heap.size w u)=>Zgh n.moves v1 u (by omega) (h1.below hu)
 obtain⟨av,cv,rfl,hc1,hm1,hr1⟩:=h1.form;obtain⟨af,cf,rfl,hc2,hm2,hr2⟩:=h2.form;obtain⟨ae,ce,rfl,hc3,hm3,hr3⟩:=h3.form;obtain⟨i0,hi,hz0,hz1,hz2⟩:=info_parts Tryz.infoMv;obtain⟨L1,hL1⟩:∃ L,L=n.moves.length:=⟨_,rfl⟩;obtain⟨L2,hL2⟩:∃ L,L=n.firsts.length:=⟨_,rfl⟩;obtain⟨L3,hL3⟩:∃ L,L=n.ends.length:=⟨_,rfl⟩;have hS0:=((St.start w).alloc _ rfl #[.int .i64 n.states,.slice av n.moves.length cv,.slice af n.firsts.length cf,.slice ae n.ends.length ce] 91).alloc (w.heap.size+1) (by simp) #[.int .i64 0,.slice none 0 0,.slice none 0 0,.slice none 0 0] 91;rw[hm,← hL1,← hL2,← hL3] at hS0;rw[hm,← hL1,← hL2,← hL3];rw[← hL1] at hml hc1 hcl;rw[← hL2] at hfl hc2 hr2;rw[← hL3] at hel hc3 hr3;have hS1:=hS0.call (Below.refl _ _);have HS0:Hid (St w _ [Ent.box w.heap.size #[.int .i64 (m:Int),.slice av L1 cv,.slice af L2 cf,.slice ae L3 ce] 91,Ent.box (w.heap.size+1) #[.int .i64 0,.slice none 0 0,.slice none 0 0,.slice none 0 0] 91,Ent.nil,Ent.nil,Ent.nil,Ent.nil]):=qh (hS1.pick [0,1,2,3,4,5] (by decide));have Hcl:=qh hcl;have Hr2:=qh hr2;have Hr3:=qh hr3;replace hL1:=qh hL1;have HhL2:=qh hL2;clear hL2;have HhL3:=qh hL3;clear hL3;have Hhm:=qh hm;clear hm;have Hhi:=qh hi;clear hi;have Hhz0:=qh hz0;clear hz0;have Hhz1:=qh hz1;clear hz1;have Hhz2:=qh hz2;clear hz2;clear h1 h2 h3 hr1 hr2 hr3 hcl hS0 hS1
 go_enter Tryz.func67, Tryz.ntmps67
 go_wp2_with fail;refine wp_region_any (by kernel_rfl) ?_
 refine Zam (fun A listed a w'=>∃ (l0 l1 l2 l3 l4 l5 l6 l7 l8 l9 l10 l11 l12 l13 l14:Bool) (am:Option Addr) (cm:Nat) (b5:Nat) (b6:Nat) (bo:Nat),listed=#[l0,l1,l2,l3,l4,l5,l6,l7,l8,l9,l10,l11,l12,l13,l14]∧(l12=true→l2=true∧l5=true∧l8=true∧l11=true)∧(l14=true→l13=true∧l12=true) ∧
   a=⟨((((((((((((((A.tmps.setIfInBounds 8 (if l0=true then .pointer (some ⟨w.heap.size,0,none⟩) else A.tmps.getD 8 undef)).setIfInBounds 9 (if l1=true then .int .i64 (m:Int) else A.tmps.getD 9 undef)).setIfInBounds 10 (if l2=true then .int .i64 ((m:Int)+1) else A.tmps.getD 10 undef)).setIfInBounds 11 (if l3=true then .pointer (some ⟨w.heap.size,1,none⟩) else A.tmps.getD 11 undef)).setIfInBounds 12 (if l4=true then .slice av L1 cv else A.tmps.getD 12 undef)).setIfInBounds 13 (if l5=true then .slice am L1 cm else A.tmps.getD 13 undef)).setIfInBounds 14 (if l6=true then .pointer (some ⟨w.heap.size,0,none⟩) else A.tmps.getD 14 undef)).setIfInBounds 15 (if l7=true then .int .i64 (m:Int) else A.tmps.getD 15 undef)).setIfInBounds 16 (if l8=true then .slice (some ⟨b5,0,none⟩) 1 1 else A.tmps.getD 16 undef)).setIfInBounds 17 (if l9=true then .pointer (some ⟨w.heap.size,0,none⟩) else A.tmps.getD 17 undef)).setIfInBounds 18 (if l10=true then .int .i64 (m:Int) else A.tmps.getD 18 undef)).setIfInBounds 19 (if l11=true then .slice (some ⟨b6,0,none⟩) 1 1 else A.tmps.getD 19 undef)).setIfInBounds 20 (if l12=true then .agg #[.int .i64 ((m:Int)+1),.slice am L1 cm,.slice (some ⟨b5,0,none⟩) 1 1,.slice (some ⟨b6,0,none⟩) 1 1] else A.tmps.getD 20 undef)).setIfInBounds 3 (if l13=true then .pointer (some ⟨bo,0,none⟩) else A.tmps.getD 3 undef)),A.defers⟩ ∧
   St w w' [Ent.box w.heap.size #[.int .i64 (m:Int),.slice av L1 cv,.slice af L2 cf,.slice ae L3 ce] 91,Ent.box (w.heap.size+1) #[.int .i64 0,.slice none 0 0,.slice none 0 0,.slice none 0 0] 91,(if l13=true then Ent.box bo #[(if l14=true then .int .i64 ((m:Int)+1) else .int .i64 0),(if l14=true then .slice am L1 cm else .slice none 0 0),(if l14=true then .slice (some ⟨b5,0,none⟩) 1 1 else .slice none 0 0),(if l14=true then .slice (some ⟨b6,0,none⟩) 1 1 else .slice none 0 0)] 91 else Ent.nil),(if l5=true then Ent.row 122 3 (.slice am L1 cm) L1 (n.moves.flatMap Zao) else Ent.nil),(if l8=true then Ent.row 3 1 (.slice (some ⟨b5,0,none⟩) 1 1) 1 [.int .i64 (m:Int)] else Ent.nil),(if l11=true then Ent.row 3 1 (.slice (some ⟨b6,0,none⟩) 1 1) 1 [.int .i64 (m:Int)] else Ent.nil)]) ?_ ?_ ?_
 ·rintro listed a w' ⟨l0,l1,l2,l3,l4,l5,l6,l7,l8,l9,l10,l11,l12,l13,l14,am,cm,b5,b6,bo,rfl,hd12,hd14,rfl,hS⟩ i hi;obtain⟨hun,o,ho,hall⟩:=mem_ready.1 hi;have hlt:=(Array.getElem?_eq_some_iff.1 ho).1;refine wpOp_step ho (fun K hK => ?_);clear hi;have HS:=qh hS;clear hS;simp only[List.setIfInBounds_toArray,List.set_cons_zero,List.set_cons_succ,Array.getD_eq_getD_getElem?,List.getElem?_toArray,List.getElem?_cons_zero,List.getElem?_cons_succ,Option.getD_some];obtain h|h|h|h|h|h|h|h|h|h|h|h|h|h|h:i=0∨i=1∨i=2∨i=3∨i=4∨i=5∨i=6∨i=7∨i=8∨i=9∨i=10∨i=11∨i=12∨i=13∨i=14:=by simp at hlt;omega
  all_goals subst h
  all_goals simp only[List.getElem?_toArray,List.getElem?_cons_zero,List.getElem?_cons_succ,Option.some.injEq] at ho
  all_goals subst ho
  all_goals simp[Region.binds] at hun hall
  ·subst hun;go_simp;exact hK _ _ ⟨true,l1,l2,l3,l4,l5,l6,l7,l8,l9,l10,l11,l12,l13,l14,am,cm,b5,b6,bo,rfl,hd12,hd14,(by simp),HS.out⟩
  ·obtain rfl:=hall;subst hun;have e0:=HS.out.cell (v:=.int .i64 (m:Int)) 0 0 rfl rfl;go_simp;exact hK _ _ ⟨true,true,l2,l3,l4,l5,l6,l7,l8,l9,l10,l11,l12,l13,l14,am,cm,b5,b6,bo,rfl,hd12,hd14,(by simp),HS.out⟩
  ·obtain rfl:=hall;subst hun;obtain rfl:l12=false:=by cases l12 with|false=>rfl|true=>simpa using hd12 rfl
   obtain rfl:l14=false:=offR hd14 rfl;have hw:IntKind.i64.wrap ((m:Int)+1)=(m:Int)+1:=IntWalk.i64_in _ (by omega);go_simp;exact hK _ _ ⟨l0,true,true,l3,l4,l5,l6,l7,l8,l9,l10,l11,false,l13,false,am,cm,b5,b6,bo,rfl,by simp,by simp,(by simp),HS.out⟩
  ·subst hun;go_simp;exact hK _ _ ⟨l0,l1,l2,true,l4,l5,l6,l7,l8,l9,l10,l11,l12,l13,l14,am,cm,b5,b6,bo,rfl,hd12,hd14,(by simp),HS.out⟩
  ·obtain rfl:=hall;subst hun;have e1:=HS.out.cell (v:=.slice av L1 cv) 0 1 rfl rfl;go_simp;exact hK _ _ ⟨l0,l1,l2,true,true,l5,l6,l7,l8,l9,l10,l11,l12,l13,l14,am,cm,b5,b6,bo,rfl,hd12,hd14,(by simp),HS.out⟩
  ·obtain rfl:=hall;subst hun;obtain rfl:l12=false:=by cases l12 with|false=>rfl|true=>simpa using hd12 rfl
   obtain rfl:l14=false:=offR hd14 rfl;go_simp
   go_at_call 105
   refine(Hcl.out _ HS.out.bel).mono ?_;rintro e u1 ⟨x1,d1,rfl,hb⟩;have hS2:=(HS.out.cat hb).pick [0,1,2,6,4,5] (by decide);have HhS2:=qh hS2;clear hS2;go_simp;exact hK _ _ ⟨l0,l1,l2,l3,true,true,l6,l7,l8,l9,l10,l11,false,l13,false,x1,d1,b5,b6,bo,rfl,by simp,by simp,(by simp),HhS2.out⟩
  ·subst hun;go_simp;exact hK _ _ ⟨l0,l1,l2,l3,l4,l5,true,l7,l8,l9,l10,l11,l12,l13,l14,am,cm,b5,b6,bo,rfl,hd12,hd14,(by simp),HS.out⟩
  ·obtain rfl:=hall;subst hun;have e0:=HS.out.cell (v:=.int .i64 (m:Int)) 0 0 rfl rfl;go_simp;exact hK _ _ ⟨l0,l1,l2,l3,l4,l5,true,true,l8,l9,l10,l11,l12,l13,l14,am,cm,b5,b6,bo,rfl,hd12,hd14,(by simp),HS.out⟩
  ·obtain rfl:=hall;subst hun;obtain rfl:l12=false:=by cases l12 with|false=>rfl|true=>simpa using hd12 rfl
   obtain rfl:l14=false:=offR hd14 rfl;have hS2:=((HS.out.alloc _ rfl #[.int .i64 (m:Int)] 3).boxrow 6 1 1 [.int .i64 (m:Int)] rfl rfl (by decide)).pick [0,1,2,3,6,5] (by decide);have HhS2:=qh hS2;clear hS2;go_simp;exact hK _ _ ⟨l0,l1,l2,l3,l4,l5,l6,true,true,l9,l10,l11,false,l13,false,am,cm,w'.heap.size,b6,bo,rfl,by simp,by simp,(by simp),HhS2.out⟩
  ·subst hun;go_simp;exact hK _ _ ⟨l0,l1,l2,l3,l4,l5,l6,l7,l8,true,l10,l11,l12,l13,l14,am,cm,b5,b6,bo,rfl,hd12,hd14,(by simp),HS.out⟩
  ·obtain rfl:=hall;subst hun;have e0:=HS.out.cell (v:=.int .i64 (m:Int)) 0 0 rfl rfl;go_simp;exact hK _ _ ⟨l0,l1,l2,l3,l4,l5,l6,l7,l8,true,true,l11,l12,l13,l14,am,cm,b5,b6,bo,rfl,hd12,hd14,(by simp),HS.out⟩
  ·obtain rfl:=hall;subst hun;obtain rfl:l12=false:=by cases l12 with|false=>rfl|true=>simpa using hd12 rfl
   obtain rfl:l14=false:=offR hd14 rfl;have hS2:=((HS.out.alloc _ rfl #[.int .i64 (m:Int)] 3).boxrow 6 1 1 [.int .i64 (m:Int)] rfl rfl (by decide)).pick [0,1,2,3,4,6] (by decide);have HhS2:=qh hS2;clear hS2;go_simp;exact hK _ _ ⟨l0,l1,l2,l3,l4,l5,l6,l7,l8,l9,true,true,false,l13,false,am,cm,b5,w'.heap.size,bo,rfl,by simp,by simp,(by simp),HhS2.out⟩
  ·obtain⟨rfl,rfl,rfl,rfl⟩:=hall;subst hun;obtain rfl:l14=false:=offR hd14 rfl;go_simp;exact hK _ _ ⟨l0,l1,true,l3,l4,true,l6,l7,true,l9,l10,true,true,l13,false,am,cm,b5,b6,bo,rfl,by simp,by simp,(by simp),HS.out⟩
  ·subst hun;obtain rfl:l14=false:=offL hd14 rfl;have hS2:=(HS.out.alloc _ rfl #[.int .i64 0,.slice none 0 0,.slice none 0 0,.slice none 0 0] 91).pick [0,1,6,3,4,5] (by decide);have HhS2:=qh hS2;clear hS2;go_simp;exact hK _ _ ⟨l0,l1,l2,l3,l4,l5,l6,l7,l8,l9,l10,l11,l12,true,false,am,cm,b5,b6,w'.heap.size,rfl,hd12,by simp,(by simp),HhS2.out⟩
  obtain⟨rfl,rfl,rfl,rfl,rfl,rfl,rfl,rfl,-,rfl,rfl,rfl,rfl,rfl,rfl,-,-⟩:=hall;subst hun;have f0:=HS.out.fr 2 0 rfl;have k0:=HS.out.cell (v:=.int .i64 0) 2 0 rfl rfl;have f1:=HS.out.fr 2 1 rfl;have k1:=HS.out.cell (v:=.slice none 0 0) 2 1 rfl rfl;have f2:=HS.out.fr 2 2 rfl;have k2:=HS.out.cell (v:=.slice none 0 0) 2 2 rfl rfl;have f3:=HS.out.fr 2 3 rfl;have k3:=HS.out.cell (v:=.slice none 0 0) 2 3 rfl rfl;go_simp;exact hK _ _ ⟨true,true,true,true,true,true,true,true,true,true,true,true,true,true,true,am,cm,b5,b6,bo,rfl,by simp,by simp,(by simp only[↓reduceIte,List.setIfInBounds_toArray,List.set_cons_zero,List.set_cons_succ]),((((HS.out.set 2 rfl 0 (.int .i64 ((m:Int)+1))).set 2 rfl 1 (.slice am L1 cm)).set 2 rfl 2 (.slice (some ⟨b5,0,none⟩) 1 1)).set 2 rfl 3 (.slice (some ⟨b6,0,none⟩) 1 1))⟩
 ·rintro listed a w' ⟨l0,l1,l2,l3,l4,l5,l6,l7,l8,l9,l10,l11,l12,l13,l14,am,cm,b5,b6,bo,rfl,hd12,hd14,rfl,hS⟩ hr;have hall:=Zan (by kernel_rfl) rfl hr;obtain rfl:l0=true:=by simpa using hall 0 (by simp)
  obtain rfl:l1=true:=by simpa using hall 1 (by simp)
  obtain rfl:l2=true:=by simpa using hall 2 (by simp)
  obtain rfl:l3=true:=by simpa using hall 3 (by simp)
  obtain rfl:l4=true:=by simpa using hall 4 (by simp)
  obtain rfl:l5=true:=by simpa using hall 5 (by simp)
  obtain rfl:l6=true:=by simpa using hall 6 (by simp)
  obtain rfl:l7=true:=by simpa using hall 7 (by simp)
  obtain rfl:l8=true:=by simpa using hall 8 (by simp)
  obtain rfl:l9=true:=by simpa using hall 9 (by simp)
  obtain rfl:l10=true:=by simpa using hall 10 (by simp)
  obtain rfl:l11=true:=by simpa using hall 11 (by simp)
  obtain rfl:l12=true:=by simpa using hall 12 (by simp)
  obtain rfl:l13=true:=by simpa using hall 13 (by simp)
  obtain rfl:l14=true:=by simpa using hall 14 (by simp)
  clear hall hr hd12 hd14;simp only[↓reduceIte] at hS ⊢;simp only[List.setIfInBounds_toArray,List.set_cons_zero,List.set_cons_succ];have HS1:=qh (hS.pick [0,1,2,3,4,5] (by decide));clear hS;have e9:=HS1.out.cell (v:=.slice af L2 cf) 0 2 rfl rfl;go_wp2
  go_loopw [24] (fun i wr=>∃ (k:Nat) (a1:Option Addr) (c1:Nat),i = .int .i64 k∧k≤L2∧St w wr [Ent.box w.heap.size #[.int .i64 (m:Int),.slice av L1 cv,.slice af L2 cf,.slice ae L3 ce] 91,Ent.box (w.heap.size+1) #[.int .i64 0,.slice none 0 0,.slice none 0 0,.slice none 0 0] 91,Ent.box bo #[.int .i64 ((m:Int)+1),.slice a1 (L1+k) c1,.slice (some ⟨b5,0,none⟩) 1 1,.slice (some ⟨b6,0,none⟩) 1 1] 91,Ent.row 122 3 (.slice a1 (L1+k) c1) (L1+k) ((n.moves++(n.firsts.take k).map fun t=>((m:Int),(-1:Int),t)).flatMap Zao),Ent.row 3 1 (.slice (some ⟨b5,0,none⟩) 1 1) 1 [.int .i64 (m:Int)],Ent.row 3 1 (.slice (some ⟨b6,0,none⟩) 1 1) 1 [.int .i64 (m:Int)]]) (fun i _=>L2-(intOf i).toNat)
  case atStart =>refine⟨0,am,cm,rfl,Nat.zero_le _,?_⟩;have h:=HS1.out;rw[List.take_zero,List.map_nil,List.append_nil];exact h
  case round =>
   obtain⟨k,a1,c1,rfl,hk,hS⟩:=hrel;by_cases hlt:k<L2
   ·have hlt2:(k:Int)<L2:=by omega
    have hkn:k<n.firsts.length:=by have:=HhL2.out;omega
    obtain⟨b1,o1,rfl,-,hb1,hcs⟩:=Hr2.out (by omega);have m0:=hcs k hlt;have hsn:=Zbu (fun t=>((m:Int),(-1:Int),t)) (d:=0) hkn rfl;obtain⟨p0,hp⟩:∃ p,p=n.firsts.getD k 0:=⟨_,rfl⟩;rw[← hp] at m0 hsn;have m1:=(bcell hS.bel b1 _ hb1).trans m0;have e0:=hS.cell (v:=.int .i64 (m:Int)) 0 0 rfl rfl;have y0:=hS.cell (v:=.slice a1 (L1+k) c1) 2 1 rfl rfl;have hSa:=hS.alloc_ (.cells #[.int .i64 (m:Int),.int .i64 (-1),.int .i64 p0] 122);have HSa:=qh hSa;have HRa:=qh (hSa.row 3 rfl);have Hhp:=qh hp;clear hp;have Hhsn:=qh hsn;clear hsn;clear hS hSa hcs m0;go_wp2_with (at_builtin;refine wpList_append_lies _ rfl _ _ _ rfl _ 122 i0 (.agg #[.int .i64 0,.int .i64 0,.int .i64 0]) 3 24 Tryz.underlying89 Hhi.out Hhz0.out Hhz1.out Hhz2.out rfl (by omega) _ (L1+k) _ rfl HRa.out ⟨wr.heap.size,0,none⟩ 1 1 [.int .i64 (m:Int),.int .i64 (-1),.int .i64 p0] rfl rfl (World.news_of_block (heap_alloc_new wr _)) Zic (by omega) (by unfold maxLen;omega) (by omega) HSa.out.size _ rfl ?_;intro g6 c6 w6 hown6 hgrow6 hat6 hlt6;have HS6:=qh (HSa.out.app 3 rfl hown6 hgrow6 hat6);have y1:=HS6.out.cell (v:=.slice a1 (L1+k) c1) 2 1 rfl rfl;have y2:=HS6.out.fr 2 1 rfl;clear hown6 hgrow6 hat6 hlt6);go_roundw
    case rel =>refine⟨k+1,some ⟨g6,0,none⟩,c6,by go_num,by omega,?_⟩;rw[Hhsn.out,← List.append_assoc,List.flatMap_append (xs:=_++_)];exact HS6.out.set 2 rfl 1 (.slice (some ⟨g6,0,none⟩) (L1+k+1) c6)
    case measure=>simp[intOf];omega
   obtain rfl:L2=k:=by omega
   rw[show(n.firsts.take L2)=n.firsts from List.take_of_length_le (by have:=HhL2.out;omega)] at hS;have HSe:=qh hS;clear hS;have e9:=HSe.out.cell (v:=.slice ae L3 ce) 0 3 rfl rfl;have HSe1:=HSe;clear HSe;go_wp2
   go_loopw [41] (fun i wr=>∃ (k:Nat) (a1:Option Addr) (c1:Nat),i = .int .i64 k∧k≤L3∧St w wr [Ent.box w.heap.size #[.int .i64 (m:Int),.slice av L1 cv,.slice af L2 cf,.slice ae L3 ce] 91,Ent.box (w.heap.size+1) #[.int .i64 0,.slice none 0 0,.slice none 0 0,.slice none 0 0] 91,Ent.box bo #[.int .i64 ((m:Int)+1),.slice a1 (L1+L2+k) c1,.slice (some ⟨b5,0,none⟩) 1 1,.slice (some ⟨b6,0,none⟩) 1 1] 91,Ent.row 122 3 (.slice a1 (L1+L2+k) c1) (L1+L2+k) ((n.moves++(n.firsts.map fun t=>((m:Int),(-1:Int),t))++(n.ends.take k).map fun s=>(s,(-1:Int),(m:Int))).flatMap Zao),Ent.row 3 1 (.slice (some ⟨b5,0,none⟩) 1 1) 1 [.int .i64 (m:Int)],Ent.row 3 1 (.slice (some ⟨b6,0,none⟩) 1 1) 1 [.int .i64 (m:Int)]]) (fun i _=>L3-(intOf i).toNat)
   case atStart =>refine⟨0,a1,c1,rfl,Nat.zero_le _,?_⟩;have h:=HSe1.out;rw[List.take_zero,List.map_nil,List.append_nil];exact h
   case round =>
    obtain⟨k,a1,c1,rfl,hk,hS⟩:=hrel;by_cases hlt:k<L3
    ·have hlt2:(k:Int)<L3:=by omega
     have hkn:k<n.ends.length:=by have:=HhL3.out;omega
     obtain⟨b1,o1,rfl,-,hb1,hcs⟩:=Hr3.out (by omega);have m0:=hcs k hlt;have hsn:=Zbu (fun s=>(s,(-1:Int),(m:Int))) (d:=0) hkn rfl;obtain⟨p0,hp⟩:∃ p,p=n.ends.getD k 0:=⟨_,rfl⟩;rw[← hp] at m0 hsn;have m1:=(bcell hS.bel b1 _ hb1).trans m0;have e0:=hS.cell (v:=.int .i64 (m:Int)) 0 0 rfl rfl;have y0:=hS.cell (v:=.slice a1 (L1+L2+k) c1) 2 1 rfl rfl;have hSa:=hS.alloc_ (.cells #[.int .i64 p0,.int .i64 (-1),.int .i64 (m:Int)] 122);have HSa:=qh hSa;have HRa:=qh (hSa.row 3 rfl);have Hhp:=qh hp;clear hp;have Hhsn:=qh hsn;clear hsn;clear hS hSa hcs m0;go_wp2_with (at_builtin;refine wpList_append_lies _ rfl _ _ _ rfl _ 122 i0 (.agg #[.int .i64 0,.int .i64 0,.int .i64 0]) 3 24 Tryz.underlying89 Hhi.out Hhz0.out Hhz1.out Hhz2.out rfl (by omega) _ (L1+L2+k) _ rfl HRa.out ⟨wr.heap.size,0,none⟩ 1 1 [.int .i64 p0,.int .i64 (-1),.int .i64 (m:Int)] rfl rfl (World.news_of_block (heap_alloc_new wr _)) Zic (by omega) (by unfold maxLen;omega) (by omega) HSa.out.size _ rfl ?_;intro g6 c6 w6 hown6 hgrow6 hat6 hlt6;have HS6:=qh (HSa.out.app 3 rfl hown6 hgrow6 hat6);have y1:=HS6.out.cell (v:=.slice a1 (L1+L2+k) c1) 2 1 rfl rfl;have y2:=HS6.out.fr 2 1 rfl;clear hown6 hgrow6 hat6 hlt6);go_roundw
     case rel =>refine⟨k+1,some ⟨g6,0,none⟩,c6,by go_num,by omega,?_⟩;rw[Hhsn.out,← List.append_assoc,List.flatMap_append (xs:=_++_)];exact HS6.out.set 2 rfl 1 (.slice (some ⟨g6,0,none⟩) (L1+L2+k+1) c6)
     case measure=>simp[intOf];omega
    obtain rfl:L3=k:=by omega
    rw[show(n.ends.take L3)=n.ends from List.take_of_length_le (by have:=HhL3.out;omega)] at hS;have HSe:=qh hS;clear hS;have e0:=HSe.out.cell (v:=.int .i64 ((m:Int)+1)) 2 0 rfl rfl;have e1:=HSe.out.cell (v:=.slice a1 (L1+L2+L3) c1) 2 1 rfl rfl;have e2:=HSe.out.cell (v:=.slice (some ⟨b5,0,none⟩) 1 1) 2 2 rfl rfl;have e3:=HSe.out.cell (v:=.slice (some ⟨b6,0,none⟩) 1 1) 2 3 rfl rfl;have f0:=HSe.out.fr 1 0 rfl;have k0:=HSe.out.cell (v:=.int .i64 0) 1 0 rfl rfl;have f1:=HSe.out.fr 1 1 rfl;have k1:=HSe.out.cell (v:=.slice none 0 0) 1 1 rfl rfl;have f2:=HSe.out.fr 1 2 rfl;have k2:=HSe.out.cell (v:=.slice none 0 0) 1 2 rfl rfl;have f3:=HSe.out.fr 1 3 rfl;have k3:=HSe.out.cell (v:=.slice none 0 0) 1 3 rfl rfl;have HSr:=qh ((((HSe.out.set 1 rfl 0 (.int .i64 ((m:Int)+1))).set 1 rfl 1 (.slice a1 (L1+L2+L3) c1)).set 1 rfl 2 (.slice (some ⟨b5,0,none⟩) 1 1)).set 1 rfl 3 (.slice (some ⟨b6,0,none⟩) 1 1));have q0:=HSr.out.cell (v:=.int .i64 ((m:Int)+1)) 1 0 rfl rfl;have q1:=HSr.out.cell (v:=.slice a1 (L1+L2+L3) c1) 1 1 rfl rfl;have q2:=HSr.out.cell (v:=.slice (some ⟨b5,0,none⟩) 1 1) 1 2 rfl rfl;have q3:=HSr.out.cell (v:=.slice (some ⟨b6,0,none⟩) 1 1) 1 3 rfl rfl;go_wp2;refine bodyPost_ret (v:=.agg #[.int .i64 ((m:Int)+1),.slice a1 (L1+L2+L3) c1,.slice (some ⟨b5,0,none⟩) 1 1,.slice (some ⟨b6,0,none⟩) 1 1]) (by simp[results,Tryz.results67,go_sem,q0,q1,q2,q3]) rfl ?_;have hNm:n.moves.length+n.firsts.length+n.ends.length=L1+L2+L3:=by rw[hL1.out,HhL2.out,HhL3.out]
    have hst:Zct n=⟨(m:Int)+1,n.moves++(n.firsts.map fun t=>((m:Int),-1,t))++(n.ends.map fun s=>(s,-1,(m:Int))),[(m:Int)],[(m:Int)]⟩:=by unfold Zct;rw[Hhm.out]
    rw[hst];refine⟨a1,c1,some ⟨b5,0,none⟩,1,some ⟨b6,0,none⟩,1,?_,?_⟩
    ·simp only[List.length_append,List.length_map,hNm];rfl
    simp only[List.length_append,List.length_map,hNm];exact HSr.out.pick [3,4,5] (by decide)
 refine⟨false,false,false,false,false,false,false,false,false,false,false,false,false,false,false,none,0,0,0,0,rfl,by simp,by simp,(by simp),?_⟩;exact HS0.out.drew.pick [0,1,2,3,4,5] (by decide)
theorem Zga (w:World) (o o2:Obj):((w.alloc o).alloc o2).heap[w.heap.size+1]? = some o2:=by have:=heap_alloc_new (w.alloc o) o2;simpa only [World.size_alloc] using this
theorem Zi0 (xs:List Int) (v:Value) (d:Int) (w:World) (hl:xs.length≤1000) (hx:∀ x∈xs,-1000≤x∧x≤1000) (hd:-1000≤d∧d≤1000) (h:Ints 0 w v xs) :
  Calls Tryz.prog 144 #[v,.int .i64 d] w fun e w'=>∃ a c,e = .returned (.slice a xs.length c)∧St w w' [Ent.row 3 1 (.slice a xs.length c) xs.length (intCells (xs.map (·+d)))]:=by
 obtain⟨a0,c0,rfl,hc1,hc2,hr⟩:=h.form;obtain⟨j0,hj,hy0,hy1,hy2⟩:=info_parts Tryz.infoInt;obtain⟨L,hL⟩:=eI (xs.length);have hS0:=(St.start w).nilRow 3 1;rw[← hL] at hl hc1 hr;rw[← hL];obtain⟨hd0,hd1⟩:=hd;have Hr:=qh hr;replace hS0:=qh hS0;replace hL:=qh hL;have Hhx:=qh hx;clear hx;have Hhj:=qh hj;clear hj;have Hhy0:=qh hy0;clear hy0;have Hhy1:=qh hy1;clear hy1;have Hhy2:=qh hy2;clear hy2;clear hr h
 go_enter Tryz.func144, Tryz.ntmps144
 go_wp2
 go_loopw [5,10] (fun vo i wr=>∃ (k:Nat) (a:Option Addr) (c:Nat),i = .int .i64 k∧vo = .slice a k c∧k≤L∧St w wr [Ent.row 3 1 (.slice a k c) k (intCells ((xs.take k).map (·+d)))])
  (fun _ i _=>L-(intOf i).toNat)
 case atStart=>exact⟨0,none,0,rfl,rfl,Nat.zero_le _,hS0.out⟩
 case round =>
  obtain⟨k,a,c,rfl,rfl,hk,hS⟩:=hrel;by_cases hlt:k<L
  ·have hlt2:(k:Int)<L:=by omega
   have hkn:k<xs.length:=by have:=hL.out;omega
   obtain⟨b1,o1,rfl,-,hb1,hcs⟩:=Hr.out (by omega);have m0:=hcs k hlt;have hsn:=Zbu (·+d) (d:=0) hkn rfl;have hxx:=Hhx.out _ (memD (d:=0) hkn);obtain⟨p0,hp⟩:∃ p,p=xs.getD k 0:=⟨_,rfl⟩;rw[← hp] at m0 hsn hxx;obtain⟨hp0,hp1⟩:=hxx;have m1:=(bcell hS.bel b1 _ hb1).trans m0;have hw:IntKind.i64.wrap (p0+d)=p0+d:=IntWalk.i64_in _ (by omega);have hSa:=hS.alloc_ (.cells #[.int .i64 (p0+d)] 3);have HSa:=qh hSa;have HRa:=qh (hSa.row 0 rfl);have Hhp:=qh hp;clear hp;have Hhsn:=qh hsn;clear hsn;clear hS hSa hcs m0;go_wp2_with (at_builtin;refine wpList_append_lies _ rfl _ _ _ rfl _ 3 j0 (.int .i64 0) 1 8 Tryz.underlying59 Hhj.out Hhy0.out Hhy1.out Hhy2.out rfl (by omega) _ k _ rfl HRa.out ⟨wr.heap.size,0,none⟩ 1 1 [.int .i64 (p0+d)] rfl rfl (World.news_of_block (heap_alloc_new wr _)) ZfQ (by omega) (by unfold maxLen;omega) (by omega) HSa.out.size _ rfl ?_;intro g6 c6 w6 hown6 hgrow6 hat6 hlt6;have HS6:=qh (HSa.out.app 0 rfl hown6 hgrow6 hat6);clear hown6 hgrow6 hat6 hlt6);go_roundw
   case rel =>refine⟨k+1,some ⟨g6,0,none⟩,c6,by go_num,rfl,by omega,?_⟩;rw[Hhsn.out,Zc6];exact HS6.out
   case measure=>simp[intOf];omega
  obtain rfl:L=k:=by omega
  rw[show xs.take L=xs from List.take_of_length_le (by have:=hL.out;omega)] at hS;have HSe:=qh hS;clear hS;go_wp2;go_ret;exact⟨a,c,rfl,HSe.out⟩
theorem Ze3 (p q:NfaD) (S:Nat) (v1 v2 v3 u1 u2 u3:Value) (w:World) (hS40:p.states=(S:Int)) (hS1:S≤40) (hpl:p.moves.length≤1000) (hql:q.moves.length≤1000) (hqm:mvIn 40 q.moves) (hpm:Moves 0 w v1 p.moves) (hq:Moves 0 w u1 q.moves) :
  Calls Tryz.prog 142 #[.agg #[.int .i64 p.states,v1,v2,v3],.agg #[.int .i64 q.states,u1,u2,u3]] w fun e w'=>∃ a c,e = .returned (.slice a (p.moves.length+q.moves.length) c)∧St w w' [Ent.row 122 3 (.slice a (p.moves.length+q.moves.length) c) (p.moves.length+q.moves.length) ((p.moves++q.moves.map (shM p.states)).flatMap Zao)]:=by
 have hcl:=fun (u:World) (hu:Below w.heap.size w u)=>Zgh p.moves v1 u (by omega) (hpm.below hu)
 obtain⟨av,cv,rfl,hc1,hc2,-⟩:=hpm.form;obtain⟨au,cu,rfl,hd1,hd2,hr⟩:=hq.form;obtain⟨i0,hi,hz0,hz1,hz2⟩:=info_parts Tryz.infoMv;obtain⟨L1,hL1⟩:∃ L,L=p.moves.length:=⟨_,rfl⟩;obtain⟨L2,hL2⟩:∃ L,L=q.moves.length:=⟨_,rfl⟩;obtain⟨Q,hQ⟩:=eI (q.states);have hS0:=((St.start w).alloc _ rfl #[.int .i64 p.states,.slice av p.moves.length cv,v2,v3] 91).alloc (w.heap.size+1) (by simp) #[.int .i64 q.states,.slice au q.moves.length cu,u2,u3] 91;rw[hS40,← hL1,← hL2,← hQ] at hS0;rw[hS40,← hL1,← hL2,← hQ];rw[← hL1] at hpl hc1 hcl;rw[← hL2] at hql hd1 hr;have e1:=hS0.cell (v:=.slice av L1 cv) 0 1 rfl rfl;have Hcl:=qh hcl;have Hr:=qh hr;replace hS0:=qh hS0;replace hL1:=qh hL1;have HhL2:=qh hL2;clear hL2;have HhS40:=qh hS40;clear hS40;have Hhqm:=qh hqm;clear hqm;have HhQ:=qh hQ;clear hQ;have Hhi:=qh hi;clear hi;have Hhz0:=qh hz0;clear hz0;have Hhz1:=qh hz1;clear hz1;have Hhz2:=qh hz2;clear hz2;clear hcl hr hpm hq
 go_enter Tryz.func142, Tryz.ntmps142
 go_wp2_with fail;refine(Hcl.out _ hS0.out.bel).mono ?_;rintro e w1 ⟨am,cm,rfl,hS'⟩;have HS1:=qh (hS0.out.cat hS');clear hS' e1;have e2:=HS1.out.cell (v:=.slice au L2 cu) 1 1 rfl rfl;go_wp2
 go_loopw [5,14] (fun vo i wr=>∃ (k:Nat) (a:Option Addr) (c:Nat),i = .int .i64 k∧vo = .slice a (L1+k) c∧k≤L2∧St w wr [Ent.box w.heap.size #[.int .i64 (S:Int),.slice av L1 cv,v2,v3] 91,Ent.box (w.heap.size+1) #[.int .i64 Q,.slice au L2 cu,u2,u3] 91,Ent.row 122 3 (.slice a (L1+k) c) (L1+k) ((p.moves++(q.moves.take k).map (shM (S:Int))).flatMap Zao)])
  (fun _ i _=>L2-(intOf i).toNat)
 case atStart =>refine⟨0,am,cm,rfl,rfl,Nat.zero_le _,?_⟩;rw[List.take_zero,List.map_nil,List.append_nil];exact HS1.out
 case round =>
  obtain⟨k,a,c,rfl,rfl,hk,hS⟩:=hrel;clear e2;by_cases hlt:k<L2
  ·have hlt2:(k:Int)<L2:=by omega
   have hkn:k<q.moves.length:=by have:=HhL2.out;omega
   obtain⟨b1,o1,rfl,-,hb1,hcs⟩:=Hr.out (by omega);obtain⟨p1,p2,p3⟩:=hcs k hlt;have hsn:=Zbu (shM (S:Int)) (d:=(0,0,0)) hkn rfl;have hxx:=Hhqm.out _ (memD (d:=(0,0,0)) hkn);obtain⟨mm,hmm⟩:=eI (q.moves.getD k (0,0,0));rw[← hmm] at p1 p2 p3 hsn hxx;obtain⟨f,l,t⟩:=mm;simp only at p1 p2 p3 hxx;obtain⟨⟨hf0,hf1⟩,ht0,ht1⟩:=hxx;have m1:=(bcell hS.bel b1 _ hb1).trans p1;have m2:=(bcell hS.bel b1 _ hb1).trans p2;have m3:=(bcell hS.bel b1 _ hb1).trans p3;have hw1:IntKind.i64.wrap (f+(S:Int))=f+(S:Int):=IntWalk.i64_in _ (by omega);have hw2:IntKind.i64.wrap (t+(S:Int))=t+(S:Int):=IntWalk.i64_in _ (by omega);have hSb:=hS.alloc _ rfl #[.int .i64 f,.int .i64 l,.int .i64 t] 122;have e0:=hSb.cell (v:=.int .i64 (S:Int)) 0 0 rfl rfl;have g0:=hSb.cell (v:=.int .i64 f) 3 0 rfl rfl;have g1:=hSb.cell (v:=.int .i64 l) 3 1 rfl rfl;have g2:=hSb.cell (v:=.int .i64 t) 3 2 rfl rfl;have hSa:=hSb.alloc_ (.cells #[.int .i64 (f+(S:Int)),.int .i64 l,.int .i64 (t+(S:Int))] 122);have HSa:=qh hSa;have HRa:=qh (hSa.row 2 rfl);have HHb:=qh (Zga wr (.cells #[.int .i64 f,.int .i64 l,.int .i64 t] 122) (.cells #[.int .i64 (f+(S:Int)),.int .i64 l,.int .i64 (t+(S:Int))] 122));have HSb:=qh hSb;have Hhmm:=qh hmm;clear hmm;have Hhsn:=qh hsn;clear hsn;clear hS hSa hSb hcs p1 p2 p3
   go_wp2_with (at_builtin;refine wpList_append_lies _ rfl _ _ _ rfl _ 122 i0 (.agg #[.int .i64 0,.int .i64 0,.int .i64 0]) 3 24 Tryz.underlying89 Hhi.out Hhz0.out Hhz1.out Hhz2.out rfl (by omega) _ (L1+k) _ rfl HRa.out ⟨wr.heap.size+1,0,none⟩ 1 1 [.int .i64 (f+(S:Int)),.int .i64 l,.int .i64 (t+(S:Int))] rfl rfl (World.news_of_block HHb.out) Zic (by omega) (by unfold maxLen;omega) (by omega) HSa.out.size _ rfl ?_;intro g6 c6 w6 hown6 hgrow6 hat6 hlt6;have HS6:=qh (HSa.out.app 2 rfl hown6 hgrow6 hat6);clear hown6 hgrow6 hat6 hlt6);go_roundw
   case rel =>refine⟨k+1,some ⟨g6,0,none⟩,c6,by go_num,rfl,by omega,?_⟩;rw[Hhsn.out,← List.append_assoc,List.flatMap_append (xs:=_++_)];exact HS6.out.pick [0,1,2] (by decide)
   case measure=>simp[intOf];omega
  obtain rfl:L2=k:=by omega
  rw[show q.moves.take L2=q.moves from List.take_of_length_le (by have:=HhL2.out;omega)] at hS;have HSe:=qh hS;clear hS;go_wp2;go_ret;exact⟨a,c,rfl,HSe.out.pick [2] (by decide)⟩
end Go.Proofs.YtehmjmjedopkkaaGreat
