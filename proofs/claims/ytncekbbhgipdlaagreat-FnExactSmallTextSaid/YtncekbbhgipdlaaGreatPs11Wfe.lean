/-
  The walks over impl.product with the functions that combine hands to it, and over sideBySide.
  Conditions: the automata read as such and are valid.
-/
import Derived.Test.YtncekbbhgipdlaaGreatPs10Jw
set_option maxHeartbeats 4000000
set_option maxRecDepth 100000
namespace Go.Proofs.YtncekbbhgipdlaaGreat
open Go.RowKit Go.Maps
theorem Znw (x y r:Bool) (hr:(x||y)=r) (w:World):Calls Tryz.prog 102 #[.bool x,.bool y] w fun e w'=>e = .returned (.bool r)∧w=w':=by subst hr;cases x<;>cases y<;>(go_enter Tryz.func102, Tryz.ntmps102;go_wp2;go_ret;exact⟨rfl,rfl⟩)
theorem Zh0 (a b:DfaD) (x:Int × Int) (bf ba bb:Nat) (w:World) (hda:Zah a.next a.ends=true) (hdb:Zah b.next b.ends=true) (hf:Bx w bf #[.func (.func 102) #[] #[]] 98) (h1:DfaAt w ba a) (h2:DfaAt w bb b) (hx:Zcg a b x=true) :
  Calls Tryz.prog 154 #[.agg #[.int .i64 x.1,.int .i64 x.2],.pointer (some ⟨bf,0,none⟩),.pointer (some ⟨ba,0,none⟩),.pointer (some ⟨bb,0,none⟩)] w fun e w'=>e = .returned (.bool (Zca (fun x y=>x||y) a b x))∧Below w.heap.size w w':=by
 obtain⟨i,j,rfl,hi,hj⟩:=Zcq hx;have hla:=Zaj hda;have hlb:=Zaj hdb;obtain⟨u1,u2,hB1,-,g1⟩:=h1;obtain⟨u3,u4,hB2,-,g2⟩:=h2;obtain⟨q1,o1,c1,rfl,hc1,hm1,e1,d1⟩:=ZeH g1 (i:=i) (by omega);obtain⟨q2,o2,c2,rfl,hc2,hm2,e2,d2⟩:=ZeH g2 (i:=j) (by omega);obtain⟨ta,hta⟩:=eI (a.ends.getD i false);obtain⟨tb,htb⟩:=eI (b.ends.getD j false);rw[← hta] at e1;rw[← htb] at e2;obtain⟨r,hr⟩:=eJ ((ta||tb));have hres:Zca (fun x y=>x||y) a b ((i:Int),(j:Int))=r:=by rw[← hr,hta,htb];rfl
 rw[hres];have ca:=hB1.cell 1;have cb:=hB2.cell 1;have cf:=hf.cell 0;simp only[w_5,w_6,w_7] at ca cb cf;have d5:=hB1.lt;have d6:=hB2.lt;have d7:=hf.lt;obtain⟨l1,l2,l3⟩:=hla;obtain⟨l4,l5,l6⟩:=hlb;have hii:(i:Int)<a.ends.length:=by omega
 have hjj:(j:Int)<b.ends.length:=by omega
 have Hr:=qh hr;clear g1 g2 hB1 hB2 hta htb hx hda hdb hf hres hr l3 l6
 go_enter Tryz.func154, Tryz.ntmps154
 go_wp2
 go_quiet ((go_at_call 102;with_reducible exact Zky (Znw _ _ _ Hr.out _)))
 go_wp2;go_ret;exact⟨rfl,below_drewN ((Below.refl _ _).alloc (Nat.le_refl _) _) _⟩
theorem Znx (x y r:Bool) (hr:(x&&y)=r) (w:World):Calls Tryz.prog 103 #[.bool x,.bool y] w fun e w'=>e = .returned (.bool r)∧w=w':=by subst hr;cases x<;>cases y<;>(go_enter Tryz.func103, Tryz.ntmps103;go_wp2;go_ret;exact⟨rfl,rfl⟩)
theorem Zh1 (a b:DfaD) (x:Int × Int) (bf ba bb:Nat) (w:World) (hda:Zah a.next a.ends=true) (hdb:Zah b.next b.ends=true) (hf:Bx w bf #[.func (.func 103) #[] #[]] 98) (h1:DfaAt w ba a) (h2:DfaAt w bb b) (hx:Zcg a b x=true) :
  Calls Tryz.prog 154 #[.agg #[.int .i64 x.1,.int .i64 x.2],.pointer (some ⟨bf,0,none⟩),.pointer (some ⟨ba,0,none⟩),.pointer (some ⟨bb,0,none⟩)] w fun e w'=>e = .returned (.bool (Zca (fun x y=>x&&y) a b x))∧Below w.heap.size w w':=by
 obtain⟨i,j,rfl,hi,hj⟩:=Zcq hx;have hla:=Zaj hda;have hlb:=Zaj hdb;obtain⟨u1,u2,hB1,-,g1⟩:=h1;obtain⟨u3,u4,hB2,-,g2⟩:=h2;obtain⟨q1,o1,c1,rfl,hc1,hm1,e1,d1⟩:=ZeH g1 (i:=i) (by omega);obtain⟨q2,o2,c2,rfl,hc2,hm2,e2,d2⟩:=ZeH g2 (i:=j) (by omega);obtain⟨ta,hta⟩:=eI (a.ends.getD i false);obtain⟨tb,htb⟩:=eI (b.ends.getD j false);rw[← hta] at e1;rw[← htb] at e2;obtain⟨r,hr⟩:=eJ ((ta&&tb));have hres:Zca (fun x y=>x&&y) a b ((i:Int),(j:Int))=r:=by rw[← hr,hta,htb];rfl
 rw[hres];have ca:=hB1.cell 1;have cb:=hB2.cell 1;have cf:=hf.cell 0;simp only[w_5,w_6,w_7] at ca cb cf;have d5:=hB1.lt;have d6:=hB2.lt;have d7:=hf.lt;obtain⟨l1,l2,l3⟩:=hla;obtain⟨l4,l5,l6⟩:=hlb;have hii:(i:Int)<a.ends.length:=by omega
 have hjj:(j:Int)<b.ends.length:=by omega
 have Hr:=qh hr;clear g1 g2 hB1 hB2 hta htb hx hda hdb hf hres hr l3 l6
 go_enter Tryz.func154, Tryz.ntmps154
 go_wp2
 go_quiet ((go_at_call 103;with_reducible exact Zky (Znx _ _ _ Hr.out _)))
 go_wp2;go_ret;exact⟨rfl,below_drewN ((Below.refl _ _).alloc (Nat.le_refl _) _) _⟩
theorem ZiV (φ:Fn) (f:Bool→Bool→Bool) (a b:DfaD) (most:Nat) (v1 v2:Value) (w:World) (hda:Zah a.next a.ends=true) (hdb:Zah b.next b.ends=true) (hm0:0<most) (hm1:most≤100000) (hp2:∀ (x:Int × Int) (bf ba bb:Nat) (w:World),Bx w bf #[.func φ #[] #[]] 98 → DfaAt w ba a→DfaAt w bb b→Zcg a b x=true→Calls Tryz.prog 154 #[.agg #[.int .i64 x.1,.int .i64 x.2],.pointer (some ⟨bf,0,none⟩),.pointer (some ⟨ba,0,none⟩),.pointer (some ⟨bb,0,none⟩)] w fun e w'=>e = .returned (.bool (Zca f a b x))∧Below w.heap.size w w') (h1:DfaR 0 w v1 a) (h2:DfaR 0 w v2 b) :
  Calls Tryz.prog 119 #[v1,v2,.int .i64 most,.func φ #[] #[]] w fun e w'=>RExp (Zaz a b) (Zca f a b) most w.heap.size e w'∧Below w.heap.size w w':=by
 obtain⟨u1,u2,rfl,g1,g2⟩:=h1;obtain⟨u3,u4,rfl,g3,g4⟩:=h2
 go_enter Tryz.func119, Tryz.ntmps119
 go_wp2_with fail;obtain⟨W,hW⟩:=eI (((((w.alloc (.cells #[u1,u2] 44)).alloc (.cells #[u3,u4] 44)).alloc (.cells #[.func φ #[] #[]] 98)).alloc (.cells #[.slice none 0 0,.slice none 0 0] 44)));have hbW:Below w.heap.size w W:=by rw[hW];exact((((Below.refl _ _).alloc (Nat.le_refl _) _).alloc (by simp) _).alloc (by simp;omega) _).alloc (by simp;omega) _
 have xA:Bx W w.heap.size #[u1,u2] 44:=by rw[hW];exact(((Bx.new w _ _).alloc _).alloc _).alloc _
 have xB:Bx W (w.heap.size+1) #[u3,u4] 44:=by rw[hW];simpa using ((Bx.new (w.alloc (.cells #[u1,u2] 44)) #[u3,u4] 44).alloc _).alloc _
 have xF:Bx W (w.heap.size+1+1) #[.func φ #[] #[]] 98:=by rw[hW];simpa using (Bx.new ((w.alloc (.cells #[u1,u2] 44)).alloc (.cells #[u3,u4] 44)) #[.func φ #[] #[]] 98).alloc _
 have xR:Bx W (w.heap.size+1+1+1) #[.slice none 0 0,.slice none 0 0] 44:=by rw[hW];simpa using Bx.new (((w.alloc (.cells #[u1,u2] 44)).alloc (.cells #[u3,u4] 44)).alloc (.cells #[.func φ #[] #[]] 98)) #[.slice none 0 0,.slice none 0 0] 44
 have hA:DfaAt W w.heap.size a:=⟨u1,u2,xA,g1.below hbW,g2.below hbW⟩;have hB:DfaAt W (w.heap.size+1) b:=⟨u3,u4,xB,g3.below hbW,g4.below hbW⟩;have hz:=xR.lt;rw[← hW]
 refine(Zfv (Zaz a b) (Zca f a b) (fun x=>Zcg a b x=true) most (w.heap.size+1+1) w.heap.size (w.heap.size+1) W (ZgC hda hdb) (fun x c hc hx=>ZgD hda hdb hc hx) (fun x hx=>ZlJ hda hdb hx) hm0 hm1
  (fun x c w' hx hc hb=>ZiW a b x c _ _ w' hda hdb (hA.below hb) (hB.below hb) hx hc)
  (fun x w' hx hb=>hp2 x _ _ _ w' (xF.below hb xF.lt) (hA.below hb) (hB.below hb) hx)).mono ?_
 rintro e w2 ⟨hr,hb2⟩;have yR:=xR.below hb2 hz;have r0:=yR.cell 0;have r1:=yR.cell 1;have f0:=yR.fr 0;have f1:=yR.fr 1;simp only[w_5,w_6,w_7] at r0 r1;unfold RExp at hr;have hbw2:=hbW.trans (hb2.mono hbW.size);have hz0:w.heap.size≤W.heap.size:=hbW.size;replace hbw2:=qh hbw2;have HyR:=qh yR;clear yR;clear hp2 hA hB xA xB xF xR g1 g2 g3 g4 hda hdb hW hbW hb2;by_cases hle:(bat (Zaz a b) (0,0) most).met.length≤most
 ·rw[if_pos hle] at hr;obtain⟨an,cn,ae,ce,am,cm,rfl,⟨q1,q2,hq,hd1,hd2⟩,hp⟩:=hr;simp only[Value.agg.injEq] at hq;have e1:=congrArg (fun (l:Array Value)=>l[0]?) hq;have e2:=congrArg (fun (l:Array Value)=>l[1]?) hq;simp at e1 e2;subst e1;subst e2;clear hq;obtain⟨F,hF⟩:=eI ((bat (Zaz a b) (0,0) most).met);rw[← hF] at hd1 hd2 hp hle;rw[← hF];have Hhd1:=qh hd1;clear hd1;have Hhd2:=qh hd2;clear hd2;have Hhp:=qh hp;clear hp;replace hF:=qh hF;go_wp2;have b1:=HyR.out.set 0 (.slice an F.length cn);have b2:=b1.set 1 (.slice ae F.length ce);have z0:=b2.cell 0;have z1:=b2.cell 1;simp only[w_5,w_6,w_7,w_1,w_2,w_3] at z0 z1;have g1:=ZaI w2 (w.heap.size+1+1+1) 0 (.slice an F.length cn);have g2:=ZaI (w2.setCell ⟨w.heap.size+1+1+1,0,none⟩ (.slice an F.length cn)) (w.heap.size+1+1+1) 1 (.slice ae F.length ce);refine bodyPost_ret (v:=.tuple #[.agg #[.slice an F.length cn,.slice ae F.length ce],.slice am F.length cm,.bool true]) (by simp[results,Tryz.results119,go_sem,z0,z1]) rfl ⟨?_,?_⟩
  ·unfold RExp;rw[← hF.out,if_pos hle];have ha:∀ e,44 ≠ e→Zcc w2 (some (w.heap.size+1+1+1)) e:=fun e he=>HyR.out.apart he
   have ha2:∀ e,44 ≠ e→Zcc (w2.setCell ⟨w.heap.size+1+1+1,0,none⟩ (.slice an F.length cn)) (some (w.heap.size+1+1+1)) e:=fun e he=>b1.apart he
   refine⟨_,_,_,_,_,_,rfl,⟨_,_,rfl,?_,?_⟩,?_⟩
   ·exact((Hhd1.out.grown g1 (ha _ (by decide)) (ha _ (by decide))).grown g2 (ha2 _ (by decide)) (ha2 _ (by decide))).mono hz0 (by simp)
   ·exact Own.mono (Own.grown (Own.grown Hhd2.out g1 (ha _ (by decide))) g2 (ha2 _ (by decide))) hz0 (by simp)
   exact Own.mono (Own.grown (Own.grown Hhp.out g1 (ha _ (by decide))) g2 (ha2 _ (by decide))) hz0 (by simp)
  exact(hbw2.out.setCell (by simp;omega) _).setCell (by simp;omega) _
 rw[if_neg hle] at hr;subst hr;go_wp2;have b1:=HyR.out.set 0 (.slice none 0 0);have b2:=b1.set 1 (.slice none 0 0);have z0:=b2.cell 0;have z1:=b2.cell 1;simp only[w_5,w_6,w_7,w_1,w_2,w_3] at z0 z1;refine bodyPost_ret (v:=.tuple #[.agg #[.slice none 0 0,.slice none 0 0],.slice none 0 0,.bool false]) (by simp[results,Tryz.results119,go_sem,z0,z1]) rfl ⟨?_,?_⟩
 ·unfold RExp;rw[if_neg hle]
 exact(hbw2.out.setCell (by simp;omega) _).setCell (by simp;omega) _
theorem Zeu (φ:Fn) (f:Bool→Bool→Bool) (K:Nat) (hK:K=40) (a b:DfaD) (D:DfaD) (fb:Bool) (hD:((ZbJ K f a b).map minD).getD zeD=D) (hfb:((ZbJ K f a b).map minD).isSome=fb) (v1 v2:Value) (w:World) (hda:Zah a.next a.ends=true) (hdb:Zah b.next b.ends=true) (hp2:∀ (x:Int × Int) (bf ba bb:Nat) (w:World),Bx w bf #[.func φ #[] #[]] 98 → DfaAt w ba a→DfaAt w bb b→Zcg a b x=true→Calls Tryz.prog 154 #[.agg #[.int .i64 x.1,.int .i64 x.2],.pointer (some ⟨bf,0,none⟩),.pointer (some ⟨ba,0,none⟩),.pointer (some ⟨bb,0,none⟩)] w fun e w'=>e = .returned (.bool (Zca f a b x))∧Below w.heap.size w w') (h1:DfaR 0 w v1 a) (h2:DfaR 0 w v2 b) :
  Calls Tryz.prog 101 #[v1,v2,.func φ #[] #[]] w fun e w'=>RTt D fb w.heap.size e w'∧Below w.heap.size w w':=by
 have H1:=h1;have H2:=h2;obtain⟨u1,u2,rfl,g1,g2⟩:=h1;obtain⟨u3,u4,rfl,g3,g4⟩:=h2;have hS0:=(((St.start w).alloc _ rfl #[u1,u2] 44).alloc (w.heap.size+1) (by simp) #[u3,u4] 44).alloc (w.heap.size+1+1) (by simp) #[.slice none 0 0,.slice none 0 0] 44;have hpr:=fun (W:World) (hb:Below w.heap.size w W)=>ZiV φ f a b K (.agg #[u1,u2]) (.agg #[u3,u4]) W hda hdb (by omega) (by omega) hp2 (H1.below hb) (H2.below hb)
 have hK4:((K:Nat):Int)=40:=by omega
 rw[hK4] at hpr;have Hpr:=qh hpr;replace hS0:=qh hS0;have HhD:=qh hD;clear hD;have Hhfb:=qh hfb;clear hfb;replace hK:=qh hK;clear hpr H1 H2 g1 g2 g3 g4 hda hdb hK4
 go_enter Tryz.func101, Tryz.ntmps101
 have e0:=hS0.out.cell (v:=u1) 0 0 rfl rfl;have e1:=hS0.out.cell (v:=u2) 0 1 rfl rfl;have e2:=hS0.out.cell (v:=u3) 1 0 rfl rfl;have e3:=hS0.out.cell (v:=u4) 1 1 rfl rfl;go_wp2_with fail;refine(Hpr.out _ hS0.out.bel).mono ?_;rintro e w3 ⟨hr,hb3⟩;unfold RExp at hr;by_cases hle:(metP a b K).length≤K
 ·rw[if_pos hle] at hr;obtain⟨an,cn,ae,ce,am,cm,rfl,hown,-⟩:=hr;have htd:ZbJ K f a b=some (Zat (Zaz a b) (Zca f a b) (metP a b K)):=if_pos hle;obtain⟨X,hX⟩:=eI (Zat (Zaz a b) (Zca f a b) (metP a b K));have hl1:X.next.length=(metP a b K).length:=by rw[hX];exact ZaS _ _ _
  have hl2:X.ends.length=(metP a b K).length:=by rw[hX];simp[Zat]
  rw[← hX] at hown htd;have hD:=HhD.out;have hfb:=Hhfb.out;rw[htd] at hD hfb;have hD:minD X=D:=hD;have hfb:true=fb:=hfb;subst hD;subst hfb;obtain⟨L,hL⟩:=eI ((metP a b K).length);rw[← hL] at hown hl1 hl2 hle;rw[← hL];have hL40:(L:Int)≤40:=by have:=hK.out;omega
  have hXo:Zah X.next X.ends=true:=Zb2 hK.out htd;have hS4:=(hS0.out.call hb3).alloc _ rfl #[.slice an L cn,.slice ae L ce] 44;have hDR:DfaR 0 (w3.alloc (.cells #[.slice an L cn,.slice ae L ce] 44)) (.agg #[.slice an L cn,.slice ae L ce]) X:=(hown.r.mono (Nat.zero_le _)).below ((Below.refl _ _).alloc (Nat.le_refl _) _);have d0:=hS4.cell (v:=.slice an L cn) 3 0 rfl rfl;have d1:=hS4.cell (v:=.slice ae L ce) 3 1 rfl rfl;have HS4:=qh hS4;have HDR:=qh hDR;have Hhl1:=qh hl1;clear hl1;have Hhl2:=qh hl2;clear hl2;have Hhtd:=qh htd;clear htd;have HhXo:=qh hXo;clear hXo;have HhX:=qh hX;clear hX;have HhL:=qh hL;clear hL;clear hown hb3 hle hS4 hDR e0 e1 e2 e3;go_wp2_with fail;refine(ZbC X _ _ HhXo.out HDR.out).mono ?_;rintro e w5 ⟨a1,c1,a2,c2,rfl,hown,hb5⟩;obtain⟨M,hM⟩:=eI (minD X);rw[← hM] at hown;rw[← hM];have hS5:=HS4.out.call hb5;have f0:=hS5.fr 2 0 rfl;have f1:=hS5.fr 2 1 rfl;have k0:=hS5.cell (v:=.slice none 0 0) 2 0 rfl rfl;have k1:=hS5.cell (v:=.slice none 0 0) 2 1 rfl rfl;have hDM:=DMem.of hown HS4.out.size;have hb0:=hS5.box 2 rfl;have HS5:=qh hS5;have HDM:=qh hDM;have Hhb0:=qh hb0;clear hb0;have HhM:=qh hM;clear hM;clear hS5 hown hb5 hDM d0 d1;go_wp2;have hq:=(HS5.out.set 2 rfl 0 (.slice a1 M.next.length c1)).set 2 rfl 1 (.slice a2 M.ends.length c2);have q0:=hq.cell (v:=.slice a1 M.next.length c1) 2 0 rfl rfl;have q1:=hq.cell (v:=.slice a2 M.ends.length c2) 2 1 rfl rfl
  have hm:=(HDM.out.set Hhb0.out 0 (.slice a1 M.next.length c1)).set (Hhb0.out.set 0 _) 1 (.slice a2 M.ends.length c2);refine bodyPost_ret (v:=.tuple #[.agg #[.slice a1 M.next.length c1,.slice a2 M.ends.length c2],.bool true]) (by simp[results,Tryz.results101,go_sem,q0,q1]) rfl ⟨?_,hq.bel⟩;rw[← HhM.out];exact⟨a1,c1,a2,c2,rfl,_,_,rfl,hm.1,hm.2⟩
 rw[if_neg hle] at hr;subst hr;have htd:ZbJ K f a b=none:=if_neg hle;have hD:=HhD.out;have hfb:=Hhfb.out;rw[htd] at hD hfb;have hD:zeD=D:=hD;have hfb:false=fb:=hfb;subst hD;subst hfb;have hS4:=(hS0.out.call hb3).alloc _ rfl #[.slice none 0 0,.slice none 0 0] 44;have f0:=hS4.fr 2 0 rfl;have f1:=hS4.fr 2 1 rfl;have k0:=hS4.cell (v:=.slice none 0 0) 2 0 rfl rfl;have k1:=hS4.cell (v:=.slice none 0 0) 2 1 rfl rfl;have HS4:=qh hS4;clear hb3 hle hS4 e0 e1 e2 e3;go_wp2;have hq:=(HS4.out.set 2 rfl 0 (.slice none 0 0)).set 2 rfl 1 (.slice none 0 0);have q0:=hq.cell (v:=.slice none 0 0) 2 0 rfl rfl;have q1:=hq.cell (v:=.slice none 0 0) 2 1 rfl rfl;refine bodyPost_ret (v:=.tuple #[.agg #[.slice none 0 0,.slice none 0 0],.bool false]) (by simp[results,Tryz.results101,go_sem,q0,q1]) rfl ⟨?_,hq.bel⟩;exact⟨none,0,none,0,rfl,ZjG _ _ _ _ _⟩
theorem Zig (K:Nat) (hK:K=40) (a b:DfaD) (D:DfaD) (fb:Bool) (hD:((ZbJ K (fun p q=>p||q) a b).map minD).getD zeD=D) (hfb:((ZbJ K (fun p q=>p||q) a b).map minD).isSome=fb) (v1 v2:Value) (w:World) (hda:Zah a.next a.ends=true) (hdb:Zah b.next b.ends=true) (h1:DfaR 0 w v1 a) (h2:DfaR 0 w v2 b) :
  Calls Tryz.prog 101 #[v1,v2,.func (.func 102) #[] #[]] w fun e w'=>RTt D fb w.heap.size e w'∧Below w.heap.size w w' :=
 Zeu _ (fun p q=>p||q) K hK a b D fb hD hfb v1 v2 w hda hdb (fun x bf ba bb w' hf g1 g2 hx=>Zh0 a b x bf ba bb w' hda hdb hf g1 g2 hx) h1 h2
theorem Zih (K:Nat) (hK:K=40) (a b:DfaD) (D:DfaD) (fb:Bool) (hD:((ZbJ K (fun p q=>p&&q) a b).map minD).getD zeD=D) (hfb:((ZbJ K (fun p q=>p&&q) a b).map minD).isSome=fb) (v1 v2:Value) (w:World) (hda:Zah a.next a.ends=true) (hdb:Zah b.next b.ends=true) (h1:DfaR 0 w v1 a) (h2:DfaR 0 w v2 b) :
  Calls Tryz.prog 101 #[v1,v2,.func (.func 103) #[] #[]] w fun e w'=>RTt D fb w.heap.size e w'∧Below w.heap.size w w' :=
 Zeu _ (fun p q=>p&&q) K hK a b D fb hD hfb v1 v2 w hda hdb (fun x bf ba bb w' hf g1 g2 hx=>Zh1 a b x bf ba bb w' hda hdb hf g1 g2 hx) h1 h2
end Go.Proofs.YtncekbbhgipdlaaGreat
namespace Go.Proofs.YtncekbbhgipdlaaGreat
open Go.RowKit
def loW (v:Nat):Nat:=v % 2 ^ 64
def hiW (v:Nat):Nat:=v / 2 ^ 64
theorem Zgq (v:Nat):loW v<2 ^ 64:=Nat.mod_lt _ (by omega)
theorem Znd {v:Nat} (h:v<2 ^ 128):hiW v<2 ^ 64:=Nat.div_lt_of_lt_mul (by rw[← Nat.pow_add];exact h)
theorem Zgr {v s:Nat} (h:s<64):(loW v).testBit s=v.testBit s:=by unfold loW;rw[Nat.testBit_mod_two_pow];simp[h]
theorem ZgF {v s:Nat} (h:64≤s):(hiW v).testBit (s-64)=v.testBit s:=by unfold hiW;rw[Nat.testBit_div_two_pow];congr 1;omega
theorem Zea (v s t:Nat):(adj v s).testBit t=(v.testBit t||decide (t=s)):=by rw[ZeZ];congr 1;exact decide_eq_decide.2 ⟨Eq.symm,Eq.symm⟩
theorem ZpV {v s:Nat} (h:s<64):loW (adj v s)=adj (loW v) s∧hiW (adj v s)=hiW v:=by
 constructor
 ·refine Nat.eq_of_testBit_eq fun t => ?_
  by_cases ht:t<64
  ·rw[Zgr ht,Zea,Zea,Zgr ht]
  have h1:(loW (adj v s)).testBit t=false:=Nat.testBit_lt_two_pow (Nat.lt_of_lt_of_le (Zgq _) (Nat.pow_le_pow_right (by omega) (by omega)));have h2:(loW v).testBit t=false:=Nat.testBit_lt_two_pow (Nat.lt_of_lt_of_le (Zgq _) (Nat.pow_le_pow_right (by omega) (by omega)));rw[h1,Zea,h2,Bool.false_or];exact(decide_eq_false (by omega)).symm
 refine Nat.eq_of_testBit_eq fun t => ?_
 have e1:=ZgF (v:=adj v s) (s:=t+64) (by omega);have e2:=ZgF (v:=v) (s:=t+64) (by omega);rw[Nat.add_sub_cancel] at e1 e2;rw[e1,e2,Zea,decide_eq_false (show ¬ t+64=s by omega),Bool.or_false]
theorem ZpY {v s:Nat} (h:64≤s):loW (adj v s)=loW v∧hiW (adj v s)=adj (hiW v) (s-64):=by
 constructor
 ·refine Nat.eq_of_testBit_eq fun t => ?_
  by_cases ht:t<64
  ·rw[Zgr ht,Zea,Zgr ht,decide_eq_false (show ¬ t=s by omega),Bool.or_false]
  have h1:(loW (adj v s)).testBit t=false:=Nat.testBit_lt_two_pow (Nat.lt_of_lt_of_le (Zgq _) (Nat.pow_le_pow_right (by omega) (by omega)));have h2:(loW v).testBit t=false:=Nat.testBit_lt_two_pow (Nat.lt_of_lt_of_le (Zgq _) (Nat.pow_le_pow_right (by omega) (by omega)));rw[h1,h2]
 refine Nat.eq_of_testBit_eq fun t => ?_
 have e1:=ZgF (v:=adj v s) (s:=t+64) (by omega);have e2:=ZgF (v:=v) (s:=t+64) (by omega);rw[Nat.add_sub_cancel] at e1 e2;rw[e1,Zea,Zea,e2];congr 1;exact decide_eq_decide.2 ⟨fun h=>by omega,fun h=>by omega⟩
abbrev setW (v:Nat):Value:=.agg #[.int .u64 (loW v:Int),.int .u64 (hiW v:Int)]
theorem ZjD (v s:Nat) (hv:v<2 ^ 64):(bits BinOp.and IntKind.u64 ((v:Int) / 2 ^ s) 1==1)=v.testBit s:=by
 have e:((v:Int) / 2 ^ s)=((v / 2 ^ s:Nat):Int):=by simp
 have hle:v / 2 ^ s≤v:=Nat.div_le_self _ _;rw[e,Nat.testBit_eq_decide_div_mod_eq]
 generalize v / 2 ^ s=q at hle ⊢
 rw[and_one_u64 _ (by omega) (by omega),Bool.eq_iff_iff];simp;omega
theorem Zla (v s:Nat) (hv:v<2 ^ 64) (hs:s<64):bits BinOp.or IntKind.u64 (v:Int) (IntKind.u64.wrap (2 ^ s))=((adj v s:Nat):Int):=by
 have e:((2:Int) ^ s)=((2 ^ s:Nat):Int):=by simp
 have hle:2 ^ s<2 ^ 64:=Nat.pow_lt_pow_right (by omega) hs;unfold adj
 generalize 2 ^ s=q at hle e ⊢
 rw[e,IntKind.wrap_u64,Int.emod_eq_of_lt (by omega) (by omega),u64_or_nat _ _ (by omega) (by omega)]
theorem Zc2 (v s:Nat) (hv:v<2 ^ 128) (hs:s<128) (w:World) (r:Bool) (hr:v.testBit s=r) :
  Calls Tryz.prog 160 #[setW v,.int .i64 s] w fun e w'=>e = .returned (.bool r)∧Below w.heap.size w w':=by
 by_cases h:s<64
 ·have h1:(s:Int) / 64=0:=by omega
  have h2:(s:Int) % 64=s:=by omega
  have h3:s / 64=0:=by omega
  have hb:=ZjD (loW v) s (Zgq v);rw[Zgr h,hr] at hb;have Hhr:=qh hr;clear hr;have Hhv:=qh hv;clear hv;replace hb:=qh hb
  go_enter Tryz.func160, Tryz.ntmps160
  go_wp2;go_ret;exact⟨ZaT hb.out,(Below.refl _ _).alloc (Nat.le_refl _) _⟩
 have h1:(s:Int) / 64=1:=by omega
 have h2:(s:Int) % 64=((s-64:Nat):Int):=by omega
 have h3:s / 64=1:=by omega
 have hb:=ZjD (hiW v) (s-64) (Znd hv);rw[ZgF (by omega),hr] at hb;obtain⟨t,ht⟩:=eI (s-64);rw[← ht] at hb h2;have Hht:=qh ht;clear ht;have Hhr:=qh hr;clear hr;have Hhv:=qh hv;clear hv;replace hb:=qh hb
 go_enter Tryz.func160, Tryz.ntmps160
 go_wp2;go_ret;exact⟨ZaT hb.out,(Below.refl _ _).alloc (Nat.le_refl _) _⟩
theorem Zdn (v s:Nat) (hv:v<2 ^ 128) (hs:s<128) (w:World) :
  Calls Tryz.prog 161 #[setW v,.int .i64 s] w fun e w'=>e = .returned (setW (adj v s))∧Below w.heap.size w w':=by
 by_cases h:s<64
 ·have h1:(s:Int) / 64=0:=by omega
  have h2:(s:Int) % 64=s:=by omega
  have h3:s / 64=0:=by omega
  have hb:=Zla (loW v) s (Zgq v) h;obtain⟨e1,e2⟩:=ZpV (v:=v) h;rw[← e1] at hb;obtain⟨L,hL⟩:=eI (loW (adj v s));rw[← hL] at hb;unfold setW;rw[e2,← hL];have Hhv:=qh hv;clear hv;have HhL:=qh hL;clear hL;replace e1:=qh e1;have He2:=qh e2;clear e2
  go_enter Tryz.func161, Tryz.ntmps161
  go_wp2
  go_region
  go_wp2;refine bodyPost_ret (v:=.agg #[.int .u64 (L:Int),.int .u64 (hiW v:Int)]) (by simp[results,Tryz.results161,go_sem]) rfl ⟨rfl,?_⟩;exact((((Below.refl _ _).alloc (Nat.le_refl _) _).alloc (by simp) _).drew)
 have h1:(s:Int) / 64=1:=by omega
 have h3:s / 64=1:=by omega
 obtain⟨t,ht⟩:=eI (s-64);have h2:(s:Int) % 64=(t:Int):=by omega
 have hb:=Zla (hiW v) t (Znd hv) (by omega);obtain⟨e1,e2⟩:=ZpY (v:=v) (s:=s) (by omega);rw[ht,← e2] at hb;rw[← ht] at hb;obtain⟨L,hL⟩:=eI (hiW (adj v s));rw[← hL] at hb;unfold setW;rw[e1,← hL];have Hhv:=qh hv;clear hv;have HhL:=qh hL;clear hL;replace e1:=qh e1;have He2:=qh e2;clear e2;have Hht:=qh ht;clear ht
 go_enter Tryz.func161, Tryz.ntmps161
 go_wp2
 go_region
 go_wp2;refine bodyPost_ret (v:=.agg #[.int .u64 (loW v:Int),.int .u64 (L:Int)]) (by simp[results,Tryz.results161,go_sem]) rfl ⟨rfl,?_⟩;exact((((Below.refl _ _).alloc (Nat.le_refl _) _).alloc (by simp) _).drew)
theorem ltW {N v:Nat} (hN:N≤128) (h:v<2 ^ N):v<2 ^ 128:=Nat.lt_of_lt_of_le h (Nat.pow_le_pow_right (by omega) hN)
@[simp] theorem Zp1:loW 0=0:=rfl
@[simp] theorem Zp2:hiW 0=0:=rfl
theorem Zli (N:Nat) (hN:N≤128) (l:List Int) (v:Value) (w:World) (hl:inN N l) (hn:l.length≤1000000) (h:Ints 0 w v l) :
  Calls Tryz.prog 159 #[v] w fun e w'=>e = .returned (setW (setV l))∧Below w.heap.size w w':=by
 obtain⟨a1,c1,rfl,hc1,hm1,hr1⟩:=h.form;replace hr1:=qh hr1;replace hl:=qh hl;clear h
 go_enter Tryz.func159, Tryz.ntmps159
 go_wp2
 go_loopw [8] (fun i wr=>∃ k:Nat,k≤l.length∧i = .int .i64 k∧Below w.heap.size w wr∧Bx wr w.heap.size #[.int .u64 0,.int .u64 0] 149 ∧ Bx wr (w.heap.size+1) #[.int .u64 ((loW (setV (l.take k)):Nat):Int),.int .u64 ((hiW (setV (l.take k)):Nat):Int)] 149)
  (fun i _=>l.length-(intOf i).toNat)
 case atStart=>exact⟨0,Nat.zero_le _,rfl,((Below.refl _ _).alloc (Nat.le_refl _) _).alloc (by simp) _,(Bx.new w _ _).alloc _,by simpa [setV] using Bx.new (w.alloc (.cells #[.int .u64 0,.int .u64 0] 149)) #[.int .u64 0,.int .u64 0] 149⟩
 case round =>
  obtain⟨k,hk,rfl,hb,x0,x1⟩:=hrel;have hlt40:setV (l.take k)<2 ^ N:=Zf6 (fun s hs=>hl.out s (List.mem_of_mem_take hs));obtain⟨V,hV⟩:=eI (setV (l.take k));rw[← hV] at x1 hlt40;have c0:=x1.cell 0;have c1':=x1.cell 1;simp only[w_5,w_6,w_7] at c0 c1';replace hV:=qh hV;have Hhb:=qh hb;clear hb;by_cases hlt:k<l.length
  ·obtain⟨b1,o1,rfl,-,hbl,hcs⟩:=hr1.out (by omega);have hc:=(bcell Hhb.out b1 _ hbl).trans (hcs k hlt);obtain⟨s0,s1⟩:=hl.out _ (memD (d:=0) hlt);obtain⟨s,hs⟩:=Int.eq_ofNat_of_zero_le s0;rw[hs] at hc s1;have Hhs:=qh hs;clear hs;have Hx0:=qh x0;clear x0;have Hx1:=qh x1;clear x1;have Hhlt40:=qh hlt40;clear hlt40;clear hcs;go_wp2_with fail;refine(Zdn V s (ltW hN Hhlt40.out) (by omega) _).mono ?_;rintro e w2 ⟨rfl,hb2⟩;have y0:=Hx0.out.below hb2 Hx0.out.lt;have y1:=Hx1.out.below hb2 Hx1.out.lt;have hb3:=Hhb.out.trans (hb2.mono Hhb.out.size);have d0:=y1.cell 0;have d1:=y1.cell 1;have e0:=y1.fr 0;have e1:=y1.fr 1;simp only[w_5,w_6,w_7] at d0 d1;have Hy0:=qh y0;clear y0;have Hy1:=qh y1;clear y1;have Hhb3:=qh hb3;clear hb3;clear c0 c1' hb2;go_wp2;go_roundw
   case rel =>refine⟨k+1,by omega,by go_num,(Hhb3.out.setCell (by simp) _).setCell (by simp) _,(Hy0.out.set_ne _ _ (by simp)).set_ne _ _ (by simp),?_⟩;have:=(Hy1.out.set 0 (.int .u64 ((loW (adj V s):Nat):Int))).set 1 (.int .u64 ((hiW (adj V s):Nat):Int));rw[ZiQ hlt,← hV.out,Hhs.out];simpa using this
   case measure=>simp[intOf];omega
  obtain rfl:k=l.length:=by omega
  rw[List.take_length] at hV;have f0:=x0.fr 0;have f1:=x0.fr 1;have d0:=x0.cell 0;have d1:=x0.cell 1;simp only[w_5,w_6,w_7] at d0 d1;have Hx0:=qh x0;clear x0;have Hx1:=qh x1;clear x1;go_wp2;have q:=(Hx0.out.set 0 (.int .u64 ((loW (V):Nat):Int))).set 1 (.int .u64 ((hiW (V):Nat):Int));have q0:=q.cell 0;have q1:=q.cell 1;simp only[w_5,w_6,w_7,w_1,w_2,w_3] at q0 q1;refine bodyPost_ret (v:=setW V) (by simp[results,Tryz.results159,go_sem,q0,q1]) rfl ⟨by rw[hV.out],(Hhb.out.setCell (by simp) _).setCell (by simp) _⟩
end Go.Proofs.YtncekbbhgipdlaaGreat
namespace Go.Proofs.YtncekbbhgipdlaaGreat
open Go.RowKit
theorem Zel (N:Nat) (hN:N≤128) (n:NfaD) (x:Nat) (v1 v2 v3:Value) (w:World) (hm:mvIn N n.moves) (hml:n.moves.length≤1000000) (hx:x<2 ^ N) (h:Moves 0 w v1 n.moves) :
  Calls Tryz.prog 158 #[.agg (nfaC n v1 v2 v3),setW x] w fun e w'=>e = .returned (setW (clV N n.moves x))∧Below w.heap.size w w':=by
 obtain⟨a1,c1,rfl,hc1,hm1,hr1⟩:=h.form;obtain⟨ms,hms⟩:=eI (n.moves);rw[← hms] at hm hml hc1 hr1;rw[← hms];replace hr1:=qh hr1;replace hm:=qh hm;have Hhx:=qh hx;clear hx;have Hhms:=qh hms;clear hms;clear h
 go_enter Tryz.func158, Tryz.ntmps158
 go_wp2
 go_loopg [5] (N+2) (fun g ag wr=>∃ j:Nat,g=N+2-j∧(∃ ab:Bool,ag = .bool ab∧ab=(decide (j=0) || !decide (clIt ms x j=clIt ms x (j-1))))∧Below w.heap.size w wr ∧
   Bx wr w.heap.size (nfaC n (.slice a1 ms.length c1) v2 v3) 81 ∧ Bx wr (w.heap.size+1) #[.int .u64 ((loW (clIt ms x j):Nat):Int),.int .u64 ((hiW (clIt ms x j):Nat):Int)] 149 ∧ Bx wr (w.heap.size+1+1) #[.int .u64 0,.int .u64 0] 149)
 case atStart =>
  refine⟨0,rfl,⟨true,rfl,by simp⟩,(((Below.refl _ _).alloc (Nat.le_refl _) _).alloc (by simp) _).alloc (by simp;omega) _,((Bx.new w _ _).alloc _).alloc _,?_,?_⟩
  ·simpa [clIt] using (Bx.new (w.alloc (.cells (nfaC n (.slice a1 ms.length c1) v2 v3) 81)) #[.int .u64 ((loW (x):Nat):Int),.int .u64 ((hiW (x):Nat):Int)] 149).alloc (.cells #[.int .u64 0,.int .u64 0] 149)
  simpa using Bx.new ((w.alloc (.cells (nfaC n (.slice a1 ms.length c1) v2 v3) 81)).alloc (.cells #[.int .u64 ((loW (x):Nat):Int),.int .u64 ((hiW (x):Nat):Int)] 149)) #[.int .u64 0,.int .u64 0] 149
 case round =>
  obtain⟨j,rfl,⟨ab,rfl,hab⟩,hb,x0,x1,x2⟩:=hrel;obtain⟨wo,hwo⟩:∃ wo:World,wo=wr:=⟨_,rfl⟩;subst hwo;have c1':=x0.cell 1;simp only[nfaC,w_5,w_6,w_7] at c1';replace hab:=qh hab;have Hhb:=qh hb;clear hb;have Hx0:=qh x0;clear x0;have Hx1:=qh x1;clear x1;have Hx2:=qh x2;clear x2;cases ab
  ·have hj:clIt ms x (j-1+1)=clIt ms x (j-1)∧j-1+1=j:=by
    have h:=hab.out;simp at h;have:j-1+1=j:=by omega
    rw[this];exact⟨h.2,rfl⟩
   have hv:clIt ms x j=clV N ms x:=by rw[Zo6 hm.out hj.1,← hj.1,hj.2]
   have y1:=Hx1.out;rw[hv] at y1;have d0:=y1.cell 0;have d1:=y1.cell 1;have e0:=Hx2.out.cell 0;have e1:=Hx2.out.cell 1;have f0:=Hx2.out.fr 0;have f1:=Hx2.out.fr 1;simp only[w_5,w_6,w_7] at d0 d1 e0 e1;obtain⟨V,hV⟩:=eI (clV N ms x);rw[← hV] at d0 d1;have Hhj:=qh hj;clear hj;have Hhv:=qh hv;clear hv;replace hV:=qh hV;clear y1;go_wp2;have q:=(Hx2.out.set 0 (.int .u64 ((loW (V):Nat):Int))).set 1 (.int .u64 ((hiW (V):Nat):Int));have q0:=q.cell 0;have q1:=q.cell 1;simp only[w_5,w_6,w_7,w_1,w_2,w_3] at q0 q1;refine bodyPost_ret (v:=setW V) (by simp[results,Tryz.results158,go_sem,q0,q1]) rfl ⟨by rw[hV.out],(Hhb.out.setCell (by simp;omega) _).setCell (by simp;omega) _⟩
  obtain⟨X,hX⟩:=eI (clIt ms x j);have HhX:=qh hX;clear hX;go_wp2
  go_loopw [5,12] (fun ag i wi=>∃ k:Nat,k≤ms.length∧i = .int .i64 k∧(∃ ab:Bool,ag = .bool ab∧ab = !decide ((ms.take k).foldl Zaw X=X))∧Below w.heap.size w wi ∧
    Bx wi w.heap.size (nfaC n (.slice a1 ms.length c1) v2 v3) 81 ∧ Bx wi (w.heap.size+1) #[.int .u64 ((loW ((ms.take k).foldl Zaw X):Nat):Int),.int .u64 ((hiW ((ms.take k).foldl Zaw X):Nat):Int)] 149 ∧ Bx wi (w.heap.size+1+1) #[.int .u64 0,.int .u64 0] 149)
   (fun _ i _=>ms.length-(intOf i).toNat)
  case atStart=>exact⟨0,Nat.zero_le _,rfl,⟨false,rfl,by simp⟩,Hhb.out,Hx0.out,by rw[HhX.out];exact Hx1.out,Hx2.out⟩
  case round =>
   obtain⟨k,hk,rfl,⟨ag,rfl,hag⟩,hbi,y0,y1,y2⟩:=hrel;obtain⟨C,hC⟩:=eI ((ms.take k).foldl Zaw X);have hC40:C<2 ^ N:=by rw[hC];exact ZcL _ (fun v=>v<2 ^ N) (fun v m hmm hv=>ZgS hm.out hmm hv) (by rw[HhX.out];exact Zd9 hm.out Hhx.out j) k
   rw[← hC] at y1 hag;clear c1';by_cases hlt:k<ms.length
   ·obtain⟨b1,o1,rfl,-,hbl,hcs⟩:=hr1.out (by omega);obtain⟨p1,p2,p3⟩:=hcs k hlt;replace p1:=(bcell hbi b1 _ hbl).trans p1;replace p2:=(bcell hbi b1 _ hbl).trans p2;replace p3:=(bcell hbi b1 _ hbl).trans p3;have hmm:=hm.out _ (memD (d:=(0,0,0)) hlt);have hsucc:=ZbX Zaw X hlt (0,0,0);rw[← hC] at hsucc;have hne1:=Zjw (v:=X) hm.out hlt;have hne2:=ZdX (v:=X) hm.out hlt;rw[← hC] at hne1 hne2;obtain⟨m,hmd⟩:=eI (ms.getD k (0,0,0));rw[← hmd] at p1 p2 p3 hmm hsucc hne1;obtain⟨f,l,t⟩:=m;simp only at p1 p2 p3 hmm;obtain⟨⟨f0,f1⟩,t0,t1⟩:=hmm;obtain⟨f,rfl⟩:=Int.eq_ofNat_of_zero_le f0;obtain⟨t,rfl⟩:=Int.eq_ofNat_of_zero_le t0;have hal:=(Below.refl wr.heap.size wr).alloc (Nat.le_refl _) (.cells #[.int .i64 (f:Int),.int .i64 l,.int .i64 (t:Int)] 117);have z0:=y0.below hal y0.lt;have z1:=y1.below hal y1.lt;have z2:=y2.below hal y2.lt;have z3:=Bx.new wr #[.int .i64 (f:Int),.int .i64 l,.int .i64 (t:Int)] 117;have hB:=hbi.alloc hbi.size (.cells #[.int .i64 (f:Int),.int .i64 l,.int .i64 (t:Int)] 117);have d0:=z1.cell 0;have d1:=z1.cell 1;simp only[w_5,w_6,w_7] at d0 d1;have hkk:(k:Int)<ms.length:=by omega
    have Hstay:=qh (fun (h:Zaw C ((f:Int),l,(t:Int))=C)=>(show(ms.take (k+1)).foldl Zaw X=C from hsucc.trans h));have HhC:=qh hC;clear hC;replace hC40:=qh hC40;have Hhag:=qh hag;clear hag;have Hhsucc:=qh hsucc;clear hsucc;have Hhne1:=qh hne1;clear hne1;have Hhne2:=qh hne2;clear hne2;have Hhmd:=qh hmd;clear hmd;have Hhbi:=qh hbi;clear hbi;have Hy0:=qh y0;clear y0;have Hy1:=qh y1;clear y1;have Hy2:=qh y2;clear y2;have Hhal:=qh hal;clear hal;have Hz0:=qh z0;clear z0;have Hz1:=qh z1;clear z1;have Hz2:=qh z2;clear z2;have Hz3:=qh z3;clear z3;replace hB:=qh hB;clear hcs;by_cases hl:l = -1
    ·subst hl;cases hf:C.testBit f
     all_goals
      have Hhf:=qh hf;clear hf;go_wp2_with fail;refine(Zc2 C f (ltW hN hC40.out) (by omega) _ _ Hhf.out).mono ?_;rintro e w2 ⟨rfl,hb2⟩;have q0:=Hz0.out.below hb2 Hz0.out.lt;have q1:=Hz1.out.below hb2 Hz1.out.lt;have q2:=Hz2.out.below hb2 Hz2.out.lt;have q3:=Hz3.out.below hb2 Hz3.out.lt;have hB2:=hB.out.trans (hb2.mono hB.out.size);have Hq0:=qh q0;clear q0;have Hq1:=qh q1;clear q1;have Hq2:=qh q2;clear q2;have Hq3:=qh q3;clear q3;have HhB2:=qh hB2;clear hB2;clear hb2 d0 d1
     ·have hst:=Hstay.out (by unfold Zaw;simp[Hhf.out]);have Hhst:=qh hst;clear hst;go_wp2;go_roundw
      case rel=>exact⟨k+1,by omega,by go_num,⟨ag,rfl,by rw[Hhst.out];exact Hhag.out⟩,HhB2.out,Hq0.out,by rw[Hhst.out];exact Hq1.out,Hq2.out⟩
      case measure=>simp[intOf];omega
     have d0:=Hq1.out.cell 0;have d1:=Hq1.out.cell 1;have d2:=Hq3.out.cell 2;simp only[w_5,w_6,w_7] at d0 d1 d2;cases ht:C.testBit t
     all_goals
      have Hht:=qh ht;clear ht;go_wp2_with fail;refine(Zc2 C t (ltW hN hC40.out) (by omega) _ _ Hht.out).mono ?_;rintro e w3 ⟨rfl,hb3⟩;have r0:=Hq0.out.below hb3 Hq0.out.lt;have r1:=Hq1.out.below hb3 Hq1.out.lt;have r2:=Hq2.out.below hb3 Hq2.out.lt;have r3:=Hq3.out.below hb3 Hq3.out.lt;have hB3:=HhB2.out.trans (hb3.mono HhB2.out.size);have Hr0:=qh r0;clear r0;have Hr1:=qh r1;clear r1;have Hr2:=qh r2;clear r2;have Hr3:=qh r3;clear r3;have HhB3:=qh hB3;clear hB3;clear hb3 d0 d1 d2
     ·have d0:=Hr1.out.cell 0;have d1:=Hr1.out.cell 1;have d2:=Hr3.out.cell 2;simp only[w_5,w_6,w_7] at d0 d1 d2;go_wp2_with fail;refine(Zdn C t (ltW hN hC40.out) (by omega) _).mono ?_;rintro e w4 ⟨rfl,hb4⟩;have s0:=Hr0.out.below hb4 Hr0.out.lt;have s1:=Hr1.out.below hb4 Hr1.out.lt;have s2:=Hr2.out.below hb4 Hr2.out.lt;have hB4:=HhB3.out.trans (hb4.mono HhB3.out.size);have g0:=s1.cell 0;have g1:=s1.cell 1;have i0:=s1.fr 0;have i1:=s1.fr 1;simp only[w_5,w_6,w_7] at g0 g1;have Hs0:=qh s0;clear s0;have Hs1:=qh s1;clear s1;have Hs2:=qh s2;clear s2;have HhB4:=qh hB4;clear hB4;clear hb4 d0 d1 d2;go_wp2;go_roundw
      case rel =>
       have hcm:Zaw C ((f:Int),-1,(t:Int))=adj C t:=by unfold Zaw;simp[Hhf.out,Hht.out]
       have hne:Zaw C ((f:Int),-1,(t:Int))≠C:=by rw[hcm];intro e;have:=ZeZ C t t;rw[e,Hht.out] at this;simp at this
       have hs2:(ms.take (k+1)).foldl Zaw X=adj C t:=Hhsucc.out.trans hcm;refine⟨k+1,by omega,by go_num,⟨true,rfl,?_⟩,(HhB4.out.setCell (by simp) _).setCell (by simp) _,(Hs0.out.set_ne _ _ (by simp)).set_ne _ _ (by simp),?_,(Hs2.out.set_ne _ _ (by simp)).set_ne _ _ (by simp)⟩
       ·rw[decide_eq_false (Hhne1.out hne)];rfl
       rw[hs2];have:=(Hs1.out.set 0 (.int .u64 ((loW (adj C t):Nat):Int))).set 1 (.int .u64 ((hiW (adj C t):Nat):Int));simpa using this
      case measure=>simp[intOf];omega
     have hst:=Hstay.out (by unfold Zaw;simp[Hhf.out,Hht.out]);have Hhst:=qh hst;clear hst;go_wp2;go_roundw
     case rel=>exact⟨k+1,by omega,by go_num,⟨ag,rfl,by rw[Hhst.out];exact Hhag.out⟩,HhB3.out,Hr0.out,by rw[Hhst.out];exact Hr1.out,Hr2.out⟩
     case measure=>simp[intOf];omega
    have hst:=Hstay.out (by unfold Zaw;simp[hl]);have hl1:(l == -1)=false:=by simpa using hl
    have Hhst:=qh hst;clear hst;have Hhl:=qh hl;clear hl;go_wp2;go_roundw
    case rel=>exact⟨k+1,by omega,by go_num,⟨ag,rfl,by rw[Hhst.out];exact Hhag.out⟩,hB.out,Hz0.out,by rw[Hhst.out];exact Hz1.out,Hz2.out⟩
    case measure=>simp[intOf];omega
   obtain rfl:k=ms.length:=by omega
   rw[List.take_length] at hC;have hn:C=clIt ms x (j+1):=by rw[hC,HhX.out];rfl
   have hjn:C≠X→j<N:=fun hne=>Ze4 hm.out (by rw[← hn,← HhX.out];exact hne)
   have hj0:j<N+2:=by
    by_cases h0:j=0
    ·omega
    have h:=hab.out;simp[h0] at h;have:=Ze4 (k:=j-1) hm.out (by rw[show j-1+1=j by omega];exact h);omega
   have HhC:=qh hC;clear hC;have Hhn:=qh hn;clear hn;have Hhjn:=qh hjn;clear hjn;have Hhag:=qh hag;clear hag;have Hhbi:=qh hbi;clear hbi;have Hy0:=qh y0;clear y0;have Hy1:=qh y1;clear y1;have Hy2:=qh y2;clear y2;go_wp2
   go_roundg (N+2-(j+1))
   case measure=>omega
   case rel =>refine⟨j+1,rfl,⟨ag,rfl,?_⟩,Hhbi.out,Hy0.out,by rw[← Hhn.out];exact Hy1.out,Hy2.out⟩;rw[Hhag.out,← Hhn.out,show j+1-1=j by omega,← HhX.out];simp
theorem ZiZ (N:Nat) (hN:N≤128) (n:NfaD) (x:Nat) (c:Int) (v1 v2 v3:Value) (w:World) (hm:mvIn N n.moves) (hml:n.moves.length≤1000000) (hx:x<2 ^ N) (h:Moves 0 w v1 n.moves) :
  Calls Tryz.prog 133 #[.agg (nfaC n v1 v2 v3),setW x,.int .i64 c] w fun e w'=>e = .returned (setW (stV N n.moves x c))∧Below w.heap.size w w':=by
 have HM:=qh h;obtain⟨a1,c1,rfl,hc1,hm1,hr1⟩:=h.form;have hml2:=hml;have hr2:=hr1;have hm2:=hm;obtain⟨ms,hms⟩:=eI (n.moves);rw[← hms] at hm2 hml2 hc1 hr2;have hst:stV N n.moves x c=clV N ms (ms.foldl (Za3 x c) 0):=by rw[hms];rfl
 have hst40:ms.foldl (Za3 x c) 0<2 ^ N:=ZcA _ (fun v=>v<2 ^ N) (fun _ _ hmm hv=>Zdk hm2 hmm hv) (Nat.two_pow_pos N);obtain⟨ln,hln⟩:=eI (ms.length);have hlnn:ln=n.moves.length:=by rw[hln,hms]
 rw[← hlnn] at HM;rw[← hlnn];rw[← hln] at hc1 hr2 hml2;replace hr2:=qh hr2;replace hm:=qh hm;have Hhm2:=qh hm2;clear hm2;have Hhx:=qh hx;clear hx;have Hhms:=qh hms;clear hms;have Hhst:=qh hst;clear hst;have Hhst40:=qh hst40;clear hst40;replace hln:=qh hln;have Hhlnn:=qh hlnn;clear hlnn;clear h hr1
 go_enter Tryz.func133, Tryz.ntmps133
 go_wp2
 go_loopw [13] (fun i wi=>∃ k:Nat,k≤ln∧i = .int .i64 k∧Below w.heap.size w wi ∧
   Bx wi w.heap.size (nfaC n (.slice a1 ln c1) v2 v3) 81 ∧ Bx wi (w.heap.size+1) #[.int .u64 ((loW (x):Nat):Int),.int .u64 ((hiW (x):Nat):Int)] 149 ∧ Bx wi (w.heap.size+1+1) #[.int .u64 0,.int .u64 0] 149 ∧ Bx wi (w.heap.size+1+1+1) #[.int .u64 ((loW ((ms.take k).foldl (Za3 x c) 0):Nat):Int),.int .u64 ((hiW ((ms.take k).foldl (Za3 x c) 0):Nat):Int)] 149)
  (fun i _=>ln-(intOf i).toNat)
 case atStart =>
  refine⟨0,Nat.zero_le _,rfl,((((Below.refl _ _).alloc (Nat.le_refl _) _).alloc (by simp) _).alloc (by simp;omega) _).alloc (by simp;omega) _,(((Bx.new w _ _).alloc _).alloc _).alloc _,?_,?_,?_⟩
  ·simpa using ((Bx.new (w.alloc (.cells (nfaC n (.slice a1 ln c1) v2 v3) 81)) #[.int .u64 ((loW (x):Nat):Int),.int .u64 ((hiW (x):Nat):Int)] 149).alloc (.cells #[.int .u64 0,.int .u64 0] 149)).alloc (.cells #[.int .u64 0,.int .u64 0] 149)
  ·simpa using (Bx.new ((w.alloc (.cells (nfaC n (.slice a1 ln c1) v2 v3) 81)).alloc (.cells #[.int .u64 ((loW (x):Nat):Int),.int .u64 ((hiW (x):Nat):Int)] 149)) #[.int .u64 0,.int .u64 0] 149).alloc (.cells #[.int .u64 0,.int .u64 0] 149)
  simpa using Bx.new (((w.alloc (.cells (nfaC n (.slice a1 ln c1) v2 v3) 81)).alloc (.cells #[.int .u64 ((loW (x):Nat):Int),.int .u64 ((hiW (x):Nat):Int)] 149)).alloc (.cells #[.int .u64 0,.int .u64 0] 149)) #[.int .u64 0,.int .u64 0] 149
 case round =>
  obtain⟨k,hk,rfl,hbi,y0,y1,y2,y3⟩:=hrel;obtain⟨C,hC⟩:=eI ((ms.take k).foldl (Za3 x c) 0);have hC40:C<2 ^ N:=by rw[hC];exact ZcL _ (fun v=>v<2 ^ N) (fun v m hmm hv=>Zdk Hhm2.out hmm hv) (Nat.two_pow_pos N) k
  rw[← hC] at y3;by_cases hlt:k<ln
  ·have hlt':k<ms.length:=by rw[← hln.out];exact hlt
   obtain⟨b1,o1,rfl,-,hbl,hcs⟩:=hr2.out (by omega);obtain⟨p1,p2,p3⟩:=hcs k hlt;replace p1:=(bcell hbi b1 _ hbl).trans p1;replace p2:=(bcell hbi b1 _ hbl).trans p2;replace p3:=(bcell hbi b1 _ hbl).trans p3;have hmm:=Hhm2.out _ (memD (d:=(0,0,0)) hlt');have hsucc:=ZbX (Za3 x c) 0 hlt' (0,0,0);rw[← hC] at hsucc;obtain⟨m,hmd⟩:=eI (ms.getD k (0,0,0));rw[← hmd] at p1 p2 p3 hmm hsucc;obtain⟨f,l,t⟩:=m;simp only at p1 p2 p3 hmm;obtain⟨⟨f0,f1⟩,t0,t1⟩:=hmm;obtain⟨f,rfl⟩:=Int.eq_ofNat_of_zero_le f0;obtain⟨t,rfl⟩:=Int.eq_ofNat_of_zero_le t0;have hal:=(Below.refl wr.heap.size wr).alloc (Nat.le_refl _) (.cells #[.int .i64 (f:Int),.int .i64 l,.int .i64 (t:Int)] 117);have z0:=y0.below hal y0.lt;have z1:=y1.below hal y1.lt;have z2:=y2.below hal y2.lt;have z4:=y3.below hal y3.lt;have z3:=Bx.new wr #[.int .i64 (f:Int),.int .i64 l,.int .i64 (t:Int)] 117;have hB:=hbi.alloc hbi.size (.cells #[.int .i64 (f:Int),.int .i64 l,.int .i64 (t:Int)] 117);have d0:=z1.cell 0;have d1:=z1.cell 1;simp only[w_5,w_6,w_7] at d0 d1;have hkk:(k:Int)<ln:=by omega
   replace hC:=qh hC;have HhC40:=qh hC40;clear hC40;have Hhsucc:=qh hsucc;clear hsucc;have Hhmd:=qh hmd;clear hmd;have Hhbi:=qh hbi;clear hbi;have Hy0:=qh y0;clear y0;have Hy1:=qh y1;clear y1;have Hy2:=qh y2;clear y2;have Hy3:=qh y3;clear y3;have Hhal:=qh hal;clear hal;have Hz0:=qh z0;clear z0;have Hz1:=qh z1;clear z1;have Hz2:=qh z2;clear z2;have Hz3:=qh z3;clear z3;have Hz4:=qh z4;clear z4;replace hB:=qh hB;clear hcs;by_cases hl:l=c
   ·subst hl;cases hf:x.testBit f
    all_goals
     have Hhf:=qh hf;clear hf;go_wp2_with fail;refine(Zc2 x f (ltW hN Hhx.out) (by omega) _ _ Hhf.out).mono ?_;rintro e w2 ⟨rfl,hb2⟩;have q0:=Hz0.out.below hb2 Hz0.out.lt;have q1:=Hz1.out.below hb2 Hz1.out.lt;have q2:=Hz2.out.below hb2 Hz2.out.lt;have q3:=Hz3.out.below hb2 Hz3.out.lt;have q4:=Hz4.out.below hb2 Hz4.out.lt;have hB2:=hB.out.trans (hb2.mono hB.out.size);have Hq0:=qh q0;clear q0;have Hq1:=qh q1;clear q1;have Hq2:=qh q2;clear q2;have Hq3:=qh q3;clear q3;have Hq4:=qh q4;clear q4;have HhB2:=qh hB2;clear hB2;clear hb2 d0 d1
    ·have hst:=Hhsucc.out.trans (ZdG (by simp[Hhf.out]));have Hhst:=qh hst;clear hst;go_wp2;go_roundw
     case rel=>exact⟨k+1,by omega,by go_num,HhB2.out,Hq0.out,Hq1.out,Hq2.out,by rw[Hhst.out];exact Hq4.out⟩
     case measure=>simp[intOf];omega
    have d0:=Hq4.out.cell 0;have d1:=Hq4.out.cell 1;have d2:=Hq3.out.cell 2;simp only[w_5,w_6,w_7] at d0 d1 d2;go_wp2_with fail;refine(Zdn C t (ltW hN HhC40.out) (by omega) _).mono ?_;rintro e w4 ⟨rfl,hb4⟩;have s0:=Hq0.out.below hb4 Hq0.out.lt;have s1:=Hq1.out.below hb4 Hq1.out.lt;have s2:=Hq2.out.below hb4 Hq2.out.lt;have s4:=Hq4.out.below hb4 Hq4.out.lt;have hB4:=HhB2.out.trans (hb4.mono HhB2.out.size);have g0:=s4.cell 0;have g1:=s4.cell 1;have i0:=s4.fr 0;have i1:=s4.fr 1;simp only[w_5,w_6,w_7] at g0 g1;have Hs0:=qh s0;clear s0;have Hs1:=qh s1;clear s1;have Hs2:=qh s2;clear s2;have Hs4:=qh s4;clear s4;have HhB4:=qh hB4;clear hB4;clear hb4 d0 d1 d2;go_wp2;go_roundw
    case rel =>
     have hcm:Za3 x l C ((f:Int),l,(t:Int))=adj C t:=by unfold Za3;simp[Hhf.out]
     have hs2:=Hhsucc.out.trans hcm;refine⟨k+1,by omega,by go_num,(HhB4.out.setCell (by simp;omega) _).setCell (by simp;omega) _,(Hs0.out.set_ne _ _ (show w.heap.size≠w.heap.size+1+1+1 by omega)).set_ne _ _ (show w.heap.size≠w.heap.size+1+1+1 by omega),(Hs1.out.set_ne _ _ (show w.heap.size+1≠w.heap.size+1+1+1 by omega)).set_ne _ _ (show w.heap.size+1≠w.heap.size+1+1+1 by omega),(Hs2.out.set_ne _ _ (show w.heap.size+1+1≠w.heap.size+1+1+1 by omega)).set_ne _ _ (show w.heap.size+1+1≠w.heap.size+1+1+1 by omega),?_⟩;rw[hs2];have:=(Hs4.out.set 0 (.int .u64 ((loW (adj C t):Nat):Int))).set 1 (.int .u64 ((hiW (adj C t):Nat):Int));simpa using this
    case measure=>simp[intOf];omega
   have hst:=Hhsucc.out.trans (ZdG (by simp[hl]));have hl1:(l==c)=false:=by simpa using hl
   have Hhst:=qh hst;clear hst;have Hhl:=qh hl;clear hl;go_wp2;go_roundw
   case rel=>exact⟨k+1,by omega,by go_num,hB.out,Hz0.out,Hz1.out,Hz2.out,by rw[Hhst.out];exact Hz4.out⟩
   case measure=>simp[intOf];omega
  have hkn:(ms.take k).foldl (Za3 x c) 0=ms.foldl (Za3 x c) 0:=by rw[List.take_of_length_le (by rw[← hln.out];omega)]
  have hkl:k=ln:=by omega
  have HM':=qh (HM.out.below hbi);have d0:=y0.cell 0;have d1:=y0.cell 1;have d2:=y0.cell 2;have d3:=y0.cell 3;have e0:=y3.cell 0;have e1:=y3.cell 1;simp only[nfaC,w_5,w_6,w_7] at d0 d1 d2 d3 e0 e1;replace hC:=qh hC;have Hhkn:=qh hkn;clear hkn;have Hhbi:=qh hbi;clear hbi;have Hy0:=qh y0;clear y0;have Hy1:=qh y1;clear y1;have Hy2:=qh y2;clear y2;have Hy3:=qh y3;clear y3;have HhC40:=qh hC40;clear hC40;have Hhkl:=qh hkl;clear hkl;go_wp2_with fail;refine(Zel N hN n C (.slice a1 ln c1) v2 v3 _ hm.out (by omega) HhC40.out HM'.out).mono ?_;rintro e w2 ⟨rfl,hb2⟩;have q2:=Hy2.out.below hb2 Hy2.out.lt;have hB2:=Hhbi.out.trans (hb2.mono Hhbi.out.size);have g0:=q2.cell 0;have g1:=q2.cell 1;have i0:=q2.fr 0;have i1:=q2.fr 1;simp only[w_5,w_6,w_7] at g0 g1;obtain⟨V,hV⟩:=eI (clV N n.moves C);rw[← hV];have hVs:V=stV N n.moves x c:=by rw[hV,Hhst.out,Hhms.out,hC.out,Hhkn.out,Hhms.out]
  have Hq2:=qh q2;clear q2;have HhB2:=qh hB2;clear hB2;have HhV:=qh hV;clear hV;have HhVs:=qh hVs;clear hVs;clear hb2 d0 d1 d2 d3 e0 e1;go_wp2;have q:=(Hq2.out.set 0 (.int .u64 ((loW (V):Nat):Int))).set 1 (.int .u64 ((hiW (V):Nat):Int));have q0:=q.cell 0;have q1:=q.cell 1;simp only[w_5,w_6,w_7,w_1,w_2,w_3] at q0 q1;refine bodyPost_ret (v:=setW V) (by simp[results,Tryz.results133,go_sem,q0,q1]) rfl ⟨by rw[HhVs.out],(HhB2.out.setCell (by simp;omega) _).setCell (by simp;omega) _⟩
end Go.Proofs.YtncekbbhgipdlaaGreat
namespace Go.Proofs.YtncekbbhgipdlaaGreat
open Go.RowKit
def fstW (N:Nat) (n:NfaD):Nat:=clV N n.moves (setV n.firsts)
theorem Zc9 (N:Nat) (hN:N≤128) (n:NfaD) (v1 v2 v3:Value) (w:World) (hm:mvIn N n.moves) (hml:n.moves.length≤1000000) (hs:inN N n.firsts) (hsl:n.firsts.length≤1000000) (h1:Moves 0 w v1 n.moves) (h2:Ints 0 w v2 n.firsts) :
  Calls Tryz.prog 132 #[.agg (nfaC n v1 v2 v3)] w fun e w'=>e = .returned (setW (fstW N n))∧Below w.heap.size w w':=by
 obtain⟨V,hV⟩:=eI (fstW N n);rw[← hV];obtain⟨W,hW⟩:=eI (((w.alloc (.cells (nfaC n v1 v2 v3) 81)).alloc (.cells #[.int .u64 0,.int .u64 0] 149)));have hWB:Below w.heap.size w W:=by rw[hW];exact((Below.refl _ _).alloc (Nat.le_refl _) _).alloc (by simp) _
 have x0:Bx W w.heap.size (nfaC n v1 v2 v3) 81:=by rw[hW];exact(Bx.new w _ _).alloc _
 have x1:Bx W (w.heap.size+1) #[.int .u64 0,.int .u64 0] 149:=by rw[hW];simpa using (Bx.new (w.alloc (.cells (nfaC n v1 v2 v3) 81)) #[.int .u64 0,.int .u64 0] 149)
 have hl0:=x0.lt;have c0:=x0.cell 0;have c1:=x0.cell 1;have c2:=x0.cell 2;have c3:=x0.cell 3;simp only[nfaC,w_5,w_6,w_7] at c0 c1 c2 c3;have Hk:=qh (fun (w':World) (h:Below W.drew.heap.size W.drew w')=>(show w'.cell? ⟨w.heap.size,0,none⟩=some (.int .i64 n.states)∧w'.cell? ⟨w.heap.size,1,none⟩=some v1∧w'.cell? ⟨w.heap.size,2,none⟩=some v2∧w'.cell? ⟨w.heap.size,3,none⟩=some v3 from⟨(bcell h _ _ hl0).trans c0,(bcell h _ _ hl0).trans c1,(bcell h _ _ hl0).trans c2,(bcell h _ _ hl0).trans c3⟩))
 have HF:=qh (fun (w':World) (h:Below W.drew.heap.size W.drew w')=>(show Bx w' (w.heap.size+1) #[.int .u64 0,.int .u64 0] 149 ∧ w'.cell? ⟨w.heap.size+1,0,none⟩=some (.int .u64 0)∧w'.cell? ⟨w.heap.size+1,1,none⟩=some (.int .u64 0)∧w'.frozen? ⟨w.heap.size+1,0,none⟩=false∧w'.frozen? ⟨w.heap.size+1,1,none⟩=false from
  have q:=x1.drew.below h x1.lt
  ⟨q,q.cell 0,q.cell 1,q.fr 0,q.fr 1⟩))
 have H1:=qh (h1.below hWB.drew);have H2:=qh (h2.below hWB.drew);replace hV:=qh hV;have Hhm:=qh hm;clear hm;have Hhs:=qh hs;clear hs;have HhWB:=qh hWB;clear hWB;have Hx0W:=qh hW;clear hW;have Hx0:=qh x0;clear x0;have Hx1:=qh x1;clear x1;clear h1 h2
 go_enter Tryz.func132, Tryz.ntmps132
 go_wp2_with fail;rw[← Hx0W.out]
 go_region_held3 (fun w'=>w'.cell? ⟨w.heap.size,0,none⟩=some (.int .i64 n.states)∧w'.cell? ⟨w.heap.size,1,none⟩=some v1∧w'.cell? ⟨w.heap.size,2,none⟩=some v2∧w'.cell? ⟨w.heap.size,3,none⟩=some v3)
  (first|go_keep|exact Hk.out _ hq0|exact Hk.out _ hq1)
  (first
   | (go_at_call 159;(with_reducible refine(Zli N hN n.firsts _ _ Hhs.out hsl H2.out).mono ?_);rintro e u0 ⟨rfl,hq0⟩)
   | (go_at_call 158;(with_reducible refine(Zel N hN n _ _ _ _ _ Hhm.out hml (Zf6 Hhs.out) (H1.out.below hq0)).mono ?_);rintro e u1 ⟨rfl,hb1⟩;have hq1:=hq0.trans (hb1.mono hq0.size);obtain⟨y1,g0,g1,i0,i1⟩:=HF.out u1 hq1))
 go_wp2;have hVe:clV N n.moves (setV n.firsts)=V:=hV.out.symm;rw[hVe];have q:=(y1.set 0 (.int .u64 ((loW (V):Nat):Int))).set 1 (.int .u64 ((hiW (V):Nat):Int));have q0:=q.cell 0;have q1:=q.cell 1;simp only[w_5,w_6,w_7,w_1,w_2,w_3] at q0 q1;refine bodyPost_ret (v:=setW V) (by simp[results,Tryz.results132,go_sem,q0,q1]) rfl ⟨rfl,?_⟩;exact((HhWB.out.drew.trans (hq1.mono HhWB.out.drew.size)).setCell (by simp) _).setCell (by simp) _
theorem ZeX (N:Nat) (hN:N≤128) (xs:List Int) (v:Value) (x:Nat) (w:World) (hx:x<2 ^ N) (hs:inN N xs) (h1:Ints 0 w v xs) :
  Calls Tryz.prog 141 #[v,.func (.func 160) #[setW x] #[]] w fun e w'=>e = .returned (.int .i64 (ZcF (fun s=>x.testBit s.toNat) xs))∧Below w.heap.size w w':=by
 obtain⟨a1,c1,rfl,hc1,hm1,hr1⟩:=h1.form;replace hs:=qh hs;replace hr1:=qh hr1;clear h1
 go_enter Tryz.func141, Tryz.ntmps141
 go_wp2
 go_loopw [4,8] (fun r i wr=>∃ k:Nat,k≤xs.length∧i = .int .i64 k∧(xs.take k).any (fun s=>x.testBit s.toNat)=false∧Below w.heap.size w wr) (fun _ i _=>xs.length-(intOf i).toNat)
 case atStart=>exact⟨0,Nat.zero_le _,rfl,rfl,Below.refl _ _⟩
 case round =>
  obtain⟨k,hk,rfl,htk,hb⟩:=hrel;have Hhtk:=qh htk;clear htk;by_cases hlt:k<xs.length
  ·obtain⟨b1,o1,rfl,hB1,hbl1,hcs1⟩:=hr1.out (by omega);have hx1:=(bcell hb b1 (o1+k) hbl1).trans (hcs1 k hlt);have hin:=hs.out (xs.getD k 0) (memD (d:=0) hlt);obtain⟨s,hss⟩:=eI (xs.getD k 0);rw[← hss] at hx1 hin;obtain⟨s0,s1⟩:=hin;obtain⟨s,rfl⟩:=Int.eq_ofNat_of_zero_le s0;have Hhss:=qh hss;clear hss;replace hb:=qh hb;clear hcs1 hB1;cases hbd:x.testBit s
   all_goals
    have Hhbd:=qh hbd;clear hbd;go_wp2_with (go_at_call 160;refine(Zc2 x s (ltW hN hx) (by omega) _ _ Hhbd.out).mono ?_;rintro e w' ⟨rfl,hb'⟩;have Hb':=qh (hb.out.trans (hb'.mono hb.out.size));clear hb')
   ·go_roundw
    case rel=>exact⟨k+1,by omega,by go_num,Zlf (d:=0) hlt Hhtk.out (by rw[← Hhss.out];exact Hhbd.out),Hb'.out⟩
    case measure=>simp[intOf];omega
   go_ret;exact⟨ZeL (by rw[Zfi (d:=0) hlt Hhtk.out (by rw[← Hhss.out];exact Hhbd.out)]),Hb'.out⟩
  replace hb:=qh hb;go_wp2;go_ret;exact⟨ZeL (by rw[Zew (by omega) Hhtk.out]),hb.out⟩
theorem ZdS (N:Nat) (hN:N≤128) (xs:List Int) (v:Value) (x:Nat) (w:World) (hx:x<2 ^ N) (hs:inN N xs) (h1:Ints 0 w v xs) (r:Bool) (hr:xs.any (fun s=>x.testBit s.toNat)=r) :
  Calls Tryz.prog 108 #[v,.func (.func 160) #[setW x] #[]] w fun e w'=>e = .returned (.bool r)∧Below w.heap.size w w':=by
 obtain⟨a1,c1,hv,-⟩:=h1.form;have H1:=qh h1;subst hv;clear h1;replace hr:=qh hr
 go_enter Tryz.func108, Tryz.ntmps108
 go_wp2_with (go_at_call 141;refine(ZeX N hN xs _ x _ hx hs H1.out).mono ?_;rintro e w' ⟨rfl,hb'⟩;replace hb':=qh hb');go_ret;exact⟨ZaT (by rw[← hr.out,Zfj]),hb'.out⟩
theorem Zi0 (N:Nat) (hN:N≤128) (n:NfaD) (x:Nat) (v1 v2 v3:Value) (w:World) (hx:x<2 ^ N) (hs:inN N n.ends) (h3:Ints 0 w v3 n.ends) (r:Bool) (hr:endV n x=r) :
  Calls Tryz.prog 134 #[.agg (nfaC n v1 v2 v3),setW x] w fun e w'=>e = .returned (.bool r)∧Below w.heap.size w w':=by
 have H3:=qh h3;replace hr:=qh hr;have Hhs:=qh hs;clear hs;clear h3
 go_enter Tryz.func134, Tryz.ntmps134
 go_wp2_with (go_at_call 108;refine(ZdS N hN n.ends v3 x _ hx Hhs.out (H3.out.below (((Below.refl _ _).alloc (Nat.le_refl _) _).alloc (by simp) _)) _ hr.out).mono ?_;rintro e w' ⟨rfl,hb'⟩;replace hb':=qh hb');go_ret;exact⟨rfl,(((Below.refl _ _).alloc (Nat.le_refl _) _).alloc (by simp) _).trans (hb'.out.mono (by simp;omega))⟩
end Go.Proofs.YtncekbbhgipdlaaGreat
