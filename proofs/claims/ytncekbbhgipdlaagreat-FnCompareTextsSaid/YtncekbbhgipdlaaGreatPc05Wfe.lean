/-
  The walks over impl.product with the functions that combine hands to it, and over sideBySide.
  Conditions: the automata read as such and are valid.
-/
import Derived.Test.YtncekbbhgipdlaaGreatPc04Jw
set_option maxHeartbeats 4000000
set_option maxRecDepth 100000
namespace Go.Proofs.YtncekbbhgipdlaaGreat
open Go.RowKit Go.Maps
theorem Zpz (x y r:Bool) (hr:(x||y)=r) (w:World):Calls Tryz.prog 102 #[.bool x,.bool y] w fun e w'=>e = .returned (.bool r)∧w=w':=by subst hr;cases x<;>cases y<;>(go_enter Tryz.func102, Tryz.ntmps102;go_wp2;go_ret;exact⟨rfl,rfl⟩)
theorem Zjf (a b:DfaD) (x:Int × Int) (I J L:Nat) (w:World) (hda:Zac a.next a.ends=true) (hdb:Zac b.next b.ends=true) (hf:Bx w I #[.func (.func 102) #[] #[]] 98) (h1:DfaAt w J a) (h2:DfaAt w L b) (hx:ZbG a b x=true) :
  Calls Tryz.prog 154 #[.agg #[.int .i64 x.1,.int .i64 x.2],.pointer (some ⟨I,0,none⟩),.pointer (some ⟨J,0,none⟩),.pointer (some ⟨L,0,none⟩)] w fun e w'=>e = .returned (.bool (Zba (fun x y=>x||y) a b x))∧Below w.heap.size w w':=by
 obtain⟨i,j,rfl,hi,hj⟩:=Zbf hx;have G:=Zaf hda;have H:=Zaf hdb;obtain⟨p,m,D,-,g1⟩:=h1;obtain⟨s,q,C,-,g2⟩:=h2;obtain⟨u,o1,c1,rfl,M,T,e1,l⟩:=Zcx g1 (i:=i) (by omega);obtain⟨n,o2,c2,rfl,P,S,e2,g⟩:=Zcx g2 (i:=j) (by omega);obtain⟨Q,E⟩:=eI (a.ends.getD i false);obtain⟨R,F⟩:=eI (b.ends.getD j false);rw[← E] at e1;rw[← F] at e2;obtain⟨r,hr⟩:=eJ ((Q||R));have B:Zba (fun x y=>x||y) a b ((i:Int),(j:Int))=r:=by rw[← hr,E,F];rfl
 rw[B];have U:=D.cell 1;have Y:=C.cell 1;have N:=hf.cell 0;simp only[w_5,w_6,w_7] at U Y N;have z:=D.lt;have k:=C.lt;have c:=hf.lt;obtain⟨l1,l2,V⟩:=G;obtain⟨l4,d,O⟩:=H;have X:(i:Int)<a.ends.length:=by omega
 have Z:(j:Int)<b.ends.length:=by omega
 have Hr:=qh hr;clear g1 g2 D C E F hx hda hdb hf B hr V O
 go_enter Tryz.func154, Tryz.ntmps154
 go_wp2
 go_quiet ((go_at_call 102;with_reducible exact Ze4 (Zpz _ _ _ Hr.o _)))
 go_wp2;go_ret;exact⟨rfl,below_drewN ((Below.refl _ _).alloc (Nat.le_refl _) _) _⟩
theorem ZpA (x y r:Bool) (hr:(x&&y)=r) (w:World):Calls Tryz.prog 103 #[.bool x,.bool y] w fun e w'=>e = .returned (.bool r)∧w=w':=by subst hr;cases x<;>cases y<;>(go_enter Tryz.func103, Tryz.ntmps103;go_wp2;go_ret;exact⟨rfl,rfl⟩)
theorem Zjg (a b:DfaD) (x:Int × Int) (I J L:Nat) (w:World) (hda:Zac a.next a.ends=true) (hdb:Zac b.next b.ends=true) (hf:Bx w I #[.func (.func 103) #[] #[]] 98) (h1:DfaAt w J a) (h2:DfaAt w L b) (hx:ZbG a b x=true) :
  Calls Tryz.prog 154 #[.agg #[.int .i64 x.1,.int .i64 x.2],.pointer (some ⟨I,0,none⟩),.pointer (some ⟨J,0,none⟩),.pointer (some ⟨L,0,none⟩)] w fun e w'=>e = .returned (.bool (Zba (fun x y=>x&&y) a b x))∧Below w.heap.size w w':=by
 obtain⟨i,j,rfl,hi,hj⟩:=Zbf hx;have G:=Zaf hda;have H:=Zaf hdb;obtain⟨p,m,D,-,g1⟩:=h1;obtain⟨s,q,C,-,g2⟩:=h2;obtain⟨u,o1,c1,rfl,M,T,e1,l⟩:=Zcx g1 (i:=i) (by omega);obtain⟨n,o2,c2,rfl,P,S,e2,g⟩:=Zcx g2 (i:=j) (by omega);obtain⟨Q,E⟩:=eI (a.ends.getD i false);obtain⟨R,F⟩:=eI (b.ends.getD j false);rw[← E] at e1;rw[← F] at e2;obtain⟨r,hr⟩:=eJ ((Q&&R));have B:Zba (fun x y=>x&&y) a b ((i:Int),(j:Int))=r:=by rw[← hr,E,F];rfl
 rw[B];have U:=D.cell 1;have Y:=C.cell 1;have N:=hf.cell 0;simp only[w_5,w_6,w_7] at U Y N;have z:=D.lt;have k:=C.lt;have c:=hf.lt;obtain⟨l1,l2,V⟩:=G;obtain⟨l4,d,O⟩:=H;have X:(i:Int)<a.ends.length:=by omega
 have Z:(j:Int)<b.ends.length:=by omega
 have Hr:=qh hr;clear g1 g2 D C E F hx hda hdb hf B hr V O
 go_enter Tryz.func154, Tryz.ntmps154
 go_wp2
 go_quiet ((go_at_call 103;with_reducible exact Ze4 (ZpA _ _ _ Hr.o _)))
 go_wp2;go_ret;exact⟨rfl,below_drewN ((Below.refl _ _).alloc (Nat.le_refl _) _) _⟩
theorem Zf9 (φ:Fn) (f:Bool→Bool→Bool) (a b:DfaD) (most:Nat) (v1 v2:Value) (w:World) (hda:Zac a.next a.ends=true) (hdb:Zac b.next b.ends=true) (Z:0<most) (i:most≤100000) (R:∀ (x:Int × Int) (p m n:Nat) (w:World),Bx w p #[.func φ #[] #[]] 98 → DfaAt w m a→DfaAt w n b→ZbG a b x=true→Calls Tryz.prog 154 #[.agg #[.int .i64 x.1,.int .i64 x.2],.pointer (some ⟨p,0,none⟩),.pointer (some ⟨m,0,none⟩),.pointer (some ⟨n,0,none⟩)] w fun e w'=>e = .returned (.bool (Zba f a b x))∧Below w.heap.size w w') (h1:DfaR 0 w v1 a) (h2:DfaR 0 w v2 b) :
  Calls Tryz.prog 119 #[v1,v2,.int .i64 most,.func φ #[] #[]] w fun e w'=>RExp (Zan a b) (Zba f a b) most w.heap.size e w'∧Below w.heap.size w w':=by
 obtain⟨L,P,rfl,g1,g2⟩:=h1;obtain⟨N,M,rfl,g3,g4⟩:=h2
 go_enter Tryz.func119, Tryz.ntmps119
 go_wp2_with fail;obtain⟨W,H⟩:=eI (((((w.alloc (.cells #[L,P] 44)).alloc (.cells #[N,M] 44)).alloc (.cells #[.func φ #[] #[]] 98)).alloc (.cells #[.slice none 0 0,.slice none 0 0] 44)));have B:Below w.heap.size w W:=by rw[H];exact((((Below.refl _ _).alloc (Nat.le_refl _) _).alloc (by simp) _).alloc (by simp;omega) _).alloc (by simp;omega) _
 have k:Bx W w.heap.size #[L,P] 44:=by rw[H];exact(((Bx.new w _ _).alloc _).alloc _).alloc _
 have q:Bx W (w.heap.size+1) #[N,M] 44:=by rw[H];simpa using ((Bx.new (w.alloc (.cells #[L,P] 44)) #[N,M] 44).alloc _).alloc _
 have g:Bx W (w.heap.size+1+1) #[.func φ #[] #[]] 98:=by rw[H];simpa using (Bx.new ((w.alloc (.cells #[L,P] 44)).alloc (.cells #[N,M] 44)) #[.func φ #[] #[]] 98).alloc _
 have d:Bx W (w.heap.size+1+1+1) #[.slice none 0 0,.slice none 0 0] 44:=by rw[H];simpa using Bx.new (((w.alloc (.cells #[L,P] 44)).alloc (.cells #[N,M] 44)).alloc (.cells #[.func φ #[] #[]] 98)) #[.slice none 0 0,.slice none 0 0] 44
 have j:DfaAt W w.heap.size a:=⟨L,P,k,g1.below B,g2.below B⟩;have Y:DfaAt W (w.heap.size+1) b:=⟨N,M,q,g3.below B,g4.below B⟩;have hz:=d.lt;rw[← H]
 refine(ZdW (Zan a b) (Zba f a b) (fun x=>ZbG a b x=true) most (w.heap.size+1+1) w.heap.size (w.heap.size+1) W (Zci hda hdb) (fun x c hc hx=>Zcj hda hdb hc hx) (fun x hx=>ZiH hda hdb hx) Z i
  (fun x c w' hx hc hb=>Zga a b x c _ _ w' hda hdb (j.below hb) (Y.below hb) hx hc)
  (fun x w' hx hb=>R x _ _ _ w' (g.below hb g.lt) (j.below hb) (Y.below hb) hx)).mono ?_
 rintro e w2 ⟨hr,hb2⟩;have O:=d.below hb2 hz;have r0:=O.cell 0;have r1:=O.cell 1;have u:=O.fr 0;have f1:=O.fr 1;simp only[w_5,w_6,w_7] at r0 r1;unfold RExp at hr;have C:=B.trans (hb2.mono B.size);have I:w.heap.size≤W.heap.size:=B.size;replace C:=qh C;have E:=qh O;clear O;clear R j Y k q g d g1 g2 g3 g4 hda hdb H B hb2;by_cases hle:(bat (Zan a b) (0,0) most).met.length≤most
 ·rw[if_pos hle] at hr;obtain⟨an,cn,ae,ce,am,cm,rfl,⟨s,r,hq,J,G⟩,hp⟩:=hr;simp only[Value.agg.injEq] at hq;have e1:=congrArg (fun (l:Array Value)=>l[0]?) hq;have e2:=congrArg (fun (l:Array Value)=>l[1]?) hq;simp at e1 e2;subst e1;subst e2;clear hq;obtain⟨F,U⟩:=eI ((bat (Zan a b) (0,0) most).met);rw[← U] at J G hp hle;rw[← U];have V:=qh J;clear J;have T:=qh G;clear G;have X:=qh hp;clear hp;replace U:=qh U;go_wp2;have b1:=E.o.set 0 (.slice an F.length cn);have b2:=b1.set 1 (.slice ae F.length ce);have Q:=b2.cell 0;have S:=b2.cell 1;simp only[w_5,w_6,w_7,w_1,w_2,w_3] at Q S;have g1:=ZaA w2 (w.heap.size+1+1+1) 0 (.slice an F.length cn);have g2:=ZaA (w2.setCell ⟨w.heap.size+1+1+1,0,none⟩ (.slice an F.length cn)) (w.heap.size+1+1+1) 1 (.slice ae F.length ce);refine bodyPost_ret (v:=.tuple #[.agg #[.slice an F.length cn,.slice ae F.length ce],.slice am F.length cm,.bool true]) (by simp[results,Tryz.results119,go_sem,Q,S]) rfl ⟨?_,?_⟩
  ·unfold RExp;rw[← U.o,if_pos hle];have ha:∀ e,44 ≠ e→ZbF w2 (some (w.heap.size+1+1+1)) e:=fun e he=>E.o.apart he
   have D:∀ e,44 ≠ e→ZbF (w2.setCell ⟨w.heap.size+1+1+1,0,none⟩ (.slice an F.length cn)) (some (w.heap.size+1+1+1)) e:=fun e he=>b1.apart he
   refine⟨_,_,_,_,_,_,rfl,⟨_,_,rfl,?_,?_⟩,?_⟩
   ·exact((V.o.grown g1 (ha _ (by decide)) (ha _ (by decide))).grown g2 (D _ (by decide)) (D _ (by decide))).mono I (by simp)
   ·exact Own.mono (Own.grown (Own.grown T.o g1 (ha _ (by decide))) g2 (D _ (by decide))) I (by simp)
   exact Own.mono (Own.grown (Own.grown X.o g1 (ha _ (by decide))) g2 (D _ (by decide))) I (by simp)
  exact(C.o.setCell (by simp;omega) _).setCell (by simp;omega) _
 rw[if_neg hle] at hr;subst hr;go_wp2;have b1:=E.o.set 0 (.slice none 0 0);have b2:=b1.set 1 (.slice none 0 0);have Q:=b2.cell 0;have S:=b2.cell 1;simp only[w_5,w_6,w_7,w_1,w_2,w_3] at Q S;refine bodyPost_ret (v:=.tuple #[.agg #[.slice none 0 0,.slice none 0 0],.slice none 0 0,.bool false]) (by simp[results,Tryz.results119,go_sem,Q,S]) rfl ⟨?_,?_⟩
 ·unfold RExp;rw[if_neg hle]
 exact(C.o.setCell (by simp;omega) _).setCell (by simp;omega) _
theorem Zfp (φ:Fn) (f:Bool→Bool→Bool) (K:Nat) (l:K=40) (a b:DfaD) (D:DfaD) (fb:Bool) (I:((ZbV K f a b).map minD).getD zeD=D) (C:((ZbV K f a b).map minD).isSome=fb) (v1 v2:Value) (w:World) (hda:Zac a.next a.ends=true) (hdb:Zac b.next b.ends=true) (s:∀ (x:Int × Int) (bf ba bb:Nat) (w:World),Bx w bf #[.func φ #[] #[]] 98 → DfaAt w ba a→DfaAt w bb b→ZbG a b x=true→Calls Tryz.prog 154 #[.agg #[.int .i64 x.1,.int .i64 x.2],.pointer (some ⟨bf,0,none⟩),.pointer (some ⟨ba,0,none⟩),.pointer (some ⟨bb,0,none⟩)] w fun e w'=>e = .returned (.bool (Zba f a b x))∧Below w.heap.size w w') (h1:DfaR 0 w v1 a) (h2:DfaR 0 w v2 b) :
  Calls Tryz.prog 101 #[v1,v2,.func φ #[] #[]] w fun e w'=>RTt D fb w.heap.size e w'∧Below w.heap.size w w':=by
 have H1:=h1;have H2:=h2;obtain⟨n,z,rfl,g1,g2⟩:=h1;obtain⟨q,p,rfl,g3,g4⟩:=h2;have F:=(((St.start w).alloc _ rfl #[n,z] 44).alloc (w.heap.size+1) (by simp) #[q,p] 44).alloc (w.heap.size+1+1) (by simp) #[.slice none 0 0,.slice none 0 0] 44;have R:=fun (W:World) (hb:Below w.heap.size w W)=>Zf9 φ f a b K (.agg #[n,z]) (.agg #[q,p]) W hda hdb (by omega) (by omega) s (H1.below hb) (H2.below hb)
 have U:((K:Nat):Int)=40:=by omega
 rw[U] at R;have y:=qh R;replace F:=qh F;have Z:=qh I;clear I;have P:=qh C;clear C;replace l:=qh l;clear R H1 H2 g1 g2 g3 g4 hda hdb U
 go_enter Tryz.func101, Tryz.ntmps101
 have e0:=F.o.cell (v:=n) 0 0 rfl rfl;have e1:=F.o.cell (v:=z) 0 1 rfl rfl;have e2:=F.o.cell (v:=q) 1 0 rfl rfl;have e3:=F.o.cell (v:=p) 1 1 rfl rfl;go_wp2_with fail;refine(y.o _ F.o.bel).mono ?_;rintro e w3 ⟨hr,N⟩;unfold RExp at hr;by_cases hle:(metP a b K).length≤K
 ·rw[if_pos hle] at hr;obtain⟨an,cn,ae,ce,am,cm,rfl,B,-⟩:=hr;have H:ZbV K f a b=some (Zar (Zan a b) (Zba f a b) (metP a b K)):=if_pos hle;obtain⟨X,i⟩:=eI (Zar (Zan a b) (Zba f a b) (metP a b K));have Q:X.next.length=(metP a b K).length:=by rw[i];exact ZaW _ _ _
  have S:X.ends.length=(metP a b K).length:=by rw[i];simp[Zar]
  rw[← i] at B H;have I:=Z.o;have C:=P.o;rw[H] at I C;have I:minD X=D:=I;have C:true=fb:=C;subst I;subst C;obtain⟨L,j⟩:=eI ((metP a b K).length);rw[← j] at B Q S hle;rw[← j];have aC:(L:Int)≤40:=by have:=l.o;omega
  have T:Zac X.next X.ends=true:=ZbP l.o H;have E:=(F.o.call N).alloc _ rfl #[.slice an L cn,.slice ae L ce] 44;have c:DfaR 0 (w3.alloc (.cells #[.slice an L cn,.slice ae L ce] 44)) (.agg #[.slice an L cn,.slice ae L ce]) X:=(B.r.mono (Nat.zero_le _)).below ((Below.refl _ _).alloc (Nat.le_refl _) _);have d0:=E.cell (v:=.slice an L cn) 3 0 rfl rfl;have d1:=E.cell (v:=.slice ae L ce) 3 1 rfl rfl;have J:=qh E;have aA:=qh c;have aD:=qh Q;clear Q;have aF:=qh S;clear S;have aE:=qh H;clear H;have Y:=qh T;clear T;have aH:=qh i;clear i;have aG:=qh j;clear j;clear B N hle E c e0 e1 e2 e3;go_wp2_with fail;refine(Zck X _ _ Y.o aA.o).mono ?_;rintro e w5 ⟨a1,c1,a2,c2,rfl,B,d⟩;obtain⟨M,k⟩:=eI (minD X);rw[← k] at B;rw[← k];have G:=J.o.call d;have f0:=G.fr 2 0 rfl;have f1:=G.fr 2 1 rfl;have k0:=G.cell (v:=.slice none 0 0) 2 0 rfl rfl;have k1:=G.cell (v:=.slice none 0 0) 2 1 rfl rfl;have V:=DMem.of B J.o.size;have g:=G.box 2 rfl;have aB:=qh G;have m:=qh V;have O:=qh g;clear g;have u:=qh k;clear k;clear G B d V d0 d1;go_wp2;have hq:=(aB.o.set 2 rfl 0 (.slice a1 M.next.length c1)).set 2 rfl 1 (.slice a2 M.ends.length c2);have q0:=hq.cell (v:=.slice a1 M.next.length c1) 2 0 rfl rfl;have q1:=hq.cell (v:=.slice a2 M.ends.length c2) 2 1 rfl rfl
  have hm:=(m.o.set O.o 0 (.slice a1 M.next.length c1)).set (O.o.set 0 _) 1 (.slice a2 M.ends.length c2);refine bodyPost_ret (v:=.tuple #[.agg #[.slice a1 M.next.length c1,.slice a2 M.ends.length c2],.bool true]) (by simp[results,Tryz.results101,go_sem,q0,q1]) rfl ⟨?_,hq.bel⟩;rw[← u.o];exact⟨a1,c1,a2,c2,rfl,_,_,rfl,hm.1,hm.2⟩
 rw[if_neg hle] at hr;subst hr;have H:ZbV K f a b=none:=if_neg hle;have I:=Z.o;have C:=P.o;rw[H] at I C;have I:zeD=D:=I;have C:false=fb:=C;subst I;subst C;have E:=(F.o.call N).alloc _ rfl #[.slice none 0 0,.slice none 0 0] 44;have f0:=E.fr 2 0 rfl;have f1:=E.fr 2 1 rfl;have k0:=E.cell (v:=.slice none 0 0) 2 0 rfl rfl;have k1:=E.cell (v:=.slice none 0 0) 2 1 rfl rfl;have J:=qh E;clear N hle E e0 e1 e2 e3;go_wp2;have hq:=(J.o.set 2 rfl 0 (.slice none 0 0)).set 2 rfl 1 (.slice none 0 0);have q0:=hq.cell (v:=.slice none 0 0) 2 0 rfl rfl;have q1:=hq.cell (v:=.slice none 0 0) 2 1 rfl rfl;refine bodyPost_ret (v:=.tuple #[.agg #[.slice none 0 0,.slice none 0 0],.bool false]) (by simp[results,Tryz.results101,go_sem,q0,q1]) rfl ⟨?_,hq.bel⟩;exact⟨none,0,none,0,rfl,ZiT _ _ _ _ _⟩
theorem Zjt (K:Nat) (H:K=40) (a b:DfaD) (D:DfaD) (fb:Bool) (E:((ZbV K (fun p q=>p||q) a b).map minD).getD zeD=D) (B:((ZbV K (fun p q=>p||q) a b).map minD).isSome=fb) (v1 v2:Value) (w:World) (hda:Zac a.next a.ends=true) (hdb:Zac b.next b.ends=true) (h1:DfaR 0 w v1 a) (h2:DfaR 0 w v2 b) :
  Calls Tryz.prog 101 #[v1,v2,.func (.func 102) #[] #[]] w fun e w'=>RTt D fb w.heap.size e w'∧Below w.heap.size w w' :=
 Zfp _ (fun p q=>p||q) K H a b D fb E B v1 v2 w hda hdb (fun x C F G w' hf g1 g2 hx=>Zjf a b x C F G w' hda hdb hf g1 g2 hx) h1 h2
theorem Zju (K:Nat) (H:K=40) (a b:DfaD) (D:DfaD) (fb:Bool) (E:((ZbV K (fun p q=>p&&q) a b).map minD).getD zeD=D) (B:((ZbV K (fun p q=>p&&q) a b).map minD).isSome=fb) (v1 v2:Value) (w:World) (hda:Zac a.next a.ends=true) (hdb:Zac b.next b.ends=true) (h1:DfaR 0 w v1 a) (h2:DfaR 0 w v2 b) :
  Calls Tryz.prog 101 #[v1,v2,.func (.func 103) #[] #[]] w fun e w'=>RTt D fb w.heap.size e w'∧Below w.heap.size w w' :=
 Zfp _ (fun p q=>p&&q) K H a b D fb E B v1 v2 w hda hdb (fun x C F G w' hf g1 g2 hx=>Zjg a b x C F G w' hda hdb hf g1 g2 hx) h1 h2
end Go.Proofs.YtncekbbhgipdlaaGreat
namespace Go.Proofs.YtncekbbhgipdlaaGreat
open Go.RowKit
def loW (v:Nat):Nat:=v % 2 ^ 64
def hiW (v:Nat):Nat:=v / 2 ^ 64
theorem Zhu (v:Nat):loW v<2 ^ 64:=Nat.mod_lt _ (by omega)
theorem Zo8 {v:Nat} (h:v<2 ^ 128):hiW v<2 ^ 64:=Nat.div_lt_of_lt_mul (by rw[← Nat.pow_add];exact h)
theorem Zhv {v s:Nat} (h:s<64):(loW v).testBit s=v.testBit s:=by unfold loW;rw[Nat.testBit_mod_two_pow];simp[h]
theorem ZhE {v s:Nat} (h:64≤s):(hiW v).testBit (s-64)=v.testBit s:=by unfold hiW;rw[Nat.testBit_div_two_pow];congr 1;omega
theorem ZeY (v s t:Nat):(adj v s).testBit t=(v.testBit t||decide (t=s)):=by rw[ZcB];congr 1;exact decide_eq_decide.2 ⟨Eq.symm,Eq.symm⟩
theorem Zsx {v s:Nat} (h:s<64):loW (adj v s)=adj (loW v) s∧hiW (adj v s)=hiW v:=by
 constructor
 ·refine Nat.eq_of_testBit_eq fun t => ?_
  by_cases ht:t<64
  ·rw[Zhv ht,ZeY,ZeY,Zhv ht]
  have h1:(loW (adj v s)).testBit t=false:=Nat.testBit_lt_two_pow (Nat.lt_of_lt_of_le (Zhu _) (Nat.pow_le_pow_right (by omega) (by omega)));have h2:(loW v).testBit t=false:=Nat.testBit_lt_two_pow (Nat.lt_of_lt_of_le (Zhu _) (Nat.pow_le_pow_right (by omega) (by omega)));rw[h1,ZeY,h2,Bool.false_or];exact(decide_eq_false (by omega)).symm
 refine Nat.eq_of_testBit_eq fun t => ?_
 have e1:=ZhE (v:=adj v s) (s:=t+64) (by omega);have e2:=ZhE (v:=v) (s:=t+64) (by omega);rw[Nat.add_sub_cancel] at e1 e2;rw[e1,e2,ZeY,decide_eq_false (show ¬ t+64=s by omega),Bool.or_false]
theorem ZsA {v s:Nat} (h:64≤s):loW (adj v s)=loW v∧hiW (adj v s)=adj (hiW v) (s-64):=by
 constructor
 ·refine Nat.eq_of_testBit_eq fun t => ?_
  by_cases ht:t<64
  ·rw[Zhv ht,ZeY,Zhv ht,decide_eq_false (show ¬ t=s by omega),Bool.or_false]
  have h1:(loW (adj v s)).testBit t=false:=Nat.testBit_lt_two_pow (Nat.lt_of_lt_of_le (Zhu _) (Nat.pow_le_pow_right (by omega) (by omega)));have h2:(loW v).testBit t=false:=Nat.testBit_lt_two_pow (Nat.lt_of_lt_of_le (Zhu _) (Nat.pow_le_pow_right (by omega) (by omega)));rw[h1,h2]
 refine Nat.eq_of_testBit_eq fun t => ?_
 have e1:=ZhE (v:=adj v s) (s:=t+64) (by omega);have e2:=ZhE (v:=v) (s:=t+64) (by omega);rw[Nat.add_sub_cancel] at e1 e2;rw[e1,ZeY,ZeY,e2];congr 1;exact decide_eq_decide.2 ⟨fun h=>by omega,fun h=>by omega⟩
abbrev setW (v:Nat):Value:=.agg #[.int .u64 (loW v:Int),.int .u64 (hiW v:Int)]
theorem ZkQ (v s:Nat) (B:v<2 ^ 64):(bits BinOp.and IntKind.u64 ((v:Int) / 2 ^ s) 1==1)=v.testBit s:=by
 have e:((v:Int) / 2 ^ s)=((v / 2 ^ s:Nat):Int):=by simp
 have hle:v / 2 ^ s≤v:=Nat.div_le_self _ _;rw[e,Nat.testBit_eq_decide_div_mod_eq]
 generalize v / 2 ^ s=q at hle ⊢
 rw[and_one_u64 _ (by omega) (by omega),Bool.eq_iff_iff];simp;omega
theorem ZmC (v s:Nat) (B:v<2 ^ 64) (hs:s<64):bits BinOp.or IntKind.u64 (v:Int) (IntKind.u64.wrap (2 ^ s))=((adj v s:Nat):Int):=by
 have e:((2:Int) ^ s)=((2 ^ s:Nat):Int):=by simp
 have hle:2 ^ s<2 ^ 64:=Nat.pow_lt_pow_right (by omega) hs;unfold adj
 generalize 2 ^ s=q at hle e ⊢
 rw[e,IntKind.wrap_u64,Int.emod_eq_of_lt (by omega) (by omega),u64_or_nat _ _ (by omega) (by omega)]
theorem ZdD (v s:Nat) (B:v<2 ^ 128) (hs:s<128) (w:World) (r:Bool) (hr:v.testBit s=r) :
  Calls Tryz.prog 160 #[setW v,.int .i64 s] w fun e w'=>e = .returned (.bool r)∧Below w.heap.size w w':=by
 by_cases h:s<64
 ·have h1:(s:Int) / 64=0:=by omega
  have h2:(s:Int) % 64=s:=by omega
  have h3:s / 64=0:=by omega
  have hb:=ZkQ (loW v) s (Zhu v);rw[Zhv h,hr] at hb;have C:=qh hr;clear hr;have D:=qh B;clear B;replace hb:=qh hb
  go_enter Tryz.func160, Tryz.ntmps160
  go_wp2;go_ret;exact⟨Zb5 hb.o,(Below.refl _ _).alloc (Nat.le_refl _) _⟩
 have h1:(s:Int) / 64=1:=by omega
 have h2:(s:Int) % 64=((s-64:Nat):Int):=by omega
 have h3:s / 64=1:=by omega
 have hb:=ZkQ (hiW v) (s-64) (Zo8 B);rw[ZhE (by omega),hr] at hb;obtain⟨t,ht⟩:=eI (s-64);rw[← ht] at hb h2;have E:=qh ht;clear ht;have C:=qh hr;clear hr;have D:=qh B;clear B;replace hb:=qh hb
 go_enter Tryz.func160, Tryz.ntmps160
 go_wp2;go_ret;exact⟨Zb5 hb.o,(Below.refl _ _).alloc (Nat.le_refl _) _⟩
theorem Zd6 (v s:Nat) (C:v<2 ^ 128) (hs:s<128) (w:World) :
  Calls Tryz.prog 161 #[setW v,.int .i64 s] w fun e w'=>e = .returned (setW (adj v s))∧Below w.heap.size w w':=by
 by_cases h:s<64
 ·have h1:(s:Int) / 64=0:=by omega
  have h2:(s:Int) % 64=s:=by omega
  have h3:s / 64=0:=by omega
  have hb:=ZmC (loW v) s (Zhu v) h;obtain⟨e1,e2⟩:=Zsx (v:=v) h;rw[← e1] at hb;obtain⟨L,B⟩:=eI (loW (adj v s));rw[← B] at hb;unfold setW;rw[e2,← B];have F:=qh C;clear C;have E:=qh B;clear B;replace e1:=qh e1;have D:=qh e2;clear e2
  go_enter Tryz.func161, Tryz.ntmps161
  go_wp2
  go_region
  go_wp2;refine bodyPost_ret (v:=.agg #[.int .u64 (L:Int),.int .u64 (hiW v:Int)]) (by simp[results,Tryz.results161,go_sem]) rfl ⟨rfl,?_⟩;exact((((Below.refl _ _).alloc (Nat.le_refl _) _).alloc (by simp) _).drew)
 have h1:(s:Int) / 64=1:=by omega
 have h3:s / 64=1:=by omega
 obtain⟨t,ht⟩:=eI (s-64);have h2:(s:Int) % 64=(t:Int):=by omega
 have hb:=ZmC (hiW v) t (Zo8 C) (by omega);obtain⟨e1,e2⟩:=ZsA (v:=v) (s:=s) (by omega);rw[ht,← e2] at hb;rw[← ht] at hb;obtain⟨L,B⟩:=eI (hiW (adj v s));rw[← B] at hb;unfold setW;rw[e1,← B];have F:=qh C;clear C;have E:=qh B;clear B;replace e1:=qh e1;have D:=qh e2;clear e2;have G:=qh ht;clear ht
 go_enter Tryz.func161, Tryz.ntmps161
 go_wp2
 go_region
 go_wp2;refine bodyPost_ret (v:=.agg #[.int .u64 (loW v:Int),.int .u64 (L:Int)]) (by simp[results,Tryz.results161,go_sem]) rfl ⟨rfl,?_⟩;exact((((Below.refl _ _).alloc (Nat.le_refl _) _).alloc (by simp) _).drew)
theorem ltW {N v:Nat} (B:N≤128) (h:v<2 ^ N):v<2 ^ 128:=Nat.lt_of_lt_of_le h (Nat.pow_le_pow_right (by omega) B)
@[simp] theorem ZsE:loW 0=0:=rfl
@[simp] theorem ZsF:hiW 0=0:=rfl
theorem ZmL (N:Nat) (b:N≤128) (l:List Int) (v:Value) (w:World) (hl:inN N l) (hn:l.length≤1000000) (h:Ints 0 w v l) :
  Calls Tryz.prog 159 #[v] w fun e w'=>e = .returned (setW (setV l))∧Below w.heap.size w w':=by
 obtain⟨a1,c1,rfl,a,c,H⟩:=h.form;replace H:=qh H;replace hl:=qh hl;clear h
 go_enter Tryz.func159, Tryz.ntmps159
 go_wp2
 go_loopw [8] (fun i wr=>∃ k:Nat,k≤l.length∧i = .int .i64 k∧Below w.heap.size w wr∧Bx wr w.heap.size #[.int .u64 0,.int .u64 0] 149 ∧ Bx wr (w.heap.size+1) #[.int .u64 ((loW (setV (l.take k)):Nat):Int),.int .u64 ((hiW (setV (l.take k)):Nat):Int)] 149)
  (fun i _=>l.length-(intOf i).toNat)
 case atStart=>exact⟨0,Nat.zero_le _,rfl,((Below.refl _ _).alloc (Nat.le_refl _) _).alloc (by simp) _,(Bx.new w _ _).alloc _,by simpa [setV] using Bx.new (w.alloc (.cells #[.int .u64 0,.int .u64 0] 149)) #[.int .u64 0,.int .u64 0] 149⟩
 case round =>
  obtain⟨k,hk,rfl,hb,F,x1⟩:=hrel;have B:setV (l.take k)<2 ^ N:=ZdC (fun s hs=>hl.o s (List.mem_of_mem_take hs));obtain⟨V,I⟩:=eI (setV (l.take k));rw[← I] at x1 B;have c0:=x1.cell 0;have O:=x1.cell 1;simp only[w_5,w_6,w_7] at c0 O;replace I:=qh I;have E:=qh hb;clear hb;by_cases hlt:k<l.length
  ·obtain⟨b1,o1,rfl,-,U,M⟩:=H.o (by omega);have hc:=(bcell E.o b1 _ U).trans (M k hlt);obtain⟨s0,g⟩:=hl.o _ (memD (d:=0) hlt);obtain⟨s,hs⟩:=Int.eq_ofNat_of_zero_le s0;rw[hs] at hc g;have P:=qh hs;clear hs;have D:=qh F;clear F;have G:=qh x1;clear x1;have C:=qh B;clear B;clear M;go_wp2_with fail;refine(Zd6 V s (ltW b C.o) (by omega) _).mono ?_;rintro e w2 ⟨rfl,hb2⟩;have X:=D.o.below hb2 D.o.lt;have y1:=G.o.below hb2 G.o.lt;have J:=E.o.trans (hb2.mono E.o.size);have Q:=y1.cell 0;have S:=y1.cell 1;have j:=y1.fr 0;have e1:=y1.fr 1;simp only[w_5,w_6,w_7] at Q S;have R:=qh X;clear X;have T:=qh y1;clear y1;have L:=qh J;clear J;clear c0 O hb2;go_wp2;go_roundw
   case rel =>refine⟨k+1,by omega,by go_num,(L.o.setCell (by simp) _).setCell (by simp) _,(R.o.set_ne _ _ (by simp)).set_ne _ _ (by simp),?_⟩;have:=(T.o.set 0 (.int .u64 ((loW (adj V s):Nat):Int))).set 1 (.int .u64 ((hiW (adj V s):Nat):Int));rw[Zj6 hlt,← I.o,P.o];simpa using this
   case measure=>simp[intOf];omega
  obtain rfl:k=l.length:=by omega
  rw[List.take_length] at I;have m:=F.fr 0;have f1:=F.fr 1;have Q:=F.cell 0;have S:=F.cell 1;simp only[w_5,w_6,w_7] at Q S;have D:=qh F;clear F;have G:=qh x1;clear x1;go_wp2;have q:=(D.o.set 0 (.int .u64 ((loW (V):Nat):Int))).set 1 (.int .u64 ((hiW (V):Nat):Int));have Y:=q.cell 0;have Z:=q.cell 1;simp only[w_5,w_6,w_7,w_1,w_2,w_3] at Y Z;refine bodyPost_ret (v:=setW V) (by simp[results,Tryz.results159,go_sem,Y,Z]) rfl ⟨by rw[I.o],(E.o.setCell (by simp) _).setCell (by simp) _⟩
theorem Zfe (N:Nat) (hN:N≤128) (n:NfaD) (x:Nat) (v1 v2 v3:Value) (w:World) (hm:mvIn N n.moves) (bJ:n.moves.length≤1000000) (hx:x<2 ^ N) (h:Moves 0 w v1 n.moves) :
  Calls Tryz.prog 158 #[.agg (nfaC n v1 v2 v3),setW x] w fun e w'=>e = .returned (setW (clV N n.moves x))∧Below w.heap.size w w':=by
 obtain⟨a1,c1,rfl,bC,bV,u⟩:=h.form;obtain⟨ms,y⟩:=eI (n.moves);rw[← y] at hm bJ bC u;rw[← y];replace u:=qh u;replace hm:=qh hm;have bE:=qh hx;clear hx;have bP:=qh y;clear y;clear h
 go_enter Tryz.func158, Tryz.ntmps158
 go_wp2
 go_loopg [5] (N+2) (fun g ag wr=>∃ j:Nat,g=N+2-j∧(∃ ab:Bool,ag = .bool ab∧ab=(decide (j=0) || !decide (clIt ms x j=clIt ms x (j-1))))∧Below w.heap.size w wr ∧
   Bx wr w.heap.size (nfaC n (.slice a1 ms.length c1) v2 v3) 81 ∧ Bx wr (w.heap.size+1) #[.int .u64 ((loW (clIt ms x j):Nat):Int),.int .u64 ((hiW (clIt ms x j):Nat):Int)] 149 ∧ Bx wr (w.heap.size+1+1) #[.int .u64 0,.int .u64 0] 149)
 case atStart =>
  refine⟨0,rfl,⟨true,rfl,by simp⟩,(((Below.refl _ _).alloc (Nat.le_refl _) _).alloc (by simp) _).alloc (by simp;omega) _,((Bx.new w _ _).alloc _).alloc _,?_,?_⟩
  ·simpa [clIt] using (Bx.new (w.alloc (.cells (nfaC n (.slice a1 ms.length c1) v2 v3) 81)) #[.int .u64 ((loW (x):Nat):Int),.int .u64 ((hiW (x):Nat):Int)] 149).alloc (.cells #[.int .u64 0,.int .u64 0] 149)
  simpa using Bx.new ((w.alloc (.cells (nfaC n (.slice a1 ms.length c1) v2 v3) 81)).alloc (.cells #[.int .u64 ((loW (x):Nat):Int),.int .u64 ((hiW (x):Nat):Int)] 149)) #[.int .u64 0,.int .u64 0] 149
 case round =>
  obtain⟨j,rfl,⟨ab,rfl,aA⟩,hb,x0,x1,x2⟩:=hrel;obtain⟨wo,bK⟩:∃ wo:World,wo=wr:=⟨_,rfl⟩;subst bK;have aW:=x0.cell 1;simp only[nfaC,w_5,w_6,w_7] at aW;replace aA:=qh aA;have aU:=qh hb;clear hb;have bM:=qh x0;clear x0;have aR:=qh x1;clear x1;have L:=qh x2;clear x2;cases ab
  ·have hj:clIt ms x (j-1+1)=clIt ms x (j-1)∧j-1+1=j:=by
    have h:=aA.o;simp at h;have:j-1+1=j:=by omega
    rw[this];exact⟨h.2,rfl⟩
   have hv:clIt ms x j=clV N ms x:=by rw[Zrz hm.o hj.1,← hj.1,hj.2]
   have y1:=aR.o;rw[hv] at y1;have P:=y1.cell 0;have a:=y1.cell 1;have e0:=L.o.cell 0;have e1:=L.o.cell 1;have f0:=L.o.fr 0;have f1:=L.o.fr 1;simp only[w_5,w_6,w_7] at P a e0 e1;obtain⟨V,hV⟩:=eI (clV N ms x);rw[← hV] at P a;have bY:=qh hj;clear hj;have bU:=qh hv;clear hv;replace hV:=qh hV;clear y1;go_wp2;have q:=(L.o.set 0 (.int .u64 ((loW (V):Nat):Int))).set 1 (.int .u64 ((hiW (V):Nat):Int));have q0:=q.cell 0;have q1:=q.cell 1;simp only[w_5,w_6,w_7,w_1,w_2,w_3] at q0 q1;refine bodyPost_ret (v:=setW V) (by simp[results,Tryz.results158,go_sem,q0,q1]) rfl ⟨by rw[hV.o],(aU.o.setCell (by simp;omega) _).setCell (by simp;omega) _⟩
  obtain⟨X,hX⟩:=eI (clIt ms x j);have c:=qh hX;clear hX;go_wp2
  go_loopw [5,12] (fun ag i wi=>∃ k:Nat,k≤ms.length∧i = .int .i64 k∧(∃ ab:Bool,ag = .bool ab∧ab = !decide ((ms.take k).foldl Zau X=X))∧Below w.heap.size w wi ∧
    Bx wi w.heap.size (nfaC n (.slice a1 ms.length c1) v2 v3) 81 ∧ Bx wi (w.heap.size+1) #[.int .u64 ((loW ((ms.take k).foldl Zau X):Nat):Int),.int .u64 ((hiW ((ms.take k).foldl Zau X):Nat):Int)] 149 ∧ Bx wi (w.heap.size+1+1) #[.int .u64 0,.int .u64 0] 149)
   (fun _ i _=>ms.length-(intOf i).toNat)
  case atStart=>exact⟨0,Nat.zero_le _,rfl,⟨false,rfl,by simp⟩,aU.o,bM.o,by rw[c.o];exact aR.o,L.o⟩
  case round =>
   obtain⟨k,hk,rfl,⟨ag,rfl,S⟩,E,y0,y1,y2⟩:=hrel;obtain⟨C,p⟩:=eI ((ms.take k).foldl Zau X);have H:C<2 ^ N:=by rw[p];exact Zdh _ (fun v=>v<2 ^ N) (fun v m Z hv=>ZhQ hm.o Z hv) (by rw[c.o];exact ZdS hm.o bE.o j) k
   rw[← p] at y1 S;clear aW;by_cases hlt:k<ms.length
   ·obtain⟨b1,o1,rfl,-,aG,aS⟩:=u.o (by omega);obtain⟨p1,p2,p3⟩:=aS k hlt;replace p1:=(bcell E b1 _ aG).trans p1;replace p2:=(bcell E b1 _ aG).trans p2;replace p3:=(bcell E b1 _ aG).trans p3;have Z:=hm.o _ (memD (d:=(0,0,0)) hlt);have D:=Zcm Zau X hlt (0,0,0);rw[← p] at D;have J:=ZkH (v:=X) hm.o hlt;have R:=ZeH (v:=X) hm.o hlt;rw[← p] at J R;obtain⟨m,aK⟩:=eI (ms.getD k (0,0,0));rw[← aK] at p1 p2 p3 Z D J;obtain⟨f,l,t⟩:=m;simp only at p1 p2 p3 Z;obtain⟨⟨f0,f1⟩,t0,t1⟩:=Z;obtain⟨f,rfl⟩:=Int.eq_ofNat_of_zero_le f0;obtain⟨t,rfl⟩:=Int.eq_ofNat_of_zero_le t0;have Q:=(Below.refl wr.heap.size wr).alloc (Nat.le_refl _) (.cells #[.int .i64 (f:Int),.int .i64 l,.int .i64 (t:Int)] 117);have z0:=y0.below Q y0.lt;have z1:=y1.below Q y1.lt;have z2:=y2.below Q y2.lt;have z3:=Bx.new wr #[.int .i64 (f:Int),.int .i64 l,.int .i64 (t:Int)] 117;have hB:=E.alloc E.size (.cells #[.int .i64 (f:Int),.int .i64 l,.int .i64 (t:Int)] 117);have P:=z1.cell 0;have a:=z1.cell 1;simp only[w_5,w_6,w_7] at P a;have bT:(k:Int)<ms.length:=by omega
    have I:=qh (fun (h:Zau C ((f:Int),l,(t:Int))=C)=>(show(ms.take (k+1)).foldl Zau X=C from D.trans h));have bH:=qh p;clear p;replace H:=qh H;have G:=qh S;clear S;have z:=qh D;clear D;have aN:=qh J;clear J;have bG:=qh R;clear R;have bO:=qh aK;clear aK;have aB:=qh E;clear E;have aY:=qh y0;clear y0;have aT:=qh y1;clear y1;have aQ:=qh y2;clear y2;have bR:=qh Q;clear Q;have aJ:=qh z0;clear z0;have aC:=qh z1;clear z1;have aI:=qh z2;clear z2;have bA:=qh z3;clear z3;replace hB:=qh hB;clear aS;by_cases hl:l = -1
    ·subst hl;cases hf:C.testBit f
     all_goals
      have r:=qh hf;clear hf;go_wp2_with fail;refine(ZdD C f (ltW hN H.o) (by omega) _ _ r.o).mono ?_;rintro e w2 ⟨rfl,hb2⟩;have q0:=aJ.o.below hb2 aJ.o.lt;have q1:=aC.o.below hb2 aC.o.lt;have q2:=aI.o.below hb2 aI.o.lt;have q3:=bA.o.below hb2 bA.o.lt;have aV:=hB.o.trans (hb2.mono hB.o.size);have aF:=qh q0;clear q0;have T:=qh q1;clear q1;have aH:=qh q2;clear q2;have aM:=qh q3;clear q3;have b:=qh aV;clear aV;clear hb2 P a
     ·have F:=I.o (by unfold Zau;simp[r.o]);have B:=qh F;clear F;go_wp2;go_roundw
      case rel=>exact⟨k+1,by omega,by go_num,⟨ag,rfl,by rw[B.o];exact G.o⟩,b.o,aF.o,by rw[B.o];exact T.o,aH.o⟩
      case measure=>simp[intOf];omega
     have P:=T.o.cell 0;have a:=T.o.cell 1;have d2:=aM.o.cell 2;simp only[w_5,w_6,w_7] at P a d2;cases ht:C.testBit t
     all_goals
      have s:=qh ht;clear ht;go_wp2_with fail;refine(ZdD C t (ltW hN H.o) (by omega) _ _ s.o).mono ?_;rintro e w3 ⟨rfl,M⟩;have r0:=aF.o.below M aF.o.lt;have r1:=T.o.below M T.o.lt;have r2:=aH.o.below M aH.o.lt;have r3:=aM.o.below M aM.o.lt;have aP:=b.o.trans (M.mono b.o.size);have aD:=qh r0;clear r0;have O:=qh r1;clear r1;have aL:=qh r2;clear r2;have bL:=qh r3;clear r3;have Y:=qh aP;clear aP;clear M P a d2
     ·have P:=O.o.cell 0;have a:=O.o.cell 1;have d2:=bL.o.cell 2;simp only[w_5,w_6,w_7] at P a d2;go_wp2_with fail;refine(Zd6 C t (ltW hN H.o) (by omega) _).mono ?_;rintro e w4 ⟨rfl,U⟩;have s0:=aD.o.below U aD.o.lt;have s1:=O.o.below U O.o.lt;have s2:=aL.o.below U aL.o.lt;have aO:=Y.o.trans (U.mono Y.o.size);have g0:=s1.cell 0;have g1:=s1.cell 1;have i0:=s1.fr 0;have i1:=s1.fr 1;simp only[w_5,w_6,w_7] at g0 g1;have bI:=qh s0;clear s0;have bN:=qh s1;clear s1;have bF:=qh s2;clear s2;have bB:=qh aO;clear aO;clear U P a d2;go_wp2;go_roundw
      case rel =>
       have aX:Zau C ((f:Int),-1,(t:Int))=adj C t:=by unfold Zau;simp[r.o,s.o]
       have aE:Zau C ((f:Int),-1,(t:Int))≠C:=by rw[aX];intro e;have:=ZcB C t t;rw[e,s.o] at this;simp at this
       have bD:(ms.take (k+1)).foldl Zau X=adj C t:=z.o.trans aX;refine⟨k+1,by omega,by go_num,⟨true,rfl,?_⟩,(bB.o.setCell (by simp) _).setCell (by simp) _,(bI.o.set_ne _ _ (by simp)).set_ne _ _ (by simp),?_,(bF.o.set_ne _ _ (by simp)).set_ne _ _ (by simp)⟩
       ·rw[decide_eq_false (aN.o aE)];rfl
       rw[bD];have:=(bN.o.set 0 (.int .u64 ((loW (adj C t):Nat):Int))).set 1 (.int .u64 ((hiW (adj C t):Nat):Int));simpa using this
      case measure=>simp[intOf];omega
     have F:=I.o (by unfold Zau;simp[r.o,s.o]);have B:=qh F;clear F;go_wp2;go_roundw
     case rel=>exact⟨k+1,by omega,by go_num,⟨ag,rfl,by rw[B.o];exact G.o⟩,Y.o,aD.o,by rw[B.o];exact O.o,aL.o⟩
     case measure=>simp[intOf];omega
    have F:=I.o (by unfold Zau;simp[hl]);have bS:(l == -1)=false:=by simpa using hl
    have B:=qh F;clear F;have bW:=qh hl;clear hl;go_wp2;go_roundw
    case rel=>exact⟨k+1,by omega,by go_num,⟨ag,rfl,by rw[B.o];exact G.o⟩,hB.o,aJ.o,by rw[B.o];exact aC.o,aI.o⟩
    case measure=>simp[intOf];omega
   obtain rfl:k=ms.length:=by omega
   rw[List.take_length] at p;have hn:C=clIt ms x (j+1):=by rw[p,c.o];rfl
   have hjn:C≠X→j<N:=fun aE=>ZfZ hm.o (by rw[← hn,← c.o];exact aE)
   have bX:j<N+2:=by
    by_cases h0:j=0
    ·omega
    have h:=aA.o;simp[h0] at h;have:=ZfZ (k:=j-1) hm.o (by rw[show j-1+1=j by omega];exact h);omega
   have bH:=qh p;clear p;have aZ:=qh hn;clear hn;have bQ:=qh hjn;clear hjn;have G:=qh S;clear S;have aB:=qh E;clear E;have aY:=qh y0;clear y0;have aT:=qh y1;clear y1;have aQ:=qh y2;clear y2;go_wp2
   go_roundg (N+2-(j+1))
   case measure=>omega
   case rel =>refine⟨j+1,rfl,⟨ag,rfl,?_⟩,aB.o,aY.o,by rw[← aZ.o];exact aT.o,aQ.o⟩;rw[G.o,← aZ.o,show j+1-1=j by omega,← c.o];simp
theorem Zkf (N:Nat) (hN:N≤128) (n:NfaD) (x:Nat) (c:Int) (v1 v2 v3:Value) (w:World) (hm:mvIn N n.moves) (bG:n.moves.length≤1000000) (hx:x<2 ^ N) (h:Moves 0 w v1 n.moves) :
  Calls Tryz.prog 133 #[.agg (nfaC n v1 v2 v3),setW x,.int .i64 c] w fun e w'=>e = .returned (setW (stV N n.moves x c))∧Below w.heap.size w w':=by
 have HM:=qh h;obtain⟨a1,c1,rfl,aL,bQ,aR⟩:=h.form;have u:=bG;have Y:=aR;have g:=hm;obtain⟨ms,Z⟩:=eI (n.moves);rw[← Z] at g u aL Y;have G:stV N n.moves x c=clV N ms (ms.foldl (ZaZ x c) 0):=by rw[Z];rfl
 have Q:ms.foldl (ZaZ x c) 0<2 ^ N:=Zca _ (fun v=>v<2 ^ N) (fun _ _ I hv=>ZcP g I hv) (Nat.two_pow_pos N);obtain⟨R,hln⟩:=eI (ms.length);have L:R=n.moves.length:=by rw[hln,Z]
 rw[← L] at HM;rw[← L];rw[← hln] at aL Y u;replace Y:=qh Y;replace hm:=qh hm;have aA:=qh g;clear g;have aX:=qh hx;clear hx;have s:=qh Z;clear Z;have F:=qh G;clear G;have aV:=qh Q;clear Q;replace hln:=qh hln;have aY:=qh L;clear L;clear h aR
 go_enter Tryz.func133, Tryz.ntmps133
 go_wp2
 go_loopw [13] (fun i wi=>∃ k:Nat,k≤R∧i = .int .i64 k∧Below w.heap.size w wi ∧
   Bx wi w.heap.size (nfaC n (.slice a1 R c1) v2 v3) 81 ∧ Bx wi (w.heap.size+1) #[.int .u64 ((loW (x):Nat):Int),.int .u64 ((hiW (x):Nat):Int)] 149 ∧ Bx wi (w.heap.size+1+1) #[.int .u64 0,.int .u64 0] 149 ∧ Bx wi (w.heap.size+1+1+1) #[.int .u64 ((loW ((ms.take k).foldl (ZaZ x c) 0):Nat):Int),.int .u64 ((hiW ((ms.take k).foldl (ZaZ x c) 0):Nat):Int)] 149)
  (fun i _=>R-(intOf i).toNat)
 case atStart =>
  refine⟨0,Nat.zero_le _,rfl,((((Below.refl _ _).alloc (Nat.le_refl _) _).alloc (by simp) _).alloc (by simp;omega) _).alloc (by simp;omega) _,(((Bx.new w _ _).alloc _).alloc _).alloc _,?_,?_,?_⟩
  ·simpa using ((Bx.new (w.alloc (.cells (nfaC n (.slice a1 R c1) v2 v3) 81)) #[.int .u64 ((loW (x):Nat):Int),.int .u64 ((hiW (x):Nat):Int)] 149).alloc (.cells #[.int .u64 0,.int .u64 0] 149)).alloc (.cells #[.int .u64 0,.int .u64 0] 149)
  ·simpa using (Bx.new ((w.alloc (.cells (nfaC n (.slice a1 R c1) v2 v3) 81)).alloc (.cells #[.int .u64 ((loW (x):Nat):Int),.int .u64 ((hiW (x):Nat):Int)] 149)) #[.int .u64 0,.int .u64 0] 149).alloc (.cells #[.int .u64 0,.int .u64 0] 149)
  simpa using Bx.new (((w.alloc (.cells (nfaC n (.slice a1 R c1) v2 v3) 81)).alloc (.cells #[.int .u64 ((loW (x):Nat):Int),.int .u64 ((hiW (x):Nat):Int)] 149)).alloc (.cells #[.int .u64 0,.int .u64 0] 149)) #[.int .u64 0,.int .u64 0] 149
 case round =>
  obtain⟨k,hk,rfl,B,a,y1,y2,b⟩:=hrel;obtain⟨C,y⟩:=eI ((ms.take k).foldl (ZaZ x c) 0);have M:C<2 ^ N:=by rw[y];exact Zdh _ (fun v=>v<2 ^ N) (fun v m I hv=>ZcP aA.o I hv) (Nat.two_pow_pos N) k
  rw[← y] at b;by_cases hlt:k<R
  ·have r:k<ms.length:=by rw[← hln.o];exact hlt
   obtain⟨b1,o1,rfl,-,aE,aN⟩:=Y.o (by omega);obtain⟨p1,p2,p3⟩:=aN k hlt;replace p1:=(bcell B b1 _ aE).trans p1;replace p2:=(bcell B b1 _ aE).trans p2;replace p3:=(bcell B b1 _ aE).trans p3;have I:=aA.o _ (memD (d:=(0,0,0)) r);have D:=Zcm (ZaZ x c) 0 r (0,0,0);rw[← y] at D;obtain⟨m,aK⟩:=eI (ms.getD k (0,0,0));rw[← aK] at p1 p2 p3 I D;obtain⟨f,l,t⟩:=m;simp only at p1 p2 p3 I;obtain⟨⟨f0,f1⟩,t0,t1⟩:=I;obtain⟨f,rfl⟩:=Int.eq_ofNat_of_zero_le f0;obtain⟨t,rfl⟩:=Int.eq_ofNat_of_zero_le t0;have O:=(Below.refl wr.heap.size wr).alloc (Nat.le_refl _) (.cells #[.int .i64 (f:Int),.int .i64 l,.int .i64 (t:Int)] 117);have z0:=a.below O a.lt;have z1:=y1.below O y1.lt;have z2:=y2.below O y2.lt;have z4:=b.below O b.lt;have z3:=Bx.new wr #[.int .i64 (f:Int),.int .i64 l,.int .i64 (t:Int)] 117;have hB:=B.alloc B.size (.cells #[.int .i64 (f:Int),.int .i64 l,.int .i64 (t:Int)] 117);have p:=z1.cell 0;have z:=z1.cell 1;simp only[w_5,w_6,w_7] at p z;have bO:(k:Int)<R:=by omega
   replace y:=qh y;have J:=qh M;clear M;have E:=qh D;clear D;have bK:=qh aK;clear aK;have T:=qh B;clear B;have bH:=qh a;clear a;have bA:=qh y1;clear y1;have aC:=qh y2;clear y2;have bD:=qh b;clear b;have bL:=qh O;clear O;have aJ:=qh z0;clear z0;have aB:=qh z1;clear z1;have aI:=qh z2;clear z2;have aU:=qh z3;clear z3;have aH:=qh z4;clear z4;replace hB:=qh hB;clear aN;by_cases hl:l=c
   ·subst hl;cases hf:x.testBit f
    all_goals
     have aF:=qh hf;clear hf;go_wp2_with fail;refine(ZdD x f (ltW hN aX.o) (by omega) _ _ aF.o).mono ?_;rintro e w2 ⟨rfl,hb2⟩;have q0:=aJ.o.below hb2 aJ.o.lt;have q1:=aB.o.below hb2 aB.o.lt;have j:=aI.o.below hb2 aI.o.lt;have q3:=aU.o.below hb2 aU.o.lt;have q4:=aH.o.below hb2 aH.o.lt;have X:=hB.o.trans (hb2.mono hB.o.size);have aD:=qh q0;clear q0;have aG:=qh q1;clear q1;have S:=qh j;clear j;have bI:=qh q3;clear q3;have U:=qh q4;clear q4;have H:=qh X;clear X;clear hb2 p z
    ·have G:=E.o.trans (Zer (by simp[aF.o]));have F:=qh G;clear G;go_wp2;go_roundw
     case rel=>exact⟨k+1,by omega,by go_num,H.o,aD.o,aG.o,S.o,by rw[F.o];exact U.o⟩
     case measure=>simp[intOf];omega
    have p:=U.o.cell 0;have z:=U.o.cell 1;have d2:=bI.o.cell 2;simp only[w_5,w_6,w_7] at p z d2;go_wp2_with fail;refine(Zd6 C t (ltW hN J.o) (by omega) _).mono ?_;rintro e w4 ⟨rfl,P⟩;have s0:=aD.o.below P aD.o.lt;have s1:=aG.o.below P aG.o.lt;have s2:=S.o.below P S.o.lt;have s4:=U.o.below P U.o.lt;have aM:=H.o.trans (P.mono H.o.size);have g0:=s4.cell 0;have g1:=s4.cell 1;have i0:=s4.fr 0;have i1:=s4.fr 1;simp only[w_5,w_6,w_7] at g0 g1;have bC:=qh s0;clear s0;have bJ:=qh s1;clear s1;have bB:=qh s2;clear s2;have bE:=qh s4;clear s4;have aQ:=qh aM;clear aM;clear P p z d2;go_wp2;go_roundw
    case rel =>
     have bF:ZaZ x l C ((f:Int),l,(t:Int))=adj C t:=by unfold ZaZ;simp[aF.o]
     have aW:=E.o.trans bF;refine⟨k+1,by omega,by go_num,(aQ.o.setCell (by simp;omega) _).setCell (by simp;omega) _,(bC.o.set_ne _ _ (show w.heap.size≠w.heap.size+1+1+1 by omega)).set_ne _ _ (show w.heap.size≠w.heap.size+1+1+1 by omega),(bJ.o.set_ne _ _ (show w.heap.size+1≠w.heap.size+1+1+1 by omega)).set_ne _ _ (show w.heap.size+1≠w.heap.size+1+1+1 by omega),(bB.o.set_ne _ _ (show w.heap.size+1+1≠w.heap.size+1+1+1 by omega)).set_ne _ _ (show w.heap.size+1+1≠w.heap.size+1+1+1 by omega),?_⟩;rw[aW];have:=(bE.o.set 0 (.int .u64 ((loW (adj C t):Nat):Int))).set 1 (.int .u64 ((hiW (adj C t):Nat):Int));simpa using this
    case measure=>simp[intOf];omega
   have G:=E.o.trans (Zer (by simp[hl]));have bN:(l==c)=false:=by simpa using hl
   have F:=qh G;clear G;have bR:=qh hl;clear hl;go_wp2;go_roundw
   case rel=>exact⟨k+1,by omega,by go_num,hB.o,aJ.o,aB.o,aI.o,by rw[F.o];exact aH.o⟩
   case measure=>simp[intOf];omega
  have hkn:(ms.take k).foldl (ZaZ x c) 0=ms.foldl (ZaZ x c) 0:=by rw[List.take_of_length_le (by rw[← hln.o];omega)]
  have aT:k=R:=by omega
  have aZ:=qh (HM.o.below B);have p:=a.cell 0;have z:=a.cell 1;have d2:=a.cell 2;have d3:=a.cell 3;have e0:=b.cell 0;have e1:=b.cell 1;simp only[nfaC,w_5,w_6,w_7] at p z d2 d3 e0 e1;replace y:=qh y;have aS:=qh hkn;clear hkn;have T:=qh B;clear B;have bH:=qh a;clear a;have bA:=qh y1;clear y1;have aC:=qh y2;clear y2;have bD:=qh b;clear b;have J:=qh M;clear M;have bM:=qh aT;clear aT;go_wp2_with fail;refine(Zfe N hN n C (.slice a1 R c1) v2 v3 _ hm.o (by omega) J.o aZ.o).mono ?_;rintro e w2 ⟨rfl,hb2⟩;have j:=aC.o.below hb2 aC.o.lt;have X:=T.o.trans (hb2.mono T.o.size);have g0:=j.cell 0;have g1:=j.cell 1;have i0:=j.fr 0;have i1:=j.fr 1;simp only[w_5,w_6,w_7] at g0 g1;obtain⟨V,hV⟩:=eI (clV N n.moves C);rw[← hV];have aP:V=stV N n.moves x c:=by rw[hV,F.o,s.o,y.o,aS.o,s.o]
  have S:=qh j;clear j;have H:=qh X;clear X;have bP:=qh hV;clear hV;have aO:=qh aP;clear aP;clear hb2 p z d2 d3 e0 e1;go_wp2;have q:=(S.o.set 0 (.int .u64 ((loW (V):Nat):Int))).set 1 (.int .u64 ((hiW (V):Nat):Int));have q0:=q.cell 0;have q1:=q.cell 1;simp only[w_5,w_6,w_7,w_1,w_2,w_3] at q0 q1;refine bodyPost_ret (v:=setW V) (by simp[results,Tryz.results133,go_sem,q0,q1]) rfl ⟨by rw[aO.o],(H.o.setCell (by simp;omega) _).setCell (by simp;omega) _⟩
def fstW (N:Nat) (n:NfaD):Nat:=clV N n.moves (setV n.firsts)
theorem ZdL (N:Nat) (S:N≤128) (n:NfaD) (v1 v2 v3:Value) (w:World) (hm:mvIn N n.moves) (Q:n.moves.length≤1000000) (hs:inN N n.firsts) (M:n.firsts.length≤1000000) (h1:Moves 0 w v1 n.moves) (h2:Ints 0 w v2 n.firsts) :
  Calls Tryz.prog 132 #[.agg (nfaC n v1 v2 v3)] w fun e w'=>e = .returned (setW (fstW N n))∧Below w.heap.size w w':=by
 obtain⟨V,L⟩:=eI (fstW N n);rw[← L];obtain⟨W,J⟩:=eI (((w.alloc (.cells (nfaC n v1 v2 v3) 81)).alloc (.cells #[.int .u64 0,.int .u64 0] 149)));have B:Below w.heap.size w W:=by rw[J];exact((Below.refl _ _).alloc (Nat.le_refl _) _).alloc (by simp) _
 have G:Bx W w.heap.size (nfaC n v1 v2 v3) 81:=by rw[J];exact(Bx.new w _ _).alloc _
 have x1:Bx W (w.heap.size+1) #[.int .u64 0,.int .u64 0] 149:=by rw[J];simpa using (Bx.new (w.alloc (.cells (nfaC n v1 v2 v3) 81)) #[.int .u64 0,.int .u64 0] 149)
 have D:=G.lt;have c0:=G.cell 0;have c1:=G.cell 1;have c2:=G.cell 2;have c3:=G.cell 3;simp only[nfaC,w_5,w_6,w_7] at c0 c1 c2 c3;have R:=qh (fun (w':World) (h:Below W.drew.heap.size W.drew w')=>(show w'.cell? ⟨w.heap.size,0,none⟩=some (.int .i64 n.states)∧w'.cell? ⟨w.heap.size,1,none⟩=some v1∧w'.cell? ⟨w.heap.size,2,none⟩=some v2∧w'.cell? ⟨w.heap.size,3,none⟩=some v3 from⟨(bcell h _ _ D).trans c0,(bcell h _ _ D).trans c1,(bcell h _ _ D).trans c2,(bcell h _ _ D).trans c3⟩))
 have X:=qh (fun (w':World) (h:Below W.drew.heap.size W.drew w')=>(show Bx w' (w.heap.size+1) #[.int .u64 0,.int .u64 0] 149 ∧ w'.cell? ⟨w.heap.size+1,0,none⟩=some (.int .u64 0)∧w'.cell? ⟨w.heap.size+1,1,none⟩=some (.int .u64 0)∧w'.frozen? ⟨w.heap.size+1,0,none⟩=false∧w'.frozen? ⟨w.heap.size+1,1,none⟩=false from
  have q:=x1.drew.below h x1.lt
  ⟨q,q.cell 0,q.cell 1,q.fr 0,q.fr 1⟩))
 have b:=qh (h1.below B.drew);have c:=qh (h2.below B.drew);replace L:=qh L;have P:=qh hm;clear hm;have I:=qh hs;clear hs;have E:=qh B;clear B;have H:=qh J;clear J;have a:=qh G;clear G;have Y:=qh x1;clear x1;clear h1 h2
 go_enter Tryz.func132, Tryz.ntmps132
 go_wp2_with fail;rw[← H.o]
 go_region_held3 (fun w'=>w'.cell? ⟨w.heap.size,0,none⟩=some (.int .i64 n.states)∧w'.cell? ⟨w.heap.size,1,none⟩=some v1∧w'.cell? ⟨w.heap.size,2,none⟩=some v2∧w'.cell? ⟨w.heap.size,3,none⟩=some v3)
  (first|go_keep|exact R.o _ C|exact R.o _ F)
  (first
   | (go_at_call 159;(with_reducible refine(ZmL N S n.firsts _ _ I.o M c.o).mono ?_);rintro e g ⟨rfl,C⟩)
   | (go_at_call 158;(with_reducible refine(Zfe N S n _ _ _ _ _ P.o Q (ZdC I.o) (b.o.below C)).mono ?_);rintro e Z ⟨rfl,hb1⟩;have F:=C.trans (hb1.mono C.size);obtain⟨y1,i,g1,j,d⟩:=X.o Z F))
 go_wp2;have O:clV N n.moves (setV n.firsts)=V:=L.o.symm;rw[O];have q:=(y1.set 0 (.int .u64 ((loW (V):Nat):Int))).set 1 (.int .u64 ((hiW (V):Nat):Int));have T:=q.cell 0;have U:=q.cell 1;simp only[w_5,w_6,w_7,w_1,w_2,w_3] at T U;refine bodyPost_ret (v:=setW V) (by simp[results,Tryz.results132,go_sem,T,U]) rfl ⟨rfl,?_⟩;exact((E.o.drew.trans (F.mono E.o.drew.size)).setCell (by simp) _).setCell (by simp) _
theorem ZfU (N:Nat) (Q:N≤128) (xs:List Int) (v:Value) (x:Nat) (w:World) (hx:x<2 ^ N) (hs:inN N xs) (h1:Ints 0 w v xs) :
  Calls Tryz.prog 141 #[v,.func (.func 160) #[setW x] #[]] w fun e w'=>e = .returned (.int .i64 (Zc8 (fun s=>x.testBit s.toNat) xs))∧Below w.heap.size w w':=by
 obtain⟨a1,c1,rfl,P,R,G⟩:=h1.form;replace hs:=qh hs;replace G:=qh G;clear h1
 go_enter Tryz.func141, Tryz.ntmps141
 go_wp2
 go_loopw [4,8] (fun r i wr=>∃ k:Nat,k≤xs.length∧i = .int .i64 k∧(xs.take k).any (fun s=>x.testBit s.toNat)=false∧Below w.heap.size w wr) (fun _ i _=>xs.length-(intOf i).toNat)
 case atStart=>exact⟨0,Nat.zero_le _,rfl,rfl,Below.refl _ _⟩
 case round =>
  obtain⟨k,hk,rfl,J,hb⟩:=hrel;have C:=qh J;clear J;by_cases hlt:k<xs.length
  ·obtain⟨b1,o1,rfl,O,I,D⟩:=G.o (by omega);have M:=(bcell hb b1 (o1+k) I).trans (D k hlt);have hin:=hs.o (xs.getD k 0) (memD (d:=0) hlt);obtain⟨s,F⟩:=eI (xs.getD k 0);rw[← F] at M hin;obtain⟨s0,S⟩:=hin;obtain⟨s,rfl⟩:=Int.eq_ofNat_of_zero_le s0;have E:=qh F;clear F;replace hb:=qh hb;clear D O;cases hbd:x.testBit s
   all_goals
    have B:=qh hbd;clear hbd;go_wp2_with (go_at_call 160;refine(ZdD x s (ltW Q hx) (by omega) _ _ B.o).mono ?_;rintro e w' ⟨rfl,H⟩;have L:=qh (hb.o.trans (H.mono hb.o.size));clear H)
   ·go_roundw
    case rel=>exact⟨k+1,by omega,by go_num,ZmG (d:=0) hlt C.o (by rw[← E.o];exact B.o),L.o⟩
    case measure=>simp[intOf];omega
   go_ret;exact⟨ZfJ (by rw[Zgi (d:=0) hlt C.o (by rw[← E.o];exact B.o)]),L.o⟩
  replace hb:=qh hb;go_wp2;go_ret;exact⟨ZfJ (by rw[Zfs (by omega) C.o]),hb.o⟩
theorem ZeB (N:Nat) (C:N≤128) (xs:List Int) (v:Value) (x:Nat) (w:World) (hx:x<2 ^ N) (hs:inN N xs) (h1:Ints 0 w v xs) (r:Bool) (hr:xs.any (fun s=>x.testBit s.toNat)=r) :
  Calls Tryz.prog 108 #[v,.func (.func 160) #[setW x] #[]] w fun e w'=>e = .returned (.bool r)∧Below w.heap.size w w':=by
 obtain⟨a1,c1,D,-⟩:=h1.form;have E:=qh h1;subst D;clear h1;replace hr:=qh hr
 go_enter Tryz.func108, Tryz.ntmps108
 go_wp2_with (go_at_call 141;refine(ZfU N C xs _ x _ hx hs E.o).mono ?_;rintro e w' ⟨rfl,B⟩;replace B:=qh B);go_ret;exact⟨Zb5 (by rw[← hr.o,Zgj]),B.o⟩
theorem Zkg (N:Nat) (D:N≤128) (n:NfaD) (x:Nat) (v1 v2 v3:Value) (w:World) (hx:x<2 ^ N) (hs:inN N n.ends) (h3:Ints 0 w v3 n.ends) (r:Bool) (hr:endV n x=r) :
  Calls Tryz.prog 134 #[.agg (nfaC n v1 v2 v3),setW x] w fun e w'=>e = .returned (.bool r)∧Below w.heap.size w w':=by
 have E:=qh h3;replace hr:=qh hr;have C:=qh hs;clear hs;clear h3
 go_enter Tryz.func134, Tryz.ntmps134
 go_wp2_with (go_at_call 108;refine(ZeB N D n.ends v3 x _ hx C.o (E.o.below (((Below.refl _ _).alloc (Nat.le_refl _) _).alloc (by simp) _)) _ hr.o).mono ?_;rintro e w' ⟨rfl,B⟩;replace B:=qh B);go_ret;exact⟨rfl,(((Below.refl _ _).alloc (Nat.le_refl _) _).alloc (by simp) _).trans (B.o.mono (by simp;omega))⟩
end Go.Proofs.YtncekbbhgipdlaaGreat
