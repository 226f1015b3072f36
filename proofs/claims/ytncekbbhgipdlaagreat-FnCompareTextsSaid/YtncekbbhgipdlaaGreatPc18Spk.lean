/-
  The walks over impl's firstPair, handed FirstExtra's function, and over FirstExtra.
  Conditions: the automata read as such; for the first they are valid.
-/
import Derived.Test.YtncekbbhgipdlaaGreatPc09Ot
set_option maxHeartbeats 8000000
set_option maxRecDepth 100000
namespace Go.Proofs.YtncekbbhgipdlaaGreat
open Go.RowKit Go.Maps
def hitE (K:Nat) (a b:DfaD):Option (List Nat):=ZaO (Zba (fun x y=>x && !y) a b) (bat (Zan a b) (0,0) K)
def hitX (a b:DfaD):Option (List Nat):=hitE Zhq a b
def feO (a b:DfaD):Option (List Nat):=if (Zac a.next a.ends&&Zac b.next b.ends)=true then hitX a b else none
theorem Zni (x y r:Bool) (hr:(x && !y)=r) (w:World):Calls Tryz.prog 78 #[.bool x,.bool y] w fun e w'=>e = .returned (.bool r)∧w=w':=by subst hr;cases x<;>cases y<;>(go_enter Tryz.func78, Tryz.ntmps78;go_wp2;go_ret;exact⟨rfl,rfl⟩)
theorem Zje (a b:DfaD) (x:Int × Int) (I J L:Nat) (w:World) (hda:Zac a.next a.ends=true) (hdb:Zac b.next b.ends=true) (hf:Bx w I #[.func (.func 78) #[] #[]] 98) (h1:DfaAt w J a) (h2:DfaAt w L b) (hx:ZbG a b x=true) :
  Calls Tryz.prog 154 #[.agg #[.int .i64 x.1,.int .i64 x.2],.pointer (some ⟨I,0,none⟩),.pointer (some ⟨J,0,none⟩),.pointer (some ⟨L,0,none⟩)] w fun e w'=>e = .returned (.bool (Zba (fun x y=>x && !y) a b x))∧Below w.heap.size w w':=by
 obtain⟨i,j,rfl,hi,hj⟩:=Zbf hx;have G:=Zaf hda;have H:=Zaf hdb;obtain⟨p,m,D,-,g1⟩:=h1;obtain⟨s,q,C,-,g2⟩:=h2;obtain⟨u,o1,c1,rfl,M,T,e1,l⟩:=Zcx g1 (i:=i) (by omega);obtain⟨n,o2,c2,rfl,P,S,e2,g⟩:=Zcx g2 (i:=j) (by omega);obtain⟨Q,E⟩:=eI (a.ends.getD i false);obtain⟨R,F⟩:=eI (b.ends.getD j false);rw[← E] at e1;rw[← F] at e2;obtain⟨r,hr⟩:=eJ ((Q && !R));have B:Zba (fun x y=>x && !y) a b ((i:Int),(j:Int))=r:=by rw[← hr,E,F];rfl
 rw[B];have U:=D.cell 1;have Y:=C.cell 1;have N:=hf.cell 0;simp only[w_5,w_6,w_7] at U Y N;have z:=D.lt;have k:=C.lt;have c:=hf.lt;obtain⟨l1,l2,V⟩:=G;obtain⟨l4,d,O⟩:=H;have X:(i:Int)<a.ends.length:=by omega
 have Z:(j:Int)<b.ends.length:=by omega
 have Hr:=qh hr;clear g1 g2 D C E F hx hda hdb hf B hr V O
 go_enter Tryz.func154, Tryz.ntmps154
 go_wp2
 go_quiet ((go_at_call 78;with_reducible exact Ze4 (Zni _ _ _ Hr.o _)))
 go_wp2;go_ret;exact⟨rfl,below_drewN ((Below.refl _ _).alloc (Nat.le_refl _) _) _⟩
theorem Zif (K:Nat) (X:K=1600) (a b:DfaD) (v1 v2:Value) (w:World) (hda:Zac a.next a.ends=true) (hdb:Zac b.next b.ends=true) (h1:DfaR 0 w v1 a) (h2:DfaR 0 w v2 b) :
  Calls Tryz.prog 76 #[v1,v2,.func (.func 78) #[] #[]] w fun e w'=>e=ZaQ (hitE K a b)∧Below w.heap.size w w':=by
 obtain⟨Q,N,rfl,g1,g2⟩:=h1;obtain⟨S,R,rfl,g3,g4⟩:=h2;have hb2:Below w.heap.size w ((w.alloc (.cells #[Q,N] 44)).alloc (.cells #[S,R] 44)):=((Below.refl _ _).alloc (Nat.le_refl _) _).alloc (by simp) _;have i:QH (DfaR 0 ((w.alloc (.cells #[Q,N] 44)).alloc (.cells #[S,R] 44)) (.agg #[Q,N]) a):=qh ⟨_,_,rfl,g1.below hb2,g2.below hb2⟩;have k:QH (DfaR 0 ((w.alloc (.cells #[Q,N] 44)).alloc (.cells #[S,R] 44)) (.agg #[S,R]) b):=qh ⟨_,_,rfl,g3.below hb2,g4.below hb2⟩;have hm:=Zfg hda hdb K;have D:=fun w'=>Zf9 _ (fun x y=>x && !y) a b K (.agg #[Q,N]) (.agg #[S,R]) w' hda hdb (by omega) (by omega) (fun x c d g w' hf g1 g2 hx=>Zje a b x c d g w' hda hdb hf g1 g2 hx)
 rw[show((K:Nat):Int)=1600 by omega] at D;have B:(metP a b K).length≤K:=by omega
 have T:K≤100000:=by omega
 replace D:=qh D;replace X:=qh X;have V:=qh hda;clear hda;have Y:=qh hdb;clear hdb;have P:=qh hb2;clear hb2;clear g1 g2 g3 g4
 go_enter Tryz.func76, Tryz.ntmps76
 go_wp2_with fail;refine(D.o _ i.o k.o).mono ?_;rintro e w2 ⟨hr,O⟩;unfold RExp at hr;rw[if_pos B] at hr;obtain⟨an,cn,ae,ce,am,cm,rfl,hd,-⟩:=hr;obtain⟨F,H⟩:=eI ((bat (Zan a b) (0,0) K).met);unfold metP at hm B;rw[← H] at hd hm B;rw[← H];have j:=qh (hd.r.mono (Nat.zero_le _));have J:=P.o.trans (O.mono (by simp;omega));replace H:=qh H;have C:=qh J;clear J;have G:=qh B;clear B;clear hd O hm;go_wp2_with fail;refine(Zfr (Zar (Zan a b) (Zba (fun x y=>x && !y) a b) F) _ _ (by rw[H.o];exact Zeu (by rw[← H.o];exact G.o) T) (j.o.below ((Below.refl _ _).alloc (Nat.le_refl _) _))).mono ?_;rintro e m ⟨he,L⟩;have U:ZaQ (ZaO (den (Zar (Zan a b) (Zba (fun x y=>x && !y) a b) F)) (bat (dnx (Zar (Zan a b) (Zba (fun x y=>x && !y) a b) F)) 0 (Zar (Zan a b) (Zba (fun x y=>x && !y) a b) F).next.length))=ZaQ (hitE K a b):=by unfold hitE;rw[H.o,Zgk (by rw[← H.o];exact G.o)]
 rw[U] at he;have M:=(C.o.alloc C.o.size _).trans (L.mono (by simp;have:=C.o.size;omega));have Z:=qh U;clear U;have E:=qh M;clear M;clear L;cases hh:hitE K a b with
 | none =>
  rw[hh] at he;unfold ZaQ at he;simp only at he;subst he;have I:=qh hh;clear hh;go_wp2
  go_ret2
  exact⟨by rw[I.o];rfl,E.o⟩
 | some l =>
  rw[hh] at he;unfold ZaQ at he;simp only at he;subst he;have I:=qh hh;clear hh;go_wp2
  go_ret2
  exact⟨by rw[I.o];rfl,E.o⟩
theorem Zid (a b:DfaD) (v1 v2:Value) (w:World) (hda:Zac a.next a.ends=true) (hdb:Zac b.next b.ends=true) (h1:DfaR 0 w v1 a) (h2:DfaR 0 w v2 b) :
  Calls Tryz.prog 76 #[v1,v2,.func (.func 78) #[] #[]] w fun e w'=>e=ZaQ (hitX a b)∧Below w.heap.size w w':=Zif Zhq rfl a b v1 v2 w hda hdb h1 h2
theorem Zc7 (a b:DfaD) (v1 v2:Value) (w:World) (h1:DfaR 0 w v1 a) (h2:DfaR 0 w v2 b) (o:Option (List Nat)) (J:feO a b=o) :
  Calls Tryz.prog 35 #[v1,v2] w fun e w'=>e=ZaQ o∧Below w.heap.size w w':=by
 obtain⟨G,F,rfl,g1,g2⟩:=h1;obtain⟨I,H,rfl,g3,g4⟩:=h2;have hb2:Below w.heap.size w ((w.alloc (.cells #[G,F] 44)).alloc (.cells #[I,H] 44)):=((Below.refl _ _).alloc (Nat.le_refl _) _).alloc (by simp) _;have Z:QH (DfaR 0 ((w.alloc (.cells #[G,F] 44)).alloc (.cells #[I,H] 44)) (.agg #[G,F]) a):=qh ⟨_,_,rfl,g1.below hb2,g2.below hb2⟩;have m:QH (DfaR 0 ((w.alloc (.cells #[G,F] 44)).alloc (.cells #[I,H] 44)) (.agg #[I,H]) b):=qh ⟨_,_,rfl,g3.below hb2,g4.below hb2⟩;have c:Bx ((w.alloc (.cells #[G,F] 44)).alloc (.cells #[I,H] 44)) w.heap.size #[G,F] 44:=(Bx.new w _ _).alloc _;have x1:Bx ((w.alloc (.cells #[G,F] 44)).alloc (.cells #[I,H] 44)) (w.heap.size+1) #[I,H] 44:=by simpa using Bx.new (w.alloc (.cells #[G,F] 44)) #[I,H] 44
 obtain⟨s,hs⟩:=Za3 (hitX a b);have C:=qh hb2;clear hb2;replace hs:=qh hs;replace J:=qh J;have R:=qh c;clear c;have L:=qh x1;clear x1;clear g1 g2 g3 g4;cases hda:Zac a.next a.ends
 all_goals
  replace hda:=qh hda
  go_enter Tryz.func35, Tryz.ntmps35
  go_wp2_with fail;refine(ZdV a _ _ Z.o _ hda.o).mono ?_;rintro e w1 ⟨rfl,hb1⟩;have X:=R.o.below hb1 R.o.lt;have y1:=L.o.below hb1 L.o.lt;have c0:=y1.cell 0;have c1:=y1.cell 1;simp only[w_5,w_6,w_7] at c0 c1;have Q:=C.o.trans (hb1.mono C.o.size);have g:=qh (Z.o.below hb1);have Y:=qh (m.o.below hb1);replace hb1:=qh hb1;have E:=qh Q;clear Q;have N:=qh X;clear X;have S:=qh y1;clear y1
 ·go_wp2
  go_ret2
  exact⟨by rw[← J.o,feO,hda.o];rfl,E.o⟩
 cases hdb:Zac b.next b.ends
 all_goals
  have B:=qh hdb;clear hdb;go_wp2_with fail;refine(ZdV b _ _ Y.o _ B.o).mono ?_;rintro e w2 ⟨rfl,hb2⟩;have V:=N.o.below hb2 N.o.lt;have U:=S.o.below hb2 S.o.lt;have P:=E.o.trans (hb2.mono E.o.size);have i:=qh (g.o.below hb2);have k:=qh (Y.o.below hb2);have j:=V.cell 0;have e1:=V.cell 1;have e2:=U.cell 0;have e3:=U.cell 1;simp only[w_5,w_6,w_7] at j e1 e2 e3;have C:=qh hb2;clear hb2;have D:=qh P;clear P;have l:=qh V;clear V;have d:=qh U;clear U;clear c0 c1
 ·go_wp2
  go_ret2
  exact⟨by rw[← J.o,feO,hda.o,B.o];rfl,D.o⟩
 go_wp2_with fail;refine(Zid a b _ _ _ hda.o B.o i.o k.o).mono ?_;rintro e n ⟨he,M⟩;rw[hs.o] at he;subst he;have O:=D.o.trans (M.mono D.o.size);have T:=qh O;clear O;clear M;go_wp2
 go_ret2
 refine⟨?_,T.o⟩;rw[← J.o,feO,hda.o,B.o,if_pos (by rfl),hs.o];rfl
theorem Zjq (K:Nat) (hK:K=1600) (a b:DfaD) (v1 v2:Value) (w:World) (hda:Zac a.next a.ends=true) (hdb:Zac b.next b.ends=true) (h1:DfaR 0 w v1 a) (h2:DfaR 0 w v2 b) :
  Calls Tryz.prog 79 #[v1,v2,.int .i64 2] w fun e w'=>e=ZaQ (hitE K a b)∧Below w.heap.size w w':=by
 obtain⟨u1,u2,rfl,g1,g2⟩:=h1;obtain⟨u3,u4,rfl,g3,g4⟩:=h2;obtain⟨a1,c1,rfl,jR,jV,eY⟩:=g1.formI;obtain⟨a2,c2,rfl,jF,jL,eZ⟩:=g2.form;obtain⟨a3,c3,rfl,hc3,jX,fF⟩:=g3.formI;obtain⟨a4,c4,rfl,jO,jW,gD⟩:=g4.form;have dM:=qh (fun i hi=>ZaM hda (i:=i) hi);have dQ:=qh (fun i hi=>ZaM hdb (i:=i) hi);have eL:=Zaf hda;have fR:=Zaf hdb;obtain⟨s0,fM,eO,dL,dO⟩:=info_parts Tryz.infoStr;obtain⟨i0,fP,gE,fO,gF⟩:=info_parts Tryz.infoInts;have hO:=qh (fun k=>ZbA (nx:=Zan a b) (a:=(0,0)) (Q:=fun x=>ZbG a b x=true) (Zci hda hdb) (fun x c hc hx=>Zcj hda hdb hc hx) k);have dB:=qh (fun k=>Zfg hda hdb k);clear g1 g2 g3 g4;replace hda:=qh hda;have iI:=qh hdb;clear hdb;have fX:=qh eY;clear eY;have eP:=qh eZ;clear eZ;have gL:=qh fF;clear fF;have eC:=qh gD;clear gD;have bD:=qh eL;clear eL;have aZ:=qh fR;clear fR;have fI:=qh fM;clear fM;have fG:=qh eO;clear eO;have gN:=qh dL;clear dL;have fA:=qh dO;clear dO;have gQ:=qh fP;clear fP;have fN:=qh gE;clear gE;have eR:=qh fO;clear fO;have eM:=qh gF;clear gF;replace hK:=qh hK
 go_enter Tryz.func79, Tryz.ntmps79
 go_wp2
 go_loopw [6,7,8,9,10] (fun r1 r2 vl vw i wr=>∃ k:Nat,i = .int .i64 k∧k≤(bat (Zan a b) (0,0) k).met.length∧(∀ j,j<k→Zba (fun x y=>x && !y) a b ((bat (Zan a b) (0,0) k).met.getD j (0,0))=false)∧Below w.heap.size w wr ∧
   Bx wr w.heap.size #[.slice a1 a.next.length c1,.slice a2 a.ends.length c2] 44 ∧ Bx wr (w.heap.size+1) #[.slice a3 b.next.length c3,.slice a4 b.ends.length c4] 44 ∧ L16W (w.heap.size+2) wr.heap.size wr (bat (Zan a b) (0,0) k) vl vw)
  (fun _ _ _ _ i _=>1601-(intOf i).toNat)
 case atStart =>
  have r0:=(((((Bx.new w #[.slice a1 a.next.length c1,.slice a2 a.ends.length c2] 44).alloc (.cells #[.slice a3 b.next.length c3,.slice a4 b.ends.length c4] 44)).alloc (.cells #[.int .i64 0,.int .i64 0] 3)).alloc (.cells #[.slice (some ⟨w.heap.size+1+1,0,none⟩) 2 2] 38)).alloc (.cells #[.string { data:=#[] }] 9));have r1:=((((Bx.new (w.alloc (.cells #[.slice a1 a.next.length c1,.slice a2 a.ends.length c2] 44)) #[.slice a3 b.next.length c3,.slice a4 b.ends.length c4] 44).alloc (.cells #[.int .i64 0,.int .i64 0] 3)).alloc (.cells #[.slice (some ⟨w.heap.size+1+1,0,none⟩) 2 2] 38)).alloc (.cells #[.string { data:=#[] }] 9));have r2:=((Bx.new ((w.alloc (.cells #[.slice a1 a.next.length c1,.slice a2 a.ends.length c2] 44)).alloc (.cells #[.slice a3 b.next.length c3,.slice a4 b.ends.length c4] 44)) #[.int .i64 0,.int .i64 0] 3).alloc (.cells #[.slice (some ⟨w.heap.size+1+1,0,none⟩) 2 2] 38)).alloc (.cells #[.string { data:=#[] }] 9);have r3:=(Bx.new (((w.alloc (.cells #[.slice a1 a.next.length c1,.slice a2 a.ends.length c2] 44)).alloc (.cells #[.slice a3 b.next.length c3,.slice a4 b.ends.length c4] 44)).alloc (.cells #[.int .i64 0,.int .i64 0] 3)) #[.slice (some ⟨w.heap.size+1+1,0,none⟩) 2 2] 38).alloc (.cells #[.string { data:=#[] }] 9)
  have r4:=Bx.new ((((w.alloc (.cells #[.slice a1 a.next.length c1,.slice a2 a.ends.length c2] 44)).alloc (.cells #[.slice a3 b.next.length c3,.slice a4 b.ends.length c4] 44)).alloc (.cells #[.int .i64 0,.int .i64 0] 3)).alloc (.cells #[.slice (some ⟨w.heap.size+1+1,0,none⟩) 2 2] 38)) #[.string { data:=#[] }] 9;simp only[World.size_alloc] at r0 r1 r2 r3 r4;have bU:=(((((Below.refl w.heap.size w).alloc (Nat.le_refl _) (.cells #[.slice a1 a.next.length c1,.slice a2 a.ends.length c2] 44)).alloc (by simp) (.cells #[.slice a3 b.next.length c3,.slice a4 b.ends.length c4] 44)).alloc (by simp;omega) (.cells #[.int .i64 0,.int .i64 0] 3)).alloc (by simp;omega) (.cells #[.slice (some ⟨w.heap.size+1+1,0,none⟩) 2 2] 38)).alloc (by simp;omega) (.cells #[.string { data:=#[] }] 9);refine⟨0,rfl,by simp[bat],fun j hj=>absurd hj (by omega),bU,r0,r1,⟨[.slice (some ⟨w.heap.size+1+1,0,none⟩) 2 2],?_,fun i hi => ?_,fun i j' k' hij gI => ?_⟩,?_⟩
  ·exact Zab (Zcz (cs:=[.slice (some ⟨w.heap.size+1+1,0,none⟩) 2 2]) r3 rfl (by omega) (by unfold maxLen;omega))
  ·simp only[bat,List.map_cons,List.map_nil,List.length_singleton] at hi;obtain rfl:i=0:=by omega
   exact Zab (Zcz (cs:=[.int .i64 0,.int .i64 0]) r2 rfl (by omega) (by unfold maxLen;omega))
  ·simp only[bat,List.map_cons,List.map_nil,List.length_singleton] at gI;omega
  exact Zcz (cs:=[.string { data:=#[] }]) r4 rfl (by omega) (by unfold maxLen;omega)
 case round =>
  obtain⟨k,rfl,hk,dW,hb,bZ,bY,hl⟩:=hrel;obtain⟨S,hS⟩:=eI (bat (Zan a b) (0,0) k);have F:=ZaG (nx:=Zan a b) (a:=(0,0)) k;have hR:=hO.o k;have fQ:=dB.o k;unfold metP at fQ;rw[← hS] at hk dW hl F hR fQ;have eH:0<S.met.length:=by rw[hS];exact ZcZ k
  obtain⟨g,off,cap,rfl,hQ,jH,jN,bJ⟩:=hl.row eH;obtain⟨gw,cw,rfl,gW,iA,iW,dZ⟩:=hl.word (by rw[F.2.1];exact eH);rw[F.2.1] at gW dZ hl;rw[F.2.1];obtain⟨wo,hH⟩:∃ wo:World,wo=wr:=⟨_,rfl⟩;subst hH;have x0:=bZ.cell 1;have x1:=bY.cell 1;have x2:=bZ.cell 0;have x3:=bY.cell 0;simp only[w_5,w_6,w_7] at x0 x1 x2 x3;have hF:=qh hl;clear hl;have bC:=qh hb;clear hb;have G:=qh hS;clear hS;have bO:=qh dW;clear dW;have aR:=qh F;clear F;have hP:=qh hR;clear hR;have cQ:=qh bZ;clear bZ;have cR:=qh bY;clear bY;by_cases hlt:k<S.met.length
  ·obtain⟨rb,ro,rc,eA,iL,iH,bQ,aA,aB⟩:=bJ k hlt;obtain⟨i,j,hp,hi,hj⟩:=Zbf (hP.o _ (memD (d:=(0,0)) hlt));rw[hp] at aA aB;simp only at aA aB;have cJ:=dZ k hlt;obtain⟨wd,dJ⟩:=eI (S.words.getD k []);rw[← dJ] at cJ;obtain⟨q2,o2,rfl,-,fU,cY⟩:=eP.o (by have:=bD.o;omega);obtain⟨q4,o4,rfl,-,eK,cT⟩:=eC.o (by have:=aZ.o;omega);have gC:=(bcell bC.o q2 (o2+i) fU).trans (cY i (by have:=bD.o;omega));have fD:=(bcell bC.o q4 (o4+j) eK).trans (cT j (by have:=aZ.o;omega));obtain⟨ea,cA⟩:=eI (a.ends.getD i false);obtain⟨eb,cL⟩:=eI (b.ends.getD j false);rw[← cA] at gC;rw[← cL] at fD;have jA:(i:Int)<a.ends.length:=by have:=bD.o;omega
   have jC:(j:Int)<b.ends.length:=by have:=aZ.o;omega
   have eG:(k:Int)<S.met.length:=by omega
   have bH:Zba (fun x y=>x && !y) a b (S.met.getD k (0,0))=(ea && !eb):=by rw[hp,cA,cL];rfl
   have fH:=qh hp;clear hp;have aQ:=qh dJ;clear dJ;have hV:=qh cA;clear cA;have hU:=qh cL;clear cL;have aG:=qh bH;clear bH;clear cY cT bJ dZ;have h3:(ea=true∧eb=false)∨ea=false∨(ea=true∧eb=true):=by cases ea<;>cases eb<;>simp
   rcases h3 with⟨rfl,rfl⟩|rfl|⟨rfl,rfl⟩
   ·have aT:=aG.o;have bL:=qh aT;clear aT;go_wp2
    go_quiet (fail)
    go_wp2
    go_quiet (fail)
    go_wp2
    go_ret2
    refine⟨?_,below_drewN bC.o _⟩;unfold hitE;rw[ZeX (s:=S) (d:=(0,0)) (by rw[G.o];exact ZdY (by have:=hK.o;omega)) aR.o.2.1 (ZaG _).2.1 hlt bO.o bL.o,← aQ.o];rfl
   all_goals
    go_wp2
    go_quiet (fail)
    go_wp2
    go_quiet (fail)
    go_wp2
    go_loopw [8,9,13] (fun vl vw i wi=>∃ n:Nat,i = .int .i64 n∧n≤3∧Below w.heap.size w wi∧Bx wi w.heap.size #[.slice a1 a.next.length c1,.slice (some ⟨q2,o2,none⟩) a.ends.length c2] 44 ∧ Bx wi (w.heap.size+1) #[.slice a3 b.next.length c3,.slice (some ⟨q4,o4,none⟩) b.ends.length c4] 44 ∧ L16W (w.heap.size+2) wi.heap.size wi (bpart (Zan a b) (0,0) k n) vl vw)
     (fun _ _ i _=>3-(intOf i).toNat)
    case atStart =>
     have cH:=fun m=>below_drewN (Below.refl wo.heap.size wo) m
     exact⟨0,rfl,by omega,below_drewN bC.o _,cQ.o.below (cH _) cQ.o.lt,cR.o.below (cH _) cR.o.lt,by rw[Zap,← G.o];exact(hF.o.below (cH _)).up (cH _).size⟩
    case round =>
     obtain⟨n,rfl,hn,I,bS,bM,hli⟩:=hrel;have aJ:k<(bat (Zan a b) (0,0) k).met.length:=by rw[← G.o];exact hlt
     have dU:(bat (Zan a b) (0,0) k).met.getD k (0,0)=((i:Int),(j:Int)):=by rw[← G.o];exact fH.o
     obtain⟨r,hC⟩:∃ r:World,r=wr:=⟨_,rfl⟩;subst hC;clear x0 x1 x2 x3 gC fD eA aA aB cJ;by_cases hn3:n<3
     ·have aY:=Zb2 aJ hn;have hL:(bpart (Zan a b) (0,0) k n).met.length≤1600:=Nat.le_trans (ZaF aJ hn (show k<k+1 by omega)).1.length_le (dB.o (k+1));have hle:=Za7 (nx:=Zan a b) (a:=(0,0)) (k:=k) (Nat.zero_le n);rw[Zap,← G.o] at hle;have X:=Zbp (nx:=Zan a b) (a:=(0,0)) (k:=k) (n:=n);have H:=Zbi (nx:=Zan a b) (a:=(0,0)) (k:=k) (n:=n);rw[dU] at X H;rw[← G.o,← aQ.o] at H;obtain⟨T,hT⟩:=eI (bpart (Zan a b) (0,0) k n);rw[← hT] at hli X H aY hL hle;have fT:k<T.met.length:=Nat.lt_of_lt_of_le hlt hle.1.length_le;have dH:T.met.getD k (0,0)=((i:Int),(j:Int)):=(Zas hle.1 hlt _).trans fH.o;have dD:T.words.getD k []=wd:=(Zas hle.2 (by rw[aR.o.2.1];exact hlt) _).trans aQ.o.symm;obtain⟨g',eJ,cap',rfl,hJ,iM,fL,R⟩:=hli.row (by omega);obtain⟨aW,jY,rfl,gK,hA,hI,aE⟩:=hli.word (by rw[aY.2.1];omega);rw[aY.2.1] at gK aE hli;rw[aY.2.1];have cJ:=aE k fT;rw[dD] at cJ;obtain⟨dP,dY,hD,eA,gT,gY,iJ,aA,aB⟩:=R k fT;rw[dH] at aA aB;simp only at aA aB;have x2:=bS.cell 0;have x3:=bM.cell 0;simp only[w_5,w_6] at x2 x3;obtain⟨q1,o1,rfl,-,gR,cW⟩:=fX.o (by omega);obtain⟨q3,o3,rfl,-,eV,cZ⟩:=gL.o (by omega);obtain⟨r1,s1,hc1',cU,iX,dX⟩:=cW i hi;obtain⟨r3,s3,aF,dA,iY,dK⟩:=cZ j hj;obtain⟨cG,gV⟩:=dM.o i hi;obtain⟨cE,gX⟩:=dQ.o j hj;obtain⟨ra,cM⟩:=eI (a.next.getD i []);obtain⟨rb,bQ⟩:=eI (b.next.getD j [])
      rw[← cM] at hc1' cU dX cG;rw[← bQ] at aF dA dK cE;obtain⟨_,_,eS,-,-,hB⟩:=dX.form;obtain⟨_,_,fJ,-,-,hM⟩:=dK.form;simp only[Value.slice.injEq,true_and] at eS fJ;obtain⟨rfl,rfl⟩:=eS;obtain⟨rfl,rfl⟩:=fJ;obtain⟨z1,t1,rfl,-,eN,bX⟩:=hB (by omega);obtain⟨z3,t3,rfl,-,fB,fV⟩:=hM (by omega);rw[cG] at hc1' cU;rw[cE] at aF dA;have k1:=(bcell I q1 (o1+i) gR).trans hc1';have k3:=(bcell I q3 (o3+j) eV).trans aF;have k2:=(bcell I z1 (t1+n) eN).trans (bX n (by omega));have k4:=(bcell I z3 (t3+n) fB).trans (fV n (by omega));obtain⟨ta,cD⟩:=eI (ra.getD n 0);obtain⟨Z,cI⟩:=eI (rb.getD n 0);rw[← cD] at k2;rw[← cI] at k4;have aC:Zan a b ((i:Int),(j:Int)) n=(ta,Z):=by simp only[Zan,Int.toNat_natCast,← cM,← bQ,← cD,← cI]
      rw[aC] at X H;have jD:(i:Int)<a.next.length:=by omega
      have jQ:(j:Int)<b.next.length:=by omega
      have jZ:(n:Int)<3:=by omega
      have iR:(k:Int)<T.met.length:=by omega
      have jI:=I.size;have jB:=qh hT;clear hT;have dF:=qh X;clear X;have dR:=qh H;clear H;have eT:=qh aY;clear aY;have iV:=qh hle;clear hle;have hW:=qh dH;clear dH;have gA:=qh dD;clear dD;have bN:=qh hli;clear hli;have aM:=qh I;clear I;have aI:=qh bS;clear bS;have z:=qh bM;clear bM;have iU:=qh cM;clear cM;have iK:=qh bQ;clear bQ;have iG:=qh cD;clear cD;have iF:=qh cI;clear cI;have gS:=qh aC;clear aC;have bR:=qh R;clear R;have gU:=qh aE;clear aE;have iE:=qh dU;clear dU;have iQ:=qh cG;clear cG;have iC:=qh cE;clear cE;clear cW cZ bX fV hc1' aF dX dK gV gX;go_wp2
      go_region_held3 (fun w'=>w'.cell? ⟨w.heap.size,0,none⟩=some (.slice (some ⟨q1,o1,none⟩) a.next.length c1)∧w'.cell? ⟨w.heap.size+1,0,none⟩=some (.slice (some ⟨q3,o3,none⟩) b.next.length c3)∧w'.cell? ⟨q1,o1+i,none⟩=some (.slice (some ⟨z1,t1,none⟩) 3 s1)∧w'.cell? ⟨q3,o3+j,none⟩=some (.slice (some ⟨z3,t3,none⟩) 3 s3)∧w'.cell? ⟨z1,t1+n,none⟩=some (.int .i64 ta)∧w'.cell? ⟨z3,t3+n,none⟩=some (.int .i64 Z) ∧
        w'.cell? ⟨g',eJ+k,none⟩=some (.slice (some ⟨dP,dY,none⟩) 2 hD)∧w'.cell? ⟨dP,dY,none⟩=some (.int .i64 i)∧w'.cell? ⟨dP,dY+1,none⟩=some (.int .i64 j))
       (first|go_keep) (fail)
      obtain⟨w3,aX⟩:=eI ((r.alloc (.cells #[.int .i64 ta,.int .i64 Z] 3)).drew);have gP:Below r.heap.size r w3:=by rw[aX];exact((Below.refl _ _).alloc (Nat.le_refl _) _).drew
      have x5:Bx w3 r.heap.size #[.int .i64 ta,.int .i64 Z] 3:=by rw[aX];exact(Bx.new r _ _).drew
      have jU:r.heap.size<w3.heap.size:=by rw[aX];simp
      rw[← aX];have iP:=qh aX;clear aX;have cP:=qh gP;clear gP;have cK:=qh x5;clear x5;clear k1 k2 k3 k4 eA aA aB x2 x3;go_wp2
      go_loopw [15,16] (fun f jj wj=>∃ m:Nat,jj = .int .i64 m∧m≤T.met.length∧(∃ fb:Bool,f = .bool fb∧fb = !decide ((ta,Z)∈T.met.take m))∧Below w3.heap.size w3 wj) (fun _ jj _=>T.met.length-(intOf jj).toNat)
      case atStart=>exact⟨0,rfl,Nat.zero_le _,⟨true,rfl,by simp⟩,Below.refl _ _⟩
      case round =>
       obtain⟨m,rfl,hm,⟨fb,rfl,M⟩,N⟩:=hrel;have B:Below r.heap.size r wr:=cP.o.trans (N.mono cP.o.size);by_cases hmT:m<T.met.length
       ·obtain⟨rm,om,jK,hr0,hY,iS,cN,aU,aL⟩:=bR.o m hmT;replace hr0:=(bcell B g' _ fL).trans hr0;replace aU:=(bcell B rm _ cN).trans aU;replace aL:=(bcell B rm _ cN).trans aL;have y5:=cK.o.below N cK.o.lt;have e0:=y5.cell 0;have e1:=y5.cell 1;simp only[w_5,w_6,w_7] at e0 e1;obtain⟨p,cC⟩:=eI (T.met.getD m (0,0));rw[← cC] at aU aL;obtain⟨xm,ym⟩:=p;simp only at aU aL;have gM:T.met.take (m+1)=T.met.take m++[(xm,ym)]:=by rw[List.take_succ_eq_append_getElem hmT,← Zbg (d:=(0,0)) hmT,← cC]
        have iB:(m:Int)<T.met.length:=by omega
        have hX:=qh cC;clear cC;have aO:=qh gM;clear gM;have bP:=qh M;clear M;have l:=qh N;clear N;have bA:=qh B;clear B;have jP:=qh y5;clear y5;have aK:=qh (fun (b':Bool) (h:b' = !decide ((ta,Z)∈T.met.take (m+1))) (q:Nat)=>(show(∃ m':Nat,Value.int .i64 ((m:Int)+1) = .int .i64 (m':Int)∧m'≤T.met.length∧(∃ fb:Bool,Value.bool b' = .bool fb∧fb = !decide ((ta,Z)∈T.met.take m'))∧Below w3.heap.size w3 (wr.drewN q)) from⟨m+1,by go_num,by omega,⟨b',rfl,h⟩,below_drewN l.o _⟩));cases fb
        ·go_wp2
         go_quiet (fail)
         go_wp2;go_roundw
         case rel =>
          refine aK.o false ?_ _;have h1:(ta,Z)∈T.met.take m:=by have:=bP.o;simpa using this.symm
          rw[aO.o];simp[h1]
         case measure=>simp[intOf];omega
        by_cases hxe:xm=ta
        ·subst hxe;by_cases hye:ym=Z
         ·subst hye;go_wp2
          go_quiet (fail)
          go_wp2;go_roundw
          case rel=>exact aK.o false (by rw[aO.o];simp) _
          case measure=>simp[intOf];omega
         have bX:(ym != Z)=true:=by simpa using hye
         have gZ:(!(ym==Z))=true:=by simpa using hye
         have fZ:=qh hye;clear hye;go_wp2
         go_quiet (fail)
         go_wp2;go_roundw
         case rel =>
          refine aK.o true ?_ _;have h1:¬ (xm,Z)∈T.met.take m:=by have:=bP.o;simpa using this.symm
          rw[aO.o];simp[h1,Ne.symm fZ.o]
         case measure=>simp[intOf];omega
        have bX:(xm != ta)=true:=by simpa using hxe
        have gZ:(!(xm==ta))=true:=by simpa using hxe
        have eW:=qh hxe;clear hxe;go_wp2
        go_quiet (fail)
        go_wp2;go_roundw
        case rel =>
         refine aK.o true ?_ _;have h1:¬ (ta,Z)∈T.met.take m:=by have:=bP.o;simpa using this.symm
         rw[aO.o];simp[h1,Ne.symm eW.o]
        case measure=>simp[intOf];omega
       obtain rfl:m=T.met.length:=by omega
       rw[List.take_length] at M;have O:Below w.heap.size w wr:=aM.o.trans (B.mono aM.o.size);have aV:=aI.o.below B aI.o.lt;have aP:=z.o.below B z.o.lt;have hlj:=bN.o.below B;have jG:=N.size;by_cases hmem:(ta,Z)∈T.met
       ·rw[decide_eq_true hmem] at M;have eD:=dF.o hmem;simp only[Bool.not_true] at M;subst M;have fK:=qh eD;clear eD;have dG:=qh hmem;clear hmem;have l:=qh N;clear N;have bA:=qh B;clear B;replace O:=qh O;have L:=qh aV;clear aV;have P:=qh aP;clear aP;have aS:=qh hlj;clear hlj;go_wp2;go_roundw
        case rel=>exact⟨n+1,by go_num,by omega,O.o,L.o,P.o,by rw[fK.o];exact aS.o.up (by omega)⟩
        case measure=>simp[intOf];omega
       rw[decide_eq_false hmem] at M;have fY:=dR.o hmem;simp only[Bool.not_false] at M;subst M;have eQ:=qh fY;clear fY;have dG:=qh hmem;clear hmem;have l:=qh N;clear N;have bA:=qh B;clear B;replace O:=qh O;have L:=qh aV;clear aV;have P:=qh aP;clear aP;have aS:=qh hlj;clear hlj;have dI:=(Below.refl wr.heap.size wr).alloc (Nat.le_refl _) (.cells #[.slice (some ⟨r.heap.size,0,none⟩) 2 2] 38);obtain⟨vs,dT,eX,eF⟩:=(aS.o.below dI).li;have bB:=dT.1;rw[List.length_map] at bB;have aN:=qh dI;clear dI;have gG:=qh dT;clear dT;have fW:=qh eX;clear eX;have fS:=qh eF;clear eF;have aD:=qh bB;clear bB;go_wp2_with (at_builtin;refine wpList_append_lies _ rfl _ _ _ rfl (w.heap.size+2) 38 i0 (.slice none 0 0) 1 24 Tryz.underlying41 gQ.o fN.o eR.o eM.o rfl (by omega) _ T.met.length _ rfl aD.o ⟨wr.heap.size,0,none⟩ 1 1 [.slice (some ⟨r.heap.size,0,none⟩) 2 2] rfl rfl (World.news_of_block (heap_alloc_new wr _)) (by intro u hu;simp at hu;subst hu;rfl) (by omega) (by unfold maxLen;omega) (by omega) (by have:=O.o.size;simp;omega) _ rfl ?_;intro g4 c4 J bE aH fC bF;have dN:=qh bE;have D:=qh (show(wr.alloc (.cells #[.slice (some ⟨r.heap.size,0,none⟩) 2 2] 38)).grownBy J _ from aH);clear bE aH fC)
       have dC:∀ e,38 ≠ e→ZbF (wr.alloc (.cells #[.slice (some ⟨r.heap.size,0,none⟩) 2 2] 38)) _ e:=fun e he=>Zah aD.o he
       have cX:OIntSS 38 3 (w.heap.size+2) J.heap.size J (.slice (some ⟨g4,0,none⟩) (T.met.length+1) c4) (T.met.map Zde++[[ta,Z]]):=by refine OIntSS.snoc gG.o fW.o fS.o (lr:=r.heap.size) (hr:=(wr.alloc (.cells #[.slice (some ⟨r.heap.size,0,none⟩) 2 2] 38)).heap.size) (rv:=.slice (some ⟨r.heap.size,0,none⟩) 2 2) ?_ (Nat.le_refl _) (by have:=z.o.lt;omega) (by decide) D.o (by rw[List.length_map];exact dN.o);have hx:=(cK.o.below l.o cK.o.lt).below aN.o (by have:=l.o.size;omega);exact Zab (Zcz (cs:=[.int .i64 ta,.int .i64 Z]) hx rfl (Nat.le_refl _) (by unfold maxLen;omega))
       have Y:=Zad (aS.o.below aN.o).wo D.o (dC _ (by decide));have cV:=(L.o.below aN.o L.o.lt).grown D.o (dC _ (by decide));have cO:=(P.o.below aN.o P.o.lt).grown D.o (dC _ (by decide));have cB:Below w.heap.size w J:=(O.o.alloc O.o.size _).grown D.o (Nat.le_trans O.o.size (by simp)) (fun j hj=>Nat.le_trans (Nat.le_add_right _ 2) (World.ownsRow.lt aD.o j hj).1);have dS:T.words.length=T.met.length:=eT.o.2.1;rw[dS] at Y;have fE:J.cell? ⟨aW,k,none⟩=some (.string (wdB wd)):=by rw[Y.cellAt k (by omega),← gA.o];simp[show k<T.words.length by omega]
       have bF:aW<J.heap.size:=(Y.lt aW rfl).2;have dL:(wdB wd).size≤100000:=by have:=Zew (nx:=Zan a b) (a:=(0,0)) k wd (by rw[aQ.o,G.o];exact memD (by rw[(ZaG k).2.1];exact aJ));rw[Zep];omega
       have dO:(wdB [n]).size≤100:=by rw[Zep];simp
       have iO:IntKind.i64.wrap (97+(n:Int))=97+(n:Int):=IntWalk.i64_in _ (by omega);have dE:=qh cX;clear cX;have bV:=qh Y;clear Y;have C:=qh cV;clear cV;have bT:=qh cO;clear cO;replace cB:=qh cB;have gB:=qh dS;clear dS;have jT:=Zf4 n hn3;have b1:=(Below.refl J.heap.size J).alloc (Nat.le_refl _) (.cells #[.int .u8 (97+(n:Int))] 5);have b2:=b1.alloc (by simp) (.cells #[.string (wdB wd++wdB [n])] 9);have jJ:=ZhM n hn3 (J.alloc (.cells #[.int .u8 (97+(n:Int))] 5)).drew J.heap.size 1 (Zex _ _ _ 0);have jS:(J.alloc (.cells #[.int .u8 (97+(n:Int))] 5)).drew.cell? ⟨aW,k,none⟩=some (.string (wdB wd)):=(bcell b1 _ _ bF).trans fE;have jE:((J.alloc (.cells #[.int .u8 (97+(n:Int))] 5)).alloc (.cells #[.string (wdB wd++wdB [n])] 9)).drew.cell? ⟨aW,k,none⟩=some (.string (wdB wd)):=(bcell b2 _ _ bF).trans fE;have cS:((J.alloc (.cells #[.int .u8 (97+(n:Int))] 5)).alloc (.cells #[.string (wdB wd++wdB [n])] 9)).drew.ownsRow (w.heap.size+2) 9 1 _ T.met.length (wdCells T.words):=(Own.below (Zab bV.o) b2.drew).1;have hE:=(C.o.below b2.drew C.o.lt).cell 0
       have gJ:((J.alloc (.cells #[.int .u8 (97+(n:Int))] 5)).alloc (.cells #[.string (wdB wd++wdB [n])] 9)).drew.heap[J.heap.size+1]? = some (.cells #[.string (wdB wd++wdB [n])] 9 (0,0)):=by have:=heap_alloc_new (J.alloc (.cells #[.int .u8 (97+(n:Int))] 5)) (.cells #[.string (wdB wd++wdB [n])] 9);simp only[World.size_alloc] at this;exact this
       have hG:=C.o.cell 0;simp only[w_5,w_6] at hE hG;have iD:w.heap.size+2≤J.heap.size:=by have:=(bV.o.lt aW rfl).1;omega
       replace b1:=qh b1;have bW:=qh b2;clear b2;have V:=qh cS;clear cS;have gH:=qh gJ;clear gJ;have iT:∀ w':World,(Op.stringOp .add (wdB wd) (wdB [n])).run Tryz.prog w' = .ok (.string (wdB wd++wdB [n])) w':=fun w'=>run_string_add_sum w' _ _ (by omega)
       have hZ:¬ 9223372036854775807<(wdB wd).size+(wdB [n]).size:=by omega
       go_region_law (first|(refine step_append_lies _ (by rfl) _ _ _ (by rfl) (w.heap.size+2) 9 s0 (.string { data:=#[] }) 1 16 Tryz.underlying88 fI.o fG.o gN.o fA.o (by rfl) (by omega) _ T.met.length (wdCells T.words) (by rfl) V.o ⟨J.heap.size+1,0,none⟩ 1 1 [.string (wdB wd++wdB [n])] (by rfl) (by rfl) (World.news_of_block gH.o) (by intro u hu;simp at hu;subst hu;rfl) (by omega) (by unfold maxLen;omega) (by omega) (by simp;omega) _ (by rfl) ?_;intro g7 c7 w7 bG U gO iN;have iZ:w7.cell? ⟨w.heap.size,0,none⟩=some (.slice (some ⟨q1,o1,none⟩) a.next.length c1):=(((C.o.below bW.o.drew C.o.lt).grown U (Zah V.o (by decide))).cell 0);have dV:=qh bG;have E:=qh U;clear bG U gO))
       all_goals
        go_wp2;go_roundw
        case rel =>
         have cF:∀ e,9 ≠ e→ZbF ((J.alloc (.cells #[.int .u8 (97+(n:Int))] 5)).alloc (.cells #[.string (wdB wd++wdB [n])] 9)).drew _ e:=fun e he=>Zah V.o he
         have hN:=((dE.o.below bW.o.drew).grown E.o (cF _ (by decide)) (cF _ (by decide))).mono (hi':=w7.heap.size) (Nat.le_refl _) (by have:=E.o.size;simp at this;omega);have eU:Below w.heap.size w w7:=(cB.o.trans (bW.o.drew.mono cB.o.size)).grown E.o (by simp;omega) (fun j hj=>Nat.le_trans (Nat.le_add_right _ 2) (World.ownsRow.lt V.o j hj).1);have bI:=(C.o.below bW.o.drew C.o.lt).grown E.o (cF _ (by decide));have bK:=(bT.o.below bW.o.drew bT.o.lt).grown E.o (cF _ (by decide))
         have eE:L16W (w.heap.size+2) w7.heap.size w7 ⟨T.met++[(ta,Z)],T.words++[wd++[n]]⟩ (.slice (some ⟨g4,0,none⟩) (T.met.length+1) c4) (.slice (some ⟨g7,0,none⟩) (T.met.length+1) c7):=by
          refine⟨?_,?_⟩
          ·simp only[List.map_append,List.map_cons,List.map_nil];exact hN
          have h:=dV.o;simp only[List.length_append,List.length_singleton,gB.o,wdCells,List.map_append,List.map_cons,List.map_nil,ZiU];exact h
         have eB:=(Below.refl w7.heap.size w7).drew;refine⟨n+1,by go_num,by omega,?_,?_,?_,?_⟩
         ·first|exact eU|exact eU.drew
         ·first|exact bI|exact bI.below eB bI.lt
         ·first|exact bK|exact bK.below eB bK.lt
         rw[eQ.o]
         first|exact eE|exact eE.below eB
        case measure=>simp[intOf];omega
     obtain rfl:n=3:=by omega
     have aM:=qh I;clear I;have aI:=qh bS;clear bS;have z:=qh bM;clear bM;have bN:=qh hli;clear hli;go_wp2;go_roundw
     case rel =>
      have bU:=ZaP aJ;have hle:=Za7 (nx:=Zan a b) (a:=(0,0)) (k:=k) (Nat.zero_le 3);rw[Zap,← G.o] at hle;have jM:=hle.1.length_le;refine⟨k+1,by go_num,by rw[bU];omega,fun j' gI => ?_,aM.o,aI.o,z.o,by rw[bU];exact bN.o⟩;rw[bU,Zas hle.1 (by omega)];by_cases hjk:j'<k
      ·exact bO.o j' hjk
      obtain rfl:j'=k:=by omega
      rw[aG.o];simp
     case measure=>simp[intOf];omega
  go_wp2
  go_ret2
  have eG:k=S.met.length:=by omega
  refine⟨?_,bC.o⟩;unfold hitE;rw[Zbc (k:=k) (by rw[← G.o];omega) (by have:=hK.o;omega),← G.o,ZdQ (d:=(0,0)) (by rw[← eG];exact bO.o)];rfl
theorem Zjo (a b:DfaD) (v1 v2:Value) (w:World) (hda:Zac a.next a.ends=true) (hdb:Zac b.next b.ends=true) (h1:DfaR 0 w v1 a) (h2:DfaR 0 w v2 b) :
  Calls Tryz.prog 79 #[v1,v2,.int .i64 2] w fun e w'=>e=ZaQ (hitX a b)∧Below w.heap.size w w':=Zjq Zhq rfl a b v1 v2 w hda hdb h1 h2
theorem Zbt (a b:DfaD) (v1 v2:Value) (w:World) (h1:DfaR 0 w v1 a) (h2:DfaR 0 w v2 b) (o:Option (List Nat)) (J:feO a b=o) :
  Calls Tryz.prog 40 #[v1,v2] w fun e w'=>e=ZaQ o∧Below w.heap.size w w':=by
 obtain⟨G,F,rfl,g1,g2⟩:=h1;obtain⟨I,H,rfl,g3,g4⟩:=h2;have hb2:Below w.heap.size w ((w.alloc (.cells #[G,F] 44)).alloc (.cells #[I,H] 44)):=((Below.refl _ _).alloc (Nat.le_refl _) _).alloc (by simp) _;have Z:QH (DfaR 0 ((w.alloc (.cells #[G,F] 44)).alloc (.cells #[I,H] 44)) (.agg #[G,F]) a):=qh ⟨_,_,rfl,g1.below hb2,g2.below hb2⟩;have m:QH (DfaR 0 ((w.alloc (.cells #[G,F] 44)).alloc (.cells #[I,H] 44)) (.agg #[I,H]) b):=qh ⟨_,_,rfl,g3.below hb2,g4.below hb2⟩;have c:Bx ((w.alloc (.cells #[G,F] 44)).alloc (.cells #[I,H] 44)) w.heap.size #[G,F] 44:=(Bx.new w _ _).alloc _;have x1:Bx ((w.alloc (.cells #[G,F] 44)).alloc (.cells #[I,H] 44)) (w.heap.size+1) #[I,H] 44:=by simpa using Bx.new (w.alloc (.cells #[G,F] 44)) #[I,H] 44
 obtain⟨s,hs⟩:=Za3 (hitX a b);have C:=qh hb2;clear hb2;replace hs:=qh hs;replace J:=qh J;have R:=qh c;clear c;have L:=qh x1;clear x1;clear g1 g2 g3 g4;cases hda:Zac a.next a.ends
 all_goals
  replace hda:=qh hda
  go_enter Tryz.func40, Tryz.ntmps40
  go_wp2_with fail;refine(Zco a _ _ Z.o _ hda.o).mono ?_;rintro e w1 ⟨rfl,hb1⟩;have X:=R.o.below hb1 R.o.lt;have y1:=L.o.below hb1 L.o.lt;have c0:=y1.cell 0;have c1:=y1.cell 1;simp only[w_5,w_6,w_7] at c0 c1;have Q:=C.o.trans (hb1.mono C.o.size);have g:=qh (Z.o.below hb1);have Y:=qh (m.o.below hb1);replace hb1:=qh hb1;have E:=qh Q;clear Q;have N:=qh X;clear X;have S:=qh y1;clear y1
 ·go_wp2
  go_ret2
  exact⟨by rw[← J.o,feO,hda.o];rfl,E.o⟩
 cases hdb:Zac b.next b.ends
 all_goals
  have B:=qh hdb;clear hdb;go_wp2_with fail;refine(Zco b _ _ Y.o _ B.o).mono ?_;rintro e w2 ⟨rfl,hb2⟩;have V:=N.o.below hb2 N.o.lt;have U:=S.o.below hb2 S.o.lt;have P:=E.o.trans (hb2.mono E.o.size);have i:=qh (g.o.below hb2);have k:=qh (Y.o.below hb2);have j:=V.cell 0;have e1:=V.cell 1;have e2:=U.cell 0;have e3:=U.cell 1;simp only[w_5,w_6,w_7] at j e1 e2 e3;have C:=qh hb2;clear hb2;have D:=qh P;clear P;have l:=qh V;clear V;have d:=qh U;clear U;clear c0 c1
 ·go_wp2
  go_ret2
  exact⟨by rw[← J.o,feO,hda.o,B.o];rfl,D.o⟩
 go_wp2_with fail;refine(Zjo a b _ _ _ hda.o B.o i.o k.o).mono ?_;rintro e n ⟨he,M⟩;rw[hs.o] at he;subst he;have O:=D.o.trans (M.mono D.o.size);have T:=qh O;clear O;clear M;go_wp2
 go_ret2
 refine⟨?_,T.o⟩;rw[← J.o,feO,hda.o,B.o,if_pos (by rfl),hs.o];rfl
end Go.Proofs.YtncekbbhgipdlaaGreat
namespace Go.Proofs.YtncekbbhgipdlaaGreat
def StarL (L:List Nat→Prop) (w:List Nat):Prop:=∃ ws:List (List Nat),w=ws.flatten∧∀ u∈ws,L u
theorem StarL.nil {L:List Nat→Prop}:StarL L []:=⟨[],rfl,by simp⟩
theorem StarL.cons {L:List Nat→Prop} {u w:List Nat} (h:L u) (B:StarL L w):StarL L (u++w):=by
 obtain⟨ws,rfl,C⟩:=B
 exact⟨u::ws,rfl,fun x hx=>by
  rcases List.mem_cons.1 hx with rfl|hx
  ·exact h
  exact C x hx⟩
def memE:Ex→List Nat→Prop
 | .zero,_=>False
 | .one,w=>w=[]
 | .ltr c,w=>w=[c.val]
 | .join a b,w=>∃ u v,w=u++v∧memE a u∧memE b v
 | .alt a b,w=>memE a w∨memE b w
 | .both a b,w=>memE a w∧memE b w
 | .neg a,w=>¬ memE a w
 | .star a,w=>StarL (memE a) w
def seg (w:List Nat) (i j:Nat):List Nat:=(w.drop i).take (j-i)
theorem ZeL {w:List Nat} {i j:Nat} (hij:i≤j) (hj:j≤w.length):(seg w i j).length=j-i:=by unfold seg;rw[List.length_take,List.length_drop];omega
theorem ZlZ (w:List Nat) (i:Nat):seg w i i=[]:=by unfold seg;simp
theorem ZrG (w:List Nat):seg w 0 w.length=w:=by unfold seg;simp
theorem Ze3 {w:List Nat} {i k j:Nat} (h1:i≤k) (h2:k≤j):seg w i j=seg w i k++seg w k j:=by
 unfold seg;have e:j-i=(k-i)+(j-k):=by omega
 rw[e,List.take_add,List.drop_drop];congr 3;omega
theorem Zg7 {w u v:List Nat} {i j:Nat} (hij:i≤j) (hj:j≤w.length) (h:seg w i j=u++v):i+u.length≤j∧u=seg w i (i+u.length)∧v=seg w (i+u.length) j:=by
 have hl:=ZeL hij hj;rw[h,List.length_append] at hl;have hk:i+u.length≤j:=by omega
 have hs:=Ze3 (w:=w) (i:=i) (k:=i+u.length) (j:=j) (by omega) hk;rw[h] at hs;have B:u.length=(seg w i (i+u.length)).length:=by rw[ZeL (by omega) (by omega)];omega
 obtain⟨e1,e2⟩:=List.append_inj hs B;exact⟨hk,e1,e2⟩
theorem ZnY {w:List Nat} {i c:Nat} (hi:i<w.length):seg w i (i+1)=[c]↔w.getD i 0=c:=by
 have e:seg w i (i+1)=[w.getD i 0]:=by unfold seg;rw[Nat.add_sub_cancel_left,List.drop_eq_getElem_cons hi,List.take_succ_cons,List.take_zero];simp[hi]
 rw[e];simp
def memS (t:Ex) (w:List Nat) (i j:Nat):Prop:=memE t (seg w i j)
theorem ZoG (w:List Nat) (i j:Nat):¬ memS .zero w i j:=fun h=>h
theorem ZqI {w:List Nat} {i j:Nat} (hij:i≤j) (hj:j≤w.length):memS .one w i j↔i=j:=by
 show seg w i j=[]↔_;have hl:=ZeL hij hj;constructor
 ·intro h;rw[h] at hl;simp at hl;omega
 rintro rfl;exact ZlZ w i
theorem ZqJ {w:List Nat} {i j:Nat} {c:Fin 3} (hij:i≤j) (hj:j≤w.length):memS (.ltr c) w i j↔j=i+1∧w.getD i 0=c.val:=by
 show seg w i j=[c.val]↔_;have hl:=ZeL hij hj;constructor
 ·intro h;have e:j=i+1:=by rw[h] at hl;simp at hl;omega
  subst e;exact⟨rfl,(ZnY (by omega)).1 h⟩
 rintro⟨rfl,h⟩;exact(ZnY (by omega)).2 h
theorem ZoI {a b:Ex} {w:List Nat} {i j:Nat} (hij:i≤j) (hj:j≤w.length):memS (.join a b) w i j↔∃ k,i≤k∧k≤j∧memS a w i k∧memS b w k j:=by
 constructor
 ·rintro⟨u,v,h,h1,h2⟩;obtain⟨hk,e1,e2⟩:=Zg7 hij hj h;exact⟨i+u.length,by omega,hk,by unfold memS;rw[← e1];exact h1,by unfold memS;rw[← e2];exact h2⟩
 rintro⟨k,h1,h2,h3,h4⟩;exact⟨_,_,Ze3 h1 h2,h3,h4⟩
theorem StarL.first {L:List Nat→Prop} {w:List Nat} (h:StarL L w):w=[]∨∃ u v,u≠[]∧w=u++v∧L u∧StarL L v:=by
 obtain⟨ws,rfl,hs⟩:=h
 induction ws with
 | nil=>exact .inl rfl
 | cons u ws B =>
  by_cases hu:u=[]
  ·subst hu;exact B fun x hx=>hs x (by simp[hx])
  exact .inr ⟨u,ws.flatten,hu,rfl,hs u (by simp),ws,rfl,fun x hx=>hs x (by simp[hx])⟩
theorem StarL.snoc {L:List Nat→Prop} {u w:List Nat} (h:StarL L w) (B:L u):StarL L (w++u):=by
 obtain⟨ws,rfl,C⟩:=h;refine⟨ws++[u],by simp,fun x hx => ?_⟩;rcases List.mem_append.1 hx with hx|hx
 ·exact C x hx
 simp at hx;subst hx;exact B
theorem StarL.last {L:List Nat→Prop} {w:List Nat} (h:StarL L w):w=[]∨∃ u v,v≠[]∧w=u++v∧StarL L u∧L v:=by
 obtain⟨ws,rfl,hs⟩:=h;obtain⟨B,rfl⟩:∃ B:List (List Nat),ws=B.reverse:=⟨ws.reverse,by simp⟩
 induction B with
 | nil=>exact .inl rfl
 | cons u B C =>
  have hu:L u:=hs u (by simp);have hr:∀ x∈B.reverse,L x:=fun x hx=>hs x (by simp at hx ⊢;exact .inl hx)
  rw[List.reverse_cons,List.flatten_append];by_cases hn:u=[]
  ·subst hn;simpa using C hr
  exact .inr ⟨B.reverse.flatten,u,hn,by simp,⟨B.reverse,rfl,hr⟩,hu⟩
theorem ZoH {a:Ex} {w:List Nat} {i j:Nat} (hij:i≤j) (hj:j≤w.length):memS (.star a) w i j↔i=j∨∃ k,i+1≤k∧k≤j∧memS a w i k∧memS (.star a) w k j:=by
 constructor
 ·intro h;rcases StarL.first h with h|⟨u,v,hu,h,h1,h2⟩
  ·have hl:=ZeL hij hj;rw[h] at hl;simp at hl;exact .inl (by omega)
  obtain⟨hk,e1,e2⟩:=Zg7 hij hj h;have B:=List.length_pos_iff.2 hu;exact .inr ⟨i+u.length,by omega,hk,by unfold memS;rw[← e1];exact h1,by unfold memS;rw[← e2];exact h2⟩
 rintro(rfl|⟨k,h1,h2,h3,h4⟩)
 ·unfold memS;rw[ZlZ];exact StarL.nil
 unfold memS;rw[Ze3 (show i≤k by omega) h2];exact StarL.cons h3 h4
def stR (A:Nat→Nat→Prop):Nat→Nat→Nat→Prop
 | 0,i,j=>i=j
 | m+1,i,j=>stR A m i j∨∃ k,i≤k∧k≤j∧stR A m i k∧A k j
theorem Zqk {A:Nat→Nat→Prop} {i j:Nat}:∀ {m n:Nat},m≤n→stR A m i j→stR A n i j
 | m,n,h,hm=>by
  induction n with
  | zero=>obtain rfl:m=0:=by omega
          exact hm
  | succ n B =>
   by_cases he:m=n+1
   ·subst he;exact hm
   exact .inl (B (by omega))
theorem Zi3 {a:Ex} {w:List Nat}:∀ (m:Nat) {i j:Nat},i≤j→j≤w.length→stR (memS a w) m i j→memS (.star a) w i j
 | 0,i,j,hij,hj,h=>(ZoH hij hj).2 (.inl h)
 | m+1,i,j,hij,hj,h=>by
  rcases h with h|⟨k,h1,h2,h3,h4⟩
  ·exact Zi3 m hij hj h
  have hs:=Zi3 m h1 (by omega) h3;unfold memS at hs h4 ⊢;rw[Ze3 h1 h2];exact StarL.snoc hs h4
theorem Zqi {a:Ex} {w:List Nat}:∀ (d:Nat) {i j:Nat},i≤j→j≤w.length→j-i≤d→memS (.star a) w i j→stR (memS a w) d i j:=by
 intro d
 induction d with
 | zero =>intro i j hij hj hd h;exact(show i=j by omega)
 | succ d C =>
  intro i j hij hj hd h;rcases StarL.last h with h|⟨u,v,D,h,h1,h2⟩
  ·have hl:=ZeL hij hj;rw[h] at hl;simp at hl;exact Zqk (Nat.zero_le _) (show i=j by omega)
  obtain⟨hk,e1,e2⟩:=Zg7 hij hj h;have hl:=ZeL hij hj;rw[h,List.length_append] at hl;have B:=List.length_pos_iff.2 D;exact .inr ⟨i+u.length,by omega,hk,C (by omega) (by omega) (by omega) (by unfold memS;rw[← e1];exact h1),by unfold memS;rw[← e2];exact h2⟩
theorem ZrE {a:Ex} {w:List Nat} {i j:Nat} (hij:i≤j) (hj:j≤w.length):stR (memS a w) w.length i j↔memS (.star a) w i j :=
 ⟨Zi3 _ hij hj,Zqi _ hij hj (by omega)⟩
end Go.Proofs.YtncekbbhgipdlaaGreat
namespace Go.Proofs.YtncekbbhgipdlaaGreat
open Go.RowKit
def spC (T:Nat→Nat→Bool):Array Value:=((List.range 81).map fun k=>Value.bool (T (k / 9) (k % 9))).toArray
theorem Zal (T:Nat→Nat→Bool):(spC T).size=81:=by simp[spC]
theorem ZnX (T:Nat→Nat→Bool) {i j:Nat} (hi:i<9) (hj:j<9):(spC T)[i*9+j]? = some (.bool (T i j)):=by unfold spC;rw[w_5,List.getElem?_map,List.getElem?_range (by omega)];rw[Option.map_some,show(i*9+j) / 9=i by omega,show(i*9+j) % 9=j by omega]
theorem ZrF (T:Nat→Nat→Bool) {i j:Nat} (hi:i<9) (hj:j<9) (v:Bool):(spC T).setIfInBounds (i*9+j) (.bool v)=spC (fun a b=>if a=i∧b=j then v else T a b):=by
 unfold spC;rw[w_1];congr 1;apply List.ext_getElem?;intro k;rw[List.getElem?_set,List.getElem?_map,List.getElem?_map];by_cases hk:k<81
 ·rw[List.getElem?_range hk];by_cases he:i*9+j=k
  ·subst he;rw[if_pos rfl,if_pos (by simp;omega),Option.map_some];exact congrArg (fun x=>some (Value.bool x)) (if_pos ⟨by omega,by omega⟩).symm
  rw[if_neg he,Option.map_some,Option.map_some];exact congrArg (fun x=>some (Value.bool x)) (if_neg (fun h=>he (by have:=h.1;have:=h.2;omega))).symm
 rw[List.getElem?_eq_none (by simp;omega)];by_cases he:i*9+j=k
 ·omega
 rw[if_neg he];rfl
theorem Zbr (T:Nat→Nat→Bool):∀ v∈(spC T).toList,v.oneCell'=true:=fun v B=>by simp only[spC,List.mem_map] at B;obtain⟨k,-,rfl⟩:=B;rfl
theorem Zdo {T U:Nat→Nat→Bool} (h:∀ i j,i<9→j<9→T i j=U i j):spC T=spC U:=by unfold spC;congr 1;apply List.map_congr_left;intro k hk;rw[List.mem_range] at hk;rw[h (k / 9) (k % 9) (by omega) (by omega)]
def Zaq (n:Nat) (F:Nat→Nat→Bool) (a b:Nat):Bool:=decide (a≤b∧b≤n)&&F a b
def ZdR (n:Nat) (F:Nat→Nat→Bool) (i j a b:Nat):Bool:=decide (a≤b∧b≤n∧(a<i∨a=i∧b<j))&&F a b
theorem Znf (n:Nat) (F:Nat→Nat→Bool):spC (ZdR n F 0 0)=spC (fun _ _=>false):=Zdo fun a b _ _=>by unfold ZdR;rw[decide_eq_false (by omega)];rfl
theorem Zpl (n:Nat) (F:Nat→Nat→Bool) (i:Nat):spC (ZdR n F i 0)=spC (ZdR n F i i):=Zdo fun a b _ _=>by unfold ZdR;congr 1;exact decide_eq_decide.2 (by omega)
theorem Znh (n:Nat) (F:Nat→Nat→Bool) (i:Nat):spC (ZdR n F i (n+1))=spC (ZdR n F (i+1) 0):=Zdo fun a b _ _=>by unfold ZdR;congr 1;exact decide_eq_decide.2 (by omega)
theorem Zpm (n:Nat) (F:Nat→Nat→Bool):spC (ZdR n F (n+1) 0)=spC (Zaq n F):=Zdo fun a b _ _=>by unfold ZdR Zaq;congr 1;exact decide_eq_decide.2 (by omega)
theorem Zng (n:Nat) (F:Nat→Nat→Bool) {i j:Nat} (hij:i≤j) (hj:j≤n) (hn:n≤8):(spC (ZdR n F i j)).setIfInBounds (i*9+j) (.bool (F i j))=spC (ZdR n F i (j+1)):=by
 rw[ZrF _ (by omega) (by omega)];refine Zdo fun a b _ _ => ?_
 unfold ZdR;by_cases h:a=i∧b=j
 ·obtain⟨rfl,rfl⟩:=h;rw[if_pos ⟨rfl,rfl⟩,decide_eq_true (by omega),Bool.true_and]
 rw[if_neg h];congr 1;exact decide_eq_decide.2 (by omega)
theorem Zb1 (fn:Nat) (D:Array Value) (n:Nat) (F:Nat→Nat→Bool) (w:World) (hn:n≤8) (G:∀ args u,(callFunc fn args).run Tryz.prog u = .ok (.enter fn args) u)
  (l:∀ (i j:Nat),i≤j→j≤n→∀ u:World,Below w.heap.size w u→Calls Tryz.prog fn (#[.int .i64 (i:Int),.int .i64 (j:Int)]++D) u fun e w'=>e = .returned (.bool (F i j))∧Below u.heap.size u w') :
  Calls Tryz.prog 144 #[.int .i64 (n:Int),.func (.func fn) #[] D] w fun e w'=>e = .returned (.agg (spC (Zaq n F)))∧Below w.heap.size w w':=by
 have p:=qh l;have O:=qh G;clear l G;have hz:Tryz.zeroCells132 = spC fun _ _=>false:=by rfl
 have H:=qh (show St w _ [Ent.box w.heap.size (spC fun _ _=>false) 132,Ent.box (w.heap.size+1) (spC (ZdR n F 0 0)) 132] from by rw[Znf];exact((St.start w).alloc w.heap.size rfl (spC fun _ _=>false) 132).alloc (w.heap.size+1) (by simp) (spC fun _ _=>false) 132);rw[← hz] at H;clear hz
 go_enter Tryz.func144, Tryz.ntmps144
 go_wp2
 go_loopw [6,7] (fun Z X wr=>∃ i:Nat,Z = .int .i64 (i:Int)∧i≤n+1∧St w wr [Ent.box w.heap.size (spC fun _ _=>false) 132,Ent.box (w.heap.size+1) (spC (ZdR n F i 0)) 132]) (fun Z _ _=>n+1-(intOf Z).toNat)
 case atStart=>exact⟨0,rfl,Nat.zero_le _,H.o⟩
 case round =>
  obtain⟨i,rfl,hi,hS⟩:=hrel;have C:=qh hS;clear hS H;by_cases hlt:i≤n
  ·have c:(i:Int)≤(n:Int):=by omega
   have x:IntKind.i64.wrap ((i:Int)+1)=(i:Int)+1:=IntWalk.i64_in _ (by omega);go_wp2
   go_loopw [7] (fun X wr=>∃ j:Nat,X = .int .i64 (j:Int)∧i≤j∧j≤n+1∧St w wr [Ent.box w.heap.size (spC fun _ _=>false) 132,Ent.box (w.heap.size+1) (spC (ZdR n F i j)) 132]) (fun X _=>n+1-(intOf X).toNat)
   case atStart=>exact⟨i,rfl,Nat.le_refl _,by omega,Zpl n F i ▸ C.o⟩
   case round =>
    obtain⟨j,rfl,hij,hj,hS⟩:=hrel;have N:=qh hS;clear hS;by_cases hlt2:j≤n
    ·have b:(j:Int)≤(n:Int):=by omega
     have hjn:=hlt2;have m:(i:Int)<9:=by omega
     have q:(j:Int)<9:=by omega
     have r:IntKind.i64.wrap ((j:Int)+1)=(j:Int)+1:=IntWalk.i64_in _ (by omega);go_wp2;refine wp_region_any (by kernel_rfl) ?_
     refine Zay (fun A listed a w'=>∃ (P l1 l2 U Y S R T V:Bool) ,listed=#[P,l1,l2,U,Y,S,R,T,V] ∧
       a=⟨((((((((A.tmps.setIfInBounds 19 (if P=true then .int .i64 (i:Int) else A.tmps.getD 19 undef)).setIfInBounds 20 (if l1=true then .int .i64 (j:Int) else A.tmps.getD 20 undef)).setIfInBounds 21 (if l2=true then .func (.func fn) #[] D else A.tmps.getD 21 undef)).setIfInBounds 22 (if U=true then .int .i64 (i:Int) else A.tmps.getD 22 undef)).setIfInBounds 23 (if Y=true then .int .i64 (j:Int) else A.tmps.getD 23 undef)).setIfInBounds 24 (if S=true then .bool (F i j) else A.tmps.getD 24 undef)).setIfInBounds 25 (if R=true then .pointer (some ⟨(w.heap.size+1),i*9,none⟩) else A.tmps.getD 25 undef)).setIfInBounds 26 (if T=true then .pointer (some ⟨(w.heap.size+1),i*9+j,none⟩) else A.tmps.getD 26 undef)),A.defers⟩ ∧
       St w w' [Ent.box w.heap.size (spC fun _ _=>false) 132,(if V=true then Ent.box ((w.heap.size+1)) (spC (ZdR n F i (j+1))) 132 else Ent.box ((w.heap.size+1)) (spC (ZdR n F i j)) 132)]) ?_ ?_ ?_
     ·rintro listed a w' ⟨P,l1,l2,U,Y,S,R,T,V,rfl,rfl,hS⟩ i hi;obtain⟨B,o,Q,hall⟩:=mem_ready.1 hi;have hlt:=(Array.getElem?_eq_some_iff.1 Q).1;refine wpOp_step Q (fun K E => ?_);clear hi;have C:=qh hS;clear hS;simp only[w_1,w_2,w_3,w_4,w_5,w_6,w_7,w_8];obtain h|h|h|h|h|h|h|h|h:i=0∨i=1∨i=2∨i=3∨i=4∨i=5∨i=6∨i=7∨i=8:=by simp at hlt;omega
      all_goals subst h
      all_goals simp only[w_5,w_6,w_7,w_9] at Q
      all_goals subst Q
      all_goals simp[Region.binds] at B hall
      ·subst B;go_simp;exact E _ _ ⟨_,_,_,_,_,_,_,_,_,rfl,(by simp),C.o⟩
      ·subst B;go_simp;exact E _ _ ⟨_,_,_,_,_,_,_,_,_,rfl,(by simp),C.o⟩
      ·subst B;go_simp;exact E _ _ ⟨_,_,_,_,_,_,_,_,_,rfl,(by simp),C.o⟩
      ·subst B;go_simp;exact E _ _ ⟨_,_,_,_,_,_,_,_,_,rfl,(by simp),C.o⟩
      ·subst B;go_simp;exact E _ _ ⟨_,_,_,_,_,_,_,_,_,rfl,(by simp),C.o⟩
      ·obtain⟨rfl,rfl,rfl⟩:=hall;subst B;go_simp;rw[O.o];go_simp;refine(p.o i j hij hjn _ C.o.bel).mono ?_;rintro e z ⟨rfl,hb⟩;have J:=C.o.call hb;replace J:=qh J;go_simp;exact E _ _ ⟨_,_,_,_,_,_,_,_,_,rfl,(by simp),J.o⟩
      ·obtain rfl:=hall;subst B;go_simp;exact E _ _ ⟨_,_,_,_,_,_,_,_,_,rfl,(by simp),C.o⟩
      ·obtain⟨rfl,rfl,rfl,-,rfl,rfl,rfl,rfl⟩:=hall;subst B;go_simp;exact E _ _ ⟨_,_,_,_,_,_,_,_,_,rfl,(by simp),C.o⟩
      obtain⟨rfl,rfl,rfl,rfl,rfl,rfl,rfl,-⟩:=hall;subst B;have f0:=C.o.fr 1 (i*9+j) rfl;have y:=C.o.cell (v:=.bool (ZdR n F i j i j)) 1 (i*9+j) rfl (ZnX _ (by omega) (by omega));go_simp;exact E _ _ ⟨_,_,_,_,_,_,_,_,_,rfl,(by simp),(Zng n F hij hjn hn ▸ C.o.set 1 rfl (i*9+j) (.bool (F i j)))⟩
     ·rintro listed a w' ⟨P,l1,l2,U,Y,S,R,T,V,rfl,rfl,hS⟩ hr;obtain⟨rfl,rfl,rfl,rfl,rfl,rfl,rfl,rfl,rfl,-⟩:=zA (Za1 (by kernel_rfl) rfl hr) rfl;clear hr ;simp only[↓reduceIte] at hS ⊢;simp only[w_1,w_2,w_3];have g:=qh hS;clear hS;go_wp2;go_roundw
      case rel=>exact⟨j+1,by simp,by omega,by omega,g.o⟩
      case measure=>simp[intOf];omega
     refine⟨false,false,false,false,false,false,false,false,false,rfl,(by simp),?_⟩;exact N.o.drew.pick [0,1] (by decide)
    have b:¬ (j:Int)≤(n:Int):=by omega
    obtain rfl:j=n+1:=by omega
    go_wp2;go_roundw
    case rel=>exact⟨i+1,by simp,by omega,Znh n F i ▸ N.o⟩
    case measure=>simp[intOf];omega
  have c:¬ (i:Int)≤(n:Int):=by omega
  have hin:i=n+1:=by omega
  have I:=C.o;rw[hin,Zpm] at I;have L:=qh I;have k:=qh hin;clear hin;clear I;rename_i hK0;have s:=qh hK0;clear hK0;go_wp2;refine s.o _ _ ?_;have d:(Tryz.prog.info? 132).map (·.size)=some 81:=by kernel_rfl
  refine wp_seq ?_;refine wp_region_list ?_;refine ZhX rfl 132 _ rfl (w.heap.size+1) rfl 132 (spC (Zaq n F)) _ (L.o.box 1 rfl) Tryz.underlying132 rfl (by rw[d,Zal]) ?_;refine ZgU rfl 132 _ _ rfl w.heap.size 132 (spC fun _ _=>false) (spC (Zaq n F)) rfl rfl (L.o.box 0 rfl) (by rw[d,Zal]) (by rw[Zal,Zal]) (Zbr _) ?_;refine wpList_nil ?_;have M:=qh (L.o.setAll 0 rfl (spC (Zaq n F)));show Code.wp Tryz.prog Code.ret _ _ _;go_wp2;refine bodyPost_ret (v:=.agg (spC (Zaq n F))) (Zb6 Tryz.results144 _ _ _ w.heap.size 132 (spC (Zaq n F)) _ rfl (M.o.box 0 rfl) Tryz.underlying132 rfl (by rw[d,Zal])) rfl ?_;exact⟨rfl,M.o.bel⟩
def TabAt (w:World) (b:Nat) (T:Nat→Nat→Bool):Prop:=∀ x y,x<9→y<9→w.cell? ⟨b,x*9+y,none⟩=some (.bool (T x y))
theorem TabAt.of_box {w:World} {b:Nat} {T:Nat→Nat→Bool} {t:TypeId} (h:Bx w b (spC T) t):TabAt w b T:=fun x y hx hy=>(h.cell (x*9+y)).trans (ZnX T hx hy)
theorem Zly (A B:Nat→Nat→Bool) (b2 b3 i j:Nat) (u:World) (hij:i≤j) (hj:j≤8) (L:TabAt u b2 A) (I:TabAt u b3 B) (r:Bool) (hr:r=true↔∃ k,i≤k∧k≤j∧A i k=true∧B k j=true) :
  Calls Tryz.prog 162 #[.int .i64 (i:Int),.int .i64 (j:Int),.pointer (some ⟨b2,0,none⟩),.pointer (some ⟨b3,0,none⟩)] u fun e w'=>e = .returned (.bool r)∧Below u.heap.size u w':=by
 have HA:=qh L;have HB:=qh I;have HR:=qh hr;clear L I hr;have M:(i:Int)<9:=by omega
 have N:(j:Int)<9:=by omega
 go_enter Tryz.func162, Tryz.ntmps162
 go_wp2
 go_loopw [7] (fun E wr=>∃ k:Nat,E = .int .i64 (k:Int)∧i≤k∧k≤j+1∧(∀ m,i≤m→m<k→¬ (A i m=true∧B m j=true))∧wr=u) (fun E _=>j+1-(intOf E).toNat)
 case atStart=>exact⟨i,rfl,Nat.le_refl _,by omega,fun m h1 h2=>by omega,rfl⟩
 case round =>
  obtain⟨k,rfl,hik,hk,D,rfl⟩:=hrel;have C:=qh D;clear D;by_cases hlt:k≤j
  ·have hk1:(k:Int)≤(j:Int):=by omega
   have O:(k:Int)<9:=by omega
   have Q:IntKind.i64.wrap ((k:Int)+1)=(k:Int)+1:=IntWalk.i64_in _ (by omega);have H:=HA.o i k (by omega) (by omega);have J:=HB.o k j (by omega) (by omega);cases ha:A i k with
   | false =>
    rw[ha] at H;have F:=qh ha;clear ha;go_wp2;go_roundw
    case rel=>exact⟨k+1,by simp,by omega,by omega,fun m h1 h2 h3=>by
     by_cases he:m=k
     ·subst he;rw[F.o] at h3;exact absurd h3.1 (by simp)
     exact C.o m h1 (by omega) h3,trivial⟩
    case measure=>simp[intOf];omega
   | true =>
    rw[ha] at H;have F:=qh ha;clear ha;cases hb:B k j with
    | false =>
     rw[hb] at J;have P:=qh hb;clear hb;go_wp2;go_roundw
     case rel=>exact⟨k+1,by simp,by omega,by omega,fun m h1 h2 h3=>by
      by_cases he:m=k
      ·subst he;rw[P.o] at h3;exact absurd h3.2 (by simp)
      exact C.o m h1 (by omega) h3,trivial⟩
     case measure=>simp[intOf];omega
    | true =>rw[hb] at J;have G:r=true:=HR.o.2 ⟨k,hik,hlt,F.o,hb⟩;subst G;clear hb;go_wp2;go_ret;exact⟨rfl,Below.refl _ _⟩
  have hk1:¬ (k:Int)≤(j:Int):=by omega
  have hrf:r=false:=by
   cases hr:r with
   | false=>rfl
   | true =>obtain⟨m,h1,h2,h3,h4⟩:=HR.o.1 hr;exact absurd ⟨h3,h4⟩ (C.o m h1 (by omega))
  subst hrf;go_wp2;go_ret;exact⟨rfl,Below.refl _ _⟩
theorem Zbz {f : FuncId} {fn : Func} {c : Code} (hf : Tryz.prog.funcs[f]? = some fn) (hname : (fn.name == "runtime.NumGoroutine") = false) (hb : fn.body = some c) (args : Array Value) (w : World) :
  (callFunc f args).run Tryz.prog w = .ok (.enter f args) w:=by
 have h1 : fn.name ≠ "runtime.NumGoroutine" := by simpa using hname
 simp[callFunc,hf,h1,hb]
theorem Zee (n:Nat) (A B F:Nat→Nat→Bool) (w:World) (hn:n≤8) (G:∀ i j,i≤j→j≤n→(F i j=true↔∃ k,i≤k∧k≤j∧A i k=true∧B k j=true)) :
  Calls Tryz.prog 147 #[.int .i64 (n:Int),.agg (spC A),.agg (spC B)] w fun e w'=>e = .returned (.agg (spC (Zaq n F)))∧Below w.heap.size w w':=by
 have H:=qh G;clear G;have hz:Tryz.zeroCells132 = spC fun _ _=>false:=by rfl
 have C:=qh (show St w _ [Ent.box w.heap.size (spC A) 132,Ent.box (w.heap.size+1) (spC B) 132,Ent.box (w.heap.size+1+1) (spC fun _ _=>false) 132] from((((St.start w).alloc w.heap.size rfl (spC A) 132).alloc (w.heap.size+1) (by simp) (spC B) 132)).alloc (w.heap.size+1+1) (by simp) (spC fun _ _=>false) 132);rw[← hz] at C;replace hz:=qh hz
 go_enter Tryz.func147, Tryz.ntmps147
 go_wp2_with (go_at_call 144;go_loud (refine(Zb1 162 #[.pointer (some ⟨w.heap.size,0,none⟩),.pointer (some ⟨w.heap.size+1,0,none⟩)] n F _ hn (Zbz Tryz.func162 (by kernel_rfl) rfl) (fun i j hij hj u hu=>Zly A B _ _ i j u hij (by omega) (TabAt.of_box ((C.o.call hu).box 0 rfl)) (TabAt.of_box ((C.o.call hu).box 1 rfl)) (F i j) (H.o i j hij hj))).mono ?_;rintro e w1 ⟨rfl,hb⟩;have E:=qh (C.o.call hb);have J:=Zbu (P:=Tryz.prog) (E.o.box 2 rfl) (cs':=spC (Zaq n F)) (by rw[Zal,hz.o,Zal]) (Zbr _);clear hb));have I:(Tryz.prog.info? 132).map (·.size)=some 81:=by kernel_rfl
 have D:=qh (E.o.setAll 2 rfl (spC (Zaq n F)));refine bodyPost_ret (v:=.agg (spC (Zaq n F))) (Zb6 Tryz.results147 _ _ _ (w.heap.size+1+1) 132 (spC (Zaq n F)) _ rfl (D.o.box 2 rfl) Tryz.underlying132 rfl (by rw[I,Zal])) rfl ?_;exact⟨rfl,D.o.bel⟩
theorem ZnS (i j:Nat) (u:World) (r:Bool) (hr:r=true↔i=j) (_hi:i≤8) (hj:j≤8) :
  Calls Tryz.prog 163 #[.int .i64 (i:Int),.int .i64 (j:Int)] u fun e w'=>e = .returned (.bool r)∧Below u.heap.size u w':=by
 by_cases h:i=j
 ·have B:=hr.2 h;subst B h;clear hr
  go_enter Tryz.func163, Tryz.ntmps163
  go_wp2;go_ret;exact⟨by simp,Below.refl _ _⟩
 have B:r=false:=by
  cases r with
  | false=>rfl
  | true=>exact absurd (hr.1 rfl) h
 subst B;have hn:((i:Int)==(j:Int))=false:=by simp;omega
 clear hr
 go_enter Tryz.func163, Tryz.ntmps163
 go_wp2;go_ret;exact⟨by simp,Below.refl _ _⟩
theorem ZnR (A B:Nat→Nat→Bool) (b2 b3 i j:Nat) (u:World) (hij:i≤j) (hj:j≤8) (D:TabAt u b2 A) (C:TabAt u b3 B) (r:Bool) (hr:(A i j||B i j)=r) :
  Calls Tryz.prog 164 #[.int .i64 (i:Int),.int .i64 (j:Int),.pointer (some ⟨b2,0,none⟩),.pointer (some ⟨b3,0,none⟩)] u fun e w'=>e = .returned (.bool r)∧Below u.heap.size u w':=by
 have G:(i:Int)<9:=by omega
 have H:(j:Int)<9:=by omega
 have E:=D i j (by omega) (by omega);have F:=C i j (by omega) (by omega);cases ha:A i j with
 | true =>
  rw[ha] at E hr;subst hr;clear ha D C F
  go_enter Tryz.func164, Tryz.ntmps164
  go_wp2;go_ret;exact⟨rfl,Below.refl _ _⟩
 | false =>
  rw[ha] at E hr;obtain⟨y,hy⟩:=eJ (B i j);rw[hy] at F hr;rw[Bool.false_or] at hr;subst hr;clear ha D C hy
  go_enter Tryz.func164, Tryz.ntmps164
  go_wp2;go_ret;exact⟨rfl,Below.refl _ _⟩
def Zh7 (A B:Nat→Nat→Bool) (i j:Nat):Bool:=(List.range 9).any fun k=>decide (i≤k∧k≤j)&&(A i k&&B k j)
theorem Zfl {A B:Nat→Nat→Bool} {n i j:Nat} (hn:n≤8) (hj:j≤n):Zh7 A B i j=true↔∃ k,i≤k∧k≤j∧A i k=true∧B k j=true:=by
 unfold Zh7;rw[List.any_eq_true];constructor
 ·rintro⟨k,-,h⟩;rw[Bool.and_eq_true,Bool.and_eq_true,decide_eq_true_eq] at h;exact⟨k,h.1.1,h.1.2,h.2.1,h.2.2⟩
 rintro⟨k,h1,h2,h3,h4⟩;refine⟨k,List.mem_range.2 (by omega),?_⟩;rw[Bool.and_eq_true,Bool.and_eq_true,decide_eq_true_eq];exact⟨⟨h1,h2⟩,h3,h4⟩
def stB (n:Nat) (A:Nat→Nat→Bool):Nat→Nat→Nat→Bool
 | 0=>fun i j=>decide (i=j)
 | m+1=>fun i j=>stB n A m i j||Zh7 (Zaq n (stB n A m)) A i j
theorem ZbR {n i j:Nat} (F:Nat→Nat→Bool) (h1:i≤j) (h2:j≤n):Zaq n F i j=F i j:=by unfold Zaq;rw[decide_eq_true ⟨h1,h2⟩,Bool.true_and]
theorem Zk4 {n:Nat} (hn:n≤8) (A:Nat→Nat→Bool):∀ (m:Nat) {i j:Nat},i≤j→j≤n→(stB n A m i j=true↔stR (fun a b=>A a b=true) m i j)
 | 0,i,j,_,_=>by simp[stB,stR]
 | m+1,i,j,hij,hj=>by show(stB n A m i j||Zh7 _ A i j)=true↔stR _ m i j∨_;rw[Bool.or_eq_true,Zk4 hn A m hij hj,Zfl hn hj];refine or_congr Iff.rfl (exists_congr fun k=>and_congr_right fun h1=>and_congr_right fun h2 => ?_);rw[ZbR _ h1 (by omega),Zk4 hn A m h1 (by omega)]
theorem Zce {C:Oper} {a:Act} {w:World} {K:Act→World→Prop} {Q:Exit→Act→World→Prop} (B:TypeId) (x:Operand) (D:C.op = .load B x) (b:Nat) (T:TypeId) (cs:Array Value) (d:TypeDesc) (hx:a.eval x = .pointer (some ⟨b,0,none⟩)) (hb:Bx w b cs T)
  (hu:Tryz.prog.underlying B=some d) (hd:d.isRow=true) (hi:(Tryz.prog.info? B).map (·.size)=some cs.size) (h:K (a.put C.dst (.agg cs)) w):C.wp Tryz.prog a w K Q:=by
 have hr:(loadVar B ⟨b,0,none⟩).run Tryz.prog w = .ok (.agg cs) w:=run_loadVar_row w b T B cs (0,0) d hb hu (by cases d<;>simp_all [TypeDesc.isRow]) hi;unfold Oper.wp execOp;simp only[D,hx,Instr.loadAt,Instr.sureAddr,Sem.run_bind,Sem.run_pure,Result.andThen_ok,hr];exact h
theorem Zi5 (w:World) (o:Obj) (b:Nat) (cs:Array Value):((w.alloc o).setRow b cs).heap.size=w.heap.size+1:=by unfold World.setRow World.alloc;simp
theorem Zi2 (n:Nat) (A:Nat→Nat→Bool) (w:World) (hn:n≤8) :
  Calls Tryz.prog 151 #[.int .i64 (n:Int),.agg (spC A)] w fun e w'=>e = .returned (.agg (spC (Zaq n (stB n A n))))∧Below w.heap.size w w':=by
 have hz:Tryz.zeroCells132 = spC fun _ _=>false:=by rfl
 have N:=qh (show St w _ [Ent.box w.heap.size (spC A) 132,Ent.box (w.heap.size+1) (spC fun _ _=>false) 132] from((St.start w).alloc w.heap.size rfl (spC A) 132).alloc (w.heap.size+1) (by simp) (spC fun _ _=>false) 132);rw[← hz] at N;replace hz:=qh hz
 go_enter Tryz.func151, Tryz.ntmps151
 go_wp2_with (go_at_call 144;go_loud (refine(Zb1 163 #[] n (fun i j=>decide (i=j)) _ hn (Zbz Tryz.func163 (by kernel_rfl) rfl) (fun i j hij hj u _=>ZnS i j u _ (by simp) (by omega) (by omega))).mono ?_;rintro e w1 ⟨rfl,hb⟩;have I:=qh ((N.o.call hb).alloc _ rfl Tryz.zeroCells132 132);have B:=Zbu (P:=Tryz.prog) (I.o.box 2 rfl) (cs':=spC (Zaq n fun i j=>decide (i=j))) (by rw[Zal,hz.o,Zal]) (Zbr _);clear hb));have D:=qh (I.o.setAll 2 rfl (spC (Zaq n (stB n A 0))));obtain⟨g,T⟩:=eI (w1.heap.size);rw[← T] at D ⊢;replace T:=qh T;clear B I
 go_loopw [6,7,11] (fun Z X vm wr=>∃ m:Nat,vm = .int .i64 (m:Int)∧m≤n∧St w wr [Ent.box w.heap.size (spC A) 132,Ent.box (w.heap.size+1) Tryz.zeroCells132 132,Ent.box g (spC (Zaq n (stB n A m))) 132]) (fun _ _ vm _=>n-(intOf vm).toNat)
 case atStart=>exact⟨0,rfl,Nat.zero_le _,D.o⟩
 case round =>
  obtain⟨m,rfl,hm,hS⟩:=hrel;have R:=qh hS;clear hS D;by_cases hlt:m<n
  ·have S:(m:Int)<(n:Int):=by omega
   have V:IntKind.i64.wrap ((m:Int)+1)=(m:Int)+1:=IntWalk.i64_in _ (by omega);have M:(Tryz.prog.info? 132).map (·.size)=some 81:=by kernel_rfl
   go_wp2;refine Zce 132 _ rfl g 132 _ _ rfl (R.o.box 2 rfl) Tryz.underlying132 rfl (by rw[M,Zal]) ?_;go_wp2;refine Zce 132 _ rfl w.heap.size 132 _ _ rfl (R.o.box 0 rfl) Tryz.underlying132 rfl (by rw[M,Zal]) ?_;go_wp2_with (go_at_call 147;go_loud (refine(Zee n (Zaq n (stB n A m)) A (Zh7 (Zaq n (stB n A m)) A) _ hn (fun i j hij hj=>Zfl hn hj)).mono ?_;rintro e w2 ⟨rfl,hb⟩;have E:=qh ((R.o.call hb).alloc _ rfl Tryz.zeroCells132 132);have B:=Zbu (P:=Tryz.prog) (E.o.box 3 rfl) (cs':=spC (Zaq n (Zh7 (Zaq n (stB n A m)) A))) (by rw[Zal,hz.o,Zal]) (Zbr _);clear hb));have G:=qh (E.o.setAll 3 rfl (spC (Zaq n (Zh7 (Zaq n (stB n A m)) A))));clear B E;refine Zce 132 _ rfl g 132 _ _ rfl (G.o.box 2 rfl) Tryz.underlying132 rfl (by rw[M,Zal]) ?_;have H:=qh (G.o.alloc (w2.heap.size+1) (Zi5 _ _ _ _) Tryz.zeroCells132 132);have B:=Zbu (P:=Tryz.prog) (H.o.box 4 rfl) (cs':=spC (Zaq n (stB n A m))) (by rw[Zal,hz.o,Zal]) (Zbr _);have C:=qh (H.o.setAll 4 rfl (spC (Zaq n (stB n A m))));clear H G
   go_wp2_with (go_at_call 144;go_loud (clear B;refine(Zb1 164 #[.pointer (some ⟨w2.heap.size+1,0,none⟩),.pointer (some ⟨w2.heap.size,0,none⟩)] n (stB n A (m+1)) _ hn (Zbz Tryz.func164 (by kernel_rfl) rfl) (fun i j hij hj u hu=>ZnR (Zaq n (stB n A m)) (Zaq n (Zh7 (Zaq n (stB n A m)) A)) _ _ i j u hij (by omega) (TabAt.of_box ((C.o.call hu).box 4 rfl)) (TabAt.of_box ((C.o.call hu).box 3 rfl)) (stB n A (m+1) i j) (by rw[ZbR _ hij hj,ZbR _ hij hj];rfl))).mono ?_;rintro e Y ⟨rfl,hb⟩;have Q:=qh (C.o.call hb);have B:=Zbu (P:=Tryz.prog) (Q.o.box 2 rfl) (cs':=spC (Zaq n (stB n A (m+1)))) (by rw[Zal,Zal]) (Zbr _);clear hb C));go_roundw
   case rel=>exact⟨m+1,by simp,by omega,(Q.o.setAll 2 rfl (spC (Zaq n (stB n A (m+1))))).pick [0,1,2] (by decide)⟩
   case measure=>simp[intOf];omega
  have S:¬ (m:Int)<(n:Int):=by omega
  have L:m=n:=by omega
  have F:=R.o;rw[L] at F;have J:=qh F;have M:(Tryz.prog.info? 132).map (·.size)=some 81:=by kernel_rfl
  have B:=Zbu (P:=Tryz.prog) (J.o.box 1 rfl) (cs':=spC (Zaq n (stB n A n))) (by rw[Zal,hz.o,Zal]) (Zbr _);have U:=qh L;clear L;clear F R;go_wp2;refine Zce 132 _ rfl g 132 _ _ rfl (J.o.box 2 rfl) Tryz.underlying132 rfl (by rw[M,Zal]) ?_;go_wp2;have O:=qh (J.o.setAll 1 rfl (spC (Zaq n (stB n A n))));refine bodyPost_ret (v:=.agg (spC (Zaq n (stB n A n)))) (Zb6 Tryz.results151 _ _ _ (w.heap.size+1) 132 (spC (Zaq n (stB n A n))) _ rfl (O.o.box 1 rfl) Tryz.underlying132 rfl (by rw[M,Zal])) rfl ?_;exact⟨rfl,O.o.bel⟩
theorem Zg1 {A B:Nat→Nat→Prop} {n:Nat} (h:∀ a b,a≤b→b≤n→(A a b↔B a b)):∀ (m:Nat) {i j:Nat},i≤j→j≤n→(stR A m i j↔stR B m i j)
 | 0,_,_,_,_=>Iff.rfl
 | m+1,i,j,hij,hj=>or_congr (Zg1 h m hij hj) (exists_congr fun k=>and_congr_right fun h1=>and_congr_right fun h2=>and_congr (Zg1 h m h1 (by omega)) (h k j h2 hj))
def tabE (n:Nat) (ls:List Nat):Ex→Nat→Nat→Bool
 | .zero=>fun _ _=>false
 | .one=>fun i j=>decide (i=j)
 | .ltr c=>fun i j=>decide (j=i+1∧ls.getD i 0=c.val)
 | .join a b=>Zh7 (Zaq n (tabE n ls a)) (Zaq n (tabE n ls b))
 | .alt a b=>fun i j=>Zaq n (tabE n ls a) i j||Zaq n (tabE n ls b) i j
 | .both a b=>fun i j=>Zaq n (tabE n ls a) i j&&Zaq n (tabE n ls b) i j
 | .neg a=>fun i j => !Zaq n (tabE n ls a) i j
 | .star a=>stB n (Zaq n (tabE n ls a)) n
theorem ZcD {n:Nat} {ls:List Nat} (hl:ls.length=n) (hn:n≤8):∀ (t:Ex) {i j:Nat},i≤j→j≤n→(tabE n ls t i j=true↔memS t ls i j)
 | .zero,i,j,_,_=>by simp[tabE,ZoG]
 | .one,i,j,hij,hj=>by rw[ZqI hij (by omega)];simp[tabE]
 | .ltr c,i,j,hij,hj=>by rw[ZqJ hij (by omega)];simp[tabE]
 | .join a b,i,j,hij,hj=>by
  rw[ZoI hij (by omega)];show Zh7 _ _ i j=true↔_;rw[Zfl hn hj];refine exists_congr fun k=>and_congr_right fun h1=>and_congr_right fun h2 => ?_
  rw[ZbR _ h1 (by omega),ZbR _ h2 hj,ZcD hl hn a h1 (by omega),ZcD hl hn b h2 hj]
 | .alt a b,i,j,hij,hj=>by show(Zaq n _ i j||Zaq n _ i j)=true↔_;rw[ZbR _ hij hj,ZbR _ hij hj,Bool.or_eq_true,ZcD hl hn a hij hj,ZcD hl hn b hij hj];rfl
 | .both a b,i,j,hij,hj=>by show(Zaq n _ i j&&Zaq n _ i j)=true↔_;rw[ZbR _ hij hj,ZbR _ hij hj,Bool.and_eq_true,ZcD hl hn a hij hj,ZcD hl hn b hij hj];rfl
 | .neg a,i,j,hij,hj=>by show(!Zaq n _ i j)=true↔¬ memS a ls i j;rw[ZbR _ hij hj,← ZcD hl hn a hij hj];simp
 | .star a,i,j,hij,hj=>by show stB n _ n i j=true↔_;rw[Zk4 hn _ n hij hj,← ZrE hij (by omega),hl];refine Zg1 (n:=n) (fun x y hx hy => ?_) n hij hj;rw[ZbR _ hx hy,ZcD hl hn a hx hy]
theorem Zqe {ls:List Nat} (hn:ls.length≤8) (t:Ex):tabE ls.length ls t 0 ls.length=true↔memE t ls:=by rw[ZcD rfl hn t (Nat.zero_le _) (Nat.le_refl _)];unfold memS;rw[ZrG]
def mkE (p:Int × Int) (a b:Ex):Ex:=if p.1=1 then .zero else if p.1=2 then .one else if p.1=3 then .ltr (if p.2=1 then 1 else if p.2=2 then 2 else 0) else if p.1=4 then .join a b else if p.1=5 then .alt a b else if p.1=6 then .both a b else if p.1=7 then .neg a else .star a
theorem Zoz (c:Fin 3) (a b:Ex):mkE (3,(c.val:Int)) a b = .ltr c:=by
 have:c=0∨c=1∨c=2:=by omega
 rcases this with rfl|rfl|rfl<;>rfl
def stpE (p:Int × Int) (st:List Ex):Option (List Ex) :=
 if Zag p=0 then some (mkE p .zero .zero::st)
 else if Zag p=1 then
  match st with
  | a::r=>some (mkE p a a::r)
  | []=>none
 else
  match st with
  | b::a::r=>some (mkE p a b::r)
  | _=>none
def runE:List (Int × Int)→List Ex→Option (List Ex)
 | [],st=>some st
 | p::ps,st=>(stpE p st).bind (runE ps)
theorem Zg9 {p:Int × Int} (hp:Zag p=0) (rest:List (Int × Int)) (st:List Ex):runE (p::rest) st=runE rest (mkE p .zero .zero::st):=by show(stpE p st).bind _=_;unfold stpE;rw[if_pos hp];rfl
theorem Zl1 {p:Int × Int} (hp:Zag p=1) (rest:List (Int × Int)) (a:Ex) (st:List Ex):runE (p::rest) (a::st)=runE rest (mkE p a a::st):=by show(stpE p (a::st)).bind _=_;unfold stpE;rw[if_neg (by omega),if_pos hp];rfl
theorem Zjb {p:Int × Int} (hp:Zag p=2) (rest:List (Int × Int)) (a b:Ex) (st:List Ex):runE (p::rest) (b::a::st)=runE rest (mkE p a b::st):=by show(stpE p (b::a::st)).bind _=_;unfold stpE;rw[if_neg (by omega),if_neg (by omega)];rfl
theorem Zb4:∀ (t:Ex) (rest:List (Int × Int)) (st:List Ex),runE (t.post++rest) st=runE rest (t::st)
 | .zero,rest,st=>Zg9 Ze6 rest st
 | .one,rest,st=>Zg9 Ze5 rest st
 | .ltr c,rest,st=>by have:=Zg9 (Zet c) rest st;rw[Zoz] at this;exact this
 | .join a b,rest,st=>by show runE (a.post++b.post++[(4,0)]++rest) st=_;rw[List.append_assoc,List.append_assoc,Zb4 a,Zb4 b];exact Zjb ZeQ rest a b st
 | .alt a b,rest,st=>by show runE (a.post++b.post++[(5,0)]++rest) st=_;rw[List.append_assoc,List.append_assoc,Zb4 a,Zb4 b];exact Zjb Zhf rest a b st
 | .both a b,rest,st=>by show runE (a.post++b.post++[(6,0)]++rest) st=_;rw[List.append_assoc,List.append_assoc,Zb4 a,Zb4 b];exact Zjb ZeR rest a b st
 | .neg a,rest,st=>by show runE (a.post++[(7,0)]++rest) st=_;rw[List.append_assoc,Zb4 a];exact Zl1 Zhe rest a st
 | .star a,rest,st=>by show runE (a.post++[(8,0)]++rest) st=_;rw[List.append_assoc,Zb4 a];exact Zl1 ZeP rest a st
theorem ZmM (t:Ex):runE t.post []=some [t]:=by
 have:=Zb4 t [] []
 rwa [List.append_nil] at this
theorem Zn0 {es:List (Int × Int)} {k:Nat} (hk:k<es.length) (st:List Ex):runE (es.drop k) st=(stpE (es.getD k (0,0)) st).bind (runE (es.drop (k+1))):=by
 have e:es.drop k=es.getD k (0,0)::es.drop (k+1):=by rw[show es.getD k (0,0)=es[k] by simp[hk]];exact(List.getElem_cons_drop hk).symm
 rw[e];rfl
-- steps, over a stack whose top is its end
theorem Zjn {l:List Ex} {t:Nat} (h:l.length=t+1):l=l.take t++[l.getD t .zero]:=by
 have e:l.take (t+1)=l:=by rw[← h];exact List.take_length
 rw[List.take_succ_eq_append_getElem (by omega)] at e;have e2:l.getD t .zero=l[t]:=by simp[show t<l.length by omega]
 rw[e2];exact e.symm
theorem ZsI {p:Int × Int} (hp:Zag p=0) (ds:List Ex):stpE p ds.reverse=some ((ds.take (ds.length-0)++[mkE p .zero .zero]).reverse):=by unfold stpE;rw[if_pos hp,Nat.sub_zero,List.take_length,List.reverse_append];rfl
theorem ZsH {p:Int × Int} (hp:Zag p=1) {ds:List Ex} {t:Nat} (h:ds.length=t+1):stpE p ds.reverse=some ((ds.take t++[mkE p (ds.getD t .zero) (ds.getD t .zero)]).reverse):=by
 have e:=Zjn h;have er:ds.reverse=ds.getD t .zero::(ds.take t).reverse:=by rw[show ds.reverse=(ds.take t++[ds.getD t .zero]).reverse by rw[← e]];simp
 rw[er];unfold stpE;rw[if_neg (by omega),if_pos hp];simp
theorem ZsG {p:Int × Int} (hp:Zag p=2) {ds:List Ex} {t:Nat} (h:ds.length=t+1+1):stpE p ds.reverse=some ((ds.take t++[mkE p (ds.getD t .zero) (ds.getD (t+1) .zero)]).reverse):=by
 have e:=Zjn h;have hl:(ds.take (t+1)).length=t+1:=by rw[List.length_take];omega
 have e2:=Zjn hl;have e3:(ds.take (t+1)).getD t .zero=ds.getD t .zero:=by simp only[List.getD_eq_getElem?_getD];rw[List.getElem?_take,if_pos (Nat.lt_succ_self t)]
 rw[List.take_take,Nat.min_eq_left (by omega),e3] at e2;have er:ds.reverse=ds.getD (t+1) .zero::ds.getD t .zero::(ds.take t).reverse:=by rw[show ds.reverse=(ds.take (t+1)++[ds.getD (t+1) .zero]).reverse by rw[← e],e2];simp
 rw[er];unfold stpE;rw[if_neg (by omega),if_neg (by omega)];simp
-- the trees that end at the parts
theorem Zqo (i j:Nat) (u:World) (r:Bool) (hr:r=true↔i=j) (_hi:i≤8) (hj:j≤8) :
  Calls Tryz.prog 145 #[.int .i64 (i:Int),.int .i64 (j:Int)] u fun e w'=>e = .returned (.bool r)∧Below u.heap.size u w':=by
 by_cases h:i=j
 ·have B:=hr.2 h;subst B h;clear hr
  go_enter Tryz.func145, Tryz.ntmps145
  go_wp2;go_ret;exact⟨by simp,Below.refl _ _⟩
 have B:r=false:=by
  cases r with
  | false=>rfl
  | true=>exact absurd (hr.1 rfl) h
 subst B;have hn:((i:Int)==(j:Int))=false:=by simp;omega
 clear hr
 go_enter Tryz.func145, Tryz.ntmps145
 go_wp2;go_ret;exact⟨by simp,Below.refl _ _⟩
theorem Znl (A B:Nat→Nat→Bool) (b2 b3 i j:Nat) (u:World) (hij:i≤j) (hj:j≤8) (D:TabAt u b2 A) (C:TabAt u b3 B) (r:Bool) (hr:(A i j||B i j)=r) :
  Calls Tryz.prog 148 #[.int .i64 (i:Int),.int .i64 (j:Int),.pointer (some ⟨b2,0,none⟩),.pointer (some ⟨b3,0,none⟩)] u fun e w'=>e = .returned (.bool r)∧Below u.heap.size u w':=by
 have G:(i:Int)<9:=by omega
 have H:(j:Int)<9:=by omega
 have E:=D i j (by omega) (by omega);have F:=C i j (by omega) (by omega);cases ha:A i j with
 | true =>
  rw[ha] at E hr;subst hr;clear ha D C F
  go_enter Tryz.func148, Tryz.ntmps148
  go_wp2;go_ret;exact⟨rfl,Below.refl _ _⟩
 | false =>
  rw[ha] at E hr;obtain⟨y,hy⟩:=eJ (B i j);rw[hy] at F hr;rw[Bool.false_or] at hr;subst hr;clear ha D C hy
  go_enter Tryz.func148, Tryz.ntmps148
  go_wp2;go_ret;exact⟨rfl,Below.refl _ _⟩
theorem ZpM (A B:Nat→Nat→Bool) (b2 b3 i j:Nat) (u:World) (hij:i≤j) (hj:j≤8) (D:TabAt u b2 A) (C:TabAt u b3 B) (r:Bool) (hr:(A i j&&B i j)=r) :
  Calls Tryz.prog 149 #[.int .i64 (i:Int),.int .i64 (j:Int),.pointer (some ⟨b2,0,none⟩),.pointer (some ⟨b3,0,none⟩)] u fun e w'=>e = .returned (.bool r)∧Below u.heap.size u w':=by
 have G:(i:Int)<9:=by omega
 have H:(j:Int)<9:=by omega
 have E:=D i j (by omega) (by omega);have F:=C i j (by omega) (by omega);cases ha:A i j with
 | false =>
  rw[ha] at E hr;subst hr;clear ha D C F
  go_enter Tryz.func149, Tryz.ntmps149
  go_wp2;go_ret;exact⟨rfl,Below.refl _ _⟩
 | true =>
  rw[ha] at E hr;obtain⟨y,hy⟩:=eJ (B i j);rw[hy] at F hr;rw[Bool.true_and] at hr;subst hr;clear ha D C hy
  go_enter Tryz.func149, Tryz.ntmps149
  go_wp2;go_ret;exact⟨rfl,Below.refl _ _⟩
theorem Zqv (A:Nat→Nat→Bool) (b2 i j:Nat) (u:World) (hij:i≤j) (hj:j≤8) (B:TabAt u b2 A) (r:Bool) (hr:(!A i j)=r) :
  Calls Tryz.prog 150 #[.int .i64 (i:Int),.int .i64 (j:Int),.pointer (some ⟨b2,0,none⟩)] u fun e w'=>e = .returned (.bool r)∧Below u.heap.size u w':=by
 have D:(i:Int)<9:=by omega
 have E:(j:Int)<9:=by omega
 have C:=B i j (by omega) (by omega);obtain⟨y,hy⟩:=eJ (A i j);rw[hy] at C hr;subst hr;clear B hy
 go_enter Tryz.func150, Tryz.ntmps150
 go_wp2;go_ret;exact⟨rfl,Below.refl _ _⟩
def lsT (l:List Nat):List Nat:=l.map (·-97)
theorem ZoL (l:List Nat):(lsT l).length=l.length:=by simp[lsT]
theorem Zsw {l:List Nat} {i:Nat} (hi:i<l.length):(lsT l).getD i 0=l.getD i 0-97:=by simp[lsT,hi]
theorem Zeo {l:List Nat} (h:wdOk l=true):l.length≤8∧∀ i,i<l.length→97≤l.getD i 0∧l.getD i 0≤99:=by unfold wdOk okT at h;rw[Bool.and_eq_true,decide_eq_true_eq,List.all_eq_true] at h;refine⟨h.2,fun i hi => ?_⟩;have h1:=h.1 i (List.mem_range.2 hi);simp only[inB,Bool.and_eq_true,decide_eq_true_eq] at h1;omega
theorem ZoN (l:List Nat) (b2 b3 i j c:Nat) (u:World) (ht:isT l) (E:wdOk l=true) (hij:i≤j) (hj:j≤l.length) (h2:u.cell? ⟨b2,0,none⟩=some (.string (txB l))) (h3:u.cell? ⟨b3,1,none⟩=some (.int .i64 (c:Int))) (r:Bool) (hr:decide (j=i+1∧(lsT l).getD i 0=c)=r) :
  Calls Tryz.prog 146 #[.int .i64 (i:Int),.int .i64 (j:Int),.pointer (some ⟨b2,0,none⟩),.pointer (some ⟨b3,0,none⟩)] u fun e w'=>e = .returned (.bool r)∧Below u.heap.size u w':=by
 obtain⟨hn,B⟩:=Zeo E;have I:IntKind.i64.wrap ((i:Int)+1)=(i:Int)+1:=IntWalk.i64_in _ (by omega);have J:=qh ht;clear ht E;by_cases hji:j=i+1
 ·have hd:((j:Int)==(i:Int)+1)=true:=by simp;omega
  have hlt:i<l.length:=by omega
  have F:=(B i hlt).1;obtain⟨d,C⟩:=eJ (l.getD i 0-97);rw[Zsw hlt,C] at hr
  have D:((d:Int)==(c:Int))=r:=by
   rw[← hr];by_cases h:d=c
   ·subst h;simp[hji]
   rw[decide_eq_false (fun g=>h g.2)];simp;omega
  subst D;have hle:=fun H=>ZeU l i hlt J.o F H
  rw[C] at hle;have G:=qh hle;clear hle C hr B F
  go_enter Tryz.func146, Tryz.ntmps146
  go_wp2
  go_quiet ((go_at_call 68;with_reducible exact Ze4 (G.o _)))
  go_wp2;go_ret;exact⟨rfl,below_drewN (Below.refl _ _) _⟩
 have hd:((j:Int)==(i:Int)+1)=false:=by simp;omega
 have D:r=false:=by rw[← hr,decide_eq_false (fun g=>hji g.1)]
 subst D;clear hr B
 go_enter Tryz.func146, Tryz.ntmps146
 go_wp2
 go_quiet (fail)
 go_wp2;go_ret;exact⟨rfl,below_drewN (Below.refl _ _) _⟩
end Go.Proofs.YtncekbbhgipdlaaGreat
