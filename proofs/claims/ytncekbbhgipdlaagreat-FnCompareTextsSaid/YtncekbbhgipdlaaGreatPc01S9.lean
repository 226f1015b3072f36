/-
  The walk over the program's exploration of pairs of states.
  Conditions: a bound on the number of pairs; contracts for the two functions that are handed in.
-/
import Derived.Test.YtncekbbhgipdlaaGreatPc00Prod
set_option maxHeartbeats 8000000
set_option maxRecDepth 100000
namespace Go.Proofs.YtncekbbhgipdlaaGreat
open Go.RowKit Go.Maps
theorem Tryz.infoPr:(Tryz.prog.info? 170).map (fun i=>(i.zero,i.size,i.bytes))=some (some (.agg #[.int .i64 0,.int .i64 0]),2,16):=by kernel_rfl
theorem ZiS (w:World):(zeroValue 3).run Tryz.prog w = .ok (.int .i64 0) w:=by kernel_rfl
theorem Ziy:Own4 170:=by unfold Own4;decide
abbrev pairZ:Value:=.agg #[.int .i64 0,.int .i64 0]
def RExp (nx:Int × Int→Nat→Int × Int) (en:Int × Int→Bool) (most B:Nat) (e:Ending) (w':World):Prop :=
 if (bat nx (0,0) most).met.length≤most then
  ∃ an cn ae ce am cm,e = .returned (.tuple #[.agg #[.slice an (bat nx (0,0) most).met.length cn,.slice ae (bat nx (0,0) most).met.length ce],.slice am (bat nx (0,0) most).met.length cm,.bool true]) ∧
   DfaO 38 3 4 B w'.heap.size w' (.agg #[.slice an (bat nx (0,0) most).met.length cn,.slice ae (bat nx (0,0) most).met.length ce]) (Zar nx en (bat nx (0,0) most).met) ∧
   OPairs 170 B w'.heap.size w' (.slice am (bat nx (0,0) most).met.length cm) (bat nx (0,0) most).met
 else e = .returned (.tuple #[.agg #[.slice none 0 0,.slice none 0 0],.slice none 0 0,.bool false])
theorem Zix {w:World} {B e g n cap:Nat} {S:List (Int × Int)} (h:w.ownsRow B e 2 (.slice (some ⟨g,0,none⟩) n cap) S.length (S.flatMap Zaa)) {k:Nat} (hk:k<S.length) :
  w.cell? ⟨g,k*2,none⟩=some (.int .i64 (S.getD k (0,0)).1)∧w.cell? ⟨g,k*2+1,none⟩=some (.int .i64 (S.getD k (0,0)).2):=by
 have h0:=Zcs Zaa 2 (fun _=>rfl) S k 0 (0,0) hk (by omega);have h1:=Zcs Zaa 2 (fun _=>rfl) S k 1 (0,0) hk (by omega)
 have hn:n=S.length:=by
  rcases h.2 with⟨hh,_⟩|⟨g',cap',cur,hh,_⟩
  ·cases hh
  simp only[Value.slice.injEq] at hh;exact hh.2.1
 subst hn;exact⟨(h.cellAt _ (by omega)).trans (by simpa [Zaa] using h0),(h.cellAt _ (by omega)).trans (by simpa [Zaa] using h1)⟩
theorem Zr5 {w:World} {g B o p:Nat} {a b:Value} (C:g≠B) (h:w.cell? ⟨g,o,none⟩=some a∧w.cell? ⟨g,p,none⟩=some b) {u:Value} {j:Nat}:(w.setCell ⟨B,j,none⟩ u).cell? ⟨g,o,none⟩=some a∧(w.setCell ⟨B,j,none⟩ u).cell? ⟨g,p,none⟩=some b:=by have hb:=Below.heap_setCell w ⟨B,j,none⟩ u g C;exact⟨(World.cell?_of_block (a:=⟨g,o,none⟩) hb).trans h.1,(World.cell?_of_block (a:=⟨g,p,none⟩) hb).trans h.2⟩
theorem ZdW (nx:Int × Int→Nat→Int × Int) (en:Int × Int→Bool) (Q:Int × Int→Prop) (most bf ba bb:Nat) (w:World) (h0:Q (0,0)) (hQ:∀ x c,c<3→Q x→Q (nx x c)) (dI:∀ x,Q x→fitI x.1∧fitI x.2) (hI:0<most) (eH:most≤100000)
  (hN:∀ x c w',Q x→c<3→Below w.heap.size w w'→Calls Tryz.prog 153 #[.agg #[.int .i64 x.1,.int .i64 x.2],.int .i64 (c:Nat),.pointer (some ⟨ba,0,none⟩),.pointer (some ⟨bb,0,none⟩)] w' fun e w2=>e = .returned (.agg #[.int .i64 (nx x c).1,.int .i64 (nx x c).2])∧Below w'.heap.size w' w2)
  (hE:∀ x w',Q x→Below w.heap.size w w'→Calls Tryz.prog 154 #[.agg #[.int .i64 x.1,.int .i64 x.2],.pointer (some ⟨bf,0,none⟩),.pointer (some ⟨ba,0,none⟩),.pointer (some ⟨bb,0,none⟩)] w' fun e w2=>e = .returned (.bool (en x))∧Below w'.heap.size w' w2) :
  Calls Tryz.prog 152 #[pairZ,.int .i64 most,.func (.func 153) #[] #[.pointer (some ⟨ba,0,none⟩),.pointer (some ⟨bb,0,none⟩)],.func (.func 154) #[] #[.pointer (some ⟨bf,0,none⟩),.pointer (some ⟨ba,0,none⟩),.pointer (some ⟨bb,0,none⟩)]] w
   fun e w'=>RExp nx en most w.heap.size e w'∧Below w.heap.size w w':=by
 have jC:=@run_makeMap Tryz.prog;obtain⟨l0,dX⟩:=Tryz.keyOfPr (0,0) (by unfold fitI;simp) (by unfold fitI;simp);obtain⟨k0,hk,dB,dA,dF⟩:=info_parts Tryz.infoPr;obtain⟨i0,hi,gB,eZ,fL⟩:=info_parts Tryz.infoInt;obtain⟨j0,hj,fW,fD,eO⟩:=info_parts Tryz.infoInts;obtain⟨b0,bO,eY,eX,eS⟩:=info_parts Tryz.infoBool;have HM:MapL Tryz.prog 170 Za0 (((w.alloc (.cells #[.int .i64 0,.int .i64 0] 170)).alloc (.cells #[.slice none 0 0,.slice none 0 0] 44)).alloc (.map #[] 0)) (w.heap.size+1+1) ([]:List ((Int × Int) × Value)):=by simpa using MapL.made (P:=Tryz.prog) (kt:=170) (enc:=Za0) ((w.alloc (.cells #[.int .i64 0,.int .i64 0] 170)).alloc (.cells #[.slice none 0 0,.slice none 0 0] 44))
 obtain⟨w1,dN,eH,bK⟩:=HM.store Tryz.lawPr ZbW Tryz.underlying181 dX (.int .i64 0);simp only[Za0] at dN;have hB:=bK.size;simp only[World.size_alloc] at hB;have hD:w1.cell? ⟨w.heap.size,0,none⟩=some (.int .i64 0):=by rw[bK.cell_far _ (by simp;omega) (by simp;omega)];exact(((Bx.new w _ _).alloc _).alloc _).cell 0
 have hO:w1.cell? ⟨w.heap.size,1,none⟩=some (.int .i64 0):=by rw[bK.cell_far _ (by simp;omega) (by simp;omega)];exact(((Bx.new w _ _).alloc _).alloc _).cell 1
 have gZ:=qh eH;have fM:=qh bK;have HN:=qh hN;have HE:=qh hE;have HQ:=qh hQ;have gE:=qh dI;have hV:=qh h0;replace dX:=qh dX;replace hk:=qh hk;have eA:=qh dB;clear dB;have dU:=qh dA;clear dA;have eJ:=qh dF;clear dF;have hG:=qh hi;clear hi;have fJ:=qh gB;clear gB;have eN:=qh eZ;clear eZ;have gC:=qh fL;clear fL;have hH:=qh hj;clear hj;have fO:=qh fW;clear fW;have gL:=qh fD;clear fD;have eU:=qh eO;clear eO;replace bO:=qh bO;have eQ:=qh eY;clear eY;have eR:=qh eX;clear eX;have fF:=qh eS;clear eS;clear HM eH bK hN hE hQ dI h0
 go_enter Tryz.func152, Tryz.ntmps152
 go_wp2
 go_loopw [9,10,12,14] (fun r1 r2 vm i wr=>∃ k:Nat,i = .int .i64 k∧k≤(bat nx (0,0) k).met.length∧(bat nx (0,0) k).met.length≤most∧Below w.heap.size w wr∧∃ vn ve,ExW 170 2 Za0 Zaa w.heap.size (w.heap.size+1) (w.heap.size+1+1) (w1.heap.size+1) wr.heap.size wr (bat nx (0,0) k).met (((bat nx (0,0) k).met.take k).map (Zai nx (bat nx (0,0) most).met)) (((bat nx (0,0) k).met.take k).map en) vm vn ve)
  (fun _ _ _ i _=>most+1-(intOf i).toNat)
 case atStart =>
  have hb1:Below w.heap.size w w1:=((((Below.refl _ _).alloc (Nat.le_refl _) _).alloc (by simp) _).alloc (by simp;omega) _).grown fM.o (by simp;omega) (fun k h=>by cases h;omega);have r1:Bx w1 (w.heap.size+1) #[.slice none 0 0,.slice none 0 0] 44:=by have:=((Bx.new (w.alloc (.cells #[.int .i64 0,.int .i64 0] 170)) #[.slice none 0 0,.slice none 0 0] 44).alloc (.map #[] 0));simp only[World.size_alloc] at this;exact(fM.o.block _ (by simp) (by simp)).trans this
  refine⟨0,rfl,Nat.zero_le _,hI,(hb1.alloc (by omega) _).alloc (by simp;omega) _,.slice none 0 0,.slice none 0 0,⟨?_,?_,(r1.alloc _).alloc _,?_,⟨[],⟨⟨rfl,.inl ⟨rfl,rfl⟩⟩,fun k h=>by cases h⟩,fun i hi=>absurd hi (by simp),fun i j k _ hj=>absurd hj (by simp)⟩,⟨rfl,.inl ⟨rfl,rfl⟩⟩,by omega⟩⟩
  ·exact Zcz (cs:=[.int .i64 0,.int .i64 0]) (((Bx.new w1 _ _).alloc _)) rfl (by omega) (by unfold maxLen;omega)
  ·exact(gZ.o.below ((Below.refl _ _).alloc (Nat.le_refl _) _)).below ((Below.refl _ _).alloc (Nat.le_refl _) _)
  have:=Bx.new (w1.alloc (.cells #[.int .i64 0,.int .i64 0] 170)) #[.slice none 0 0,.slice none 0 0] 44;simpa using this
 case round =>
  obtain⟨k,rfl,hk1,cN,hb,vn,ve,hx⟩:=hrel;obtain⟨M,hM⟩:=eI ((bat nx (0,0) k).met);rw[← hM] at hx hk1 cN;have gQ:0<M.length:=by rw[hM];exact ZcZ k
  obtain⟨g,cap,rfl,iU,iH⟩:=hx.m.form gQ;obtain⟨wo,hJ⟩:∃ wo:World,wo=wr:=⟨_,rfl⟩;subst hJ;clear hD hO dN;by_cases hlt:k<M.length
  ·have HF:∀ n,n≤3→(bpart nx (0,0) k n).met <+: (bat nx (0,0) most).met:=fun n hn=>(ZaF (by rw[← hM];exact hlt) hn (by omega)).1
   obtain⟨x,eG⟩:=eI (M.getD k (0,0));have gF:Q x:=by rw[eG,hM];exact ZbA hV.o HQ.o k _ (Zc6 (by rw[← hM];exact hlt))
   have Z:=qh eG;clear eG;replace HF:=qh HF;have bN:=qh gF;clear gF;have aE:=qh hM;clear hM;have bG:=qh hx;clear hx;have aJ:=qh hb;clear hb;go_wp2_with (at_make;refine wpList_make_full _ rfl _ _ 38 rfl wo.heap.size 3 i0 (.int .i64 0) 1 Tryz.underlying38 hG.o fJ.o eN.o .i64 .i64 _ _ 3 rfl rfl rfl rfl (by rw[gC.o];omega) (by unfold maxLen;omega) (Nat.le_refl _) ?_;intro w2 bQ bU);have hb2:Below wo.heap.size wo w2:=(Below.refl _ _).grown bU (Nat.le_refl _) (fun _ h=>by cases h);have iS:=hb2.size;have gW:wo.heap.size<w2.heap.size:=(bQ.lt wo.heap.size rfl).2;have dL:=qh hb2;clear hb2;have dV:=qh bQ;clear bQ;clear bU
   go_loopw [9,10,12,32] (fun r1 r2 vm i wi=>∃ n:Nat,i = .int .i64 n∧n≤3∧(bpart nx (0,0) k n).met.length≤most∧Below w.heap.size w wi∧wo.heap.size<wi.heap.size∧(∃ cs,wi.ownsRow wo.heap.size 3 1 (.slice (some ⟨wo.heap.size,0,none⟩) 3 3) 3 cs∧cs.take n=(intCells (Zai nx (bat nx (0,0) most).met x)).take n) ∧
     ExW 170 2 Za0 Zaa w.heap.size (w.heap.size+1) (w.heap.size+1+1) (w1.heap.size+1) wo.heap.size wi (bpart nx (0,0) k n).met ((M.take k).map (Zai nx (bat nx (0,0) most).met)) ((M.take k).map en) vm vn ve)
    (fun _ _ _ i _=>3-(intOf i).toNat)
   case atStart=>exact⟨0,rfl,by omega,by rw[Zap,← aE.o];exact cN,aJ.o.trans (dL.o.mono aJ.o.size),gW,⟨_,dV.o,rfl⟩,by rw[Zap,← aE.o];exact bG.o.below dL.o⟩
   case round =>
    obtain⟨n,rfl,hn,cU,bC,iP,⟨cs,bH,V⟩,hxi⟩:=hrel;have aD:M <+: (bpart nx (0,0) k n).met:=by rw[aE.o,← Zap];exact(Za7 (Nat.zero_le n)).1
    have eW:M.length≤(bpart nx (0,0) k n).met.length:=aD.length_le;by_cases hn3:n<3
    ·have dT:(bpart nx (0,0) k n).met.Nodup:=(Zb2 (by rw[← aE.o];exact hlt) hn).1;have cT:=HF.o n hn;have cA:=HF.o (n+1) (by omega);have aN:nx x n∈(bpart nx (0,0) k n).met→bpart nx (0,0) k (n+1)=bpart nx (0,0) k n:=fun h=>Zbp (by rw[← aE.o,← Z.o];exact h)
     have aP:nx x n ∉ (bpart nx (0,0) k n).met→(bpart nx (0,0) k (n+1)).met=(bpart nx (0,0) k n).met++[nx x n]:=fun h=>by rw[Zbi (by rw[← aE.o,← Z.o];exact h),← aE.o,← Z.o]
     have cJ:Q (nx x n):=HQ.o x n hn3 bN.o;obtain⟨cP,cK⟩:=gE.o _ cJ;have cE:∀ w',Below w.heap.size w w'→_:=fun w' h=>HN.o x n w' bN.o hn3 h
     have p:(intCells (Zai nx (bat nx (0,0) most).met x))[n]? = some (.int .i64 (Zam (bat nx (0,0) most).met (nx x n):Int)):=by simp[Zai,hn3]
     obtain⟨S,hS⟩:=eI ((bpart nx (0,0) k n).met);obtain⟨y,hy⟩:=eI (nx x n);obtain⟨F,hF⟩:=eI ((bat nx (0,0) most).met);rw[← hS] at hxi aD eW dT aN aP cT cU;rw[← hy] at cJ cP cK cE aN aP p;rw[← hF] at hxi cT cA p;have cG:0<S.length:=by omega
     obtain⟨L,aG,rfl,cZ,aV⟩:=hxi.m.form cG;have aZ:S.getD k (0,0)=x:=by rw[Z.o];exact Zas aD hlt _
     obtain⟨p1,p2⟩:=Zix hxi.m (k:=k) (by omega);rw[aZ] at p1 p2;obtain⟨x1,x2⟩:=x;obtain⟨y1,y2⟩:=y;simp only at p1 p2 cP cK cE;have gP:(k:Int)<S.length:=by omega
     have aY:=qh hS;clear hS;have iQ:=qh hy;clear hy;have l:=qh hF;clear hF;have dK:=qh dT;clear dT;have dS:=qh aN;clear aN;have dY:=qh aP;clear aP;have gD:=qh cT;clear cT;have bY:=qh cA;clear cA;have aQ:=qh p;clear p;have bV:=qh hxi;clear hxi;have aO:=qh bH;clear bH;have aU:=qh V;clear V;have aT:=qh bC;clear bC;have fK:=qh cE;clear cE;have fU:=qh aD;clear aD;have hX:=qh cJ;clear cJ;have fP:=qh cP;clear cP;have gJ:=qh cK;clear cK;clear aZ;go_wp2_with fail;refine(fK.o _ aT.o).mono ?_;rintro e J ⟨rfl,X⟩;have H:Below w.heap.size w J:=aT.o.trans (X.mono aT.o.size);have T:=H.alloc H.size (.cells #[.int .i64 y1,.int .i64 y2] 170);have E:=(bV.o.below X).below ((Below.refl _ _).alloc (Nat.le_refl _) (.cells #[.int .i64 y1,.int .i64 y2] 170));have aC:=(Own.below (Own.below (Zab aO.o) X) ((Below.refl _ _).alloc (Nat.le_refl _) (.cells #[.int .i64 y1,.int .i64 y2] 170))).1;have eC:=X.size;obtain⟨ly,O⟩:=Tryz.keyOfPr (y1,y2) fP.o gJ.o;by_cases hmem:(y1,y2)∈S
     ·have Y:=E.n.lookupOk Tryz.lawPr ZbW Tryz.underlying181 (ZiS _) O;have bW:=E.n.lookup Tryz.lawPr ZbW Tryz.underlying181 (ZiS _) O;have cC:Zam S (y1,y2)=Zam F (y1,y2):=(Zbe gD.o hmem).symm;rw[ZbD dK.o hmem,cC] at Y bW;simp only[w_8,Option.isSome_some,Za0] at Y bW;obtain⟨q,hq⟩:=eI (Zam F (y1,y2));rw[← hq] at Y bW;obtain⟨u0,eD⟩:=Zc1 aC n (by omega);have iZ:=aC.frozenAt n;have eB:=qh hq;clear hq;have hW:=qh cC;clear cC;have aW:=qh aC;clear aC;have aR:=qh E;clear E;have bT:=qh H;clear H;have aB:=qh T;clear T;have cY:=qh X;clear X;have dH:=qh O;clear O;have aL:=qh hmem;clear hmem;go_wp2;go_roundw
      case rel =>
       have eK:=dS.o aL.o;refine⟨n+1,by go_num,by omega,?_,aB.o.setCell (by have:=aJ.o.size;omega) _,by simp only[ZaU,World.size_alloc];omega,⟨_,(aW.o.stored n _).1,?_⟩,?_⟩
       ·rw[eK,← aY.o];exact cU
       ·rw[← l.o];exact Zdy (n:=3) aO.o.1 (by simp[Zai]) hn3 (by rw[l.o];exact aU.o) (by rw[aQ.o,← eB.o])
       rw[eK,← aY.o,← l.o];exact aR.o.setRow Ziy (Nat.le_refl _) aW.o n _
      case measure=>simp[intOf];omega
     have Y:=E.n.lookupOk Tryz.lawPr ZbW Tryz.underlying181 (ZiS _) O;rw[ZcV hmem] at Y;simp only[Option.getD_none,Option.isSome_none,Za0] at Y;have bD:=dY.o hmem;by_cases hfull:S.length=most
     ·have gT:((S.length:Int)==(most:Int))=true:=by rw[hfull];simp
      have gX:(S.length:Int)=(most:Int):=by rw[hfull]
      have r0:=E.r.cell 0;have r1:=E.r.cell 1;have f0:=E.r.fr 0;have f1:=E.r.fr 1;simp only[w_5,w_6,w_7] at r0 r1;have cX:¬ (bat nx (0,0) most).met.length≤most:=by have h1:=bY.o.length_le;rw[bD] at h1;simp only[List.length_append,List.length_singleton] at h1;rw[← l.o];omega
      have aW:=qh aC;clear aC;have aR:=qh E;clear E;have bT:=qh H;clear H;have aB:=qh T;clear T;have cY:=qh X;clear X;have dH:=qh O;clear O;have aL:=qh hmem;clear hmem;have bM:=qh bD;clear bD;have gM:=qh hfull;clear hfull;have dQ:=qh cX;clear cX;go_wp2;have z:=(aR.o.r.set 0 (.slice none 0 0)).set 1 (.slice none 0 0);have z0:=z.cell 0;have z1:=z.cell 1;simp only[w_5,w_6,w_7,w_1,w_2,w_3] at z0 z1;refine bodyPost_ret (v:=.tuple #[.agg #[.slice none 0 0,.slice none 0 0],.slice none 0 0,.bool false]) (by simp[results,Tryz.results152,go_sem,z0,z1]) rfl ⟨?_,?_⟩
      ·unfold RExp;rw[if_neg dQ.o]
      exact(aB.o.setCell (by simp) _).setCell (by simp) _
     have gT:((S.length:Int)==(most:Int))=false:=by simp;omega
     have gX:¬ (S.length:Int)=(most:Int):=by omega
     obtain⟨w5,eF,cM,b⟩:=E.n.store Tryz.lawPr ZbW Tryz.underlying181 O (.int .i64 (S.length:Int));rw[Zdc hmem] at cM;simp only[Za0] at eF;have hP:=b.size;simp only[World.size_alloc] at hP;have iX:=bV.o.n.lt;have gY:=aJ.o.size;have c0:w5.cell? ⟨J.heap.size,0,none⟩=some (.int .i64 y1):=by rw[b.cell_far _ (by simp) (by simp;omega)];exact(Bx.new J _ _).cell 0
     have c1:w5.cell? ⟨J.heap.size,1,none⟩=some (.int .i64 y2):=by rw[b.cell_far _ (by simp) (by simp;omega)];exact(Bx.new J _ _).cell 1
     have U:=(Below.refl w5.heap.size w5).alloc (Nat.le_refl _) (.cells #[.int .i64 y1,.int .i64 y2] 170);have aK:=(Own.below (Zab (Zad E.m b E.n.apart)) U).1;have bX:Below w.heap.size w w5:=T.grown b (by simp;omega) (fun j h=>by cases h;omega)
     have hA:∀ g7 aF I,I.ownsRow w.heap.size 170 2 (.slice (some ⟨g7,0,none⟩) (S.length+1) aF) (S.length+1) (S.flatMap Zaa++[.int .i64 y1,.int .i64 y2])→(w5.alloc (.cells #[.int .i64 y1,.int .i64 y2] 170)).grownBy I (some L) →
       ExW 170 2 Za0 Zaa w.heap.size (w.heap.size+1) (w.heap.size+1+1) (w1.heap.size+1) wo.heap.size I (S++[(y1,y2)]) ((M.take k).map (Zai nx F)) ((M.take k).map en) (.slice (some ⟨g7,0,none⟩) (S.length+1) aF) vn ve ∧
       (Instr.lookup 181 (.map (some (w.heap.size+1+1))) (.agg #[.int .i64 y1,.int .i64 y2]) false).run Tryz.prog I = .ok (.int .i64 (Zam F (y1,y2):Int)) I ∧
       I.ownsRow wo.heap.size 3 1 (.slice (some ⟨wo.heap.size,0,none⟩) 3 3) 3 cs∧I.cell? ⟨J.heap.size,0,none⟩=some (.int .i64 y1)∧I.cell? ⟨J.heap.size,1,none⟩=some (.int .i64 y2)∧Below w.heap.size w I∧w5.heap.size≤I.heap.size:=by
      intro g7 aF I G C;have bJ:=E.newState Ziy cM b U G C;have bE:=C.size;simp only[World.size_alloc] at bE;have bP:=bJ.n.lookup Tryz.lawPr ZbW Tryz.underlying181 (ZiS _) O;have cC:Zam (S++[(y1,y2)]) (y1,y2)=Zam F (y1,y2):=(Zbe (by rw[← bD];exact bY.o) (by simp)).symm;rw[ZbD (Zdp dK.o hmem) (by simp),cC] at bP;refine⟨bJ,bP,Zl2 (vm:=.slice (some ⟨L,0,none⟩) S.length aG) aC Ziy.1 aK E.n.apart b U C,?_,?_,(bX.alloc (by omega) _).grown C (by simp;omega) (fun j h=>by cases h;exact cZ),by omega⟩
      ·rw[C.cell_far _ (by simp;omega) (by simp;omega),ZbB _ _ _ _ (by omega)];exact c0
      rw[C.cell_far _ (by simp;omega) (by simp;omega),ZbB _ _ _ _ (by omega)];exact c1
     obtain⟨q,hq⟩:=eI (Zam F (y1,y2));rw[← hq] at hA;have fA:w.heap.size≤(w5.alloc (.cells #[.int .i64 y1,.int .i64 y2] 170)).heap.size:=by simp;omega
     have dO:(S.length+1)*16≤140737488355328:=by omega
     have bS:S.length+1≤maxLen:=by unfold maxLen;omega
     have eB:=qh hq;clear hq;have dR:=qh hA;clear hA;have cO:=qh aK;clear aK;have fZ:=qh U;clear U;have iL:=qh cM;clear cM;have iB:=qh b;clear b;have gV:=qh bX;clear bX;have aW:=qh aC;clear aC;have aR:=qh E;clear E;have bT:=qh H;clear H;have aB:=qh T;clear T;have cY:=qh X;clear X;have dH:=qh O;clear O;have aL:=qh hmem;clear hmem;have bM:=qh bD;clear bD;go_wp2_with (at_builtin;refine wpList_append_lies _ rfl _ _ _ rfl w.heap.size 170 k0 (.agg #[.int .i64 0,.int .i64 0]) 2 16 Tryz.underlying134 hk.o eA.o dU.o eJ.o rfl (by omega) _ S.length _ rfl cO.o ⟨w5.heap.size,0,none⟩ 1 1 [.int .i64 y1,.int .i64 y2] rfl rfl (World.news_of_block (heap_alloc_new w5 _)) (by intro u hu;simp at hu;rcases hu with rfl|rfl<;>rfl) (by omega) bS dO fA (w5.heap.size+1) (by simp) ?_;intro g7 aF I G C cB fQ;obtain⟨bJ,bP,cV,d0,d1,dE,bE⟩:=dR.o g7 aF I G C;obtain⟨u0,eD⟩:=Zc1 cV n (by omega);have iD:=cV.frozenAt n;have gU:=qh bJ;have eT:=qh cV;have eM:=qh dE;clear bJ cV dE G C cB);go_roundw
     case rel =>
      refine⟨n+1,by go_num,by omega,?_,eM.o.setCell (by omega) _,by simp only[ZaU];omega,⟨_,(eT.o.stored n _).1,?_⟩,?_⟩
      ·rw[bM.o,List.length_append,List.length_singleton];omega
      ·rw[← l.o];exact Zdy (n:=3) aO.o.1 (by simp[Zai]) hn3 (by rw[l.o];exact aU.o) (by rw[aQ.o,← eB.o])
      rw[bM.o,← l.o];exact gU.o.setRow Ziy (Nat.le_refl _) eT.o n _
     case measure=>simp[intOf];omega
    obtain rfl:n=3:=by omega
    have fX:bat nx (0,0) (k+1)=bpart nx (0,0) k 3:=ZaP (by rw[← aE.o];exact hlt);have cG:0<(bpart nx (0,0) k 3).met.length:=by omega
    have aZ:(bpart nx (0,0) k 3).met.getD k (0,0)=x:=by rw[Z.o];exact Zas aD hlt _
    have aM:(bpart nx (0,0) k 3).met.take (k+1)=M.take k++[x]:=by obtain⟨t,ht⟩:=aD;rw[← ht,List.take_append_of_le_length (by omega),List.take_succ_eq_append_getElem hlt,Z.o];simp[hlt]
    obtain⟨S,hS⟩:=eI ((bpart nx (0,0) k 3).met);obtain⟨F,hF⟩:=eI ((bat nx (0,0) most).met);obtain⟨rows,aA⟩:=eI ((M.take k).map (Zai nx F));obtain⟨ends,s⟩:=eI ((M.take k).map en);rw[← hF] at hxi V;rw[← aA,← s,← hS] at hxi;rw[← hS] at aZ aM cG cU eW;have eV:rows.length=k:=by rw[aA];simp;omega
    have fE:ends.length=k:=by rw[s];simp;omega
    obtain⟨L,aG,rfl,cZ,aV⟩:=hxi.m.form cG;obtain⟨p1,p2⟩:=Zix hxi.m (k:=k) (by omega);rw[aZ] at p1 p2;have cW:(Zai nx F x).length=3:=by simp[Zai]
    have gS:cs=intCells (Zai nx F x):=by
     have:=bH.1
     rwa [List.take_of_length_le (by omega),List.take_of_length_le (by simp[cW])] at V
    subst gS;have U:=(Below.refl wr.heap.size wr).alloc (Nat.le_refl _) (.cells #[.slice (some ⟨wo.heap.size,0,none⟩) 3 3] 38);have aX:=hxi.below U;have aI:OInts 3 wo.heap.size (wr.alloc (.cells #[.slice (some ⟨wo.heap.size,0,none⟩) 3 3] 38)).heap.size (wr.alloc (.cells #[.slice (some ⟨wo.heap.size,0,none⟩) 3 3] 38)) (.slice (some ⟨wo.heap.size,0,none⟩) 3 3) (Zai nx F x):=by unfold OInts;rw[cW];exact Zab (Own.below (Zab bH) U).1
    obtain⟨vs,R,bF,bA⟩:=aX.nx;have gY:=aJ.o.size;have iW:=hxi.d.lt;have dP:L≠w1.heap.size+1:=by obtain⟨cu,bB⟩:=Za9 (k:=L) hxi.m rfl;intro h;have h2:=hxi.d;unfold Bx at h2;rw[h,h2] at bB;simp at bB
    have cI:some L≠vn.ownBlock:=fun h=>by obtain⟨cu,bB⟩:=Za9 (k:=L) aX.m rfl;exact Zah (e':=170) R.1 (by decide) L h.symm _ _ bB
    have bI:Below w.heap.size w (wr.alloc (.cells #[.slice (some ⟨wo.heap.size,0,none⟩) 3 3] 38)):=bC.alloc bC.size _
    have hA:∀ g3 c3 J,J.ownsRow w.heap.size 38 1 (.slice (some ⟨g3,0,none⟩) (rows.length+1) c3) (rows.length+1) (vs++[.slice (some ⟨wo.heap.size,0,none⟩) 3 3])→(wr.alloc (.cells #[.slice (some ⟨wo.heap.size,0,none⟩) 3 3] 38)).grownBy J vn.ownBlock →
      ExW 170 2 Za0 Zaa w.heap.size (w.heap.size+1) (w.heap.size+1+1) (w1.heap.size+1) J.heap.size (J.setCell ⟨w1.heap.size+1,0,none⟩ (.slice (some ⟨g3,0,none⟩) (rows.length+1) c3)) S (rows++[Zai nx F x]) ends (.slice (some ⟨L,0,none⟩) S.length aG) (.slice (some ⟨g3,0,none⟩) (rows.length+1) c3) ve ∧
      (∃ u,J.cell? ⟨w1.heap.size+1,0,none⟩=some u)∧J.frozen? ⟨w1.heap.size+1,0,none⟩=false∧J.cell? ⟨L,k*2,none⟩=some (.int .i64 x.1)∧J.cell? ⟨L,k*2+1,none⟩=some (.int .i64 x.2)∧J.cell? ⟨w1.heap.size+1,1,none⟩=some ve ∧
      Below w.heap.size w J∧wr.heap.size≤J.heap.size:=by
     intro g3 c3 J a D;have eC:=D.size;simp only[World.size_alloc] at eC;have d3:Bx J (w1.heap.size+1) #[vn,ve] 44:=aX.d.grown D (Zah R.1 (by decide));refine⟨aX.addRow Ziy R bF bA aI (Nat.le_refl _) (by omega) D a,⟨_,d3.cell 0⟩,d3.fr 0,?_,?_,d3.cell 1,bI.grown D (by simp;omega) (fun j h=>(R.1.lt j h).1),by omega⟩
     ·rw[D.cell_far _ (by simp;omega) cI,ZbB _ _ _ _ aV];exact p1
     rw[D.cell_far _ (by simp;omega) cI,ZbB _ _ _ _ aV];exact p2
    have bZ:=R.1;have e0:=hxi.d.cell 0;have e1:=hxi.d.cell 1;simp only[w_5,w_6,w_7] at e0 e1;obtain⟨x1,x2⟩:=x;simp only at p1 p2 hA;have dO:(rows.length+1)*24≤140737488355328:=by omega
    have bS:rows.length+1≤maxLen:=by unfold maxLen;omega
    have fR:w.heap.size≤(wr.alloc (.cells #[.slice (some ⟨wo.heap.size,0,none⟩) 3 3] 38)).heap.size:=by simp;omega
    have iV:L<wr.heap.size:=aV;have gP:(k:Int)<S.length:=by omega
    have aY:=qh hS;clear hS;have l:=qh hF;clear hF;have cD:=qh aA;clear aA;have cL:=qh s;clear s;have bV:=qh hxi;clear hxi;have aO:=qh bH;clear bH;have aU:=qh V;clear V;have aT:=qh bC;clear bC;have fU:=qh aD;clear aD;have bL:=qh fX;clear fX;have aS:=qh aM;clear aM;have fZ:=qh U;clear U;have iE:=qh aX;clear aX;have gN:=qh aI;clear aI;have iJ:=qh R;clear R;have iI:=qh bF;clear bF;have iG:=qh bA;clear bA;have iO:=qh cI;clear cI;have dR:=qh hA;clear hA;have cH:=qh bZ;clear bZ;have gO:=qh bI;clear bI;have hZ:=qh eV;clear eV;have dJ:=qh fE;clear fE;have iF:=qh cW;clear cW;clear aZ p1 p2;go_wp2_with (at_builtin;refine wpList_append_lies _ rfl _ _ _ rfl w.heap.size 38 j0 (.slice none 0 0) 1 24 Tryz.underlying41 hH.o fO.o gL.o eU.o rfl (by omega) _ rows.length _ rfl cH.o ⟨wr.heap.size,0,none⟩ 1 1 [.slice (some ⟨wo.heap.size,0,none⟩) 3 3] rfl rfl (World.news_of_block (heap_alloc_new wr _)) (by intro u hu;simp at hu;subst hu;rfl) (by omega) bS dO fR (wr.heap.size+1) (by simp) ?_;intro g3 c3 J a D fG iC;obtain⟨E,⟨u0,eD⟩,gK,p1,p2,hL,H,eC⟩:=dR.o g3 c3 J a D;have bR:=qh E;have fT:=qh H;clear E H a D fG);obtain⟨w4,aH⟩:=eI (J.setCell ⟨w1.heap.size+1,0,none⟩ (.slice (some ⟨g3,0,none⟩) (rows.length+1) c3))
    have iY:w4.heap.size=J.heap.size:=by rw[aH];exact ZaU _ _ _
    have cQ:Below w.heap.size w w4:=by rw[aH];exact fT.o.setCell (by simp;omega) _
    rw[← aH];rw[← aH] at bR;have q1:w4.cell? ⟨L,k*2,none⟩=some (.int .i64 x1):=by rw[aH,(ZaA J (w1.heap.size+1) 0 _).cell_far _ (by simp;omega) (by simp;exact dP)];exact p1
    have q2:w4.cell? ⟨L,k*2+1,none⟩=some (.int .i64 x2):=by rw[aH,(ZaA J (w1.heap.size+1) 0 _).cell_far _ (by simp;omega) (by simp;exact dP)];exact p2
    have gG:=bR.o.d.cell 1;simp only[w_5,w_6,w_7] at gG;have dC:w1.heap.size+1<w4.heap.size:=by omega
    have dD:L<w4.heap.size:=by omega
    have dW:∀ w',Below w4.drew.heap.size w4.drew w'→w'.cell? ⟨L,k*2,none⟩=some (.int .i64 x1)∧w'.cell? ⟨L,k*2+1,none⟩=some (.int .i64 x2):=fun w' h=>⟨(bcell h _ _ dD).trans q1,(bcell h _ _ dD).trans q2⟩
    have dZ:∀ w',Below w4.drew.heap.size w4.drew w'→ExW 170 2 Za0 Zaa w.heap.size (w.heap.size+1) (w.heap.size+1+1) (w1.heap.size+1) J.heap.size w' S (rows++[Zai nx F (x1,x2)]) ends (.slice (some ⟨L,0,none⟩) S.length aG) (.slice (some ⟨g3,0,none⟩) (rows.length+1) c3) ve:=fun w' h=>(bR.o.below (Below.refl _ _).drew).below h
    have cR:some L≠ve.ownBlock:=fun h=>by obtain⟨cu,bB⟩:=Za9 (k:=L) bR.o.m rfl;exact Zah (e':=170) bR.o.en (by decide) L h.symm _ _ bB
    have fI:ends.length+1≤maxLen:=by have:=dJ.o;unfold maxLen;omega
    have gA:(ends.length+1)*1≤140737488355328:=by have:=dJ.o;omega
    have fB:w.heap.size≤w4.heap.size:=cQ.size;have hbd:Below w.heap.size w w4.drew:=cQ.drew
    have hC:∀ w6,Below w4.drew.heap.size w4.drew w6→∀ g7 c7 I,I.ownsRow w.heap.size 4 1 (.slice (some ⟨g7,0,none⟩) (ends.length+1) c7) (ends.length+1) (boolCells ends++[.bool (en (x1,x2))])→(w6.alloc (.cells #[.bool (en (x1,x2))] 4)).grownBy I ve.ownBlock →
      I.cell? ⟨w1.heap.size+1,1,none⟩=some ve∧I.frozen? ⟨w1.heap.size+1,1,none⟩=false∧(I.cell? ⟨L,k*2,none⟩=some (.int .i64 x1)∧I.cell? ⟨L,k*2+1,none⟩=some (.int .i64 x2)) ∧
      (∀ u,(I.setCell ⟨w1.heap.size+1,1,none⟩ u).cell? ⟨L,k*2,none⟩=some (.int .i64 x1)∧(I.setCell ⟨w1.heap.size+1,1,none⟩ u).cell? ⟨L,k*2+1,none⟩=some (.int .i64 x2))∧Below w.heap.size w I ∧
      ExW 170 2 Za0 Zaa w.heap.size (w.heap.size+1) (w.heap.size+1+1) (w1.heap.size+1) J.heap.size (I.setCell ⟨w1.heap.size+1,1,none⟩ (.slice (some ⟨g7,0,none⟩) (ends.length+1) c7)) S (rows++[Zai nx F (x1,x2)]) (ends++[en (x1,x2)]) (.slice (some ⟨L,0,none⟩) S.length aG) (.slice (some ⟨g3,0,none⟩) (rows.length+1) c3) (.slice (some ⟨g7,0,none⟩) (ends.length+1) c7)∧J.heap.size≤I.heap.size:=by
     intro w6 N g7 c7 I G C;have fC:w4.heap.size≤w6.heap.size:=N.size;have cS:=dZ _ (N.alloc N.size (.cells #[.bool (en (x1,x2))] 4));have d7:=cS.d.grown C (Zah cS.en (by decide));have bE:=C.size;simp only[World.size_alloc] at bE;have k6:=dW _ (N.alloc N.size (.cells #[.bool (en (x1,x2))] 4))
     have k7:I.cell? ⟨L,k*2,none⟩=some (.int .i64 x1)∧I.cell? ⟨L,k*2+1,none⟩=some (.int .i64 x2) :=
      ⟨(C.cell_far ⟨L,k*2,none⟩ (by simp only[World.size_alloc];omega) cR).trans k6.1,(C.cell_far ⟨L,k*2+1,none⟩ (by simp only[World.size_alloc];omega) cR).trans k6.2⟩
     refine⟨d7.cell 1,d7.fr 1,k7,fun u=>Zr5 (B:=w1.heap.size+1) (j:=1) dP k7 (u:=u),?_,cS.addEnd Ziy C G,by omega⟩;exact((hbd.trans (N.mono fB)).alloc (by omega) _).grown C (by simp only[World.size_alloc];omega) (fun j h=>(cS.en.lt j h).1)
    have hT:=qh hC;clear hC;have iM:=qh dW;clear dW;have eP:=qh dZ;clear dZ;have iA:=qh cR;clear cR;have hY:=qh cQ;clear cQ;have fN:=qh hbd;clear hbd;have iK:=qh aH;clear aH;clear eD gK p1 p2 hL
    go_region_law (first
      | (go_simp;go_at_call 154;refine(HE.o (x1,x2) _ bN.o fN.o).mono ?_;rintro e w6 ⟨rfl,N⟩;have hK:=(bcell N _ _ dC).trans gG;have fC:w4.heap.size≤w6.heap.size:=N.size;have iN:=fun o=>(ZbB w6 o (w1.heap.size+1) 1 (Nat.lt_of_lt_of_le dC fC)).trans hK)
      | (refine step_append_lies _ (by rfl) _ _ _ (by rfl) w.heap.size 4 b0 (.bool false) 1 1 Tryz.underlying42 bO.o eQ.o eR.o fF.o (by rfl) (by omega) ve ends.length (boolCells ends) (by rfl) (eP.o _ (N.alloc N.size _)).en ⟨w6.heap.size,0,none⟩ 1 1 [.bool (en (x1,x2))] (by rfl) (by rfl) (World.news_of_block (heap_alloc_new w6 _)) (by intro u hu;simp at hu;subst hu;rfl) (by omega) fI gA (by simp;omega) (w6.heap.size+1) (by simp) ?_;intro g7 c7 I G C cB fQ;obtain⟨jA,jB,k7,k8,fH,gI,bE⟩:=hT.o w6 N g7 c7 I G C;have gH:=qh fH;have hU:=qh gI;have iT:=qh k8;clear fH gI k8 G C cB))
    all_goals
     go_wp2;go_roundw
     case rel =>
      have gR:(S.take (k+1)).map (Zai nx F)=rows++[Zai nx F (x1,x2)]:=by rw[aS.o,List.map_append,← cD.o];rfl
      have hR:(S.take (k+1)).map en=ends++[en (x1,x2)]:=by rw[aS.o,List.map_append,← cL.o];rfl
      have fS:=hU.o.up (hi':=(I.setCell ⟨w1.heap.size+1,1,none⟩ (.slice (some ⟨g7,0,none⟩) (ends.length+1) c7)).heap.size) (by rw[ZaU];exact bE);refine⟨k+1,by go_num,by rw[bL.o,← aY.o];omega,by rw[bL.o,← aY.o];exact cU,?_,.slice (some ⟨g3,0,none⟩) (rows.length+1) c3,.slice (some ⟨g7,0,none⟩) (ends.length+1) c7,?_⟩
      ·first
        | exact gH.o.setCell (by simp;omega) _
        | exact(gH.o.setCell (by simp;omega) _).drew
      rw[bL.o,← aY.o,← l.o,gR,hR]
      first
       | exact fS
       | exact fS.below (Below.refl _ _).drew
     case measure=>simp[intOf];omega
  have jD:k=M.length:=by omega
  have eE:(bat nx (0,0) most).met=M:=by rw[hM];rw[Zbc (k:=k) (m:=most) (by rw[← hM];omega) (by omega)]
  have V:M.take k=M:=List.take_of_length_le (by omega);rw[V,eE] at hx;obtain⟨vs,R,bF,bA⟩:=hx.nx;obtain⟨gn,cn,rfl,-,-⟩:=R.1.form (by simp;omega);obtain⟨ge,ce,rfl,-,-⟩:=hx.en.form (by simp;omega);have r0:=hx.r.cell 0;have r1:=hx.r.cell 1;have f0:=hx.r.fr 0;have f1:=hx.r.fr 1;have d0:=hx.d.cell 0;have d1:=hx.d.cell 1;simp only[w_5,w_6,w_7,List.length_map] at r0 r1 d0 d1;have iR:=cN;have fV:OIntSS 38 3 w.heap.size wo.heap.size wo (.slice (some ⟨gn,0,none⟩) (M.map (Zai nx M)).length cn) (M.map (Zai nx M)):=⟨vs,R,bF,bA⟩;have fY:=qh fV;clear fV;have bG:=qh hx;clear hx;have aJ:=qh hb;clear hb;have aE:=qh hM;clear hM;have eL:=qh eE;clear eE;have aU:=qh V;clear V;clear R bF bA;go_wp2;have g1:=ZaA wo (w.heap.size+1) 0 (.slice (some ⟨gn,0,none⟩) M.length cn);have b1:=bG.o.r.set 0 (.slice (some ⟨gn,0,none⟩) M.length cn);have g2:=ZaA (wo.setCell ⟨w.heap.size+1,0,none⟩ (.slice (some ⟨gn,0,none⟩) M.length cn)) (w.heap.size+1) 1 (.slice (some ⟨ge,0,none⟩) M.length ce);have b2:=b1.set 1 (.slice (some ⟨ge,0,none⟩) M.length ce);have z0:=b2.cell 0;have z1:=b2.cell 1;simp only[w_5,w_6,w_7,w_1,w_2,w_3] at z0 z1;refine bodyPost_ret (v:=.tuple #[.agg #[.slice (some ⟨gn,0,none⟩) M.length cn,.slice (some ⟨ge,0,none⟩) M.length ce],.slice (some ⟨g,0,none⟩) M.length cap,.bool true]) (by simp[results,Tryz.results152,go_sem,z0,z1]) rfl ⟨?_,?_⟩
  ·unfold RExp;rw[eL.o,if_pos cN];have ha:∀ e,44 ≠ e→ZbF wo (some (w.heap.size+1)) e:=fun e he=>bG.o.r.apart he
   have cF:∀ e,44 ≠ e→ZbF (wo.setCell ⟨w.heap.size+1,0,none⟩ (.slice (some ⟨gn,0,none⟩) M.length cn)) (some (w.heap.size+1)) e:=fun e he=>b1.apart he
   have dM:=fY.o;simp only[List.length_map] at dM;have dG:=bG.o.en;simp only[List.length_map] at dG;refine⟨_,_,_,_,_,_,rfl,⟨_,_,rfl,?_,?_⟩,?_⟩
   ·exact((dM.grown g1 (ha _ (by decide)) (ha _ (by decide))).grown g2 (cF _ (by decide)) (cF _ (by decide))).mono (Nat.le_refl _) (by simp)
   ·unfold OBools Zar;simp only[List.length_map];exact Zab (Zad (Zad dG g1 (ha _ (by decide))) g2 (cF _ (by decide)))
   exact Zab (Zad (Zad bG.o.m g1 (ha _ (by decide))) g2 (cF _ (by decide)))
  exact(aJ.o.setCell (by simp) _).setCell (by simp) _
abbrev metP (a b:DfaD) (most:Nat):List (Int × Int):=(bat (Zan a b) (0,0) most).met
theorem Zci {a b:DfaD} (hda:Zac a.next a.ends=true) (hdb:Zac b.next b.ends=true):ZbG a b (0,0)=true:=by have h1:=Zaf hda;have h2:=Zaf hdb;simp[ZbG,inB];omega
theorem Zcj {a b:DfaD} (hda:Zac a.next a.ends=true) (hdb:Zac b.next b.ends=true) {x:Int × Int} {c:Nat} (hc:c<3) (hx:ZbG a b x=true):ZbG a b (Zan a b x c)=true:=by obtain⟨i,j,rfl,hi,hj⟩:=Zbf hx;have h1:=(ZaM hda hi).2 c hc;have h2:=(ZaM hdb hj).2 c hc;have e:Zan a b ((i:Int),(j:Int)) c=((a.next.getD i []).getD c 0,(b.next.getD j []).getD c 0):=rfl;rw[e];simp only[ZbG,inB,Bool.and_eq_true,decide_eq_true_eq];omega
theorem ZiH {a b:DfaD} (hda:Zac a.next a.ends=true) (hdb:Zac b.next b.ends=true) {x:Int × Int} (hx:ZbG a b x=true):fitI x.1∧fitI x.2:=by obtain⟨i,j,rfl,hi,hj⟩:=Zbf hx;have h1:=Zaf hda;have h2:=Zaf hdb;unfold fitI;simp only;omega
theorem Zkb (a b:DfaD) (most:Nat) (v1 v2:Value) (w:World) (hda:Zac a.next a.ends=true) (hdb:Zac b.next b.ends=true) (g:0<most) (Z:most≤100000) (h1:DfaR 0 w v1 a) (h2:DfaR 0 w v2 b) :
  Calls Tryz.prog 119 #[v1,v2,.int .i64 most,.func (.func 77) #[] #[]] w fun e w'=>RExp (Zan a b) (Zba (fun x y=>x != y) a b) most w.heap.size e w'∧Below w.heap.size w w':=by
 obtain⟨M,L,rfl,g1,g2⟩:=h1;obtain⟨O,N,rfl,g3,g4⟩:=h2
 go_enter Tryz.func119, Tryz.ntmps119
 go_wp2_with fail;obtain⟨W,E⟩:=eI (((((w.alloc (.cells #[M,L] 44)).alloc (.cells #[O,N] 44)).alloc (.cells #[.func (.func 77) #[] #[]] 98)).alloc (.cells #[.slice none 0 0,.slice none 0 0] 44)));have B:Below w.heap.size w W:=by rw[E];exact((((Below.refl _ _).alloc (Nat.le_refl _) _).alloc (by simp) _).alloc (by simp;omega) _).alloc (by simp;omega) _
 have k:Bx W w.heap.size #[M,L] 44:=by rw[E];exact(((Bx.new w _ _).alloc _).alloc _).alloc _
 have j:Bx W (w.heap.size+1) #[O,N] 44:=by rw[E];simpa using ((Bx.new (w.alloc (.cells #[M,L] 44)) #[O,N] 44).alloc _).alloc _
 have i:Bx W (w.heap.size+1+1) #[.func (.func 77) #[] #[]] 98:=by rw[E];simpa using (Bx.new ((w.alloc (.cells #[M,L] 44)).alloc (.cells #[O,N] 44)) #[.func (.func 77) #[] #[]] 98).alloc _
 have X:Bx W (w.heap.size+1+1+1) #[.slice none 0 0,.slice none 0 0] 44:=by rw[E];simpa using Bx.new (((w.alloc (.cells #[M,L] 44)).alloc (.cells #[O,N] 44)).alloc (.cells #[.func (.func 77) #[] #[]] 98)) #[.slice none 0 0,.slice none 0 0] 44
 have d:DfaAt W w.heap.size a:=⟨M,L,k,g1.below B,g2.below B⟩;have Y:DfaAt W (w.heap.size+1) b:=⟨O,N,j,g3.below B,g4.below B⟩;have hz:=X.lt;rw[← E]
 refine(ZdW (Zan a b) (Zba (fun x y=>x != y) a b) (fun x=>ZbG a b x=true) most (w.heap.size+1+1) w.heap.size (w.heap.size+1) W (Zci hda hdb) (fun x c hc hx=>Zcj hda hdb hc hx) (fun x hx=>ZiH hda hdb hx) g Z
  (fun x c w' hx hc hb=>Zga a b x c _ _ w' hda hdb (d.below hb) (Y.below hb) hx hc)
  (fun x w' hx hb=>Zhc a b x _ _ _ w' hda hdb (i.below hb i.lt) (d.below hb) (Y.below hb) hx)).mono ?_
 rintro e w2 ⟨hr,hb2⟩;have P:=X.below hb2 hz;have r0:=P.cell 0;have r1:=P.cell 1;have p:=P.fr 0;have f1:=P.fr 1;simp only[w_5,w_6,w_7] at r0 r1;unfold RExp at hr;have C:=B.trans (hb2.mono B.size);have H:w.heap.size≤W.heap.size:=B.size;replace C:=qh C;have J:=qh P;clear P;clear d Y k j i X g1 g2 g3 g4 hda hdb E B hb2;by_cases hle:(bat (Zan a b) (0,0) most).met.length≤most
 ·rw[if_pos hle] at hr;obtain⟨an,cn,ae,ce,am,cm,rfl,⟨n,m,hq,I,G⟩,hp⟩:=hr;simp only[Value.agg.injEq] at hq;have e1:=congrArg (fun (l:Array Value)=>l[0]?) hq;have e2:=congrArg (fun (l:Array Value)=>l[1]?) hq;simp at e1 e2;subst e1;subst e2;clear hq;obtain⟨F,U⟩:=eI ((bat (Zan a b) (0,0) most).met);rw[← U] at I G hp hle;rw[← U];have S:=qh I;clear I;have T:=qh G;clear G;have V:=qh hp;clear hp;replace U:=qh U;go_wp2;have b1:=J.o.set 0 (.slice an F.length cn);have b2:=b1.set 1 (.slice ae F.length ce);have R:=b2.cell 0;have Q:=b2.cell 1;simp only[w_5,w_6,w_7,w_1,w_2,w_3] at R Q;have g1:=ZaA w2 (w.heap.size+1+1+1) 0 (.slice an F.length cn);have g2:=ZaA (w2.setCell ⟨w.heap.size+1+1+1,0,none⟩ (.slice an F.length cn)) (w.heap.size+1+1+1) 1 (.slice ae F.length ce);refine bodyPost_ret (v:=.tuple #[.agg #[.slice an F.length cn,.slice ae F.length ce],.slice am F.length cm,.bool true]) (by simp[results,Tryz.results119,go_sem,R,Q]) rfl ⟨?_,?_⟩
  ·unfold RExp;rw[← U.o,if_pos hle];have ha:∀ e,44 ≠ e→ZbF w2 (some (w.heap.size+1+1+1)) e:=fun e he=>J.o.apart he
   have D:∀ e,44 ≠ e→ZbF (w2.setCell ⟨w.heap.size+1+1+1,0,none⟩ (.slice an F.length cn)) (some (w.heap.size+1+1+1)) e:=fun e he=>b1.apart he
   refine⟨_,_,_,_,_,_,rfl,⟨_,_,rfl,?_,?_⟩,?_⟩
   ·exact((S.o.grown g1 (ha _ (by decide)) (ha _ (by decide))).grown g2 (D _ (by decide)) (D _ (by decide))).mono H (by simp)
   ·exact Own.mono (Own.grown (Own.grown T.o g1 (ha _ (by decide))) g2 (D _ (by decide))) H (by simp)
   exact Own.mono (Own.grown (Own.grown V.o g1 (ha _ (by decide))) g2 (D _ (by decide))) H (by simp)
  exact(C.o.setCell (by simp;omega) _).setCell (by simp;omega) _
 rw[if_neg hle] at hr;subst hr;go_wp2;have b1:=J.o.set 0 (.slice none 0 0);have b2:=b1.set 1 (.slice none 0 0);have R:=b2.cell 0;have Q:=b2.cell 1;simp only[w_5,w_6,w_7,w_1,w_2,w_3] at R Q;refine bodyPost_ret (v:=.tuple #[.agg #[.slice none 0 0,.slice none 0 0],.slice none 0 0,.bool false]) (by simp[results,Tryz.results119,go_sem,R,Q]) rfl ⟨?_,?_⟩
 ·unfold RExp;rw[if_neg hle]
 exact(C.o.setCell (by simp;omega) _).setCell (by simp;omega) _
end Go.Proofs.YtncekbbhgipdlaaGreat
namespace Go.Proofs.YtncekbbhgipdlaaGreat
open Go.RowKit
def nxD (d:DfaD) (s c:Nat):Nat:=((d.next.getD s []).getD c 0).toNat
def enD (d:DfaD) (s:Nat):Bool:=d.ends.getD s false
def Zbj (d:DfaD):DfaD:=Zar (dnx d) (den d) (bat (dnx d) 0 d.next.length).met
theorem Zcv {d:DfaD} (hd:fine d) {s c:Nat} (hs:s<d.next.length) (hc:c<3):nxD d s c<d.next.length∧dnx d (s:Int) c=((nxD d s c:Nat):Int):=by obtain⟨-,-,-,h⟩:=hd;obtain⟨-,h2⟩:=h s hs;obtain⟨a,b⟩:=h2 c hc;unfold nxD dnx;rw[Int.toNat_natCast];omega
theorem ZbL {d:DfaD} (hd:fine d) (K:Nat):(∀ x∈(bat (dnx d) 0 K).met,0≤x∧x<(d.next.length:Int))∧(bat (dnx d) 0 K).met.length≤d.next.length:=by
 have h1:∀ x∈(bat (dnx d) 0 K).met,0≤x∧x<(d.next.length:Int):=by refine ZbA (Q:=fun x=>0≤x∧x<(d.next.length:Int)) ⟨by omega,by have:=hd.1;omega⟩ (fun x c hc hx => ?_) K;obtain⟨s,rfl⟩:=Int.eq_ofNat_of_zero_le hx.1;obtain⟨a,b⟩:=Zcv hd (s:=s) (by omega) hc;rw[b];omega
 refine⟨h1,?_⟩;have:=ZdJ (ZaG (nx:=dnx d) (a:=0) K).1 (m:=ZaY d.next.length) fun x hx=>by obtain⟨a,b⟩:=h1 x hx;obtain⟨s,rfl⟩:=Int.eq_ofNat_of_zero_le a;exact Zch.2 (by omega)
 rwa [Zcf] at this
theorem ZaS {d:DfaD} (h:Zac d.next d.ends=true):fine d:=by have:=Zaf h;exact⟨by omega,by omega,by omega,fun i hi=>ZaM h hi⟩
theorem Zp6 {α:Type} [DecidableEq α] {nx:α→Nat→α} {a:α} {en:α→Bool} {K:Nat} (E:(bat nx a K).met.length≤K):Zbj (Zar nx en (bat nx a K).met)=Zar nx en (bat nx a K).met:=by
 unfold Zbj;rw[ZaW];obtain⟨m,hm⟩:=eI ((bat nx a K).met.length);have hle:(bat nx a m).met.length≤m:=by have:=(ZdY (nx:=nx) (a:=a) (show m≤K by omega)).1.length_le;omega
 have hd:bat nx a K=bat nx a m:=Zbc hle (by omega);have hp:=ZcZ (nx:=nx) (a:=a) K;have D:∀ (s:Int) c,c<3→0≤s∧s<m→Zam (bat nx a K).met (nx ((bat nx a K).met.getD s.toNat a) c)<m:=fun s c hc hs=>by rw[hm];exact ZaV (ZcN E (memD (d:=a) (show s.toNat<(bat nx a K).met.length by omega)) hc)
 have hlt:∀ (s:Int) c,c<3→0≤s∧s<m→0≤Zbs nx a (bat nx a K).met s c∧Zbs nx a (bat nx a K).met s c<m:=fun s c hc hs=>by have:=D s c hc hs;unfold Zbs;omega
 have e1:bat (Zbs nx a (bat nx a K).met) 0 m=bat (dnx (Zar nx en (bat nx a K).met)) 0 m :=
  ZfD (Q:=fun s=>0≤s∧s<(m:Int)) (by omega) (fun s c hc hs=>hlt s c hc hs) (fun s c hc hs=>(ZjG (by omega) (by omega) hc).symm) m
 have C:(bat (dnx (Zar nx en (bat nx a K).met)) 0 (bat nx a K).met.length).met=ZaY (bat nx a K).met.length:=by rw[← hm,← e1,Zlk nx a K m (by omega),← hd,hm]
 rw[C]
 have hr:(ZaY (bat nx a K).met.length).map (Zai (dnx (Zar nx en (bat nx a K).met)) (ZaY (bat nx a K).met.length))=(bat nx a K).met.map (Zai nx (bat nx a K).met):=by
  refine List.ext_getElem (by simp[ZaY]) fun i h1 h2 => ?_
  have hi:i<(bat nx a K).met.length:=by simpa using h2
  have hu:(ZaY (bat nx a K).met.length)[i]'(by simpa using h1)=(i:Int):=by simp[ZaY]
  simp only[List.getElem_map];rw[hu];unfold Zai;refine List.map_congr_left fun c hc => ?_
  have hc3:c<3:=List.mem_range.1 hc;rw[ZjG (a:=a) (by omega) (by omega) hc3];unfold Zbs;have B:=D (i:Int) c hc3 (by omega);have e2:(bat nx a K).met.getD (i:Int).toNat a=(bat nx a K).met[i]:=by simp[hi]
  rw[e2] at B ⊢;congr 1;obtain⟨q,hq⟩:=eJ (Zam (bat nx a K).met (nx ((bat nx a K).met[i]) c));rw[hq] at B ⊢;have e3:=ZgW (n:=(bat nx a K).met.length) (k:=q) (by omega);have e4:=Zfq (l:=ZaY (bat nx a K).met.length) (k:=q) (by rw[Zcf];omega) (List.Pairwise.map _ (fun _ _ h e=>h (Int.ofNat.inj e)) List.nodup_range) (0:Int);rw[e3] at e4;exact e4
 have he:(ZaY (bat nx a K).met.length).map (den (Zar nx en (bat nx a K).met))=(bat nx a K).met.map en:=by
  refine List.ext_getElem (by simp[ZaY]) fun i h1 h2 => ?_
  have hi:i<(bat nx a K).met.length:=by simpa using h2
  have hu:(ZaY (bat nx a K).met.length)[i]'(by simpa using h1)=(i:Int):=by simp[ZaY]
  simp only[List.getElem_map];rw[hu];exact ZjJ hi
 exact congr (congrArg DfaD.mk hr) he
structure Ent where
 foot:Nat→Prop
 holds:World→Prop
 stable:∀ w w':World,holds w→(∀ k,foot k→w'.heap[k]? = w.heap[k]?)→holds w'
def Ent.apart (a b:Ent):Prop:=∀ k,a.foot k→¬ b.foot k
theorem Ent.apart.symm {a b:Ent} (h:a.apart b):b.apart a:=fun k hb ha=>h k ha hb
def Ent.nil:Ent:=⟨fun _=>False,fun _=>True,fun _ _ _ _=>trivial⟩
def Ent.box (b:Nat) (cs:Array Value) (T:TypeId):Ent:=⟨fun k=>k=b,fun w=>Bx w b cs T,fun _ _ h hk=>(hk b rfl).trans h⟩
def Ent.row (e size:Nat) (v:Value) (n:Nat) (cs:List Value):Ent :=
 ⟨fun k=>v.ownBlock=some k,fun w=>w.ownsRow 0 e size v n cs,fun _ _ h hk=>(Own.kept (Zab h) hk).1⟩
def Ent.rows (es e:Nat) (v:Value) (vs:List Value) (css:List (List Value)):Ent :=
 ⟨fun k=>v.ownBlock=some k∨∃ i,i<css.length∧(vs.getD i undef).ownBlock=some k,
  fun w=>w.ownsRow 0 es 1 v css.length vs∧(∀ i,i<css.length→w.ownsRow 0 e 1 (vs.getD i undef) (css.getD i []).length (css.getD i [])) ∧
   (∀ i j k,i<j→j<css.length→(vs.getD i undef).ownBlock=some k→(vs.getD j undef).ownBlock≠some k),
  fun _ _ h hk=>⟨(Own.kept (Zab h.1) fun k hh=>hk k (Or.inl hh)).1,fun i hi=>(Own.kept (Zab (h.2.1 i hi)) fun k hh=>hk k (Or.inr ⟨i,hi,hh⟩)).1,h.2.2⟩⟩
structure St (w0 w:World) (L:List Ent):Prop where
 bel:Below w0.heap.size w0 w
 has:∀ (i:Nat) (x:Ent),L[i]? = some x→x.holds w∧∀ k,x.foot k→w0.heap.size≤k∧k<w.heap.size
 far:∀ (i j:Nat) (x y:Ent),i≠j→L[i]? = some x→L[j]? = some y→x.apart y
section
variable {w0 w w':World} {L:List Ent}
theorem St.start (w:World):St w w []:=⟨Below.refl _ _,fun i x h=>by simp at h,fun i j x y _ h=>by simp at h⟩
theorem St.size (h:St w0 w L):w0.heap.size≤w.heap.size:=h.bel.size
theorem St.call (h:St w0 w L) (hb:Below w.heap.size w w'):St w0 w' L :=
 ⟨h.bel.trans (hb.mono h.bel.size),fun i x hx=>by obtain⟨a,b⟩:=h.has i x hx;exact⟨x.stable w w' a fun k hk=>hb.block k (b k hk).2,fun k hk=>⟨(b k hk).1,Nat.lt_of_lt_of_le (b k hk).2 hb.size⟩⟩,h.far⟩
theorem St.drew (h:St w0 w L):St w0 w.drew L:=h.call (Below.refl _ _).drew
theorem St.drewN (h:St w0 w L) (n:Nat):St w0 (w.drewN n) L:=h.call (below_drewN (Below.refl _ _) n)
theorem St.add (h:St w0 w L) (hb:Below w.heap.size w w') (y:Ent) (hy:y.holds w') (hf:∀ k,y.foot k→w.heap.size≤k∧k<w'.heap.size):St w0 w' (L++[y]):=by
 have h2:=h.call hb
 have key:∀ i x,(L++[y])[i]? = some x→(L[i]? = some x)∨(i=L.length∧x=y):=fun i x hx=>by
  rw[List.getElem?_append] at hx
  split at hx
  ·exact Or.inl hx
  rename_i hl
  have:i-L.length=0:=by
   rcases Nat.eq_zero_or_pos (i-L.length) with h0|h0
   ·exact h0
   rw[List.getElem?_eq_none (by simp;omega)] at hx;cases hx
  rw[this] at hx;simp at hx;exact Or.inr ⟨by omega,hx.symm⟩
 refine⟨h2.bel,fun i x hx => ?_,fun i j x z hij hx hz => ?_⟩
 ·rcases key i x hx with C|⟨-,rfl⟩
  ·exact h2.has i x C
  exact⟨hy,fun k hk=>⟨Nat.le_trans h.bel.size (hf k hk).1,(hf k hk).2⟩⟩
 rcases key i x hx with C|⟨hi,F⟩
 ·rcases key j z hz with D|⟨hj,E⟩
  ·exact h.far i j x z hij C D
  intro k hk B;rw[E] at B;have:=((h.has i x C).2 k hk).2;have:=(hf k B).1;omega
 rcases key j z hz with D|⟨hj,E⟩
 ·intro k hk B;rw[F] at hk;have:=((h.has j z D).2 k B).2;have:=(hf k hk).1;omega
 exact absurd (hi.trans hj.symm) hij
theorem St.alloc (h:St w0 w L) (b:Nat) (hb:w.heap.size=b) (cs:Array Value) (T:TypeId):St w0 (w.alloc (.cells cs T)) (L++[Ent.box b cs T]):=by subst hb;exact h.add ((Below.refl _ _).alloc (Nat.le_refl _) _) _ (Bx.new w cs T) fun k hk=>by have hk:k=w.heap.size:=hk;subst hk;exact⟨Nat.le_refl _,by simp⟩
theorem St.alloc_ (h:St w0 w L) (o:Obj):St w0 (w.alloc o) L:=h.call ((Below.refl _ _).alloc (Nat.le_refl _) _)
theorem Zd9 {B C e size n:Nat} {v:Value} {cs:List Value} (h:w.ownsRow B e size v n cs) (D:C≤B):w.ownsRow C e size v n cs:=(Own.mono (Zab h) D (Nat.le_refl _)).1
theorem ZfL {B e size n:Nat} {v:Value} {cs:List Value} (h:w.ownsRow 0 e size v n cs) (C:∀ k,v.ownBlock=some k→B≤k):w.ownsRow B e size v n cs:=by
 refine⟨h.1,?_⟩;rcases h.2 with h1|⟨g,cap,cur,rfl,-,r⟩
 ·exact Or.inl h1
 exact Or.inr ⟨g,cap,cur,rfl,C g rfl,r⟩
theorem St.made (h:St w0 w L) (hb:Below w.heap.size w w') {e size n:Nat} {v:Value} {cs:List Value} (hr:w'.ownsRow w.heap.size e size v n cs):St w0 w' (L++[Ent.row e size v n cs]) :=
 h.add hb _ (Zd9 hr (Nat.zero_le _)) fun k hk=>hr.lt k hk
theorem St.nilRow (h:St w0 w L) (e size:Nat):St w0 w (L++[Ent.row e size (.slice none 0 0) 0 []]) :=
 h.add (Below.refl _ _) _ ⟨by simp,Or.inl ⟨rfl,rfl⟩⟩ fun k hk=>by cases hk
theorem St.only {lo hi:Nat} (h:St w0 w L) (hm:Only lo hi w w') (B:w0.heap.size≤lo) (hd:∀ x∈L,∀ k,x.foot k→k<lo∨hi≤k):St w0 w' L :=
 ⟨h.bel.trans ⟨hm.os,hm.tape,hm.output,hm.size,fun k hk=>hm.block k (Nat.lt_of_lt_of_le hk h.size) (Or.inl (Nat.lt_of_lt_of_le hk B))⟩,fun i x hx=>by obtain⟨a,b⟩:=h.has i x hx;exact⟨x.stable w w' a fun k hk=>hm.block k (b k hk).2 (hd x (List.mem_of_getElem? hx) k hk),fun k hk=>⟨(b k hk).1,Nat.lt_of_lt_of_le (b k hk).2 hm.size⟩⟩,h.far⟩
theorem St.turn (h:St w0 w L) (i:Nat) {x:Ent} (hx:L[i]? = some x) (y:Ent) (H:w'.os=w.os) (ht:w'.tape=w.tape) (I:w'.output=w.output) (hs:w.heap.size≤w'.heap.size)
  (hk:∀ k,k<w.heap.size→¬ x.foot k→w'.heap[k]? = w.heap[k]?) (hy:y.holds w') (hf:∀ k,y.foot k→k<w'.heap.size∧(x.foot k∨w.heap.size≤k)):St w0 w' (L.set i y):=by
 have J:i<L.length:=(List.getElem?_eq_some_iff.1 hx).1
 have key:∀ j z,(L.set i y)[j]? = some z→(j≠i∧L[j]? = some z)∨(j=i∧z=y):=fun j z hz=>by
  rw[List.getElem?_set] at hz
  split at hz
  ·rename_i e;subst e;simp only[w_9] at hz;exact Or.inr ⟨rfl,hz.symm⟩
  rename_i e;exact Or.inl ⟨fun e2=>e e2.symm,hz⟩
 have hb:Below w0.heap.size w0 w':=h.bel.trans ⟨H,ht,I,hs,fun k hk0=>hk k (Nat.lt_of_lt_of_le hk0 h.size) fun G=>by have:=((h.has i x hx).2 k G).1;omega⟩;refine⟨hb,fun j z hz => ?_,fun j l z u hjl hz hu => ?_⟩
 ·rcases key j z hz with⟨hj,hz⟩|⟨-,rfl⟩
  ·obtain⟨a,b⟩:=h.has j z hz;exact⟨z.stable w w' a fun k B=>hk k (b k B).2 (h.far j i z x hj hz hx k B),fun k B=>⟨(b k B).1,Nat.lt_of_lt_of_le (b k B).2 hs⟩⟩
  refine⟨hy,fun k B=>⟨?_,(hf k B).1⟩⟩;rcases(hf k B).2 with h1|h1
  ·exact((h.has i x hx).2 k h1).1
  exact Nat.le_trans h.size h1
 have one:∀ (l:Nat) (u:Ent),l≠i→L[l]? = some u→y.apart u:=fun l u hl hu k hk1 B=>by
  rcases(hf k hk1).2 with h1|h1
  ·exact h.far i l x u (fun e=>hl e.symm) hx hu k h1 B
  have:=((h.has l u hu).2 k B).2;omega
 rcases key j z hz with⟨hj,E⟩|⟨hj,F⟩
 ·rcases key l u hu with⟨hl,C⟩|⟨hl,D⟩
  ·exact h.far j l z u hjl E C
  rw[D];exact(one j z hj E).symm
 rw[F];rcases key l u hu with⟨hl,C⟩|⟨hl,D⟩
 ·exact one l u hl C
 exact absurd (hj.trans hl.symm) hjl
theorem St.set (h:St w0 w L) (i:Nat) {b:Nat} {cs:Array Value} {T:TypeId} (hx:L[i]? = some (Ent.box b cs T)) (j:Nat) (v:Value):St w0 (w.setCell ⟨b,j,none⟩ v) (L.set i (Ent.box b (cs.setIfInBounds j v) T)):=by have hb:Bx w b cs T:=(h.has i _ hx).1;exact h.turn i hx _ rfl rfl rfl (by simp[World.setCell]) (fun k _ hk=>Below.heap_setCell _ _ _ _ hk) (hb.set j v) fun k hk=>by have hk:k=b:=hk;subst hk;exact⟨(hb.set j v).lt,Or.inl rfl⟩
theorem St.store (h:St w0 w L) (i:Nat) {e size g n cap:Nat} {cs:List Value} (hx:L[i]? = some (Ent.row e size (.slice (some ⟨g,0,none⟩) n cap) n cs)) (j:Nat) (v:Value) :
  St w0 (w.setCell ⟨g,j,none⟩ v) (L.set i (Ent.row e size (.slice (some ⟨g,0,none⟩) n cap) n (cs.set j v))):=by
 have hr:w.ownsRow 0 e size (.slice (some ⟨g,0,none⟩) n cap) n cs:=(h.has i _ hx).1;have B:=(hr.stored j v).1;exact h.turn i hx _ rfl rfl rfl (by simp[World.setCell]) (fun k _ hk=>Below.heap_setCell _ _ _ _ (fun e=>hk (by rw[e];rfl))) B fun k hk=>⟨(B.lt k hk).2,Or.inl hk⟩
theorem St.grow (h:St w0 w L) (i:Nat) {B e size n m:Nat} {v F:Value} {cs cs':List Value} (hx:L[i]? = some (Ent.row e size v n cs)) (D:w.grownBy w' v.ownBlock) (C:w'.ownsRow B e size F m cs')
  (E:∀ k,F.ownBlock=some k→v.ownBlock=some k∨w.heap.size≤k):St w0 w' (L.set i (Ent.row e size F m cs')) :=
 h.turn i hx _ D.os D.tape D.output D.size (fun k hk hn=>D.block k hk fun e=>hn e.symm) (Zd9 C (Nat.zero_le _)) fun k hk=>⟨(C.lt k hk).2,E k hk⟩
theorem Zgh {v:Value} {g n cap H:Nat} (B:v.ownBlock=some g∨g=H):∀ k,(Value.slice (some ⟨g,0,none⟩) n cap).ownBlock=some k→v.ownBlock=some k∨H≤k:=fun k hk=>by
 have hk:some g=some k:=hk;obtain rfl:g=k:=Option.some.inj hk;rcases B with h1|h1
 ·exact Or.inl h1
 exact Or.inr (by omega)
theorem St.app (h:St w0 w L) (i:Nat) {B e size n m g cap:Nat} {v:Value} {cs cs':List Value} (hx:L[i]? = some (Ent.row e size v n cs)) (C:w'.ownsRow B e size (.slice (some ⟨g,0,none⟩) m cap) m cs') (E:w.grownBy w' v.ownBlock)
  (D:v.ownBlock=some g∨g=w.heap.size):St w0 w' (L.set i (Ent.row e size (.slice (some ⟨g,0,none⟩) m cap) m cs')):=h.grow i hx E C (Zgh D)
theorem St.pick (h:St w0 w L) (f:List Nat) (hn:f.Nodup):St w0 w (f.map fun i=>L.getD i Ent.nil):=by
 have key:∀ i x,(f.map fun i=>L.getD i Ent.nil)[i]? = some x→∃ a,f[i]? = some a∧(L[a]? = some x∨x=Ent.nil):=fun i x hx=>by
  rw[List.getElem?_map] at hx;cases hf:f[i]? with
  | none=>rw[hf] at hx;cases hx
  | some a =>
   rw[hf] at hx;simp only[Option.map_some,w_9,List.getD_eq_getElem?_getD] at hx;refine⟨a,hf,?_⟩;cases hl:L[a]? with
   | none=>rw[hl] at hx;exact Or.inr hx.symm
   | some y=>rw[hl] at hx;exact Or.inl (by rw[← hx];rfl)
 refine⟨h.bel,fun i x hx => ?_,fun i j x y hij hx hy => ?_⟩
 ·obtain⟨a,-,h1|rfl⟩:=key i x hx
  ·exact h.has a x h1
  exact⟨trivial,fun k hk=>hk.elim⟩
 obtain⟨a,ha,h1⟩:=key i x hx;obtain⟨c,hc,h2⟩:=key j y hy;rcases h1 with h1|rfl
 ·rcases h2 with h2|rfl
  ·refine h.far a c x y (fun e=>hij ?_) h1 h2;subst e;exact(List.getElem?_inj (List.getElem?_eq_some_iff.1 ha).1 hn).1 (ha.trans hc.symm)
  exact fun k _ hk=>hk
 exact fun k hk=>hk.elim
theorem St.box (h:St w0 w L) (i:Nat) {b:Nat} {cs:Array Value} {T:TypeId} (hx:L[i]? = some (Ent.box b cs T)):Bx w b cs T:=(h.has i _ hx).1
theorem St.cell (h:St w0 w L) (i j:Nat) {b:Nat} {cs:Array Value} {T:TypeId} {v:Value} (hx:L[i]? = some (Ent.box b cs T)) (B:cs[j]? = some v):w.cell? ⟨b,j,none⟩=some v:=((h.box i hx).cell j).trans B
theorem St.fr (h:St w0 w L) (i j:Nat) {b:Nat} {cs:Array Value} {T:TypeId} (hx:L[i]? = some (Ent.box b cs T)):w.frozen? ⟨b,j,none⟩=false:=(h.box i hx).fr j
theorem St.boxlt (h:St w0 w L) (i:Nat) {b:Nat} {cs:Array Value} {T:TypeId} (hx:L[i]? = some (Ent.box b cs T)):w0.heap.size≤b∧b<w.heap.size:=(h.has i _ hx).2 b rfl
theorem St.row (h:St w0 w L) (i:Nat) {e size n:Nat} {v:Value} {cs:List Value} (hx:L[i]? = some (Ent.row e size v n cs)):w.ownsRow w0.heap.size e size v n cs:=ZfL (h.has i _ hx).1 fun k hk=>((h.has i _ hx).2 k hk).1
theorem St.rcell (h:St w0 w L) (i j:Nat) {e size g n cap:Nat} {cs:List Value} {v:Value} (hx:L[i]? = some (Ent.row e size (.slice (some ⟨g,0,none⟩) n cap) n cs)) (hj:j<n*size) (B:cs[j]? = some v):w.cell? ⟨g,j,none⟩=some v :=
 ((h.row i hx).cellAt j hj).trans B
theorem St.rfr (h:St w0 w L) (i j:Nat) {e size g n cap:Nat} {cs:List Value} (hx:L[i]? = some (Ent.row e size (.slice (some ⟨g,0,none⟩) n cap) n cs)):w.frozen? ⟨g,j,none⟩=false :=
 World.ownsRow.frozenAt (h.row i hx) j
theorem St.rowlt (h:St w0 w L) (i:Nat) {e size g n cap:Nat} {cs:List Value} (hx:L[i]? = some (Ent.row e size (.slice (some ⟨g,0,none⟩) n cap) n cs)):w0.heap.size≤g∧g<w.heap.size:=(h.has i _ hx).2 g rfl
theorem St.rowcap (h:St w0 w L) (i:Nat) {e size g n cap:Nat} {cs:List Value} (hx:L[i]? = some (Ent.row e size (.slice (some ⟨g,0,none⟩) n cap) n cs)):n≤cap∧cap≤9223372036854775807:=by
 have hr:=h.row i hx;rcases hr.2 with⟨h1,-⟩|⟨g',cap',cur,h1,-,-,h4,h5,-⟩
 ·cases h1
 simp only[Value.slice.injEq,true_and] at h1;obtain⟨-,rfl⟩:=h1;exact⟨h4,h5⟩
theorem St.rowform (h:St w0 w L) (i:Nat) {e size n:Nat} {v:Value} {cs:List Value} (hx:L[i]? = some (Ent.row e size v n cs)) (hn:0<n):∃ g cap,v = .slice (some ⟨g,0,none⟩) n cap:=by
 rcases(h.row i hx).2 with⟨-,h1⟩|⟨g',cap',cur,h1,-⟩
 ·omega
 exact⟨g',cap',h1⟩
theorem St.rowany (h:St w0 w L) (i:Nat) {e size n:Nat} {v:Value} {cs:List Value} (hx:L[i]? = some (Ent.row e size v n cs)):∃ a cap,v = .slice a n cap∧n≤cap∧cap≤9223372036854775807:=by
 rcases(h.row i hx).2 with⟨h1,h2⟩|⟨g',cap',cur,h1,-,-,h4,h5,-⟩
 ·exact⟨none,0,by rw[h1,h2],by omega,by omega⟩
 exact⟨_,cap',h1,h4,h5⟩
theorem St.merge (h:St w0 w L) (i j:Nat) (hij:i≠j) {x y:Ent} (hx:L[i]? = some x) (hy:L[j]? = some y) (z:Ent) (hz:x.holds w→y.holds w→x.apart y→z.holds w) (hf:∀ k,z.foot k→x.foot k∨y.foot k):St w0 w ((L.set i z).set j Ent.nil):=by
 have N:i<L.length:=(List.getElem?_eq_some_iff.1 hx).1;have hjl:j<L.length:=(List.getElem?_eq_some_iff.1 hy).1
 have key:∀ l u,((L.set i z).set j Ent.nil)[l]? = some u→u=Ent.nil∨(l=i∧u=z)∨(l≠i∧l≠j∧L[l]? = some u):=fun l u hu=>by
  rw[List.getElem?_set] at hu
  split at hu
  ·simp[hjl] at hu;exact Or.inl hu.symm
  rename_i hlj;rw[List.getElem?_set] at hu
  split at hu
  ·rename_i hli;simp at hu;exact Or.inr (Or.inl ⟨hli.symm,hu.symm⟩)
  rename_i hli;exact Or.inr (Or.inr ⟨fun e=>hli e.symm,fun e=>hlj e.symm,hu⟩)
 refine⟨h.bel,fun l u hu => ?_,fun l m u t G hu ht => ?_⟩
 ·rcases key l u hu with rfl|⟨-,rfl⟩|⟨-,-,h1⟩
  ·exact⟨trivial,fun k hk=>hk.elim⟩
  ·refine⟨hz (h.has i x hx).1 (h.has j y hy).1 (h.far i j x y hij hx hy),fun k hk => ?_⟩;rcases hf k hk with h2|h2
   ·exact(h.has i x hx).2 k h2
   exact(h.has j y hy).2 k h2
  exact h.has l u h1
 have one:∀ (l:Nat) (u:Ent),l≠i→l≠j→L[l]? = some u→z.apart u:=fun l u C D hu k hk1 E=>by
  rcases hf k hk1 with h2|h2
  ·exact h.far i l x u (fun e=>C e.symm) hx hu k h2 E
  exact h.far j l y u (fun e=>D e.symm) hy hu k h2 E
 rcases key l u hu with M|⟨hl,J⟩|⟨C,D,h1⟩
 ·rw[M];exact fun k hk=>hk.elim
 ·rcases key m t ht with B|⟨hm,I⟩|⟨H,F,h2⟩
  ·rw[B];exact fun k _ hk=>hk
  ·exact absurd (hl.trans hm.symm) G
  rw[J];exact one m t H F h2
 rcases key m t ht with B|⟨hm,I⟩|⟨H,F,h2⟩
 ·rw[B];exact fun k _ hk=>hk
 ·rw[I];exact(one l u C D h1).symm
 exact h.far l m u t G h1 h2
theorem St.same (h:St w0 w L) (i:Nat) {x:Ent} (hx:L[i]? = some x) (y:Ent) (hy:x.holds w→y.holds w) (hf:∀ k,y.foot k→x.foot k):St w0 w (L.set i y) :=
 h.turn i hx y rfl rfl rfl (Nat.le_refl _) (fun _ _ _=>rfl) (hy (h.has i x hx).1) fun k hk=>⟨((h.has i x hx).2 k (hf k hk)).2,Or.inl (hf k hk)⟩
theorem St.boxrow (h:St w0 w L) (i:Nat) {b:Nat} {T:TypeId} (n size:Nat) (cs:List Value) (hx:L[i]? = some (Ent.box b cs.toArray T)) (hl:cs.length=n*size) (hn:n≤maxLen):St w0 w (L.set i (Ent.row T size (.slice (some ⟨b,0,none⟩) n n) n cs)) :=
 h.same i hx _ (fun hb=>Zcz hb hl (Nat.zero_le _) hn) fun k hk=>by have hk:some b=some k:=hk;exact(Option.some.inj hk).symm
theorem St.norows (h:St w0 w L) (i:Nat) {es:Nat} {v:Value} (hx:L[i]? = some (Ent.row es 1 v 0 [])) (e:Nat):St w0 w (L.set i (Ent.rows es e v [] [])) :=
 h.same i hx _ (fun hb=>⟨hb,fun i hi=>absurd hi (by simp),fun i j k _ hj=>absurd hj (by simp)⟩) fun k hk=>by
  rcases hk with hk|⟨i,hi,-⟩
  ·exact hk
  simp at hi
theorem St.onerow (h:St w0 w L) (i j:Nat) (hij:i≠j) {es e m:Nat} {v rv:Value} {cs:List Value} (hx:L[i]? = some (Ent.row es 1 v 1 [rv])) (hy:L[j]? = some (Ent.row e 1 rv m cs)) :
  St w0 w ((L.set i (Ent.rows es e v [rv] [cs])).set j Ent.nil):=by
 refine h.merge i j hij hx hy _ (fun h1 h2 h3=>⟨h1,fun l hl => ?_,fun D E k C B => ?_⟩) fun k hk => ?_
 ·obtain rfl:l=0:=by simp at hl;omega
  have h2:w.ownsRow 0 e 1 rv m cs:=h2;have:=h2.1;simp at this;show w.ownsRow 0 e 1 rv cs.length cs;rw[this];exact h2
 ·simp at B;omega
 rcases hk with hk|⟨l,hl,hk⟩
 ·exact Or.inl hk
 obtain rfl:l=0:=by simp at hl;omega
 exact Or.inr hk
theorem St.snoc (h:St w0 w L) (i j:Nat) (hij:i≠j) {es e m:Nat} {v P rv:Value} {vs cs:List Value} {css:List (List Value)} (hx:L[i]? = some (Ent.rows es e v vs css)) (hy:L[j]? = some (Ent.row e 1 rv m cs)) (S:es≠e)
  (F:w.grownBy w' v.ownBlock) {B:Nat} (G:w'.ownsRow B es 1 P (css.length+1) (vs++[rv])) (T:∀ k,P.ownBlock=some k→v.ownBlock=some k∨w.heap.size≤k) :
  St w0 w' ((L.set i (Ent.rows es e P (vs++[rv]) (css++[cs]))).set j Ent.nil):=by
 have R:(Ent.rows es e v vs css).holds w:=(h.has i _ hx).1;have H:(Ent.row e 1 rv m cs).holds w:=(h.has j _ hy).1;have M:=h.far i j _ _ hij hx hy;obtain⟨Y,X,d⟩:=R;have N:ZbF w v.ownBlock e:=Zah Y S;have hl:vs.length=css.length:=by have:=Y.1;omega
 have V:cs.length=m:=by have:=H.1;omega
 have D:∀ i,i<css.length→(vs++[rv]).getD i undef=vs.getD i undef:=fun i hi=>by simp only[List.getD_eq_getElem?_getD];rw[List.getElem?_append_left (by omega)]
 have C:(vs++[rv]).getD css.length undef=rv:=by simp[← hl]
 have I:∀ i,i<css.length→(css++[cs]).getD i []=css.getD i []:=fun i hi=>by simp only[List.getD_eq_getElem?_getD];rw[List.getElem?_append_left (by omega)]
 have E:(css++[cs]).getD css.length []=cs:=by simp
 have U:i<L.length:=(List.getElem?_eq_some_iff.1 hx).1;have hjl:j<L.length:=(List.getElem?_eq_some_iff.1 hy).1;have c:=h.merge i j hij hx hy ⟨fun k=>(Ent.rows es e v vs css).foot k∨(Ent.row e 1 rv m cs).foot k,fun w=>(Ent.rows es e v vs css).holds w∧(Ent.row e 1 rv m cs).holds w,fun a b h1 h2=>⟨Ent.stable _ a b h1.1 fun k hk=>h2 k (Or.inl hk),Ent.stable _ a b h1.2 fun k hk=>h2 k (Or.inr hk)⟩⟩ (fun a b _=>⟨a,b⟩) fun k hk=>hk
 have Z:=c.turn i (by rw[List.getElem?_set,if_neg (fun e=>hij e.symm),List.getElem?_set,if_pos rfl,if_pos U]) (Ent.rows es e P (vs++[rv]) (css++[cs])) F.os F.tape F.output F.size
  (fun k hk hn=>F.block k hk fun e=>hn (Or.inl (Or.inl e.symm))) ?_ ?_
 ·have e1:∀ a y:Ent,(((L.set i a).set j Ent.nil).set i y)=((L.set i y).set j Ent.nil):=fun a y=>by rw[List.set_comm _ _ (fun e=>hij e.symm),List.set_set]
  rw[e1] at Z;exact Z
 ·refine⟨by rw[List.length_append];exact Zd9 G (Nat.zero_le _),fun l J => ?_,fun a b k O hb hk => ?_⟩
  ·rw[List.length_append,List.length_singleton] at J;by_cases hlc:l<css.length
   ·rw[D l hlc,I l hlc];exact Zad (X l hlc) F N
   obtain rfl:l=css.length:=by omega
   rw[C,E,V];exact Zad H F N
  rw[List.length_append,List.length_singleton] at hb;rw[D a (by omega)] at hk;by_cases hbc:b<css.length
  ·rw[D b hbc];exact d a b k O hbc hk
  obtain rfl:b=css.length:=by omega
  rw[C];intro Q;exact M k (Or.inr ⟨a,O,hk⟩) Q
 intro k hk;rcases hk with hk|⟨l,J,hk⟩
 ·refine⟨(G.lt k hk).2,?_⟩;rcases T k hk with h1|h1
  ·exact Or.inl (Or.inl (Or.inl h1))
  exact Or.inr h1
 rw[List.length_append,List.length_singleton] at J;by_cases hlc:l<css.length
 ·rw[D l hlc] at hk;exact⟨Nat.lt_of_lt_of_le ((X l hlc).lt k hk).2 F.size,Or.inl (Or.inl (Or.inr ⟨l,hlc,hk⟩))⟩
 obtain rfl:l=css.length:=by omega
 rw[C] at hk;exact⟨Nat.lt_of_lt_of_le (World.ownsRow.lt H k hk).2 F.size,Or.inl (Or.inr hk)⟩
theorem St.rows (h:St w0 w L) (i:Nat) {es e:Nat} {v:Value} {vs:List Value} {css:List (List Value)} (hx:L[i]? = some (Ent.rows es e v vs css)) :
  w.ownsRow w0.heap.size es 1 v css.length vs∧(∀ i,i<css.length→w.ownsRow w0.heap.size e 1 (vs.getD i undef) (css.getD i []).length (css.getD i []))∧(∀ i j k,i<j→j<css.length→(vs.getD i undef).ownBlock=some k→(vs.getD j undef).ownBlock≠some k):=by
 have h1:(Ent.rows es e v vs css).holds w:=(h.has i _ hx).1;have h2:=(h.has i _ hx).2;exact⟨ZfL h1.1 fun k hk=>(h2 k (Or.inl hk)).1,fun j hj=>ZfL (h1.2.1 j hj) fun k hk=>(h2 k (Or.inr ⟨j,hj,hk⟩)).1,h1.2.2⟩
theorem St.cat {D:List Ent} (h:St w0 w L) (C:St w w' D):St w0 w' (L++D):=by
 have h2:=h.call C.bel
 have key:∀ i x,(L++D)[i]? = some x→(i<L.length∧L[i]? = some x)∨(L.length≤i∧D[i-L.length]? = some x):=fun i x hx=>by
  rw[List.getElem?_append] at hx
  split at hx
  ·exact Or.inl ⟨by assumption,hx⟩
  exact Or.inr ⟨by omega,hx⟩
 refine⟨h2.bel,fun i x hx => ?_,fun i j x y hij hx hy => ?_⟩
 ·rcases key i x hx with⟨-,h1⟩|⟨-,h1⟩
  ·exact h2.has i x h1
  refine⟨(C.has _ x h1).1,fun k hk => ?_⟩;have:=(C.has _ x h1).2 k hk;exact⟨Nat.le_trans h.size this.1,this.2⟩
 rcases key i x hx with⟨hi,h1⟩|⟨hi,h1⟩
 ·rcases key j y hy with⟨hj,h3⟩|⟨hj,h3⟩
  ·exact h.far i j x y hij h1 h3
  intro k hk B;have:=((h.has _ x h1).2 k hk).2;have:=((C.has _ y h3).2 k B).1;omega
 rcases key j y hy with⟨hj,h3⟩|⟨hj,h3⟩
 ·intro k hk B;have:=((h.has _ y h3).2 k B).2;have:=((C.has _ x h1).2 k hk).1;omega
 exact C.far _ _ x y (by omega) h1 h3
theorem St.intSS (h:St w0 w L) (i:Nat) {es e:Nat} {v:Value} {vs:List Value} {xss:List (List Int)} (hx:L[i]? = some (Ent.rows es e v vs (xss.map intCells))):OIntSS es e w0.heap.size w.heap.size w v xss:=by
 obtain⟨D,B,C⟩:=h.rows i hx;rw[List.length_map] at D B C;refine⟨vs,Zab D,fun i hi => ?_,C⟩;have:=B i hi;have e1:(xss.map intCells).getD i []=intCells (xss.getD i []):=by simp[hi]
 rw[e1] at this;have:=Zab this;simpa [OInts] using this
end
def Ent.all (R:List Ent):Ent:=⟨fun k=>∃ x∈R,x.foot k,fun w=>∀ x∈R,x.holds w,fun _ _ h hk x hx=>x.stable _ _ (h x hx) fun k hf=>hk k ⟨x,hx,hf⟩⟩
theorem St.pack {w0 w:World} {A R:List Ent} (h:St w0 w (A++R)):St w0 w (A++[Ent.all R]):=by
 have C:∀ x∈R,∃ i,A.length≤i∧(A++R)[i]? = some x:=fun x hx=>by obtain⟨j,hj,e⟩:=List.getElem_of_mem hx;exact⟨A.length+j,by omega,by rw[List.getElem?_append_right (by omega),Nat.add_sub_cancel_left,List.getElem?_eq_getElem hj,e]⟩
 have key:∀ i x,(A++[Ent.all R])[i]? = some x→(i<A.length∧(A++R)[i]? = some x)∨(i=A.length∧x=Ent.all R):=fun i x hx=>by
  rw[List.getElem?_append] at hx
  split at hx
  ·rename_i hl;exact Or.inl ⟨hl,by rw[List.getElem?_append_left hl];exact hx⟩
  rename_i hl;rcases Nat.eq_zero_or_pos (i-A.length) with h0|h0
  ·rw[h0] at hx;simp at hx;exact Or.inr ⟨by omega,hx.symm⟩
  rw[List.getElem?_eq_none (by simp;omega)] at hx;cases hx
 refine⟨h.bel,fun i x hx => ?_,fun i j x y hij hx hy => ?_⟩
 ·rcases key i x hx with⟨-,h1⟩|⟨-,rfl⟩
  ·exact h.has i x h1
  refine⟨fun z hz => ?_,fun k ⟨z,hz,hk⟩ => ?_⟩
  ·obtain⟨l,-,hl⟩:=C z hz;exact(h.has l z hl).1
  obtain⟨l,-,hl⟩:=C z hz;exact(h.has l z hl).2 k hk
 rcases key i x hx with⟨hi,h1⟩|⟨hi,hxe⟩
 ·rcases key j y hy with⟨hj,h2⟩|⟨hj,hye⟩
  ·exact h.far i j x y hij h1 h2
  rw[hye];rintro k hk ⟨z,hz,B⟩;obtain⟨l,D,hl⟩:=C z hz;exact h.far i l x z (by omega) h1 hl k hk B
 rcases key j y hy with⟨hj,h2⟩|⟨hj,hye⟩
 ·rw[hxe];rintro k ⟨z,hz,hk⟩ B;obtain⟨l,D,hl⟩:=C z hz;exact h.far l j z y (by omega) hl h2 k hk B
 exact absurd (hi.trans hj.symm) hij
theorem St.unpack {w0 w w':World} {A A' R:List Ent} (h:St w0 w (A++R)) (C:St w0 w' (A'++[Ent.all R])):St w0 w' (A'++R):=by
 have E:(A'++[Ent.all R])[A'.length]? = some (Ent.all R):=by simp
 have D:=C.has _ _ E
 have key:∀ i x,(A'++R)[i]? = some x→(i<A'.length∧(A'++[Ent.all R])[i]? = some x)∨(A'.length≤i∧R[i-A'.length]? = some x):=fun i x hx=>by
  rw[List.getElem?_append] at hx
  split at hx
  ·rename_i hl;exact Or.inl ⟨hl,by rw[List.getElem?_append_left hl];exact hx⟩
  exact Or.inr ⟨by omega,hx⟩
 refine⟨C.bel,fun i x hx => ?_,fun i j x y hij hx hy => ?_⟩
 ·rcases key i x hx with⟨-,h1⟩|⟨-,h1⟩
  ·exact C.has i x h1
  have hm:=List.mem_of_getElem? h1;exact⟨D.1 x hm,fun k hk=>D.2 k ⟨x,hm,hk⟩⟩
 rcases key i x hx with⟨hi,h1⟩|⟨hi,h1⟩
 ·rcases key j y hy with⟨hj,h2⟩|⟨hj,h2⟩
  ·exact C.far i j x y hij h1 h2
  intro k hk B;exact C.far i A'.length x _ (by omega) h1 E k hk ⟨y,List.mem_of_getElem? h2,B⟩
 rcases key j y hy with⟨hj,h2⟩|⟨hj,h2⟩
 ·intro k hk B;exact C.far A'.length j _ y (by omega) E h2 k ⟨x,List.mem_of_getElem? h1,hk⟩ B
 refine h.far (A.length+(i-A'.length)) (A.length+(j-A'.length)) x y (by omega) ?_ ?_
 ·rw[List.getElem?_append_right (by omega)];simpa using h1
 rw[List.getElem?_append_right (by omega)];simpa using h2
theorem Sl.far {B:Nat} {w:World} {v:Value} {n size:Nat} {cs:List Value} (h:Sl B w v n size cs) {b:Nat} (hb:b<B) (j:Nat) (u:Value):Sl B (w.setCell ⟨b,j,none⟩ u) v n size cs:=by obtain⟨hl,a,cap,D,h1,h2,h3⟩:=h;refine⟨hl,a,cap,D,h1,h2,fun hn => ?_⟩;obtain⟨c,off,ha,hc,hlt,C⟩:=h3 hn;refine⟨c,off,ha,hc,by rw[ZaU];exact hlt,fun i hi => ?_⟩;rw[← C i hi];exact World.cell?_of_block (Below.heap_setCell w ⟨b,j,none⟩ u c (by show c≠b;omega))
theorem IntSS.far {B:Nat} {w:World} {v:Value} {xss:List (List Int)} (h:IntSS B w v xss) {b:Nat} (hb:b<B) (j:Nat) (u:Value):IntSS B (w.setCell ⟨b,j,none⟩ u) v xss:=by obtain⟨vs,h1,h2⟩:=h;exact⟨vs,h1.far hb j u,fun i hi=>Sl.far (h2 i hi) hb j u⟩
theorem DfaR.far {B:Nat} {w:World} {v:Value} {d:DfaD} (h:DfaR B w v d) {b:Nat} (hb:b<B) (j:Nat) (u:Value):DfaR B (w.setCell ⟨b,j,none⟩ u) v d:=by obtain⟨v1,v2,C,h1,h2⟩:=h;exact⟨v1,v2,C,h1.far hb j u,Sl.far h2 hb j u⟩
structure DfaC (w:World) (d:DfaD) (b1 o1 cv b2 o2 cw:Nat):Prop where
 l1:1≤d.next.length
 l2:d.next.length≤40
 le:d.ends.length=d.next.length
 c1:d.next.length≤cv∧cv≤9223372036854775807
 c2:d.next.length≤cw∧cw≤9223372036854775807
 hb1:b1<w.heap.size
 hb2:b2<w.heap.size
 row:∀ i,i<d.next.length→∃ b3 o3 c3,b3<w.heap.size∧3≤c3∧c3≤9223372036854775807∧w.cell? ⟨b1,o1+i,none⟩=some (.slice (some ⟨b3,o3,none⟩) 3 c3)∧∀ c,c<3→w.cell? ⟨b3,o3+c,none⟩=some (.int .i64 (nxD d i c:Nat))
 en:∀ i,i<d.next.length→w.cell? ⟨b2,o2+i,none⟩=some (.bool (enD d i))
 lt:∀ i c,i<d.next.length→c<3→nxD d i c<d.next.length
 dx:∀ i c,i<d.next.length→c<3→dnx d (i:Int) c=(nxD d i c:Nat)
theorem Zcb {d:DfaD} {w:World} {v:Value} (hd:Zac d.next d.ends=true) (h:DfaR 0 w v d):∃ b1 o1 cv b2 o2 cw,v = .agg #[.slice (some ⟨b1,o1,none⟩) d.next.length cv,.slice (some ⟨b2,o2,none⟩) d.next.length cw]∧DfaC w d b1 o1 cv b2 o2 cw:=by obtain⟨v1,v2,rfl,X,V⟩:=h;have hf:=ZaS hd;obtain⟨Q,S,hle⟩:=Zaf hd;obtain⟨a,cv,rfl,N,P,R⟩:=X.formI;obtain⟨b1,o1,rfl,-,hb1,F⟩:=R (by omega);obtain⟨Y,cw,rfl,hc3,M,J⟩:=V.form;rw[hle] at hc3 J;obtain⟨b2,o2,rfl,-,hb2,L⟩:=J (by omega);rw[hle];refine⟨b1,o1,cv,b2,o2,cw,rfl,Q,S,hle,⟨N,P⟩,⟨hc3,M⟩,hb1,hb2,fun i hi => ?_,fun i hi=>L i hi,fun i c hi hc=>(Zcv hf hi hc).1,fun i c hi hc=>(Zcv hf hi hc).2⟩;obtain⟨b,Z,G,T,U,E⟩:=F i hi;have I:=(ZaM hd hi).1;rw[I] at G E T;obtain⟨_,_,B,-,-,H⟩:=E.form;rw[I] at B H;simp only[Value.slice.injEq,true_and] at B;obtain⟨rfl,rfl⟩:=B;obtain⟨b3,o3,rfl,-,O,D⟩:=H (by omega);refine⟨b3,o3,Z,O,T,U,G,fun c hc => ?_⟩;rw[D c hc];have C:=(Zcv hf hi hc).2;unfold dnx at C;rw[Int.toNat_natCast] at C;rw[C]
def RD (D:DfaD) (w:World) (e:Ending) (w':World):Prop:=∃ a1 c1 a2 c2,e = .returned (.agg #[.slice a1 D.next.length c1,.slice a2 D.ends.length c2])∧DfaR w.heap.size w' (.agg #[.slice a1 D.next.length c1,.slice a2 D.ends.length c2]) D∧Below w.heap.size w w'
theorem DfaC.below {w w':World} {d:DfaD} {b1 o1 cv b2 o2 cw:Nat} (h:DfaC w d b1 o1 cv b2 o2 cw) (hb:Below w.heap.size w w'):DfaC w' d b1 o1 cv b2 o2 cw where
 l1:=h.l1
 l2:=h.l2
 le:=h.le
 c1:=h.c1
 c2:=h.c2
 hb1:=Nat.lt_of_lt_of_le h.hb1 hb.size
 hb2:=Nat.lt_of_lt_of_le h.hb2 hb.size
 row:=fun i hi=>by obtain⟨b3,o3,c3,B,C,F,E,D⟩:=h.row i hi;exact⟨b3,o3,c3,Nat.lt_of_lt_of_le B hb.size,C,F,(bcell hb b1 _ h.hb1).trans E,fun c hc=>(bcell hb b3 _ B).trans (D c hc)⟩
 en:=fun i hi=>(bcell hb b2 _ h.hb2).trans (h.en i hi)
 lt:=h.lt
 dx:=h.dx
def RDo (D:DfaD) (w:World) (e:Ending) (w':World):Prop:=∃ a1 c1 a2 c2,e = .returned (.agg #[.slice a1 D.next.length c1,.slice a2 D.ends.length c2]) ∧
 DfaO 38 3 4 w.heap.size w'.heap.size w' (.agg #[.slice a1 D.next.length c1,.slice a2 D.ends.length c2]) D∧Below w.heap.size w w'
end Go.Proofs.YtncekbbhgipdlaaGreat
namespace Go.Proofs.YtncekbbhgipdlaaGreat
open Go.RowKit Go.Maps
def Ent.map {α:Type} (kt:Nat) (enc:α→Value) (b:Nat) (M:List (α × Value)):Ent:=⟨fun k=>k=b,fun w=>MapL Tryz.prog kt enc w b M,fun _ _ h hk=>h.kept (hk b rfl)⟩
section
variable {α:Type} {w0 w w':World} {L:List Ent} {kt:Nat} {enc:α→Value} {b:Nat} {M M':List (α × Value)}
theorem St.map (h:St w0 w L) (i:Nat) (hx:L[i]? = some (Ent.map kt enc b M)):MapL Tryz.prog kt enc w b M:=(h.has i _ hx).1
theorem St.mapset (h:St w0 w L) (i:Nat) (hx:L[i]? = some (Ent.map kt enc b M)) (hn:MapL Tryz.prog kt enc w' b M') (B:w.grownBy w' (some b)):St w0 w' (L.set i (Ent.map kt enc b M')) :=
 h.turn i hx _ B.os B.tape B.output B.size (fun k hk C=>B.block k hk fun e=>C (show k=b from Option.some.inj e)) hn fun k hk=>by have hk:k=b:=hk;subst hk;exact⟨hn.lt,Or.inl rfl⟩
end
def Zb9 (x:Int):Value:=.int .i64 x
theorem ZaH:∀ x y:Int,Zb9 x=Zb9 y→x=y:=fun x y h=>by simp only[Zb9,Value.int.injEq,true_and] at h;exact h
theorem Tryz.lawInt:Keyed Tryz.prog 3:=int_keyed Tryz.underlying3
theorem Tryz.keyOfInt (x:Int) (hx:fitI x):∃ l,keyOf Tryz.prog 3 (Zb9 x)=some l:=⟨_,keyOf_int_mk Tryz.underlying3 (Zml hx)⟩
theorem ZgC (w:World):(zeroValue 3).run Tryz.prog w = .ok (.int .i64 0) w:=by kernel_rfl
end Go.Proofs.YtncekbbhgipdlaaGreat
namespace Go.Proofs.YtncekbbhgipdlaaGreat
open Go.RowKit
def okAt (l:List Int) (n:Int) (j:Nat):Bool:=inB (l.getD j 0) 0 (n-1)&&(decide (j=0)||decide (l.getD (j-1) 0<l.getD j 0))
def stOk (l:List Int) (n:Int):Bool:=(List.range l.length).all (okAt l n)
def mvOk (n:Int) (m:Int × Int × Int):Bool:=inB m.1 0 (n-1)&&inB m.2.2 0 (n-1)&&inB m.2.1 (-1) 2
def Zjk (n:NfaD):Bool:=inB n.states 0 40&&decide (n.moves.length≤400)&&stOk n.firsts n.states&&stOk n.ends n.states&&n.moves.all (mvOk n.states)
theorem ZmQ {p:Nat→Bool} {k:Nat} (h:(List.range k).all p=true) (hp:p k=true):(List.range (k+1)).all p=true:=by rw[List.range_succ,List.all_append,h];simp[hp]
def adj (v s:Nat):Nat:=v ||| 2 ^ s
theorem ZcB (v s t:Nat):(adj v s).testBit t=(v.testBit t||decide (s=t)):=by unfold adj;rw[Nat.testBit_or,Nat.testBit_two_pow]
theorem ZpW {v s n:Nat} (B:v<2 ^ n) (hs:s<n):adj v s<2 ^ n:=Nat.or_lt_two_pow B (Nat.pow_lt_pow_right (by omega) hs)
def flags (n v:Nat):List Bool:=(List.range n).map v.testBit
theorem ZhJ (n v:Nat):(flags n v).length=n:=by simp[flags]
theorem ZfV {n v s:Nat} (h:s<n):(flags n v).getD s false=v.testBit s:=by simp[flags,h]
theorem Zpi {n v s:Nat}:flags n (adj v s)=(flags n v).set s true:=by
 apply List.ext_getElem
 ·simp[flags]
 intro i h1 h2;simp only[flags,List.getElem_map,List.getElem_range];rw[List.getElem_set,ZcB];by_cases h:s=i<;>simp[h]
theorem Zne (n:Nat):flags n 0=List.replicate n false:=by
 apply List.ext_getElem
 ·simp[flags]
 intro i h1 h2;simp[flags]
theorem Zph {n u v:Nat} (hu:u<2 ^ n) (B:v<2 ^ n) (h:flags n u=flags n v):u=v:=by
 apply Nat.eq_of_testBit_eq;intro i;by_cases hi:i<n
 ·rw[← ZfV (v:=u) hi,h,ZfV hi]
 rw[Nat.testBit_lt_two_pow (Nat.lt_of_lt_of_le hu (Nat.pow_le_pow_right (by omega) (by omega))),Nat.testBit_lt_two_pow (Nat.lt_of_lt_of_le B (Nat.pow_le_pow_right (by omega) (by omega)))]
def setV (l:List Int):Nat:=l.foldl (fun v s=>adj v s.toNat) 0
theorem Zcm {α β:Type} (f:β→α→β) (b:β) {l:List α} {k:Nat} (hk:k<l.length) (d:α):(l.take (k+1)).foldl f b=f ((l.take k).foldl f b) (l.getD k d):=by rw[List.take_succ_eq_append_getElem hk,List.foldl_append];simp[hk]
theorem Zca {α β:Type} (f:β→α→β) (Q:β→Prop) {l:List α} (hf:∀ b,∀ x∈l,Q b→Q (f b x)):∀ {b:β},Q b→Q (l.foldl f b):=by
 induction l with
 | nil=>intro b h;exact h
 | cons x l B=>intro b h;exact B (fun b y hy=>hf b y (by simp[hy])) (hf b x (by simp) h)
theorem Zdh {α β:Type} (f:β→α→β) (Q:β→Prop) {l:List α} (hf:∀ b,∀ x∈l,Q b→Q (f b x)) {b:β} (h:Q b) (k:Nat):Q ((l.take k).foldl f b) :=
 Zca f Q (fun b x hx=>hf b x (List.mem_of_mem_take hx)) h
def inN (n:Nat) (l:List Int):Prop:=∀ s∈l,0≤s∧s<(n:Int)
theorem ZdC {n:Nat} {l:List Int} (h:inN n l):setV l<2 ^ n :=
 Zca _ (fun v=>v<2 ^ n) (fun v s hs B=>ZpW B (by have:=h s hs;omega)) (Nat.two_pow_pos n)
def mvIn (n:Nat) (ms:List (Int × Int × Int)):Prop:=∀ m∈ms,(0≤m.1∧m.1<(n:Int))∧(0≤m.2.2∧m.2.2<(n:Int))
def Zau (v:Nat) (m:Int × Int × Int):Nat:=if (decide (m.2.1 = -1)&&v.testBit m.1.toNat && !v.testBit m.2.2.toNat)=true then adj v m.2.2.toNat else v
def ZkG (ms:List (Int × Int × Int)) (v:Nat):Nat:=ms.foldl Zau v
def clIt (ms:List (Int × Int × Int)) (v:Nat):Nat→Nat
 | 0=>v
 | k+1=>ZkG ms (clIt ms v k)
def clV (n:Nat) (ms:List (Int × Int × Int)) (v:Nat):Nat:=clIt ms v n
def ZaZ (v:Nat) (c:Int) (u:Nat) (m:Int × Int × Int):Nat:=if (decide (m.2.1=c)&&v.testBit m.1.toNat)=true then adj u m.2.2.toNat else u
def stV (n:Nat) (ms:List (Int × Int × Int)) (v:Nat) (c:Int):Nat:=clV n ms (ms.foldl (ZaZ v c) 0)
theorem ZhQ {n:Nat} {ms:List (Int × Int × Int)} (h:mvIn n ms) {m:Int × Int × Int} (hm:m∈ms) {v:Nat} (B:v<2 ^ n):Zau v m<2 ^ n:=by
 unfold Zau
 split
 ·exact ZpW B (by have:=(h m hm).2;omega)
 exact B
theorem ZpF {n:Nat} {ms:List (Int × Int × Int)} (h:mvIn n ms) {v:Nat} (B:v<2 ^ n):ZkG ms v<2 ^ n:=Zca _ (fun v=>v<2 ^ n) (fun _ _ hm B=>ZhQ h hm B) B
theorem ZdS {n:Nat} {ms:List (Int × Int × Int)} (h:mvIn n ms) {v:Nat} (B:v<2 ^ n):∀ k,clIt ms v k<2 ^ n
 | 0=>B
 | k+1=>ZpF h (ZdS h B k)
theorem ZcP {n:Nat} {ms:List (Int × Int × Int)} (h:mvIn n ms) {m:Int × Int × Int} (hm:m∈ms) {v u:Nat} {c:Int} (hu:u<2 ^ n):ZaZ v c u m<2 ^ n:=by
 unfold ZaZ
 split
 ·exact ZpW hu (by have:=(h m hm).2;omega)
 exact hu
theorem ZnU {n:Nat} {ms:List (Int × Int × Int)} (h:mvIn n ms) (v:Nat) (c:Int):stV n ms v c<2 ^ n :=
 ZdS h (Zca _ (fun v=>v<2 ^ n) (fun _ _ hm B=>ZcP h hm B) (Nat.two_pow_pos n)) n
def clr (n v:Nat):Nat:=((List.range n).filter fun i => !v.testBit i).length
theorem ZkE {α:Type} {p q:α→Bool}:∀ {l:List α},(∀ x∈l,p x=true→q x=true)→(l.filter p).length≤(l.filter q).length
 | [],_=>by simp
 | x::l,h=>by
  have B:=ZkE (l:=l) fun y hy=>h y (by simp[hy])
  have hx:=h x (by simp);simp only[List.filter_cons];by_cases hp:p x=true
  ·rw[if_pos hp,if_pos (hx hp)];simp;omega
  rw[if_neg hp]
  split<;>simp<;>omega
theorem Zei {α:Type} {p q:α→Bool} {a:α} (hp:p a=false) (hq:q a=true):∀ {l:List α},a∈l→(∀ x∈l,p x=true→q x=true)→(l.filter p).length<(l.filter q).length
 | [],h,_=>by simp at h
 | x::l,ha,h=>by
  have hle:=ZkE (l:=l) fun y hy=>h y (by simp[hy])
  simp only[List.filter_cons];by_cases hx:a=x
  ·subst hx;rw[if_neg (by simp[hp]),if_pos hq];simp;omega
  have C:=Zei hp hq (l:=l) (by simpa [hx] using ha) fun y hy=>h y (by simp[hy])
  have B:=h x (by simp);by_cases hpx:p x=true
  ·rw[if_pos hpx,if_pos (B hpx)];simp;omega
  rw[if_neg hpx]
  split<;>simp<;>omega
theorem ZpB (n v:Nat):clr n v≤n:=by have:=List.length_filter_le (fun i => !v.testBit i) (List.range n);simpa [clr] using this
theorem Zsa {n v s:Nat} (hs:s<n) (h:v.testBit s=false):clr n (adj v s)<clr n v:=by
 unfold clr;refine Zei (a:=s) (by simp[ZcB]) (by simp[h]) (by simpa using hs) fun x _ hx => ?_
 rw[ZcB] at hx;simp at hx ⊢;exact hx.1
theorem ZfY {n:Nat} {m:Int × Int × Int} (hm:0≤m.2.2∧m.2.2<(n:Int)) (v:Nat):Zau v m=v∨clr n (Zau v m)<clr n v:=by
 unfold Zau
 split
 ·rename_i h;simp only[Bool.and_eq_true,Bool.not_eq_true'] at h;exact .inr (Zsa (by omega) h.2)
 exact .inl rfl
theorem Zdw {n:Nat}:∀ {ms:List (Int × Int × Int)},(∀ m∈ms,0≤m.2.2∧m.2.2<(n:Int))→∀ v,ms.foldl Zau v=v∨clr n (ms.foldl Zau v)<clr n v
 | [],_,v => .inl rfl
 | m::ms,h,v=>by
  have h1:=ZfY (h m (by simp)) v;have h2:=Zdw (ms:=ms) (fun m hm=>h m (by simp[hm])) (Zau v m);simp only[List.foldl_cons];rcases h1 with h1|h1
  ·rw[h1] at h2 ⊢;exact h2
  rcases h2 with h2|h2
  ·rw[h2];exact .inr h1
  exact .inr (Nat.lt_trans h2 h1)
theorem Zfx {ms:List (Int × Int × Int)} {v j:Nat} (h:clIt ms v (j+1)=clIt ms v j):∀ k,j≤k→clIt ms v k=clIt ms v j
 | 0,hk=>by obtain rfl:j=0:=by omega
            rfl
 | k+1,hk=>by
  by_cases e:j=k+1
  ·subst e;rfl
  have B:=Zfx h k (by omega);show ZkG ms (clIt ms v k)=_;rw[B];exact h
theorem Zfy {n:Nat} {ms:List (Int × Int × Int)} (h:mvIn n ms) (v:Nat):∀ k,clIt ms v (k+1)=clIt ms v k∨clr n (clIt ms v (k+1))+(k+1)≤clr n v
 | 0=>by
  rcases Zdw (n:=n) (ms:=ms) (fun m hm=>(h m hm).2) v with e|e
  ·exact .inl e
  exact .inr (by show clr n (ZkG ms v)+1≤_;exact e)
 | k+1=>by
  rcases Zfy h v k with e|e
  ·left;have:=Zfx e (k+1+1) (by omega);rw[this,e]
  rcases Zdw (n:=n) (ms:=ms) (fun m hm=>(h m hm).2) (clIt ms v (k+1)) with e2|e2
  ·exact .inl e2
  right;have:clr n (clIt ms v (k+1+1))<clr n (clIt ms v (k+1)):=e2;omega
theorem Zrz {n:Nat} {ms:List (Int × Int × Int)} (h:mvIn n ms) {v j:Nat} (hj:clIt ms v (j+1)=clIt ms v j):clV n ms v=clIt ms v j:=by
 unfold clV;by_cases hjn:j≤n
 ·exact Zfx hj n hjn
 rcases Zfy h v n with e|e
 ·exact(Zfx e j (by omega)).symm
 have:=ZpB n v;omega
theorem ZfZ {n:Nat} {ms:List (Int × Int × Int)} (h:mvIn n ms) {v k:Nat} (hk:clIt ms v (k+1)≠clIt ms v k):k<n:=by
 rcases Zfy h v k with e|e
 ·exact absurd e hk
 have:=ZpB n v;omega
theorem ZkH {n:Nat} {ms:List (Int × Int × Int)} (h:mvIn n ms) {v:Nat} {k:Nat} (hk:k<ms.length) (B:Zau ((ms.take k).foldl Zau v) (ms.getD k (0,0,0))≠(ms.take k).foldl Zau v):(ms.take (k+1)).foldl Zau v≠v:=by
 have h1:=Zdw (n:=n) (ms:=ms.take k) (fun m hm=>(h m (List.mem_of_mem_take hm)).2) v;have hmem:ms.getD k (0,0,0)∈ms:=by rw[List.getD_eq_getElem?_getD,List.getElem?_eq_getElem hk];simp
 have h2:=ZfY (n:=n) (h _ hmem).2 ((ms.take k).foldl Zau v);rw[Zcm Zau v hk (0,0,0)];intro e;rcases h2 with h2|h2
 ·exact B h2
 rw[e] at h2;rcases h1 with h1|h1
 ·rw[h1] at h2;omega
 omega
theorem ZeH {n:Nat} {ms:List (Int × Int × Int)} (h:mvIn n ms) {v:Nat} {k:Nat} (hk:k<ms.length) (B:(ms.take k).foldl Zau v≠v):(ms.take (k+1)).foldl Zau v≠v:=by
 have h1:=Zdw (n:=n) (ms:=ms.take k) (fun m hm=>(h m (List.mem_of_mem_take hm)).2) v;have hmem:ms.getD k (0,0,0)∈ms:=by rw[List.getD_eq_getElem?_getD,List.getElem?_eq_getElem hk];simp
 have h2:=ZfY (n:=n) (h _ hmem).2 ((ms.take k).foldl Zau v);rw[Zcm Zau v hk (0,0,0)];rcases h1 with h1|h1
 ·exact absurd h1 B
 rcases h2 with h2|h2
 ·rw[h2];exact B
 intro e;rw[e] at h2;omega
theorem offL {x p q:Bool} (h:x=true→p=true∧q=true) (hp:p=false):x=false:=by
 cases x with
 | false=>rfl
 | true=>rw[hp] at h;exact absurd (h rfl).1 (by decide)
theorem offR {x p q:Bool} (h:x=true→p=true∧q=true) (hq:q=false):x=false:=by
 cases x with
 | false=>rfl
 | true=>rw[hq] at h;exact absurd (h rfl).2 (by decide)
section
variable {P:Program} {ops:Array Oper} {Q:Exit→Act→World→Prop} {md:Region.Mode}
def unl (n:Nat) (listed:Array Bool):Nat:=((List.range n).filter fun i => !listed.getD i true).length
theorem Zro (n:Nat) (listed:Array Bool):unl n listed≤n:=by unfold unl;have:=List.length_filter_le (fun i => !listed.getD i true) (List.range n);simpa using this
theorem Znz {n i:Nat} {listed:Array Bool} (hi:i<n) (h:listed.getD i true=false):unl n (listed.setIfInBounds i true)<unl n listed:=by
 refine Zei (a:=i) ?_ (by simp only[h];rfl) (List.mem_range.2 hi) fun x _ hx => ?_
 ·simp only[Bool.not_eq_false'];rcases Nat.lt_or_ge i listed.size with h1|h1
  ·simp[h1]
  simp[Array.getElem?_eq_none h1] at h
 by_cases hxi:i=x
 ·subst hxi;simp only[h];rfl
 simpa [hxi] using hx
theorem ZgV (E:Array Bool→Act→World→Prop) (D:∀ listed a w,E listed a w→∀ i∈Region.ready md ops listed,wpOp P ops Q i (E (listed.setIfInBounds i true)) a w)
  (B:∀ listed a w,E listed a w→Region.ready md ops listed=[]→Q .normal a w):∀ (C:Nat) (listed:Array Bool) (a:Act) (w:World),unl ops.size listed≤C→E listed a w→wpAny P md ops Q C listed a w
 | 0,listed,a,w,hf,h=>by
  have hr:Region.ready md ops listed=[]:=by
   refine List.eq_nil_iff_forall_not_mem.2 fun i hi => ?_
   obtain⟨F,o,G,-⟩:=mem_ready.1 hi;have:=Znz (n:=ops.size) (Array.getElem?_eq_some_iff.1 G).1 F;omega
  exact⟨hr,B _ _ _ h hr⟩
 | C+1,listed,a,w,hf,h=>⟨fun h0=>B _ _ _ h h0,fun i hi=>wpOp_mono (fun I w' H=>ZgV E D B C _ I w' (by obtain⟨F,o,G,-⟩:=mem_ready.1 hi;have:=Znz (n:=ops.size) (Array.getElem?_eq_some_iff.1 G).1 F;omega) H) (D _ _ _ h i hi)⟩
theorem Zay (B:Act→Array Bool→Act→World→Prop) {a:Act} {w:World} (C:∀ listed b w,B a listed b w→∀ i∈Region.ready md ops listed,wpOp P ops Q i (B a (listed.setIfInBounds i true)) b w)
  (D:∀ listed b w,B a listed b w→Region.ready md ops listed=[]→Q .normal b w) (h0:B a (Array.replicate ops.size false) a w):wpAny P md ops Q ops.size (Array.replicate ops.size false) a w :=
 ZgV (B a) C D _ _ _ _ (Zro _ _) h0
def Zmt (ops:Array Oper):Bool:=(List.range ops.size).all fun i=>match ops[i]? with
 | some o=>o.after.all fun e=>decide (e.on<i)
 | none=>true
theorem ZbK {listed:Array Bool} (hd:Zmt ops=true) (hs:listed.size=ops.size) (hr:Region.ready md ops listed=[]):∀ i,i<ops.size→listed.getD i true=true:=by
 intro i
 induction i using Nat.strongRecOn with
 | ind i B =>
  intro hi;cases h:listed.getD i true with
  | true=>rfl
  | false =>
   exfalso
   have hmem:i∈Region.ready md ops listed:=by
    refine mem_ready.2 ⟨h,ops[i],by simp[hi],fun e he _ => ?_⟩;simp only[Zmt,List.all_eq_true,List.mem_range] at hd;have h1:=hd i hi;simp only[Array.getElem?_eq_getElem hi] at h1;have h2:e.on<i:=by have:=(Array.all_eq_true_iff_forall_mem.1 h1) e he;simpa using this
    have h3:=B e.on h2 (by omega);have h4:e.on<listed.size:=by omega
    simpa [h4] using h3
   rw[hr] at hmem;cases hmem
end
section
variable {ops:Array Oper} {md:Region.Mode}
def ZkF (md:Region.Mode) (ops:Array Oper):Bool:=(List.range ops.size).all fun i=>match ops[i]? with
 | some o=>o.after.all fun e => !Region.binds md e||decide (e.on<i)
 | none=>true
theorem Za1 {listed:Array Bool} (hd:ZkF md ops=true) (hs:listed.size=ops.size) (hr:Region.ready md ops listed=[]):∀ i,i<ops.size→listed.getD i true=true:=by
 intro i
 induction i using Nat.strongRecOn with
 | ind i B =>
  intro hi;cases h:listed.getD i true with
  | true=>rfl
  | false =>
   exfalso
   have hmem:i∈Region.ready md ops listed:=by
    refine mem_ready.2 ⟨h,ops[i],by simp[hi],fun e he hbd => ?_⟩;simp only[ZkF,List.all_eq_true,List.mem_range] at hd;have h1:=hd i hi;simp only[Array.getElem?_eq_getElem hi] at h1;have h2:e.on<i:=by have:=(Array.all_eq_true_iff_forall_mem.1 h1) e he;rw[hbd] at this;simpa using this
    have h3:=B e.on h2 (by omega);have h4:e.on<listed.size:=by omega
    simpa [h4] using h3
   rw[hr] at hmem;cases hmem
end
end Go.Proofs.YtncekbbhgipdlaaGreat
namespace Go.Proofs.YtncekbbhgipdlaaGreat
open Go.RowKit Go.Maps
theorem Zi4 {l:List Int} {m:Int} (h:stOk l m=true) {j:Nat} (hj:j<l.length):(0≤l.getD j 0∧l.getD j 0≤m-1)∧(0<j→l.getD (j-1) 0<l.getD j 0):=by
 unfold stOk at h;rw[List.all_eq_true] at h;have h1:=h j (List.mem_range.2 hj);unfold okAt at h1;rw[Bool.and_eq_true,Bool.or_eq_true] at h1;obtain⟨h1,h2⟩:=h1;refine⟨by simpa [inB] using h1,fun h0 => ?_⟩;rcases h2 with h2|h2
 ·have:=of_decide_eq_true h2;omega
 exact of_decide_eq_true h2
theorem ZnV {l:List Int} {m:Int} (h:stOk l m=true):∀ j,j<l.length→(j:Int)≤l.getD j 0
 | 0,hj=>(Zi4 h hj).1.1
 | j+1,hj=>by have h1:=ZnV h j (by omega);have h2:=(Zi4 h hj).2 (by omega);rw[Nat.add_sub_cancel] at h2;omega
theorem Zis {l:List Int} {m:Nat} (h:stOk l (m:Int)=true):inN m l∧l.length≤m:=by
 refine⟨fun s hs => ?_,?_⟩
 ·obtain⟨j,hj,e⟩:=List.getElem_of_mem hs;have:=(Zi4 h hj).1;rw[Zbg hj,e] at this;omega
 rcases Nat.eq_zero_or_pos l.length with h0|h0
 ·omega
 have h1:=ZnV h (l.length-1) (by omega);have h2:=(Zi4 h (j:=l.length-1) (by omega)).1.2;omega
theorem ZdK {n:NfaD} (h:Zjk n=true):∃ m:Nat,n.states=(m:Int)∧m≤40∧mvIn m n.moves∧n.moves.length≤400∧inN m n.firsts∧n.firsts.length≤40∧inN m n.ends∧n.ends.length≤40:=by
 unfold Zjk at h;simp only[Bool.and_eq_true] at h;obtain⟨⟨⟨⟨h1,h2⟩,h3⟩,h4⟩,h5⟩:=h;have h1:0≤n.states∧n.states≤40:=by simpa [inB] using h1
 obtain⟨m,hm⟩:=Int.eq_ofNat_of_zero_le h1.1;rw[hm] at h3 h4 h5;have f3:=Zis h3;have f4:=Zis h4;refine⟨m,hm,by omega,fun x hx => ?_,of_decide_eq_true h2,f3.1,by omega,f4.1,by omega⟩;rw[List.all_eq_true] at h5;have:=h5 x hx;unfold mvOk at this;simp only[Bool.and_eq_true,inB,decide_eq_true_eq] at this;omega
def eds (d:DfaD):Nat→List Int
 | 0=>[]
 | s+1=>if d.ends.getD s false=true then eds d s++[(s:Int)] else eds d s
theorem Zdk (d:DfaD):∀ s,(eds d s).length≤s
 | 0=>Nat.le_refl _
 | s+1=>by
  have B:=Zdk d s;unfold eds
  split
  ·rw[List.length_append,List.length_singleton];omega
  omega
theorem Zaz (l:List Int) (x:Int):intCells (l++[x])=intCells l++[.int .i64 x]:=by simp[intCells]
theorem ZbX {k:IntKind} {x:Int}:∀ u∈[Value.int k x],u.oneCell'=true:=by intro u hu;simp only[List.mem_singleton] at hu;subst hu;rfl
def RNfaS (n:NfaD) (w:World) (e:Ending) (w':World):Prop:=∃ a1 c1 a2 c2 a3 c3,e = .returned (.agg #[.int .i64 n.states,.slice a1 n.moves.length c1,.slice a2 n.firsts.length c2,.slice a3 n.ends.length c3]) ∧
 St w w' [Ent.row 117 3 (.slice a1 n.moves.length c1) n.moves.length (n.moves.flatMap Zae),Ent.row 3 1 (.slice a2 n.firsts.length c2) n.firsts.length (intCells n.firsts),Ent.row 3 1 (.slice a3 n.ends.length c3) n.ends.length (intCells n.ends)]
theorem Zc5 {w:World} {B e:Nat} {v:Value} {xs:List (Int × Int × Int)} (hr:w.ownsRow B e 3 v xs.length (xs.flatMap Zae)):Moves 0 w v xs :=
 ((Zab hr).sl (by omega)).mono (Nat.zero_le _)
theorem Zeg {w:World} {B e:Nat} {v:Value} {xs:List Int} (hr:w.ownsRow B e 1 v xs.length (intCells xs)):Ints 0 w v xs :=
 ((Zab hr).sl (by omega)).mono (Nat.zero_le _)
theorem St.moves {w0 w:World} {L:List Ent} (h:St w0 w L) (i:Nat) {e:Nat} {v:Value} {xs:List (Int × Int × Int)} (hx:L[i]? = some (Ent.row e 3 v xs.length (xs.flatMap Zae))):Moves 0 w v xs:=Zc5 (h.row i hx)
theorem Tryz.infoMv:(Tryz.prog.info? 117).map (fun i=>(i.zero,i.size,i.bytes))=some (some (.agg #[.int .i64 0,.int .i64 0,.int .i64 0]),3,24):=by kernel_rfl
theorem ZeD {s c x:Int}:∀ u∈[Value.int .i64 s,Value.int .i64 c,Value.int .i64 x],u.oneCell'=true:=by intro u hu;simp at hu;rcases hu with rfl|rfl|rfl<;>rfl
theorem ZcK (xs:List (Int × Int × Int)) (s c x:Int):(xs++[(s,c,x)]).flatMap Zae=xs.flatMap Zae++[.int .i64 s,.int .i64 c,.int .i64 x]:=by simp[Zae]
end Go.Proofs.YtncekbbhgipdlaaGreat
namespace Go.Proofs.YtncekbbhgipdlaaGreat
open Go.RowKit
section
variable {P:Program} (w:World)
theorem Zhj {w:World} {B e size n:Nat} {v:Value} {xs:List Value} (h:w.ownsRow B e size v n xs):∃ a cap,v = .slice a n cap∧n≤cap:=by
 rcases h.2 with⟨h1,h2⟩|⟨g',cap',cur,h1,-,-,h4,-⟩
 ·exact⟨none,0,by rw[h1,h2],by omega⟩
 exact⟨_,cap',h1,h4⟩
theorem Zja (t O:TypeId) (D:Nat) (e:TypeId) (i:TypeInfo) (z:Value) (size C:Nat) (ht:P.underlying t=some (.slice e)) (hi:P.info? e=some i) (hz:i.zero=some z)
  (F:i.size=size) (S:i.bytes=C) (R:z.cells.size=size) (T:0<size)
  (v:Value) (n:Nat) (xs:List Value) (E:w.ownsRow D e size v n xs) (x:Value) (m:Nat) (B:List Value) (hx:Sl 0 w x m size B) (h1:∀ u∈B,u.oneCell'=true)
  (Q:n+m≤maxLen) (G:(n+m)*C≤140737488355328) (I:D≤w.heap.size) :
  ∃ H cap w',(Builtin.append_ #[t,t] O #[v,x]).run P w = .ok (.slice H (n+m) cap) w'∧w'.ownsRow D e size (.slice H (n+m) cap) (n+m) (xs++B)∧w.grownBy w' v.ownBlock ∧
   (∀ k,(Value.slice H (n+m) cap).ownBlock=some k→v.ownBlock=some k∨w.heap.size≤k):=by
 obtain⟨hl,a,cap,rfl,hle,hm,hc⟩:=hx;cases a with
 | some U =>
  have J:∀ j u,B[j]? = some u→w.cell? (U.add j)=some u:=fun j u hj=>by
   have hjl:=(List.getElem?_eq_some_iff.1 hj).1
   have L:0<m:=by
    rcases Nat.eq_zero_or_pos m with h0|h0
    ·rw[h0] at hl;omega
    exact h0
   obtain⟨b,off,ha,-,-,N⟩:=hc L;simp only[w_9] at ha;subst ha;rw[← hj,← N j (by omega),← Go.WideShapes.add_plain]
  obtain⟨V,w',hr,h2,h3,-,h5⟩:=run_append_own_at (P:=P) w D t O e i z size C ht hi hz F S R T v n xs E U m cap B hl J h1 Q G I;obtain⟨H,cap',rfl,-⟩:=Zhj h2;refine⟨H,cap',w',hr,h2,h3,fun k hk => ?_⟩;rcases h5 with h5|h5
  ·exact Or.inl (by rw[← h5];exact hk)
  rw[h5] at hk;exact Or.inr (by simp only[w_9] at hk;omega)
 | none =>
  have L:m=0:=by
   rcases Nat.eq_zero_or_pos m with h0|h0
   ·exact h0
   obtain⟨b,off,ha,-⟩:=hc h0;cases ha
  subst L;have M:B=[]:=List.eq_nil_of_length_eq_zero (by omega);subst M;obtain⟨H,cap',rfl,hlc⟩:=Zhj E;subst F;refine⟨H,cap',w,run_append_nothing w t t O e i ht hi H n cap' hlc _ (Src.ofNil w ht cap),by simpa using E,⟨rfl,rfl,rfl,Nat.le_refl _,fun _ _ _=>rfl⟩,fun k hk=>Or.inl hk⟩
theorem Zf5 {o:Oper} {a:Act} {K:Act→World→Prop} {Q:Exit→Act→World→Prop} (s x:Operand) (t:TypeId)
  (O:o.op = .call { callee:=.builtin .append,args:=#[s,x],argTypes:=#[t,t] })
  (C:Nat) (e:TypeId) (i:TypeInfo) (z:Value) (size B:Nat) (ht:P.underlying t=some (.slice e)) (hi:P.info? e=some i) (hz:i.zero=some z)
  (G:i.size=size) (M:i.bytes=B) (L:z.cells.size=size) (N:0<size)
  (v:Value) (n:Nat) (xs:List Value) (hs:a.eval s=v) (H:w.ownsRow C e size v n xs)
  (y:Value) (m:Nat) (D:List Value) (hy:a.eval x=y) (hx:Sl 0 w y m size D) (h1:∀ u∈D,u.oneCell'=true)
  (J:n+m≤maxLen) (E:(n+m)*B≤140737488355328) (F:C≤w.heap.size)
  (h:∀ I cap w',w'.ownsRow C e size (.slice I (n+m) cap) (n+m) (xs++D)→w.grownBy w' v.ownBlock→(∀ k,(Value.slice I (n+m) cap).ownBlock=some k→v.ownBlock=some k∨w.heap.size≤k)→K (a.put o.dst (.slice I (n+m) cap)) w'):o.wp P a w K Q:=by
 obtain⟨I,cap,w',hr,h2,h3,h4⟩:=Zja (P:=P) w t o.type C e i z size B ht hi hz G M L N v n xs H y m D hx h1 J E F;unfold Oper.wp execOp;simp only[O,resolve,invoke,builtin,Sem.run_bind,Sem.run_pure,Result.andThen_ok,List.map_toArray,List.map_cons,List.map_nil,hs,hy,hr];exact h I cap w' h2 h3 h4
theorem Zak {ops:Array Oper} {rest:List Oper} {o:Oper} {a:Act} {Q:Exit→Act→World→Prop} (O:o.guard=none) (s x:Operand) (t:TypeId)
  (R:o.op = .call { callee:=.builtin .append,args:=#[s,x],argTypes:=#[t,t] })
  (C:Nat) (e:TypeId) (i:TypeInfo) (z:Value) (size B:Nat) (ht:P.underlying t=some (.slice e)) (hi:P.info? e=some i) (hz:i.zero=some z)
  (G:i.size=size) (M:i.bytes=B) (L:z.cells.size=size) (N:0<size)
  (v:Value) (n:Nat) (xs:List Value) (hs:a.eval s=v) (H:w.ownsRow C e size v n xs)
  (y:Value) (m:Nat) (D:List Value) (hy:a.eval x=y) (hx:Sl 0 w y m size D) (h1:∀ u∈D,u.oneCell'=true)
  (J:n+m≤maxLen) (E:(n+m)*B≤140737488355328) (F:C≤w.heap.size)
  (h:∀ I cap w',w'.ownsRow C e size (.slice I (n+m) cap) (n+m) (xs++D)→w.grownBy w' v.ownBlock→(∀ k,(Value.slice I (n+m) cap).ownBlock=some k→v.ownBlock=some k∨w.heap.size≤k)→wpList P ops Q rest (a.put o.dst (.slice I (n+m) cap)) w'):wpList P ops Q (o::rest) a w :=
 wpList_plain O fun _ S=>Zf5 w s x t R C e i z size B ht hi hz G M L N v n xs hs H y m D hy hx h1 J E F fun I cap w' h2 h3 h4=>S _ _ (h I cap w' h2 h3 h4)
theorem Zdd {ops:Array Oper} {o:Oper} {a:Act} {K:Act→World→Prop} {Q:Exit→Act→World→Prop} {E:Prop} (R:o.guard=none) (s x:Operand) (t:TypeId)
  (S:o.op = .call { callee:=.builtin .append,args:=#[s,x],argTypes:=#[t,t] })
  (C:Nat) (e:TypeId) (i:TypeInfo) (z:Value) (size B:Nat) (ht:P.underlying t=some (.slice e)) (hi:P.info? e=some i) (hz:i.zero=some z)
  (H:i.size=size) (N:i.bytes=B) (L:z.cells.size=size) (O:0<size)
  (v:Value) (n:Nat) (xs:List Value) (hs:a.eval s=v) (I:w.ownsRow C e size v n xs)
  (y:Value) (m:Nat) (D:List Value) (hy:a.eval x=y) (hx:Sl 0 w y m size D) (h1:∀ u∈D,u.oneCell'=true)
  (J:n+m≤maxLen) (F:(n+m)*B≤140737488355328) (G:C≤w.heap.size)
  (h:∀ M cap w',w'.ownsRow C e size (.slice M (n+m) cap) (n+m) (xs++D)→w.grownBy w' v.ownBlock→(∀ k,(Value.slice M (n+m) cap).ownBlock=some k→v.ownBlock=some k∨w.heap.size≤k)→K (a.put o.dst (.slice M (n+m) cap)) w') :
  if Region.wanted o (yielded ops a.tmps)=true then Oper.wp P o a w K Q else E:=by
 have T:Region.wanted o (yielded ops a.tmps)=true:=by simp[Region.wanted,R]
 rw[if_pos T];exact Zf5 w s x t S C e i z size B ht hi hz H N L O v n xs hs I y m D hy hx h1 J F G h
end
theorem on_i {k:IntKind} {x:Int}:∀ u∈[Value.int k x],u.oneCell'=true:=by simp[Value.oneCell']
theorem Zrh (l:List Bool) (x:Bool):boolCells (l++[x])=boolCells l++[.bool x]:=by simp[boolCells]
theorem Zo2 (l:List Int) (x:Int):intCells (l++[x])=intCells l++[.int .i64 x]:=by simp[intCells]
theorem ZsW {xs:List Int}:∀ u∈intCells xs,u.oneCell'=true:=fun u hu=>by obtain⟨x,-,rfl⟩:=List.mem_map.1 hu;simp[Value.oneCell']
theorem Zsr {xs:List (Int × Int × Int)}:∀ u∈xs.flatMap Zae,u.oneCell'=true:=fun u hu=>by obtain⟨x,-,hx⟩:=List.mem_flatMap.1 hu;simp only[Zae,List.mem_cons,List.not_mem_nil,or_false] at hx;rcases hx with rfl|rfl|rfl<;>simp[Value.oneCell']
theorem ZcC {xs:List (Int × Int)}:∀ u∈xs.flatMap Zaa,u.oneCell'=true:=fun u hu=>by obtain⟨x,-,hx⟩:=List.mem_flatMap.1 hu;simp only[Zaa,List.mem_cons,List.not_mem_nil,or_false] at hx;rcases hx with rfl|rfl<;>simp[Value.oneCell']
theorem St.appS {w0 w w':World} {L:List Ent} (h:St w0 w L) (i:Nat) {B e size n m cap:Nat} {D:Option Addr} {v:Value} {cs cs':List Value} (hx:L[i]? = some (Ent.row e size v n cs)) (C:w'.ownsRow B e size (.slice D m cap) m cs') (F:w.grownBy w' v.ownBlock)
  (E:∀ k,(Value.slice D m cap).ownBlock=some k→v.ownBlock=some k∨w.heap.size≤k):St w0 w' (L.set i (Ent.row e size (.slice D m cap) m cs')):=h.grow i hx F C E
theorem Zj6 {l:List Int} {k:Nat} (hk:k<l.length):setV (l.take (k+1))=adj (setV (l.take k)) (l.getD k 0).toNat:=by unfold setV;exact Zcm _ _ hk 0
abbrev nfaC (n:NfaD) (v1 v2 v3:Value):Array Value:=#[.int .i64 n.states,v1,v2,v3]
theorem Zer {v:Nat} {c:Int} {u:Nat} {m:Int × Int × Int} (h:(decide (m.2.1=c)&&v.testBit m.1.toNat)=false):ZaZ v c u m=u:=by unfold ZaZ;simp[h]
def fstV (n:NfaD):Nat:=clV 40 n.moves (setV n.firsts)
def endV (n:NfaD) (x:Nat):Bool:=n.ends.any fun s=>x.testBit s.toNat
def FlagsAt (w:World) (v:Value) (m x:Nat):Prop:=∃ B g cap,v = .slice (some ⟨g,0,none⟩) m cap∧w.ownsRow B 4 1 v m (boolCells (flags m x))
theorem FlagsAt.of {w:World} {B g cap m x:Nat} (h:w.ownsRow B 4 1 (.slice (some ⟨g,0,none⟩) m cap) m (boolCells (flags m x))):FlagsAt w (.slice (some ⟨g,0,none⟩) m cap) m x:=⟨_,_,_,rfl,h⟩
theorem FlagsAt.below {w w':World} {v:Value} {m x:Nat} (h:FlagsAt w v m x) (hb:Below w.heap.size w w'):FlagsAt w' v m x:=by obtain⟨B,g,cap,C,h⟩:=h;exact⟨B,g,cap,C,(Own.below (Zab h) hb).1⟩
theorem Zeh {m x s:Nat} (h:s<m):(boolCells (flags m x))[s]? = some (.bool (x.testBit s)):=by simp[flags,h]
theorem ZhI {m x s:Nat}:(boolCells (flags m x)).set s (.bool true)=boolCells (flags m (adj x s)):=by simp[boolCells,Zpi,List.map_set]
def ZpY (B m x:Nat) (e:Ending) (w':World):Prop:=∃ g cap,e = .returned (.slice (some ⟨g,0,none⟩) m cap)∧w'.ownsRow B 4 1 (.slice (some ⟨g,0,none⟩) m cap) m (boolCells (flags m x))
theorem ZiA {w:World} {B m:Nat} {v:Value} (h:w.ownsRow B 4 1 v m (madeCells (Value.bool false).cells (m*1)).toList):w.ownsRow B 4 1 v m (boolCells (flags m 0)):=by
 have e:(madeCells (Value.bool false).cells (m*1)).toList=boolCells (flags m 0):=by rw[Zne];simp[madeCells,Value.cells,boolCells,Nat.mod_one,List.map_const']
 rwa [e] at h
theorem Zkq (l:List Int) (m:Nat) (v:Value) (w:World) (hm:m≤1000) (hl:inN m l) (hn:l.length≤1000000) (h:Ints 0 w v l) :
  Calls Tryz.prog 166 #[v,.int .i64 m] w fun e w'=>ZpY w.heap.size m (setV l) e w'∧Below w.heap.size w w':=by
 obtain⟨a1,c1,rfl,L,M,D⟩:=h.form;obtain⟨O,hi,G,H,F⟩:=info_parts Tryz.infoBool;replace D:=qh D;replace hl:=qh hl;clear h
 go_enter Tryz.func166, Tryz.ntmps166
 go_wp2_with (at_make;refine wpList_make_full _ rfl _ _ 42 rfl w.heap.size 4 O (.bool false) 1 Tryz.underlying42 hi G H .i64 .i64 _ _ m rfl rfl rfl rfl (by rw[F];omega) (by unfold maxLen;omega) (Nat.le_refl _) ?_;intro w1 C B);have hS:=(St.start w).made ((Below.refl _ _).grown B (Nat.le_refl _) (fun _ h=>by cases h)) (ZiA C);replace hS:=qh hS;clear C B hi G H F
 go_loopw [6] (fun i wr=>∃ k:Nat,k≤l.length∧i = .int .i64 k∧St w wr [Ent.row 4 1 (.slice (some ⟨w.heap.size,0,none⟩) m m) m (boolCells (flags m (setV (l.take k))))])
  (fun i _=>l.length-(intOf i).toNat)
 case atStart=>exact⟨0,Nat.zero_le _,rfl,hS.o⟩
 case round =>
  obtain⟨k,hk,rfl,hS⟩:=hrel;by_cases hlt:k<l.length
  ·obtain⟨b1,o1,rfl,-,J,E⟩:=D.o (by omega);have hc:=(bcell hS.bel b1 _ J).trans (E k hlt);obtain⟨s0,N⟩:=hl.o _ (memD (d:=0) hlt);obtain⟨s,hs⟩:=Int.eq_ofNat_of_zero_le s0;rw[hs] at hc N;have P:=hS.rcell 0 s rfl (by omega) (Zeh (show s<m by omega));have Q:=hS.rfr 0 s rfl;have I:=qh hs;clear hs;replace hS:=qh hS;clear E s0;go_wp2;go_roundw
   case rel =>refine⟨k+1,by omega,by go_num,?_⟩;have h:=hS.o.store 0 rfl s (.bool true);rw[ZhI] at h;rw[Zj6 hlt,I.o];exact h
   case measure=>simp[intOf];omega
  obtain rfl:k=l.length:=by omega
  rw[List.take_length] at hS;replace hS:=qh hS;go_wp2;go_ret;exact⟨⟨_,_,rfl,hS.o.row 0 rfl⟩,hS.o.bel⟩
theorem ZjQ {xs:List Bool}:∀ u∈boolCells xs,u.oneCell'=true:=by intro u hu;obtain⟨q,-,rfl⟩:=List.mem_map.1 hu;rfl
theorem Zqq {w:World} {B e size g m c:Nat} {cs:List Value} (h:w.ownsRow B e size (.slice (some ⟨g,0,none⟩) m c) m cs):∀ j u,cs[j]? = some u→w.cell? ((⟨g,0,none⟩:Addr).add j)=some u:=fun j u hu=>by
 have C:(⟨g,0,none⟩:Addr).add j=⟨g,j,none⟩:=by unfold Addr.add;split<;>simp_all
 have hj:j<m*size:=by rw[← h.1];exact(List.getElem?_eq_some_iff.1 hu).1
 rw[C];exact(h.cellAt j hj).trans hu
theorem Zhp {m M:Nat} {ms:List (Int × Int × Int)} (h:mvIn m ms) (hm:m≤M):mvIn M ms:=fun x hx=>by have:=h x hx;omega
theorem Zoy {m:Nat} {ms:List (Int × Int × Int)} (h:mvIn m ms) (hm:m≤40):mvIn 40 ms:=fun x hx=>by have:=h x hx;omega
theorem Zge (M:Nat) (hM:M≤1000) (n:NfaD) (m x:Nat) (v1 v2 v3 bv:Value) (w:World) (hm:m≤M) (P:mvIn m n.moves) (bL:n.moves.length≤1000000) (hx:x<2 ^ m) (h1:Moves 0 w v1 n.moves) (bK:FlagsAt w bv m x) :
  Calls Tryz.prog 165 #[.agg (nfaC n v1 v2 v3),bv] w fun e w'=>ZpY w.heap.size m (clV M n.moves x) e w'∧Below w.heap.size w w':=by
 obtain⟨a1,c1,rfl,bD,bV,aH⟩:=h1.form;obtain⟨Bv,gv,cv,rfl,aK⟩:=bK;obtain⟨i0,hi,bA,bB,aY⟩:=info_parts Tryz.infoBool;obtain⟨ms,r⟩:=eI (n.moves);rw[← r] at P bL bD aH;rw[← r];have b:=Zhp P hm;have aT:∀ j,clIt ms x j<2 ^ m:=ZdS P hx;have aF:=((St.start w).alloc _ rfl (nfaC n (.slice a1 ms.length c1) v2 v3) 81).alloc (w.heap.size+1) (by simp) #[] 4;have z:=(Own.below (Zab aK) (((Below.refl w.heap.size w).alloc (Nat.le_refl _) (.cells (nfaC n (.slice a1 ms.length c1) v2 v3) 81)).alloc (by simp) (.cells #[] 4))).1;have aS:=aF.boxrow 1 0 1 [] rfl rfl (by omega);have hE:((w.alloc (.cells (nfaC n (.slice a1 ms.length c1) v2 v3) 81)).alloc (.cells #[] 4)).ownsRow (w.heap.size+1) 4 1 (.slice (some ⟨w.heap.size+1,0,none⟩) 0 0) 0 []:=Zcz (cs:=[]) (aF.box 1 rfl) rfl (Nat.le_refl _) (by omega);replace hE:=qh hE;have aL:=qh aH;clear aH;have aB:=qh P;clear P;have B:=qh b;clear b;have bS:=qh hx;clear hx;have aZ:=qh aT;clear aT;have bP:=qh r;clear r;have bN:=qh hi;clear hi;have aV:=qh bA;clear bA;have aO:=qh bB;clear bB;have aN:=qh aY;clear aY;have aI:=qh z;clear z;have aP:=qh aS;clear aS;clear h1 aK aF
 go_enter Tryz.func165, Tryz.ntmps165
 go_wp2_with (at_builtin;refine wpList_append_own_wide _ rfl _ _ _ rfl (w.heap.size+1) 4 i0 (.bool false) 1 1 Tryz.underlying42 bN.o aV.o aO.o aN.o rfl (by omega) _ 0 _ rfl hE.o ⟨gv,0,none⟩ m cv (boolCells (flags m x)) rfl (by simp[flags]) (Zqq aI.o) ZjQ (by unfold maxLen;omega) (by omega) (by simp) ?_;intro v6 w6 Z N O;have D:=qh Z;have J:=qh N;have S:=qh O;clear Z N O);rw[Nat.zero_add,List.nil_append] at D
 have aU:=aP.o.grow 1 rfl J.o D.o (fun k hk=>by
  have h1:=(Own.lt (Zab D.o) k hk).1;by_cases h2:k=w.heap.size+1
  ·exact Or.inl (by rw[h2];rfl)
  right;simp only[World.size_alloc];omega)
 obtain⟨g,cap,bF⟩:∃ g cap,v6 = .slice (some ⟨g,0,none⟩) m cap:=by
  rcases D.o.2 with⟨h1,-⟩|⟨g',cap',cur,h1,-⟩
  ·exact absurd (S.o.1 h1).1 (fun e=>by cases e)
  exact⟨g',cap',h1⟩
 subst bF;have aM:=qh aU;clear aU;clear D J S;obtain⟨B0,bR⟩:=eI (w.heap.size)
 go_loopg [6] (M+2) (fun g' ag wr=>∃ j:Nat,g'=M+2-j∧(∃ c:Bool,ag = .bool c∧c=(decide (j=0) || !decide (clIt ms x j=clIt ms x (j-1)))) ∧
   St w wr [Ent.box w.heap.size (nfaC n (.slice a1 ms.length c1) v2 v3) 81,Ent.row 4 1 (.slice (some ⟨g,0,none⟩) m cap) m (boolCells (flags m (clIt ms x j)))])
 case atStart=>exact⟨0,rfl,⟨true,rfl,by simp⟩,aM.o⟩
 case round =>
  obtain⟨j,rfl,⟨c,rfl,bC⟩,hS⟩:=hrel;obtain⟨wo,bM⟩:∃ wo:World,wo=wr:=⟨_,rfl⟩;subst bM;have e1:=hS.cell 0 1 rfl rfl;have aA:=qh bC;clear bC;have aD:=qh hS;clear hS;cases c
  ·have hj:clIt ms x (j-1+1)=clIt ms x (j-1)∧j-1+1=j:=by
    have h:=aA.o;simp at h;have:j-1+1=j:=by omega
    rw[this];exact⟨h.2,rfl⟩
   have hv:clIt ms x j=clV M ms x:=by rw[Zrz B.o hj.1,← hj.1,hj.2]
   have bY:=qh hj;clear hj;have bI:=qh hv;clear hv;go_wp2;go_ret;refine⟨⟨_,_,rfl,?_⟩,aD.o.bel⟩;rw[← bI.o];exact aD.o.row 1 rfl
  obtain⟨X,hX⟩:=eI (clIt ms x j);have u:=qh hX;clear hX;go_wp2
  go_loopw [6,7] (fun ag i wi=>∃ k:Nat,k≤ms.length∧i = .int .i64 k∧(∃ c:Bool,ag = .bool c∧c = !decide ((ms.take k).foldl Zau X=X)) ∧
    St w wi [Ent.box w.heap.size (nfaC n (.slice a1 ms.length c1) v2 v3) 81,Ent.row 4 1 (.slice (some ⟨g,0,none⟩) m cap) m (boolCells (flags m ((ms.take k).foldl Zau X)))])
   (fun _ i _=>ms.length-(intOf i).toNat)
  case atStart=>exact⟨0,Nat.zero_le _,rfl,⟨false,rfl,by simp⟩,by rw[u.o];exact aD.o⟩
  case round =>
   obtain⟨k,hk,rfl,⟨ag,rfl,R⟩,F⟩:=hrel;obtain⟨C,p⟩:=eI ((ms.take k).foldl Zau X);have aR:C<2 ^ m:=by rw[p];exact Zdh _ (fun v=>v<2 ^ m) (fun v m U hv=>ZhQ aB.o U hv) (by rw[u.o];exact aZ.o j) k
   rw[← p] at F R;clear e1;have e1:=F.cell 0 1 rfl rfl;by_cases hlt:k<ms.length
   ·obtain⟨b1,o1,rfl,-,aE,aQ⟩:=aL.o (by omega);obtain⟨p1,p2,p3⟩:=aQ k hlt;replace p1:=(bcell F.bel b1 _ aE).trans p1;replace p2:=(bcell F.bel b1 _ aE).trans p2;replace p3:=(bcell F.bel b1 _ aE).trans p3;have U:=aB.o _ (memD (d:=(0,0,0)) hlt);have E:=Zcm Zau X hlt (0,0,0);rw[← p] at E;have L:=ZkH (v:=X) B.o hlt;have Q:=ZeH (v:=X) B.o hlt;rw[← p] at L Q;obtain⟨mm,aG⟩:=eI (ms.getD k (0,0,0));rw[← aG] at p1 p2 p3 U E L;obtain⟨f,l,t⟩:=mm;simp only at p1 p2 p3 U;obtain⟨⟨f0,f1⟩,t0,t1⟩:=U;obtain⟨f,rfl⟩:=Int.eq_ofNat_of_zero_le f0;obtain⟨t,rfl⟩:=Int.eq_ofNat_of_zero_le t0;have hfm:f<m:=by omega
    have bH:t<m:=by omega
    have Y:=F.alloc _ rfl #[.int .i64 (f:Int),.int .i64 l,.int .i64 (t:Int)] 117;have cf:=Y.rcell 1 f rfl (by omega) (Zeh hfm);have ct:=Y.rcell 1 t rfl (by omega) (Zeh bH);have ff:=Y.rfr 1 t rfl;have bU:(k:Int)<ms.length:=by omega
    have a:=qh (fun (h:Zau C ((f:Int),l,(t:Int))=C)=>(show(ms.take (k+1)).foldl Zau X=C from E.trans h));replace p:=qh p;have bQ:=qh aR;clear aR;have V:=qh R;clear R;have s:=qh E;clear E;have aJ:=qh L;clear L;have bJ:=qh Q;clear Q;have bO:=qh aG;clear aG;have aC:=qh F;clear F;have y:=qh Y;clear Y;clear aQ f0 t0
    have I:=qh (fun (h:Zau C ((f:Int),l,(t:Int))=C)=>(show ∃ k':Nat,k'≤ms.length∧Value.int .i64 ((k:Int)+1) = .int .i64 (k':Int)∧(∃ c:Bool,Value.bool ag = .bool c∧c = !decide ((ms.take k').foldl Zau X=X)) ∧
      St w (wr.alloc (.cells #[.int .i64 (f:Int),.int .i64 l,.int .i64 (t:Int)] 117)) [Ent.box w.heap.size (nfaC n (.slice (some ⟨b1,o1,none⟩) ms.length c1) v2 v3) 81,Ent.row 4 1 (.slice (some ⟨g,0,none⟩) m cap) m (boolCells (flags m ((ms.take k').foldl Zau X)))] from
      ⟨k+1,by omega,by go_num,⟨ag,rfl,by rw[a.o h];exact V.o⟩,by rw[a.o h];exact y.o.pick [0,1] (by decide)⟩))
    by_cases hl:l = -1
    ·subst hl;cases hf:C.testBit f
     ·rw[hf] at cf;have T:=qh hf;clear hf;have H:=I.o (by unfold Zau;simp[T.o]);have G:=qh H;clear H;go_wp2;go_roundw
      case rel=>exact G.o
      case measure=>simp[intOf];omega
     cases ht:C.testBit t
     ·rw[hf] at cf;rw[ht] at ct;have T:=qh hf;clear hf;have q:=qh ht;clear ht;go_wp2;go_roundw
      case rel =>
       have aW:Zau C ((f:Int),-1,(t:Int))=adj C t:=by unfold Zau;simp[T.o,q.o]
       have bG:Zau C ((f:Int),-1,(t:Int))≠C:=by rw[aW];intro e;have:=ZcB C t t;rw[e,q.o] at this;simp at this
       have bE:(ms.take (k+1)).foldl Zau X=adj C t:=s.o.trans aW;refine⟨k+1,by omega,by go_num,⟨true,rfl,?_⟩,?_⟩
       ·rw[decide_eq_false (aJ.o bG)];rfl
       rw[bE,← ZhI];exact(y.o.store 1 rfl t (.bool true)).pick [0,1] (by decide)
      case measure=>simp[intOf];omega
     rw[hf] at cf;rw[ht] at ct;have T:=qh hf;clear hf;have q:=qh ht;clear ht;have H:=I.o (by unfold Zau;simp[T.o,q.o]);have G:=qh H;clear H;go_wp2;go_roundw
     case rel=>exact G.o
     case measure=>simp[intOf];omega
    have H:=I.o (by unfold Zau;simp[hl]);have bT:(l == -1)=false:=by simpa using hl
    have G:=qh H;clear H;have bW:=qh hl;clear hl;go_wp2;go_roundw
    case rel=>exact G.o
    case measure=>simp[intOf];omega
   obtain rfl:k=ms.length:=by omega
   rw[List.take_length] at p;have hn:C=clIt ms x (j+1):=by rw[p,u.o];rfl
   have bX:j<M+2:=by
    by_cases h0:j=0
    ·omega
    have h:=aA.o;simp[h0] at h;have:=ZfZ (k:=j-1) B.o (by rw[show j-1+1=j by omega];exact h);omega
   replace p:=qh p;have aX:=qh hn;clear hn;have V:=qh R;clear R;have aC:=qh F;clear F;go_wp2
   go_roundg (M+2-(j+1))
   case measure=>omega
   case rel =>refine⟨j+1,rfl,⟨ag,rfl,?_⟩,by rw[← aX.o];exact aC.o⟩;rw[V.o,← aX.o,show j+1-1=j by omega,← u.o];simp
theorem Zls (M:Nat) (hM:M≤1000) (n:NfaD) (m x:Nat) (c:Int) (v1 v2 v3 bv:Value) (w:World) (aA:n.states=(m:Int)) (hm:m≤M) (J:mvIn m n.moves) (z:n.moves.length≤1000000) (h1:Moves 0 w v1 n.moves) (aN:Bools 0 w bv (flags m x)) :
  Calls Tryz.prog 167 #[.agg (nfaC n v1 v2 v3),bv,.int .i64 c] w fun e w'=>ZpY w.heap.size m (stV M n.moves x c) e w'∧Below w.heap.size w w':=by
 have H1:=qh h1;obtain⟨a1,c1,rfl,aB,bG,X⟩:=h1.form;obtain⟨av,cv,rfl,bA,bD,T⟩:=aN.form;rw[ZhJ] at bA T;rw[ZhJ];clear aN;obtain⟨i0,hi,aT,aU,aS⟩:=info_parts Tryz.infoBool;obtain⟨ms,S⟩:=eI (n.moves);have g:=J;have Q:=z;rw[← S] at J z aB X;have F:stV M n.moves x c=clV M ms (ms.foldl (ZaZ x c) 0):=by rw[S];rfl
 have G:ms.foldl (ZaZ x c) 0<2 ^ m:=Zca _ (fun v=>v<2 ^ m) (fun _ _ P hv=>ZcP J P hv) (Nat.two_pow_pos m);obtain⟨L,hln⟩:=eI (ms.length);have H:L=n.moves.length:=by rw[hln,S]
 rw[← H] at H1;rw[← H];rw[← hln] at aB X z;have U:=(St.start w).alloc _ rfl (nfaC n (.slice a1 L c1) v2 v3) 81;have e0:=U.cell (v:=.int .i64 (m:Int)) 0 0 rfl (by simp[nfaC,aA]);replace aA:=qh aA;have aC:=qh X;clear X;replace J:=qh J;have u:=qh g;clear g;replace Q:=qh Q;have aI:=qh S;clear S;have E:=qh F;clear F;replace G:=qh G;have b:=qh hln;clear hln;have aV:=qh H;clear H;have bB:=qh hi;clear hi;have aM:=qh aT;clear aT;have aE:=qh aU;clear aU;have aD:=qh aS;clear aS;replace T:=qh T;replace U:=qh U;clear h1
 go_enter Tryz.func167, Tryz.ntmps167
 go_wp2_with (at_make;refine wpList_make_full _ rfl _ _ 42 rfl _ 4 i0 (.bool false) 1 Tryz.underlying42 bB.o aM.o aE.o .i64 .i64 _ _ m rfl rfl rfl rfl (by rw[aD.o];omega) (by unfold maxLen;omega) (Nat.le_refl _) ?_;intro w1 j N);have V:=U.o.made ((Below.refl _ _).grown N (Nat.le_refl _) (fun _ h=>by cases h)) (ZiA j);rw[World.size_alloc] at V;have hb1:=V.bel;have aF:=qh V;clear V;clear j N e0
 go_loopw [8] (fun i wi=>∃ k:Nat,k≤L∧i = .int .i64 k∧St w wi [Ent.box w.heap.size (nfaC n (.slice a1 L c1) v2 v3) 81,Ent.row 4 1 (.slice (some ⟨w.heap.size+1,0,none⟩) m m) m (boolCells (flags m ((ms.take k).foldl (ZaZ x c) 0)))])
  (fun i _=>L-(intOf i).toNat)
 case atStart=>exact⟨0,Nat.zero_le _,rfl,aF.o⟩
 case round =>
  obtain⟨k,hk,rfl,B⟩:=hrel;obtain⟨C,p⟩:=eI ((ms.take k).foldl (ZaZ x c) 0);rw[← p] at B;have e1:=B.cell (v:=.slice a1 L c1) 0 1 rfl rfl;clear hb1;by_cases hlt:k<L
  ·have Y:k<ms.length:=by rw[← b.o];exact hlt
   obtain⟨b1,o1,rfl,-,r,aH⟩:=aC.o (by omega);obtain⟨p1,p2,p3⟩:=aH k hlt;replace p1:=(bcell B.bel b1 _ r).trans p1;replace p2:=(bcell B.bel b1 _ r).trans p2;replace p3:=(bcell B.bel b1 _ r).trans p3;have P:=J.o _ (memD (d:=(0,0,0)) Y);have D:=Zcm (ZaZ x c) 0 Y (0,0,0);rw[← p] at D;obtain⟨mm,y⟩:=eI (ms.getD k (0,0,0));rw[← y] at p1 p2 p3 P D;obtain⟨f,l,t⟩:=mm;simp only at p1 p2 p3 P;obtain⟨⟨f0,f1⟩,t0,t1⟩:=P;obtain⟨f,rfl⟩:=Int.eq_ofNat_of_zero_le f0;obtain⟨t,rfl⟩:=Int.eq_ofNat_of_zero_le t0;have hfm:f<m:=by omega
   have aY:t<m:=by omega
   have R:=B.alloc _ rfl #[.int .i64 (f:Int),.int .i64 l,.int .i64 (t:Int)] 117;have aG:=(Below.refl w.heap.size w).trans R.bel;obtain⟨gv,ov,rfl,-,aX,hbc⟩:=T.o (by omega);have cf:=(bcell aG gv (ov+f) aX).trans (hbc f hfm);rw[ZfV hfm] at cf;clear hbc;have ct:=R.rcell 1 t rfl (by omega) (Zeh aY);have ff:=R.rfr 1 t rfl;have bF:(k:Int)<L:=by omega
   replace p:=qh p;have I:=qh D;clear D;have bC:=qh y;clear y;have q:=qh B;clear B;have a:=qh R;clear R;clear aH f0 t0 aG
   have O:=qh (fun (h:ZaZ x c C ((f:Int),l,(t:Int))=C)=>(show ∃ k':Nat,k'≤L∧Value.int .i64 ((k:Int)+1) = .int .i64 (k':Int) ∧
     St w (wr.alloc (.cells #[.int .i64 (f:Int),.int .i64 l,.int .i64 (t:Int)] 117)) [Ent.box w.heap.size (nfaC n (.slice (some ⟨b1,o1,none⟩) L c1) v2 v3) 81,Ent.row 4 1 (.slice (some ⟨w.heap.size+1,0,none⟩) m m) m (boolCells (flags m ((ms.take k').foldl (ZaZ x c) 0)))] from
     ⟨k+1,by omega,by go_num,by rw[I.o,h];exact a.o.pick [0,1] (by decide)⟩))
   by_cases hl:l=c
   ·subst hl;cases hf:x.testBit f
    ·rw[hf] at cf;have s:=qh hf;clear hf;have F:=O.o (Zer (by simp[s.o]));have E:=qh F;clear F;go_wp2;go_roundw
     case rel=>exact E.o
     case measure=>simp[intOf];omega
    rw[hf] at cf;have s:=qh hf;clear hf;go_wp2;go_roundw
    case rel =>
     have aZ:ZaZ x l C ((f:Int),l,(t:Int))=adj C t:=by unfold ZaZ;simp[s.o]
     refine⟨k+1,by omega,by go_num,?_⟩;rw[I.o.trans aZ,← ZhI];exact(a.o.store 1 rfl t (.bool true)).pick [0,1] (by decide)
    case measure=>simp[intOf];omega
   have F:=O.o (Zer (by simp[hl]));have bE:(l==c)=false:=by simpa using hl
   have E:=qh F;clear F;have bH:=qh hl;clear hl;go_wp2;go_roundw
   case rel=>exact E.o
   case measure=>simp[intOf];omega
  have hkn:(ms.take k).foldl (ZaZ x c) 0=ms.foldl (ZaZ x c) 0:=by rw[List.take_of_length_le (by rw[← b.o];omega)]
  have aJ:C<2 ^ m:=by rw[p,hkn];exact G.o
  have aW:=qh (H1.o.below B.bel);have HF:QH (FlagsAt wr (.slice (some ⟨w.heap.size+1,0,none⟩) m m) m C):=qh ⟨_,_,_,rfl,B.row 1 rfl⟩;have d0:=B.cell (v:=.int .i64 n.states) 0 0 rfl rfl;have d2:=B.cell (v:=v2) 0 2 rfl rfl;have d3:=B.cell (v:=v3) 0 3 rfl rfl;replace p:=qh p;have aQ:=qh hkn;clear hkn;have q:=qh B;clear B;have aP:=qh aJ;clear aJ;go_wp2_with fail;refine(Zge M hM n m C (.slice a1 L c1) v2 v3 _ _ hm u.o Q.o aP.o aW.o HF.o).mono ?_;rintro e w2 ⟨⟨g2,c2,rfl,aO⟩,hb2⟩;have aR:=q.o.made hb2 aO;have aL:clV M n.moves C=stV M n.moves x c:=by rw[E.o,p.o,aQ.o,aI.o]
  have Z:=qh aR;clear aR;have aK:=qh aL;clear aL;clear aO hb2;go_wp2;go_ret;refine⟨⟨_,_,rfl,?_⟩,Z.o.bel⟩;rw[← aK.o];exact Z.o.row 2 rfl
def BoolSS (B:Nat) (w:World) (v:Value) (xss:List (List Bool)):Prop :=
 ∃ vs:List Value,Sl B w v xss.length 1 vs∧∀ i,i<xss.length→Bools B w (vs.getD i undef) (xss.getD i [])
theorem BoolSS.below {B:Nat} {w w':World} {v:Value} {xss:List (List Bool)} (h:BoolSS B w v xss) (he:Below w.heap.size w w'):BoolSS B w' v xss:=by obtain⟨vs,h1,h2⟩:=h;exact⟨vs,h1.below he,fun i hi=>(h2 i hi).below he⟩
theorem BoolSS.form {B:Nat} {w:World} {v:Value} {xss:List (List Bool)} (h:BoolSS B w v xss):∃ a cap,v = .slice a xss.length cap∧xss.length≤cap∧cap≤9223372036854775807 ∧
  (0<xss.length→∃ b off,a=some ⟨b,off,none⟩∧b<w.heap.size∧∀ i,i<xss.length→∃ D cap',w.cell? ⟨b,off+i,none⟩=some (.slice D (xss.getD i []).length cap')∧Bools B w (.slice D (xss.getD i []).length cap') (xss.getD i [])):=by
 obtain⟨vs,⟨hl,a,cap,E,h1,h2,h3⟩,hr⟩:=h;refine⟨a,cap,E,h1,h2,fun hn => ?_⟩;obtain⟨b,off,ha,hb,hlt,hc⟩:=h3 hn;refine⟨b,off,ha,hlt,fun i hi => ?_⟩;obtain⟨D,cap',C,-⟩:=(hr i hi).form;refine⟨D,cap',?_,?_⟩
 ·rw[hc i (by omega),← C];simp at hl;simp[show i<vs.length by omega]
 rw[← C];exact hr i hi
theorem St.boolSS {w0 w:World} {L:List Ent} (h:St w0 w L) (i:Nat) {es e:Nat} {v:Value} {vs:List Value} {xss:List (List Bool)} (hx:L[i]? = some (Ent.rows es e v vs (xss.map boolCells))):BoolSS 0 w v xss:=by
 obtain⟨C,B,-⟩:=h.rows i hx;rw[List.length_map] at C B;refine⟨vs,((Zab C).sl (by omega)).mono (Nat.zero_le _),fun i hi => ?_⟩;have:=B i hi;have e1:(xss.map boolCells).getD i []=boolCells (xss.getD i []):=by simp[hi]
 rw[e1] at this;have:=((Zab this).sl (by omega)).mono (Nat.zero_le _);simpa [Bools] using this
theorem St.bools {w0 w:World} {L:List Ent} (h:St w0 w L) (i:Nat) {e:Nat} {v:Value} {xs:List Bool} {n:Nat} (hx:L[i]? = some (Ent.row e 1 v n (boolCells xs))):Bools 0 w v xs:=by
 have hr:=h.row i hx;have e1:n=xs.length:=by have:=hr.1;simp at this;omega
 subst e1;exact((Zab hr).sl (by omega)).mono (Nat.zero_le _)
theorem St.intsR {w0 w:World} {L:List Ent} (h:St w0 w L) (i:Nat) {e:Nat} {v:Value} {xs:List Int} {n:Nat} (hx:L[i]? = some (Ent.row e 1 v n (intCells xs))):Ints 0 w v xs:=by
 have hr:=h.row i hx;have e1:n=xs.length:=by have:=hr.1;simp at this;omega
 subst e1;exact((Zab hr).sl (by omega)).mono (Nat.zero_le _)
theorem ZkP {w:World} {B e n:Nat} {v:Value} {xs:List Bool} (hr:w.ownsRow B e 1 v n (boolCells xs)):Bools 0 w v xs:=by
 have e1:n=xs.length:=by have:=hr.1;simp at this;omega
 subst e1;exact((Zab hr).sl (by omega)).mono (Nat.zero_le _)
theorem Za8 {w:World} {B e n:Nat} {v:Value} {xs:List Bool} (hr:w.ownsRow B e 1 v n (boolCells xs)):Bools B w v xs:=by
 have e1:n=xs.length:=by have:=hr.1;simp at this;omega
 subst e1;exact(Zab hr).sl (by omega)
theorem St.rowAt {w0 w:World} {L:List Ent} (h:St w0 w L) (i:Nat) {es e g n cap:Nat} {vs:List Value} {css:List (List Value)} (hx:L[i]? = some (Ent.rows es e (.slice (some ⟨g,0,none⟩) n cap) vs css)) (hn:css.length=n) {k:Nat} (hk:k<n) :
  ∃ a c,w.cell? ⟨g,k,none⟩=some (.slice a (css.getD k []).length c)∧w.ownsRow w0.heap.size e 1 (.slice a (css.getD k []).length c) (css.getD k []).length (css.getD k [])∧(css.getD k []).length≤c∧c≤9223372036854775807∧n≤cap∧cap≤9223372036854775807∧g<w.heap.size:=by
 obtain⟨C,E,-⟩:=h.rows i hx;subst hn;have F:vs.length=css.length:=by have:=C.1;omega
 have h2:=E k hk;have hc:=C.cellAt k (by omega);have D:=(C.lt g rfl).2
 obtain⟨a,c,B,h3,h4⟩:∃ a c,vs.getD k undef = .slice a (css.getD k []).length c∧(css.getD k []).length≤c∧c≤9223372036854775807:=by
  rcases h2.2 with⟨h5,h6⟩|⟨g',cap',cur,h5,-,-,h6,h7,-⟩
  ·exact⟨none,0,by rw[h5,h6],by omega,by omega⟩
  exact⟨_,_,h5,h6,h7⟩
 rw[B] at h2;refine⟨a,c,?_,h2,h3,h4,?_⟩
 ·rw[hc,← B];simp[show k<vs.length by omega]
 rcases C.2 with⟨h5,-⟩|⟨g',cap',cur,h5,-,-,h6,h7,-⟩
 ·cases h5
 simp only[Value.slice.injEq,true_and] at h5;obtain⟨-,rfl⟩:=h5;exact⟨h6,h7,D⟩
theorem Zm3 (xs ys:List Bool) (n:Nat) (v1 v2:Value) (w:World) (hx:xs.length=n) (hy:ys.length=n) (h1:Bools 0 w v1 xs) (h2:Bools 0 w v2 ys) (r:Bool) (hr:decide (xs=ys)=r) :
  Calls Tryz.prog 169 #[v1,v2] w fun e w'=>e = .returned (.bool r)∧Below w.heap.size w w':=by
 obtain⟨a1,c1,rfl,N,S,C⟩:=h1.form;obtain⟨a2,c2,rfl,O,Q,D⟩:=h2.form;rw[hx] at N C;rw[hy] at O D;rw[hx,hy];replace hx:=qh hx;have J:=qh hy;clear hy;replace hr:=qh hr;clear h1 h2
 go_enter Tryz.func169, Tryz.ntmps169
 go_wp2
 go_loopw [4,5] (fun r i wr=>∃ k:Nat,k≤n∧i = .int .i64 k∧xs.take k=ys.take k∧Below w.heap.size w wr) (fun _ i _=>n-(intOf i).toNat)
 case atStart=>exact⟨0,Nat.zero_le _,rfl,rfl,Below.refl _ _⟩
 case round =>
  obtain⟨k,hk,rfl,M,hb⟩:=hrel;have F:=qh M;clear M;by_cases hlt:k<n
  ·obtain⟨b1,o1,rfl,-,L,E⟩:=C (by omega);obtain⟨b2,o2,rfl,-,H,G⟩:=D (by omega);have R:=(bcell hb b1 (o1+k) L).trans (E k hlt);have P:=(bcell hb b2 (o2+k) H).trans (G k hlt);obtain⟨p,hp⟩:=eI (xs.getD k false);obtain⟨q,hq⟩:=eI (ys.getD k false);rw[← hp] at R;rw[← hq] at P;replace hp:=qh hp;have I:=qh hq;clear hq;replace hb:=qh hb;clear E G C D;by_cases hpq:p=q
   ·have g1:(p != q)=false:=by simpa using hpq
    have g2:(!(p==q))=false:=by simpa using hpq
    have B:=qh hpq;clear hpq;go_wp2
    go_quiet (fail)
    go_wp2;go_roundw
    case rel=>exact⟨k+1,by omega,by go_num,Zf6 (d:=false) (by rw[hx.o];exact hlt) (by rw[J.o];exact hlt) F.o (by rw[← hp.o,← I.o];exact B.o),below_drewN hb.o _⟩
    case measure=>simp[intOf];omega
   have g1:(p != q)=true:=by simpa using hpq
   have g2:(!(p==q))=true:=by simpa using hpq
   have B:=qh hpq;clear hpq;go_wp2
   go_quiet (fail)
   go_wp2;go_ret;exact⟨by rw[← hr.o,decide_eq_false (Ziz (k:=k) (d:=false) (by rw[← hp.o,← I.o];exact B.o))];rfl,below_drewN hb.o _⟩
  obtain rfl:k=n:=by omega
  replace hb:=qh hb;clear C D;go_wp2;go_ret;refine⟨?_,hb.o⟩;have h:=F.o;rw[List.take_of_length_le (by rw[hx.o];exact Nat.le_refl _),List.take_of_length_le (by rw[J.o];exact Nat.le_refl _)] at h;rw[← hr.o,decide_eq_true h];rfl
def ZjD (S:List (List Bool)) (x:List Bool):Int:=if x∈S then(Zam S x:Int) else -1
theorem Zmm {S:List (List Bool)} {x:List Bool} {k:Nat} (hk:k<S.length) (hn:x ∉ S.take k) (h:S.getD k []=x):ZjD S x=(k:Int):=by
 have hm:x∈S:=by rw[← h];exact memD hk
 have hp:S.take k++[x] <+: S:=by rw[← h,show S.getD k []=S[k] from by simp[hk],← List.take_succ_eq_append_getElem hk];exact List.take_prefix _ _
 have hi:=ZgO hp hn;unfold ZjD;rw[if_pos hm,hi];simp;omega
theorem ZiK {S:List (List Bool)} {x:List Bool} (h:x ∉ S):ZjD S x = -1:=by unfold ZjD;rw[if_neg h]
theorem ZiX {α:Type} {S:List α} {k:Nat} (hk:k<S.length) (x:α) {d:α} (h:x∈S.take (k+1)):x∈S.take k∨x=S.getD k d:=by
 rw[List.take_succ_eq_append_getElem hk,List.mem_append,List.mem_singleton] at h;rcases h with h|h
 ·exact Or.inl h
 right;rw[h];simp[hk]
theorem Zm4 (S:List (List Bool)) (x:List Bool) (n:Nat) (v1 v2:Value) (w:World) (hS:∀ y∈S,y.length=n) (hx:x.length=n) (hl:S.length≤1000000) (h1:BoolSS 0 w v1 S) (h2:Bools 0 w v2 x) :
  Calls Tryz.prog 168 #[v1,v2] w fun e w'=>e = .returned (.int .i64 (ZjD S x))∧Below w.heap.size w w':=by
 obtain⟨a1,c1,rfl,V,Z,L⟩:=h1.form;have a:=qh h2;obtain⟨a2,c2,rfl,X,Y,-⟩:=h2.form;replace hS:=qh hS;have R:=qh hx;clear hx;clear h1 h2
 go_enter Tryz.func168, Tryz.ntmps168
 go_wp2
 go_loopw [4,5] (fun r i wr=>∃ k:Nat,k≤S.length∧i = .int .i64 k∧x ∉ S.take k∧Below w.heap.size w wr) (fun _ i _=>S.length-(intOf i).toNat)
 case atStart=>exact⟨0,Nat.zero_le _,rfl,by simp,Below.refl _ _⟩
 case round =>
  obtain⟨k,hk,rfl,Q,hb⟩:=hrel;have D:=qh Q;clear Q;by_cases hlt:k<S.length
  ·obtain⟨b1,o1,rfl,O,G⟩:=L (by omega);obtain⟨a3,c3,U,H⟩:=G k hlt;replace U:=(bcell hb b1 (o1+k) O).trans U;have B:=H.below hb;have I:=hS.o _ (memD (d:=[]) hlt);have hin:=fun h=>ZiX (d:=[]) hlt x h
   obtain⟨y,hy⟩:=eI (S.getD k []);rw[← hy] at U B I hin;have E:=qh B;clear B;have M:=qh I;clear I;have P:=qh hin;clear hin;have T:=qh hy;clear hy;have C:=qh hb;clear hb;clear G L H;cases hd:decide (y=x)
   all_goals
    have J:=qh hd;clear hd;go_wp2_with fail;refine(Zm3 y x n _ _ _ M.o R.o E.o (a.o.below C.o) _ J.o).mono ?_;rintro e w2 ⟨rfl,hb2⟩;have N:=C.o.trans (hb2.mono C.o.size);have F:=qh N;clear N;clear hb2;go_wp2
   ·go_roundw
    case rel=>exact⟨k+1,by omega,by go_num,fun h=>by rcases P.o h with h|h;exact D.o h;exact of_decide_eq_false J.o h.symm,F.o⟩
    case measure=>simp[intOf];omega
   go_ret;exact⟨ZfJ (by rw[Zmm hlt D.o (by rw[← T.o];exact of_decide_eq_true J.o)]),F.o⟩
  obtain rfl:k=S.length:=by omega
  have C:=qh hb;clear hb;clear L;go_wp2;go_ret;refine⟨ZfJ (by rw[ZiK];have h:=D.o;rwa [List.take_length] at h),C.o⟩
end Go.Proofs.YtncekbbhgipdlaaGreat
