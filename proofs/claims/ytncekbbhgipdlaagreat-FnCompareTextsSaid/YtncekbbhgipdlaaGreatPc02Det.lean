/-
  The walk over the program's exploration of sets of states.
  Conditions: a bound on the number of sets; contracts for the two functions that are handed in.
-/
import Derived.Test.YtncekbbhgipdlaaGreatPc01S9
set_option maxHeartbeats 8000000
set_option maxRecDepth 100000
namespace Go.Proofs.YtncekbbhgipdlaaGreat
open Go.RowKit Go.Maps
theorem Tryz.infoSet:(Tryz.prog.info? 149).map (fun i=>(i.zero,i.size,i.bytes))=some (some (.agg #[.int .u64 0,.int .u64 0]),2,16):=by kernel_rfl
theorem ZgB (w:World):(zeroValue 3).run Tryz.prog w = .ok (.int .i64 0) w:=by kernel_rfl
theorem ZfM:Own4 149:=by unfold Own4;decide
def ZhW (a0:Int × Int) (nx:Int × Int→Nat→Int × Int) (en:Int × Int→Bool) (most B:Nat) (e:Ending) (w':World):Prop :=
 if (bat nx a0 most).met.length≤most then
  ∃ an cn ae ce am cm,e = .returned (.tuple #[.agg #[.slice an (bat nx a0 most).met.length cn,.slice ae (bat nx a0 most).met.length ce],.slice am (bat nx a0 most).met.length cm,.bool true]) ∧
   DfaO 38 3 4 B w'.heap.size w' (.agg #[.slice an (bat nx a0 most).met.length cn,.slice ae (bat nx a0 most).met.length ce]) (Zar nx en (bat nx a0 most).met) ∧
   ZsX 149 B w'.heap.size w' (.slice am (bat nx a0 most).met.length cm) (bat nx a0 most).met
 else e = .returned (.tuple #[.agg #[.slice none 0 0,.slice none 0 0],.slice none 0 0,.bool false])
theorem Zj5 {w:World} {B e g n cap:Nat} {S:List (Int × Int)} (d:Int × Int) (h:w.ownsRow B e 2 (.slice (some ⟨g,0,none⟩) n cap) S.length (S.flatMap ZbC)) {k:Nat} (hk:k<S.length) :
  w.cell? ⟨g,k*2,none⟩=some (.int .u64 (S.getD k d).1)∧w.cell? ⟨g,k*2+1,none⟩=some (.int .u64 (S.getD k d).2):=by
 have h0:=Zcs ZbC 2 (fun _=>rfl) S k 0 d hk (by omega);have h1:=Zcs ZbC 2 (fun _=>rfl) S k 1 d hk (by omega)
 have hn:n=S.length:=by
  rcases h.2 with⟨hh,_⟩|⟨g',cap',cur,hh,_⟩
  ·cases hh
  simp only[Value.slice.injEq] at hh;exact hh.2.1
 subst hn;exact⟨(h.cellAt _ (by omega)).trans (by simpa [ZbC] using h0),(h.cellAt _ (by omega)).trans (by simpa [ZbC] using h1)⟩
theorem Zq8 {w:World} {g B o p:Nat} {a b:Value} (C:g≠B) (h:w.cell? ⟨g,o,none⟩=some a∧w.cell? ⟨g,p,none⟩=some b) {u:Value} {j:Nat}:(w.setCell ⟨B,j,none⟩ u).cell? ⟨g,o,none⟩=some a∧(w.setCell ⟨B,j,none⟩ u).cell? ⟨g,p,none⟩=some b:=by have hb:=Below.heap_setCell w ⟨B,j,none⟩ u g C;exact⟨(World.cell?_of_block (a:=⟨g,o,none⟩) hb).trans h.1,(World.cell?_of_block (a:=⟨g,p,none⟩) hb).trans h.2⟩
theorem ZhK (E D:Int) (nv:Value) (nx:Int × Int→Nat→Int × Int) (en:Int × Int→Bool) (Q:Int × Int→Prop) (most:Nat) (w:World) (h0:Q (E,D)) (hQ:∀ x c,c<3→Q x→Q (nx x c)) (aW:∀ x,Q x→fitU x.1∧fitU x.2) (hK:0<most) (eK:most≤100000)
  (hN:∀ x c w',Q x→c<3→Below w.heap.size w w'→Calls Tryz.prog 133 #[nv,.agg #[.int .u64 x.1,.int .u64 x.2],.int .i64 (c:Nat)] w' fun e w2=>e = .returned (.agg #[.int .u64 (nx x c).1,.int .u64 (nx x c).2])∧Below w'.heap.size w' w2)
  (hE:∀ x w',Q x→Below w.heap.size w w'→Calls Tryz.prog 134 #[nv,.agg #[.int .u64 x.1,.int .u64 x.2]] w' fun e w2=>e = .returned (.bool (en x))∧Below w'.heap.size w' w2) :
  Calls Tryz.prog 131 #[.agg #[.int .u64 E,.int .u64 D],.int .i64 most,.func (.func 133) #[nv] #[],.func (.func 134) #[nv] #[]] w
   fun e w'=>ZhW (E,D) nx en most w.heap.size e w'∧Below w.heap.size w w':=by
 have jE:=@run_makeMap Tryz.prog;obtain⟨l0,dZ⟩:=Tryz.keyOfSet (E,D) (aW _ h0).1 (aW _ h0).2;obtain⟨k0,hk,dE,dD,dI⟩:=info_parts Tryz.infoSet;obtain⟨i0,hi,gD,fB,fN⟩:=info_parts Tryz.infoInt;obtain⟨j0,hj,fY,fF,eQ⟩:=info_parts Tryz.infoInts;obtain⟨b0,bR,fA,eZ,eU⟩:=info_parts Tryz.infoBool;have HM:MapL Tryz.prog 149 ZcS (((w.alloc (.cells #[.int .u64 E,.int .u64 D] 149)).alloc (.cells #[.slice none 0 0,.slice none 0 0] 44)).alloc (.map #[] 0)) (w.heap.size+1+1) ([]:List ((Int × Int) × Value)):=by simpa using MapL.made (P:=Tryz.prog) (kt:=149) (enc:=ZcS) ((w.alloc (.cells #[.int .u64 E,.int .u64 D] 149)).alloc (.cells #[.slice none 0 0,.slice none 0 0] 44))
 obtain⟨w1,dP,eK,bN⟩:=HM.store Tryz.lawSet ZcI Tryz.underlying177 dZ (.int .i64 0);simp only[ZcS] at dP;have hG:=bN.size;simp only[World.size_alloc] at hG;have hH:w1.cell? ⟨w.heap.size,0,none⟩=some (.int .u64 E):=by rw[bN.cell_far _ (by simp;omega) (by simp;omega)];exact(((Bx.new w _ _).alloc _).alloc _).cell 0
 have hR:w1.cell? ⟨w.heap.size,1,none⟩=some (.int .u64 D):=by rw[bN.cell_far _ (by simp;omega) (by simp;omega)];exact(((Bx.new w _ _).alloc _).alloc _).cell 1
 have hD:=qh eK;have fO:=qh bN;have HN:=qh hN;have HE:=qh hE;have HQ:=qh hQ;have gG:=qh aW;have hX:=qh h0;replace dZ:=qh dZ;replace hk:=qh hk;have eC:=qh dE;clear dE;have dW:=qh dD;clear dD;have eL:=qh dI;clear dI;have hI:=qh hi;clear hi;have fL:=qh gD;clear gD;have eP:=qh fB;clear fB;have gE:=qh fN;clear fN;have hJ:=qh hj;clear hj;have fQ:=qh fY;clear fY;have gN:=qh fF;clear fF;have eW:=qh eQ;clear eQ;replace bR:=qh bR;have eS:=qh fA;clear fA;have eT:=qh eZ;clear eZ;have fH:=qh eU;clear eU;clear HM eK bN hN hE hQ aW h0
 go_enter Tryz.func131, Tryz.ntmps131
 go_wp2
 go_loopw [9,10,12,14] (fun r1 r2 vm i wr=>∃ k:Nat,i = .int .i64 k∧k≤(bat nx (E,D) k).met.length∧(bat nx (E,D) k).met.length≤most∧Below w.heap.size w wr∧∃ vn ve,ExW 149 2 ZcS ZbC w.heap.size (w.heap.size+1) (w.heap.size+1+1) (w1.heap.size+1) wr.heap.size wr (bat nx (E,D) k).met (((bat nx (E,D) k).met.take k).map (Zai nx (bat nx (E,D) most).met)) (((bat nx (E,D) k).met.take k).map en) vm vn ve)
  (fun _ _ _ i _=>most+1-(intOf i).toNat)
 case atStart =>
  have hb1:Below w.heap.size w w1:=((((Below.refl _ _).alloc (Nat.le_refl _) _).alloc (by simp) _).alloc (by simp;omega) _).grown fO.o (by simp;omega) (fun k h=>by cases h;omega);have r1:Bx w1 (w.heap.size+1) #[.slice none 0 0,.slice none 0 0] 44:=by have:=((Bx.new (w.alloc (.cells #[.int .u64 E,.int .u64 D] 149)) #[.slice none 0 0,.slice none 0 0] 44).alloc (.map #[] 0));simp only[World.size_alloc] at this;exact(fO.o.block _ (by simp) (by simp)).trans this
  refine⟨0,rfl,Nat.zero_le _,hK,(hb1.alloc (by omega) _).alloc (by simp;omega) _,.slice none 0 0,.slice none 0 0,⟨?_,?_,(r1.alloc _).alloc _,?_,⟨[],⟨⟨rfl,.inl ⟨rfl,rfl⟩⟩,fun k h=>by cases h⟩,fun i hi=>absurd hi (by simp),fun i j k _ hj=>absurd hj (by simp)⟩,⟨rfl,.inl ⟨rfl,rfl⟩⟩,by omega⟩⟩
  ·exact Zcz (cs:=[.int .u64 E,.int .u64 D]) (((Bx.new w1 _ _).alloc _)) rfl (by omega) (by unfold maxLen;omega)
  ·exact(hD.o.below ((Below.refl _ _).alloc (Nat.le_refl _) _)).below ((Below.refl _ _).alloc (Nat.le_refl _) _)
  have:=Bx.new (w1.alloc (.cells #[.int .u64 E,.int .u64 D] 149)) #[.slice none 0 0,.slice none 0 0] 44;simpa using this
 case round =>
  obtain⟨k,rfl,hk1,cQ,hb,vn,ve,hx⟩:=hrel;obtain⟨M,hM⟩:=eI ((bat nx (E,D) k).met);rw[← hM] at hx hk1 cQ;have gS:0<M.length:=by rw[hM];exact ZcZ k
  obtain⟨g,cap,rfl,iW,iJ⟩:=hx.m.form gS;obtain⟨wo,hL⟩:∃ wo:World,wo=wr:=⟨_,rfl⟩;subst hL;clear hH hR dP;by_cases hlt:k<M.length
  ·have HF:∀ n,n≤3→(bpart nx (E,D) k n).met <+: (bat nx (E,D) most).met:=fun n hn=>(ZaF (by rw[← hM];exact hlt) hn (by omega)).1
   obtain⟨x,eJ⟩:=eI (M.getD k (E,D));have gH:Q x:=by rw[eJ,hM];exact ZbA hX.o HQ.o k _ (Zc6 (by rw[← hM];exact hlt))
   have b:=qh eJ;clear eJ;replace HF:=qh HF;have bQ:=qh gH;clear gH;have aG:=qh hM;clear hM;have bJ:=qh hx;clear hx;have aL:=qh hb;clear hb;go_wp2_with (at_make;refine wpList_make_full _ rfl _ _ 38 rfl wo.heap.size 3 i0 (.int .i64 0) 1 Tryz.underlying38 hI.o fL.o eP.o .i64 .i64 _ _ 3 rfl rfl rfl rfl (by rw[gE.o];omega) (by unfold maxLen;omega) (Nat.le_refl _) ?_;intro w2 bT bX);have hb2:Below wo.heap.size wo w2:=(Below.refl _ _).grown bX (Nat.le_refl _) (fun _ h=>by cases h);have iU:=hb2.size;have gY:wo.heap.size<w2.heap.size:=(bT.lt wo.heap.size rfl).2;have dN:=qh hb2;clear hb2;have dX:=qh bT;clear bT;clear bX
   go_loopw [9,10,12,32] (fun r1 r2 vm i wi=>∃ n:Nat,i = .int .i64 n∧n≤3∧(bpart nx (E,D) k n).met.length≤most∧Below w.heap.size w wi∧wo.heap.size<wi.heap.size∧(∃ cs,wi.ownsRow wo.heap.size 3 1 (.slice (some ⟨wo.heap.size,0,none⟩) 3 3) 3 cs∧cs.take n=(intCells (Zai nx (bat nx (E,D) most).met x)).take n) ∧
     ExW 149 2 ZcS ZbC w.heap.size (w.heap.size+1) (w.heap.size+1+1) (w1.heap.size+1) wo.heap.size wi (bpart nx (E,D) k n).met ((M.take k).map (Zai nx (bat nx (E,D) most).met)) ((M.take k).map en) vm vn ve)
    (fun _ _ _ i _=>3-(intOf i).toNat)
   case atStart=>exact⟨0,rfl,by omega,by rw[Zap,← aG.o];exact cQ,aL.o.trans (dN.o.mono aL.o.size),gY,⟨_,dX.o,rfl⟩,by rw[Zap,← aG.o];exact bJ.o.below dN.o⟩
   case round =>
    obtain⟨n,rfl,hn,cX,bF,iR,⟨cs,bK,Y⟩,hxi⟩:=hrel;have aF:M <+: (bpart nx (E,D) k n).met:=by rw[aG.o,← Zap];exact(Za7 (Nat.zero_le n)).1
    have eY:M.length≤(bpart nx (E,D) k n).met.length:=aF.length_le;by_cases hn3:n<3
    ·have dV:(bpart nx (E,D) k n).met.Nodup:=(Zb2 (by rw[← aG.o];exact hlt) hn).1;have cW:=HF.o n hn;have cD:=HF.o (n+1) (by omega);have aP:nx x n∈(bpart nx (E,D) k n).met→bpart nx (E,D) k (n+1)=bpart nx (E,D) k n:=fun h=>Zbp (by rw[← aG.o,← b.o];exact h)
     have aR:nx x n ∉ (bpart nx (E,D) k n).met→(bpart nx (E,D) k (n+1)).met=(bpart nx (E,D) k n).met++[nx x n]:=fun h=>by rw[Zbi (by rw[← aG.o,← b.o];exact h),← aG.o,← b.o]
     have cM:Q (nx x n):=HQ.o x n hn3 bQ.o;obtain⟨cS,cN⟩:=gG.o _ cM;have cH:∀ w',Below w.heap.size w w'→_:=fun w' h=>HN.o x n w' bQ.o hn3 h
     have aA:(intCells (Zai nx (bat nx (E,D) most).met x))[n]? = some (.int .i64 (Zam (bat nx (E,D) most).met (nx x n):Int)):=by simp[Zai,hn3]
     obtain⟨S,hS⟩:=eI ((bpart nx (E,D) k n).met);obtain⟨y,hy⟩:=eI (nx x n);obtain⟨F,hF⟩:=eI ((bat nx (E,D) most).met);rw[← hS] at hxi aF eY dV aP aR cW cX;rw[← hy] at cM cS cN cH aP aR aA;rw[← hF] at hxi cW cD aA;have cJ:0<S.length:=by omega
     obtain⟨O,aI,rfl,dC,aY⟩:=hxi.m.form cJ;have bC:S.getD k (E,D)=x:=by rw[b.o];exact Zas aF hlt _
     obtain⟨p1,p2⟩:=Zj5 (E,D) hxi.m (k:=k) (by omega);rw[bC] at p1 p2;obtain⟨x1,x2⟩:=x;obtain⟨y1,y2⟩:=y;simp only at p1 p2 cS cN cH;have gR:(k:Int)<S.length:=by omega
     have bB:=qh hS;clear hS;have iS:=qh hy;clear hy;have s:=qh hF;clear hF;have dM:=qh dV;clear dV;have dU:=qh aP;clear aP;have eA:=qh aR;clear aR;have gF:=qh cW;clear cW;have cB:=qh cD;clear cD;have aS:=qh aA;clear aA;have bY:=qh hxi;clear hxi;have aQ:=qh bK;clear bK;have aX:=qh Y;clear Y;have aV:=qh bF;clear bF;have fM:=qh cH;clear cH;have fW:=qh aF;clear aF;have hZ:=qh cM;clear cM;have fR:=qh cS;clear cS;have gL:=qh cN;clear cN;clear bC;go_wp2_with fail;refine(fM.o _ aV.o).mono ?_;rintro e N ⟨rfl,Z⟩;have J:Below w.heap.size w N:=aV.o.trans (Z.mono aV.o.size);have V:=J.alloc J.size (.cells #[.int .u64 y1,.int .u64 y2] 149);have H:=(bY.o.below Z).below ((Below.refl _ _).alloc (Nat.le_refl _) (.cells #[.int .u64 y1,.int .u64 y2] 149));have aE:=(Own.below (Own.below (Zab aQ.o) Z) ((Below.refl _ _).alloc (Nat.le_refl _) (.cells #[.int .u64 y1,.int .u64 y2] 149))).1;have eE:=Z.size;obtain⟨ly,T⟩:=Tryz.keyOfSet (y1,y2) fR.o gL.o;by_cases hmem:(y1,y2)∈S
     ·have a:=H.n.lookupOk Tryz.lawSet ZcI Tryz.underlying177 (ZgB _) T;have bZ:=H.n.lookup Tryz.lawSet ZcI Tryz.underlying177 (ZgB _) T;have cF:Zam S (y1,y2)=Zam F (y1,y2):=(Zbe gF.o hmem).symm;rw[ZbD dM.o hmem,cF] at a bZ;simp only[w_8,Option.isSome_some,ZcS] at a bZ;obtain⟨q,hq⟩:=eI (Zam F (y1,y2));rw[← hq] at a bZ;obtain⟨u0,eF⟩:=Zc1 aE n (by omega);have jB:=aE.frozenAt n;have eD:=qh hq;clear hq;have hY:=qh cF;clear cF;have aZ:=qh aE;clear aE;have aT:=qh H;clear H;have bW:=qh J;clear J;have aD:=qh V;clear V;have dB:=qh Z;clear Z;have dK:=qh T;clear T;have aN:=qh hmem;clear hmem;go_wp2;go_roundw
      case rel =>
       have eM:=dU.o aN.o;refine⟨n+1,by go_num,by omega,?_,aD.o.setCell (by have:=aL.o.size;omega) _,by simp only[ZaU,World.size_alloc];omega,⟨_,(aZ.o.stored n _).1,?_⟩,?_⟩
       ·rw[eM,← bB.o];exact cX
       ·rw[← s.o];exact Zdy (n:=3) aQ.o.1 (by simp[Zai]) hn3 (by rw[s.o];exact aX.o) (by rw[aS.o,← eD.o])
       rw[eM,← bB.o,← s.o];exact aT.o.setRow ZfM (Nat.le_refl _) aZ.o n _
      case measure=>simp[intOf];omega
     have a:=H.n.lookupOk Tryz.lawSet ZcI Tryz.underlying177 (ZgB _) T;rw[ZcV hmem] at a;simp only[Option.getD_none,Option.isSome_none,ZcS] at a;have bG:=eA.o hmem;by_cases hfull:S.length=most
     ·have gV:((S.length:Int)==(most:Int))=true:=by rw[hfull];simp
      have gZ:(S.length:Int)=(most:Int):=by rw[hfull]
      have r0:=H.r.cell 0;have r1:=H.r.cell 1;have f0:=H.r.fr 0;have f1:=H.r.fr 1;simp only[w_5,w_6,w_7] at r0 r1;have dA:¬ (bat nx (E,D) most).met.length≤most:=by have h1:=cB.o.length_le;rw[bG] at h1;simp only[List.length_append,List.length_singleton] at h1;rw[← s.o];omega
      have aZ:=qh aE;clear aE;have aT:=qh H;clear H;have bW:=qh J;clear J;have aD:=qh V;clear V;have dB:=qh Z;clear Z;have dK:=qh T;clear T;have aN:=qh hmem;clear hmem;have bP:=qh bG;clear bG;have gO:=qh hfull;clear hfull;have dS:=qh dA;clear dA;go_wp2;have z:=(aT.o.r.set 0 (.slice none 0 0)).set 1 (.slice none 0 0);have z0:=z.cell 0;have z1:=z.cell 1;simp only[w_5,w_6,w_7,w_1,w_2,w_3] at z0 z1;refine bodyPost_ret (v:=.tuple #[.agg #[.slice none 0 0,.slice none 0 0],.slice none 0 0,.bool false]) (by simp[results,Tryz.results131,go_sem,z0,z1]) rfl ⟨?_,?_⟩
      ·unfold ZhW;rw[if_neg dS.o]
      exact(aD.o.setCell (by simp) _).setCell (by simp) _
     have gV:((S.length:Int)==(most:Int))=false:=by simp;omega
     have gZ:¬ (S.length:Int)=(most:Int):=by omega
     obtain⟨w5,eH,cP,p⟩:=H.n.store Tryz.lawSet ZcI Tryz.underlying177 T (.int .i64 (S.length:Int));rw[Zdc hmem] at cP;simp only[ZcS] at eH;have hT:=p.size;simp only[World.size_alloc] at hT;have iZ:=bY.o.n.lt;have hB:=aL.o.size;have c0:w5.cell? ⟨N.heap.size,0,none⟩=some (.int .u64 y1):=by rw[p.cell_far _ (by simp) (by simp;omega)];exact(Bx.new N _ _).cell 0
     have c1:w5.cell? ⟨N.heap.size,1,none⟩=some (.int .u64 y2):=by rw[p.cell_far _ (by simp) (by simp;omega)];exact(Bx.new N _ _).cell 1
     have X:=(Below.refl w5.heap.size w5).alloc (Nat.le_refl _) (.cells #[.int .u64 y1,.int .u64 y2] 149);have aM:=(Own.below (Zab (Zad H.m p H.n.apart)) X).1;have cA:Below w.heap.size w w5:=V.grown p (by simp;omega) (fun j h=>by cases h;omega)
     have hA:∀ g7 aH L,L.ownsRow w.heap.size 149 2 (.slice (some ⟨g7,0,none⟩) (S.length+1) aH) (S.length+1) (S.flatMap ZbC++[.int .u64 y1,.int .u64 y2])→(w5.alloc (.cells #[.int .u64 y1,.int .u64 y2] 149)).grownBy L (some O) →
       ExW 149 2 ZcS ZbC w.heap.size (w.heap.size+1) (w.heap.size+1+1) (w1.heap.size+1) wo.heap.size L (S++[(y1,y2)]) ((M.take k).map (Zai nx F)) ((M.take k).map en) (.slice (some ⟨g7,0,none⟩) (S.length+1) aH) vn ve ∧
       (Instr.lookup 177 (.map (some (w.heap.size+1+1))) (.agg #[.int .u64 y1,.int .u64 y2]) false).run Tryz.prog L = .ok (.int .i64 (Zam F (y1,y2):Int)) L ∧
       L.ownsRow wo.heap.size 3 1 (.slice (some ⟨wo.heap.size,0,none⟩) 3 3) 3 cs∧L.cell? ⟨N.heap.size,0,none⟩=some (.int .u64 y1)∧L.cell? ⟨N.heap.size,1,none⟩=some (.int .u64 y2)∧Below w.heap.size w L∧w5.heap.size≤L.heap.size:=by
      intro g7 aH L I C;have bM:=H.newState ZfM cP p X I C;have bH:=C.size;simp only[World.size_alloc] at bH;have bS:=bM.n.lookup Tryz.lawSet ZcI Tryz.underlying177 (ZgB _) T;have cF:Zam (S++[(y1,y2)]) (y1,y2)=Zam F (y1,y2):=(Zbe (by rw[← bG];exact cB.o) (by simp)).symm;rw[ZbD (Zdp dM.o hmem) (by simp),cF] at bS;refine⟨bM,bS,Zl2 (vm:=.slice (some ⟨O,0,none⟩) S.length aI) aE ZfM.1 aM H.n.apart p X C,?_,?_,(cA.alloc (by omega) _).grown C (by simp;omega) (fun j h=>by cases h;exact dC),by omega⟩
      ·rw[C.cell_far _ (by simp;omega) (by simp;omega),ZbB _ _ _ _ (by omega)];exact c0
      rw[C.cell_far _ (by simp;omega) (by simp;omega),ZbB _ _ _ _ (by omega)];exact c1
     obtain⟨q,hq⟩:=eI (Zam F (y1,y2));rw[← hq] at hA;have fC:w.heap.size≤(w5.alloc (.cells #[.int .u64 y1,.int .u64 y2] 149)).heap.size:=by simp;omega
     have dQ:(S.length+1)*16≤140737488355328:=by omega
     have bV:S.length+1≤maxLen:=by unfold maxLen;omega
     have eD:=qh hq;clear hq;have dT:=qh hA;clear hA;have cR:=qh aM;clear aM;have gB:=qh X;clear X;have iN:=qh cP;clear cP;have iD:=qh p;clear p;have gX:=qh cA;clear cA;have aZ:=qh aE;clear aE;have aT:=qh H;clear H;have bW:=qh J;clear J;have aD:=qh V;clear V;have dB:=qh Z;clear Z;have dK:=qh T;clear T;have aN:=qh hmem;clear hmem;have bP:=qh bG;clear bG;go_wp2_with (at_builtin;refine wpList_append_lies _ rfl _ _ _ rfl w.heap.size 149 k0 (.agg #[.int .u64 0,.int .u64 0]) 2 16 Tryz.underlying144 hk.o eC.o dW.o eL.o rfl (by omega) _ S.length _ rfl cR.o ⟨w5.heap.size,0,none⟩ 1 1 [.int .u64 y1,.int .u64 y2] rfl rfl (World.news_of_block (heap_alloc_new w5 _)) (by intro u hu;simp at hu;rcases hu with rfl|rfl<;>rfl) (by omega) bV dQ fC (w5.heap.size+1) (by simp) ?_;intro g7 aH L I C cE fS;obtain⟨bM,bS,cY,d0,d1,dH,bH⟩:=dT.o g7 aH L I C;obtain⟨u0,eF⟩:=Zc1 cY n (by omega);have iF:=cY.frozenAt n;have gW:=qh bM;have eV:=qh cY;have eO:=qh dH;clear bM cY dH I C cE);go_roundw
     case rel =>
      refine⟨n+1,by go_num,by omega,?_,eO.o.setCell (by omega) _,by simp only[ZaU];omega,⟨_,(eV.o.stored n _).1,?_⟩,?_⟩
      ·rw[bP.o,List.length_append,List.length_singleton];omega
      ·rw[← s.o];exact Zdy (n:=3) aQ.o.1 (by simp[Zai]) hn3 (by rw[s.o];exact aX.o) (by rw[aS.o,← eD.o])
      rw[bP.o,← s.o];exact gW.o.setRow ZfM (Nat.le_refl _) eV.o n _
     case measure=>simp[intOf];omega
    obtain rfl:n=3:=by omega
    have fZ:bat nx (E,D) (k+1)=bpart nx (E,D) k 3:=ZaP (by rw[← aG.o];exact hlt);have cJ:0<(bpart nx (E,D) k 3).met.length:=by omega
    have bC:(bpart nx (E,D) k 3).met.getD k (E,D)=x:=by rw[b.o];exact Zas aF hlt _
    have aO:(bpart nx (E,D) k 3).met.take (k+1)=M.take k++[x]:=by obtain⟨t,ht⟩:=aF;rw[← ht,List.take_append_of_le_length (by omega),List.take_succ_eq_append_getElem hlt,b.o];simp[hlt]
    obtain⟨S,hS⟩:=eI ((bpart nx (E,D) k 3).met);obtain⟨F,hF⟩:=eI ((bat nx (E,D) most).met);obtain⟨rows,aC⟩:=eI ((M.take k).map (Zai nx F));obtain⟨ends,aB⟩:=eI ((M.take k).map en);rw[← hF] at hxi Y;rw[← aC,← aB,← hS] at hxi;rw[← hS] at bC aO cJ cX eY;have eX:rows.length=k:=by rw[aC];simp;omega
    have fG:ends.length=k:=by rw[aB];simp;omega
    obtain⟨O,aI,rfl,dC,aY⟩:=hxi.m.form cJ;obtain⟨p1,p2⟩:=Zj5 (E,D) hxi.m (k:=k) (by omega);rw[bC] at p1 p2;have cZ:(Zai nx F x).length=3:=by simp[Zai]
    have gU:cs=intCells (Zai nx F x):=by
     have:=bK.1
     rwa [List.take_of_length_le (by omega),List.take_of_length_le (by simp[cZ])] at Y
    subst gU;have X:=(Below.refl wr.heap.size wr).alloc (Nat.le_refl _) (.cells #[.slice (some ⟨wo.heap.size,0,none⟩) 3 3] 38);have bA:=hxi.below X;have aK:OInts 3 wo.heap.size (wr.alloc (.cells #[.slice (some ⟨wo.heap.size,0,none⟩) 3 3] 38)).heap.size (wr.alloc (.cells #[.slice (some ⟨wo.heap.size,0,none⟩) 3 3] 38)) (.slice (some ⟨wo.heap.size,0,none⟩) 3 3) (Zai nx F x):=by unfold OInts;rw[cZ];exact Zab (Own.below (Zab bK) X).1
    obtain⟨vs,U,bI,bD⟩:=bA.nx;have hB:=aL.o.size;have iY:=hxi.d.lt;have dR:O≠w1.heap.size+1:=by obtain⟨cu,bE⟩:=Za9 (k:=O) hxi.m rfl;intro h;have h2:=hxi.d;unfold Bx at h2;rw[h,h2] at bE;simp at bE
    have cL:some O≠vn.ownBlock:=fun h=>by obtain⟨cu,bE⟩:=Za9 (k:=O) bA.m rfl;exact Zah (e':=149) U.1 (by decide) O h.symm _ _ bE
    have bL:Below w.heap.size w (wr.alloc (.cells #[.slice (some ⟨wo.heap.size,0,none⟩) 3 3] 38)):=bF.alloc bF.size _
    have hA:∀ g3 c3 N,N.ownsRow w.heap.size 38 1 (.slice (some ⟨g3,0,none⟩) (rows.length+1) c3) (rows.length+1) (vs++[.slice (some ⟨wo.heap.size,0,none⟩) 3 3])→(wr.alloc (.cells #[.slice (some ⟨wo.heap.size,0,none⟩) 3 3] 38)).grownBy N vn.ownBlock →
      ExW 149 2 ZcS ZbC w.heap.size (w.heap.size+1) (w.heap.size+1+1) (w1.heap.size+1) N.heap.size (N.setCell ⟨w1.heap.size+1,0,none⟩ (.slice (some ⟨g3,0,none⟩) (rows.length+1) c3)) S (rows++[Zai nx F x]) ends (.slice (some ⟨O,0,none⟩) S.length aI) (.slice (some ⟨g3,0,none⟩) (rows.length+1) c3) ve ∧
      (∃ u,N.cell? ⟨w1.heap.size+1,0,none⟩=some u)∧N.frozen? ⟨w1.heap.size+1,0,none⟩=false∧N.cell? ⟨O,k*2,none⟩=some (.int .u64 x.1)∧N.cell? ⟨O,k*2+1,none⟩=some (.int .u64 x.2)∧N.cell? ⟨w1.heap.size+1,1,none⟩=some ve ∧
      Below w.heap.size w N∧wr.heap.size≤N.heap.size:=by
     intro g3 c3 N l G;have eE:=G.size;simp only[World.size_alloc] at eE;have d3:Bx N (w1.heap.size+1) #[vn,ve] 44:=bA.d.grown G (Zah U.1 (by decide));refine⟨bA.addRow ZfM U bI bD aK (Nat.le_refl _) (by omega) G l,⟨_,d3.cell 0⟩,d3.fr 0,?_,?_,d3.cell 1,bL.grown G (by simp;omega) (fun j h=>(U.1.lt j h).1),by omega⟩
     ·rw[G.cell_far _ (by simp;omega) cL,ZbB _ _ _ _ aY];exact p1
     rw[G.cell_far _ (by simp;omega) cL,ZbB _ _ _ _ aY];exact p2
    have cC:=U.1;have e0:=hxi.d.cell 0;have e1:=hxi.d.cell 1;simp only[w_5,w_6,w_7] at e0 e1;obtain⟨x1,x2⟩:=x;simp only at p1 p2 hA;have dQ:(rows.length+1)*24≤140737488355328:=by omega
    have bV:rows.length+1≤maxLen:=by unfold maxLen;omega
    have fT:w.heap.size≤(wr.alloc (.cells #[.slice (some ⟨wo.heap.size,0,none⟩) 3 3] 38)).heap.size:=by simp;omega
    have iX:O<wr.heap.size:=aY;have gR:(k:Int)<S.length:=by omega
    have bB:=qh hS;clear hS;have s:=qh hF;clear hF;have cG:=qh aC;clear aC;have cO:=qh aB;clear aB;have bY:=qh hxi;clear hxi;have aQ:=qh bK;clear bK;have aX:=qh Y;clear Y;have aV:=qh bF;clear bF;have fW:=qh aF;clear aF;have bO:=qh fZ;clear fZ;have aU:=qh aO;clear aO;have gB:=qh X;clear X;have iG:=qh bA;clear bA;have gP:=qh aK;clear aK;have iL:=qh U;clear U;have iK:=qh bI;clear bI;have iI:=qh bD;clear bD;have iQ:=qh cL;clear cL;have dT:=qh hA;clear hA;have cK:=qh cC;clear cC;have gQ:=qh bL;clear bL;have iB:=qh eX;clear eX;have dL:=qh fG;clear fG;have iH:=qh cZ;clear cZ;clear bC p1 p2;go_wp2_with (at_builtin;refine wpList_append_lies _ rfl _ _ _ rfl w.heap.size 38 j0 (.slice none 0 0) 1 24 Tryz.underlying41 hJ.o fQ.o gN.o eW.o rfl (by omega) _ rows.length _ rfl cK.o ⟨wr.heap.size,0,none⟩ 1 1 [.slice (some ⟨wo.heap.size,0,none⟩) 3 3] rfl rfl (World.news_of_block (heap_alloc_new wr _)) (by intro u hu;simp at hu;subst hu;rfl) (by omega) bV dQ fT (wr.heap.size+1) (by simp) ?_;intro g3 c3 N l G fI iE;obtain⟨H,⟨u0,eF⟩,gM,p1,p2,hP,J,eE⟩:=dT.o g3 c3 N l G;have bU:=qh H;have fV:=qh J;clear H J l G fI);obtain⟨w4,aJ⟩:=eI (N.setCell ⟨w1.heap.size+1,0,none⟩ (.slice (some ⟨g3,0,none⟩) (rows.length+1) c3))
    have jA:w4.heap.size=N.heap.size:=by rw[aJ];exact ZaU _ _ _
    have cT:Below w.heap.size w w4:=by rw[aJ];exact fV.o.setCell (by simp;omega) _
    rw[← aJ];rw[← aJ] at bU;have q1:w4.cell? ⟨O,k*2,none⟩=some (.int .u64 x1):=by rw[aJ,(ZaA N (w1.heap.size+1) 0 _).cell_far _ (by simp;omega) (by simp;exact dR)];exact p1
    have q2:w4.cell? ⟨O,k*2+1,none⟩=some (.int .u64 x2):=by rw[aJ,(ZaA N (w1.heap.size+1) 0 _).cell_far _ (by simp;omega) (by simp;exact dR)];exact p2
    have gI:=bU.o.d.cell 1;simp only[w_5,w_6,w_7] at gI;have dF:w1.heap.size+1<w4.heap.size:=by omega
    have dG:O<w4.heap.size:=by omega
    have dY:∀ w',Below w4.drew.heap.size w4.drew w'→w'.cell? ⟨O,k*2,none⟩=some (.int .u64 x1)∧w'.cell? ⟨O,k*2+1,none⟩=some (.int .u64 x2):=fun w' h=>⟨(bcell h _ _ dG).trans q1,(bcell h _ _ dG).trans q2⟩
    have eB:∀ w',Below w4.drew.heap.size w4.drew w'→ExW 149 2 ZcS ZbC w.heap.size (w.heap.size+1) (w.heap.size+1+1) (w1.heap.size+1) N.heap.size w' S (rows++[Zai nx F (x1,x2)]) ends (.slice (some ⟨O,0,none⟩) S.length aI) (.slice (some ⟨g3,0,none⟩) (rows.length+1) c3) ve:=fun w' h=>(bU.o.below (Below.refl _ _).drew).below h
    have cU:some O≠ve.ownBlock:=fun h=>by obtain⟨cu,bE⟩:=Za9 (k:=O) bU.o.m rfl;exact Zah (e':=149) bU.o.en (by decide) O h.symm _ _ bE
    have fK:ends.length+1≤maxLen:=by have:=dL.o;unfold maxLen;omega
    have gC:(ends.length+1)*1≤140737488355328:=by have:=dL.o;omega
    have fD:w.heap.size≤w4.heap.size:=cT.size;have hbd:Below w.heap.size w w4.drew:=cT.drew
    have hC:∀ w6,Below w4.drew.heap.size w4.drew w6→∀ g7 c7 L,L.ownsRow w.heap.size 4 1 (.slice (some ⟨g7,0,none⟩) (ends.length+1) c7) (ends.length+1) (boolCells ends++[.bool (en (x1,x2))])→(w6.alloc (.cells #[.bool (en (x1,x2))] 4)).grownBy L ve.ownBlock →
      L.cell? ⟨w1.heap.size+1,1,none⟩=some ve∧L.frozen? ⟨w1.heap.size+1,1,none⟩=false∧(L.cell? ⟨O,k*2,none⟩=some (.int .u64 x1)∧L.cell? ⟨O,k*2+1,none⟩=some (.int .u64 x2)) ∧
      (∀ u,(L.setCell ⟨w1.heap.size+1,1,none⟩ u).cell? ⟨O,k*2,none⟩=some (.int .u64 x1)∧(L.setCell ⟨w1.heap.size+1,1,none⟩ u).cell? ⟨O,k*2+1,none⟩=some (.int .u64 x2))∧Below w.heap.size w L ∧
      ExW 149 2 ZcS ZbC w.heap.size (w.heap.size+1) (w.heap.size+1+1) (w1.heap.size+1) N.heap.size (L.setCell ⟨w1.heap.size+1,1,none⟩ (.slice (some ⟨g7,0,none⟩) (ends.length+1) c7)) S (rows++[Zai nx F (x1,x2)]) (ends++[en (x1,x2)]) (.slice (some ⟨O,0,none⟩) S.length aI) (.slice (some ⟨g3,0,none⟩) (rows.length+1) c3) (.slice (some ⟨g7,0,none⟩) (ends.length+1) c7)∧N.heap.size≤L.heap.size:=by
     intro w6 R g7 c7 L I C;have fE:w4.heap.size≤w6.heap.size:=R.size;have cV:=eB _ (R.alloc R.size (.cells #[.bool (en (x1,x2))] 4));have d7:=cV.d.grown C (Zah cV.en (by decide));have bH:=C.size;simp only[World.size_alloc] at bH;have k6:=dY _ (R.alloc R.size (.cells #[.bool (en (x1,x2))] 4))
     have k7:L.cell? ⟨O,k*2,none⟩=some (.int .u64 x1)∧L.cell? ⟨O,k*2+1,none⟩=some (.int .u64 x2) :=
      ⟨(C.cell_far ⟨O,k*2,none⟩ (by simp only[World.size_alloc];omega) cU).trans k6.1,(C.cell_far ⟨O,k*2+1,none⟩ (by simp only[World.size_alloc];omega) cU).trans k6.2⟩
     refine⟨d7.cell 1,d7.fr 1,k7,fun u=>Zq8 (B:=w1.heap.size+1) (j:=1) dR k7 (u:=u),?_,cV.addEnd ZfM C I,by omega⟩;exact((hbd.trans (R.mono fD)).alloc (by omega) _).grown C (by simp only[World.size_alloc];omega) (fun j h=>(cV.en.lt j h).1)
    have hV:=qh hC;clear hC;have iO:=qh dY;clear dY;have eR:=qh eB;clear eB;have iC:=qh cU;clear cU;have iA:=qh cT;clear cT;have fP:=qh hbd;clear hbd;have iM:=qh aJ;clear aJ;clear eF gM p1 p2 hP
    go_region_law (first
      | (go_simp;go_at_call 134;refine(HE.o (x1,x2) _ bQ.o fP.o).mono ?_;rintro e w6 ⟨rfl,R⟩;have hO:=(bcell R _ _ dF).trans gI;have fE:w4.heap.size≤w6.heap.size:=R.size;have iP:=fun o=>(ZbB w6 o (w1.heap.size+1) 1 (Nat.lt_of_lt_of_le dF fE)).trans hO)
      | (refine step_append_lies _ (by rfl) _ _ _ (by rfl) w.heap.size 4 b0 (.bool false) 1 1 Tryz.underlying42 bR.o eS.o eT.o fH.o (by rfl) (by omega) ve ends.length (boolCells ends) (by rfl) (eR.o _ (R.alloc R.size _)).en ⟨w6.heap.size,0,none⟩ 1 1 [.bool (en (x1,x2))] (by rfl) (by rfl) (World.news_of_block (heap_alloc_new w6 _)) (by intro u hu;simp at hu;subst hu;rfl) (by omega) fK gC (by simp;omega) (w6.heap.size+1) (by simp) ?_;intro g7 c7 L I C cE fS;obtain⟨jC,jD,k7,k8,fJ,gK,bH⟩:=hV.o w6 R g7 c7 L I C;have gJ:=qh fJ;have hW:=qh gK;have iV:=qh k8;clear fJ gK k8 I C cE))
    all_goals
     go_wp2;go_roundw
     case rel =>
      have gT:(S.take (k+1)).map (Zai nx F)=rows++[Zai nx F (x1,x2)]:=by rw[aU.o,List.map_append,← cG.o];rfl
      have hU:(S.take (k+1)).map en=ends++[en (x1,x2)]:=by rw[aU.o,List.map_append,← cO.o];rfl
      have fU:=hW.o.up (hi':=(L.setCell ⟨w1.heap.size+1,1,none⟩ (.slice (some ⟨g7,0,none⟩) (ends.length+1) c7)).heap.size) (by rw[ZaU];exact bH);refine⟨k+1,by go_num,by rw[bO.o,← bB.o];omega,by rw[bO.o,← bB.o];exact cX,?_,.slice (some ⟨g3,0,none⟩) (rows.length+1) c3,.slice (some ⟨g7,0,none⟩) (ends.length+1) c7,?_⟩
      ·first
        | exact gJ.o.setCell (by simp;omega) _
        | exact(gJ.o.setCell (by simp;omega) _).drew
      rw[bO.o,← bB.o,← s.o,gT,hU]
      first
       | exact fU
       | exact fU.below (Below.refl _ _).drew
     case measure=>simp[intOf];omega
  have jF:k=M.length:=by omega
  have eG:(bat nx (E,D) most).met=M:=by rw[hM];rw[Zbc (k:=k) (m:=most) (by rw[← hM];omega) (by omega)]
  have Y:M.take k=M:=List.take_of_length_le (by omega);rw[Y,eG] at hx;obtain⟨vs,U,bI,bD⟩:=hx.nx;obtain⟨gn,cn,rfl,-,-⟩:=U.1.form (by simp;omega);obtain⟨ge,ce,rfl,-,-⟩:=hx.en.form (by simp;omega);have r0:=hx.r.cell 0;have r1:=hx.r.cell 1;have f0:=hx.r.fr 0;have f1:=hx.r.fr 1;have d0:=hx.d.cell 0;have d1:=hx.d.cell 1;simp only[w_5,w_6,w_7,List.length_map] at r0 r1 d0 d1;have iT:=cQ;have fX:OIntSS 38 3 w.heap.size wo.heap.size wo (.slice (some ⟨gn,0,none⟩) (M.map (Zai nx M)).length cn) (M.map (Zai nx M)):=⟨vs,U,bI,bD⟩;have gA:=qh fX;clear fX;have bJ:=qh hx;clear hx;have aL:=qh hb;clear hb;have aG:=qh hM;clear hM;have eN:=qh eG;clear eG;have aX:=qh Y;clear Y;clear U bI bD;go_wp2;have g1:=ZaA wo (w.heap.size+1) 0 (.slice (some ⟨gn,0,none⟩) M.length cn);have b1:=bJ.o.r.set 0 (.slice (some ⟨gn,0,none⟩) M.length cn);have g2:=ZaA (wo.setCell ⟨w.heap.size+1,0,none⟩ (.slice (some ⟨gn,0,none⟩) M.length cn)) (w.heap.size+1) 1 (.slice (some ⟨ge,0,none⟩) M.length ce);have b2:=b1.set 1 (.slice (some ⟨ge,0,none⟩) M.length ce);have z0:=b2.cell 0;have z1:=b2.cell 1;simp only[w_5,w_6,w_7,w_1,w_2,w_3] at z0 z1;refine bodyPost_ret (v:=.tuple #[.agg #[.slice (some ⟨gn,0,none⟩) M.length cn,.slice (some ⟨ge,0,none⟩) M.length ce],.slice (some ⟨g,0,none⟩) M.length cap,.bool true]) (by simp[results,Tryz.results131,go_sem,z0,z1]) rfl ⟨?_,?_⟩
  ·unfold ZhW;rw[eN.o,if_pos cQ];have ha:∀ e,44 ≠ e→ZbF wo (some (w.heap.size+1)) e:=fun e he=>bJ.o.r.apart he
   have cI:∀ e,44 ≠ e→ZbF (wo.setCell ⟨w.heap.size+1,0,none⟩ (.slice (some ⟨gn,0,none⟩) M.length cn)) (some (w.heap.size+1)) e:=fun e he=>b1.apart he
   have dO:=gA.o;simp only[List.length_map] at dO;have dJ:=bJ.o.en;simp only[List.length_map] at dJ;refine⟨_,_,_,_,_,_,rfl,⟨_,_,rfl,?_,?_⟩,?_⟩
   ·exact((dO.grown g1 (ha _ (by decide)) (ha _ (by decide))).grown g2 (cI _ (by decide)) (cI _ (by decide))).mono (Nat.le_refl _) (by simp)
   ·unfold OBools Zar;simp only[List.length_map];exact Zab (Zad (Zad dJ g1 (ha _ (by decide))) g2 (cI _ (by decide)))
   exact Zab (Zad (Zad bJ.o.m g1 (ha _ (by decide))) g2 (cI _ (by decide)))
  exact(aL.o.setCell (by simp) _).setCell (by simp) _
def nxS (n:NfaD) (x:Int × Int) (c:Nat):Int × Int:=((stV 40 n.moves x.1.toNat (c:Int):Nat),0)
def enS (n:NfaD) (x:Int × Int):Bool:=endV n x.1.toNat
abbrev metS (n:NfaD) (K:Nat):List (Int × Int):=(bat (nxS n) (((fstV n:Nat):Int),0) K).met
def DMem (B:Nat) (w:World) (D:DfaD) (v1 v2:Value):Prop:=OIntSS 38 3 B w.heap.size w v1 D.next∧OBools 4 B w.heap.size w v2 D.ends
theorem DMem.of {B F:Nat} {w:World} {D:DfaD} {v1 v2:Value} (h:DfaO 38 3 4 F w.heap.size w (.agg #[v1,v2]) D) (G:B≤F):DMem B w D v1 v2:=by obtain⟨H,I,hq,E,C⟩:=h;simp only[Value.agg.injEq] at hq;have e1:=congrArg (fun (l:Array Value)=>l[0]?) hq;have e2:=congrArg (fun (l:Array Value)=>l[1]?) hq;simp at e1 e2;subst e1;subst e2;exact⟨E.mono G (Nat.le_refl _),Own.mono C G (Nat.le_refl _)⟩
theorem DMem.alloc {B:Nat} {w:World} {D:DfaD} {v1 v2:Value} (h:DMem B w D v1 v2) (o:Obj):DMem B (w.alloc o) D v1 v2:=by have hb:=(Below.refl w.heap.size w).alloc (Nat.le_refl _) o;exact⟨(h.1.below hb).mono (Nat.le_refl _) hb.size,Own.mono (Own.below h.2 hb) (Nat.le_refl _) hb.size⟩
theorem DMem.set {B:Nat} {w:World} {D:DfaD} {v1 v2:Value} (h:DMem B w D v1 v2) {b:Nat} {cs:Array Value} (x:Bx w b cs 44) (j:Nat) (v:Value):DMem B (w.setCell ⟨b,j,none⟩ v) D v1 v2:=by have g:=ZaA w b j v;exact⟨(h.1.grown g (x.apart (by decide)) (x.apart (by decide))).mono (Nat.le_refl _) (by simp[World.setCell]),Own.mono (Own.grown h.2 g (x.apart (by decide))) (Nat.le_refl _) (by simp[World.setCell])⟩
theorem box2 {w:World} {b:Nat} {a c:Value} {T:TypeId} (h:Bx w b #[a,c] T):w.cell? ⟨b,0,none⟩=some a∧w.cell? ⟨b,1,none⟩=some c∧w.frozen? ⟨b,0,none⟩=false∧w.frozen? ⟨b,1,none⟩=false:=⟨h.cell 0,h.cell 1,h.fr 0,h.fr 1⟩
end Go.Proofs.YtncekbbhgipdlaaGreat
