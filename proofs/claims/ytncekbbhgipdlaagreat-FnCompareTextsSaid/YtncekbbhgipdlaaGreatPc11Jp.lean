/-
  The walk over the reference's l11Pair: two automata side by side.
  Conditions: the automata are valid and read as such; the mode is 0 or 1.
-/
import Derived.Test.YtncekbbhgipdlaaGreatPc10Jx
set_option maxHeartbeats 16000000
set_option maxRecDepth 100000
namespace Go.Proofs.YtncekbbhgipdlaaGreat
open Go.RowKit
def pfM (mode:Int) (x y:Bool):Bool:=(decide (mode=0)&&x&&y)||(decide (mode=1)&&(x||y))||(decide (mode=2)&&x && !y)||(decide (mode=3)&&(x != y))
def prw (p:Int × Int):List Int:=[p.1,p.2]
theorem Zol {C B x y:Int} (h:¬ (C=x∧B=y)):((C,B):Int × Int)≠(x,y):=fun e=>h (by simpa using e)
theorem Zkl {S:List (Int × Int)} {x:Int × Int} {g:Int × Int→List Int}:((S++[x]).map g).map intCells=(S.map g).map intCells++[intCells (g x)]:=by simp
theorem Zkk {S:List (Int × Int)} {x:Int × Int} {g:Int × Int→Bool}:boolCells ((S++[x]).map g)=boolCells (S.map g)++[.bool (g x)]:=by simp[boolCells]
def atP (S:List (Int × Int)) (x:Int × Int) (m:Nat):Int:=if x∈S.take m then(Zam S x:Int) else -1
theorem Zsd {S:List (Int × Int)} {x:Int × Int} {m:Nat} (hn:S.Nodup) (hm:m<S.length) (hx:S.getD m (0,0)=x):atP S x (m+1)=(m:Int):=by
 have h1:Zam S x=m:=by rw[← hx];exact Zfq hm hn _
 have h2:x∈S.take (m+1):=by rw[List.take_succ_eq_append_getElem hm,← Zbg (d:=(0,0)) hm,hx];simp
 unfold atP;rw[if_pos h2,h1]
theorem ZmE {S:List (Int × Int)} {x:Int × Int} {m:Nat} (hm:m<S.length) (hx:S.getD m (0,0)≠x):atP S x (m+1)=atP S x m:=by
 unfold atP;have e:x∈S.take (m+1)↔x∈S.take m:=by rw[List.take_succ_eq_append_getElem hm,← Zbg (d:=(0,0)) hm];simp only[List.mem_append,List.mem_singleton];exact⟨fun h=>h.resolve_right fun h=>hx h.symm,.inl⟩
 simp only[e]
theorem Zhy (K:Nat) (hK:K=40) (a b:DfaD) (mode:Int) (f:Bool→Bool→Bool) (hf:∀ x y,pfM mode x y=f x y) (bL:mode=0∨mode=1) (v u:Value) (w:World) (hda:Zac a.next a.ends=true) (hdb:Zac b.next b.ends=true) (h1:DfaR 0 w v a) (h2:DfaR 0 w u b) :
  Calls Tryz.prog 85 #[v,u,.int .i64 mode] w fun e w'=>RO (ZbV K f a b) w e w':=by
 obtain⟨b1,o1,cv,b2,o2,cw,rfl,fJ⟩:=Zcb hda h1;obtain⟨b3,o3,cx,b4,o4,cy,rfl,eN⟩:=Zcb hdb h2;have gU:K≤40:=by omega
 have gV:40≤K:=by omega
 clear hK;obtain⟨i0,hi,fA,eB,eM⟩:=info_parts Tryz.infoInt;obtain⟨j0,hj,eT,eC,dR⟩:=info_parts Tryz.infoInts;obtain⟨k0,hk,eA,dY,dV⟩:=info_parts Tryz.infoBool;have fZ:=qh (fun k=>ZbA (nx:=Zan a b) (a:=(0,0)) (Q:=fun x=>ZbG a b x=true) (Zci hda hdb) (fun x c hc hx=>Zcj hda hdb hc hx) k);have bV:=qh fJ;have bY:=qh eN;obtain⟨LA,Y⟩:∃ L,a.next.length=L:=⟨_,rfl⟩;obtain⟨LB,cD⟩:∃ L,b.next.length=L:=⟨_,rfl⟩;obtain⟨fK,fY,-⟩:=Zaf hda;obtain⟨fV,fW,-⟩:=Zaf hdb;rw[Y] at fK fY;rw[cD] at fV fW;rw[Y,cD];have dS:=((St.start w).alloc _ rfl #[.slice (some ⟨b1,o1,none⟩) LA cv,.slice (some ⟨b2,o2,none⟩) LA cw] 44).alloc (w.heap.size+1) (by simp) #[.slice (some ⟨b3,o3,none⟩) LB cx,.slice (some ⟨b4,o4,none⟩) LB cy] 44;have eS:=(((((dS.alloc (w.heap.size+1+1) (by simp) #[.slice none 0 0,.slice none 0 0] 44).alloc (w.heap.size+1+1+1) (by simp) #[.int .i64 0,.int .i64 0] 3).boxrow 3 2 1 [.int .i64 0,.int .i64 0] rfl rfl (by unfold maxLen;omega)).alloc (w.heap.size+1+1+1+1) (by simp) #[.slice (some ⟨w.heap.size+1+1+1,0,none⟩) 2 2] 38).boxrow 4 1 1 [.slice (some ⟨w.heap.size+1+1+1,0,none⟩) 2 2] rfl rfl (by unfold maxLen;omega)).onerow 4 3 (by decide) rfl rfl;have fH:=((((eS.pick [0,1,2,4] (by decide)).alloc (w.heap.size+1+1+1+1+1) (by simp) #[.slice none 0 0,.slice none 0 0] 44).nilRow 38 1).norows 5 rfl 3).nilRow 4 1;have fR:=qh fH;replace Y:=qh Y;have Z:=qh cD;clear cD
 have eK:=qh hi;clear hi;have cQ:=qh fA;clear fA;have cI:=qh eB;clear eB;have cY:=qh eM;clear eM;have eO:=qh hj;clear hj;have cT:=qh eT;clear eT;have dC:=qh eC;clear eC;have cM:=qh dR;clear dR;have eY:=qh hk;clear hk;have cJ:=qh eA;clear eA;have cK:=qh dY;clear dY;have cP:=qh dV;clear dV;have eG:=qh hf;clear hf;have bX:=qh bL;clear bL;clear dS eS fH h1 h2 fJ eN;obtain⟨F,hF⟩:=eI (metP a b K);replace hF:=qh hF
 go_enter Tryz.func85, Tryz.ntmps85
 go_wp2
 go_loopw [7,8,10] (fun rb vl i wr=>∃ (k n1 E c2 c3:Nat) (a2 a3:Option Addr) (vs1 vs2:List Value),i = .int .i64 k∧rb = .bool false∧vl = .slice (some ⟨n1,0,none⟩) (bat (Zan a b) (0,0) k).met.length E∧k≤(bat (Zan a b) (0,0) k).met.length∧k≤K∧(bat (Zan a b) (0,0) k).met.length≤K+3 ∧
   St w wr [Ent.box w.heap.size #[.slice (some ⟨b1,o1,none⟩) LA cv,.slice (some ⟨b2,o2,none⟩) LA cw] 44,Ent.box (w.heap.size+1) #[.slice (some ⟨b3,o3,none⟩) LB cx,.slice (some ⟨b4,o4,none⟩) LB cy] 44,Ent.box (w.heap.size+1+1) #[.slice none 0 0,.slice none 0 0] 44,
    Ent.rows 38 3 (.slice (some ⟨n1,0,none⟩) (bat (Zan a b) (0,0) k).met.length E) vs1 (((bat (Zan a b) (0,0) k).met.map prw).map intCells),
    Ent.box (w.heap.size+1+1+1+1+1) #[.slice a2 k c2,.slice a3 k c3] 44,
    Ent.rows 38 3 (.slice a2 k c2) vs2 ((((bat (Zan a b) (0,0) k).met.take k).map (Zai (Zan a b) F)).map intCells),
    Ent.row 4 1 (.slice a3 k c3) k (boolCells (((bat (Zan a b) (0,0) k).met.take k).map (Zba f a b)))])
  (fun _ _ i _=>K-(intOf i).toNat)
 case atStart=>exact⟨0,_,_,0,0,none,none,[.slice (some ⟨w.heap.size+1+1+1,0,none⟩) 2 2],[],rfl,rfl,rfl,by simp,by omega,by simp[bat],fR.o⟩
 case round =>
  obtain⟨k,n1,E,c2,c3,a2,a3,vs1,vs2,rfl,rfl,rfl,hk,eU,fT,hS⟩:=hrel;obtain⟨S,cE⟩:=eI (bat (Zan a b) (0,0) k);have hR:=fZ.o k;rw[← cE] at hk fT hS hR;rw[← cE];obtain⟨wo,fS⟩:∃ wo:World,wo=wr:=⟨_,rfl⟩;subst fS;have O:=qh hS;clear hS;have I:=qh cE;clear cE;have bP:=qh hR;clear hR;by_cases hlt:k<S.met.length
  ·by_cases hle:S.met.length≤K
   ·have hlt2:(k:Int)<S.met.length:=by omega
    have eQ:¬ ((S.met.length:Int)>40):=by omega
    have fF:=(O.o.alloc _ rfl #[] 3).boxrow 7 0 1 [] rfl rfl (Nat.zero_le _);obtain⟨x,hx⟩:=eI (S.met.getD k (0,0));have dQ:ZbG a b x=true:=by rw[hx];exact bP.o _ (memD hlt)
    have dT:k<(bat (Zan a b) (0,0) k).met.length:=by rw[← I.o];exact hlt
    have fI:(bat (Zan a b) (0,0) k).met.getD k (0,0)=x:=by rw[← I.o];exact hx.symm
    obtain⟨i,j,cN,fM,fU⟩:=Zbf dQ;rw[Y.o] at fM;rw[Z.o] at fU;have gE:(i:Int)<LA:=by omega
    have gI:(j:Int)<LB:=by omega
    have eD:=qh fF;clear fF;have dH:=qh hx;clear hx;have aR:=qh dT;clear dT;have dU:=qh fI;clear fI;have s:=qh cN;clear cN;clear dQ;go_wp2
    go_loopw [8,11,12] (fun vl rv i' wi=>∃ (c n1 E b5 U:Nat) (vs1:List Value),i' = .int .i64 c∧vl = .slice (some ⟨n1,0,none⟩) (bpart (Zan a b) (0,0) k c).met.length E∧rv = .slice (some ⟨b5,0,none⟩) c U∧c≤3 ∧
      St w wi [Ent.box w.heap.size #[.slice (some ⟨b1,o1,none⟩) LA cv,.slice (some ⟨b2,o2,none⟩) LA cw] 44,Ent.box (w.heap.size+1) #[.slice (some ⟨b3,o3,none⟩) LB cx,.slice (some ⟨b4,o4,none⟩) LB cy] 44,Ent.box (w.heap.size+1+1) #[.slice none 0 0,.slice none 0 0] 44,
       Ent.rows 38 3 (.slice (some ⟨n1,0,none⟩) (bpart (Zan a b) (0,0) k c).met.length E) vs1 (((bpart (Zan a b) (0,0) k c).met.map prw).map intCells),
       Ent.box (w.heap.size+1+1+1+1+1) #[.slice a2 k c2,.slice a3 k c3] 44,
       Ent.rows 38 3 (.slice a2 k c2) vs2 (((S.met.take k).map (Zai (Zan a b) F)).map intCells),
       Ent.row 4 1 (.slice a3 k c3) k (boolCells ((S.met.take k).map (Zba f a b))),
       Ent.row 3 1 (.slice (some ⟨b5,0,none⟩) c U) c (intCells ((Zai (Zan a b) F x).take c))])
     (fun _ _ i' _=>3-(intOf i').toNat)
    case atStart =>refine⟨0,n1,E,_,_,vs1,rfl,by rw[Zap,← I.o],rfl,by omega,?_⟩;rw[Zap,← I.o];exact eD.o
    case round =>
     obtain⟨c,n1,E,b5,U,vs1,rfl,rfl,rfl,hc3,J⟩:=hrel;obtain⟨wp,fP⟩:∃ wp:World,wp=wr:=⟨_,rfl⟩;subst fP;by_cases hc:c<3
     ·have cC:=ZfB (Zan a b) (0,0) k c;have dK:=(Zb2 (nx:=Zan a b) (a:=(0,0)) aR.o (show c≤3 by omega)).1;have aN:=Zbp (nx:=Zan a b) (a:=(0,0)) (k:=k) (n:=c);have aP:=Zbi (nx:=Zan a b) (a:=(0,0)) (k:=k) (n:=c);have H:=Za7 (nx:=Zan a b) (a:=(0,0)) (k:=k) (Nat.zero_le c);have aU:=ZaF (nx:=Zan a b) (a:=(0,0)) (m:=K) aR.o (show c≤3 by omega) (show k<K by omega);have d:=ZaF (nx:=Zan a b) (a:=(0,0)) (m:=K) aR.o (show c+1≤3 by omega) (show k<K by omega);rw[Zap,← I.o] at H;rw[dU.o] at aN aP;rw[← I.o] at cC;replace aU:=aU.1;replace d:=d.1;replace H:=H.1;rw[show(bat (Zan a b) (0,0) K).met=F from hF.o.symm] at aU d;have bF:Zan a b x c=(((nxD a i c:Nat):Int),((nxD b j c:Nat):Int)):=by rw[s.o,← bV.o.dx i c (by have:=Y.o;omega) hc,← bY.o.dx j c (by have:=Z.o;omega) hc];rfl
      have dZ:=bV.o.lt i c (by have:=Y.o;omega) hc;have eF:=bY.o.lt j c (by have:=Z.o;omega) hc;rw[Y.o] at dZ;rw[Z.o] at eF;obtain⟨ya,bE⟩:∃ y,y=nxD a i c:=⟨_,rfl⟩;obtain⟨yb,bJ⟩:∃ y,y=nxD b j c:=⟨_,rfl⟩;rw[← bE,← bJ] at bF;rw[← bE] at dZ;rw[← bJ] at eF;rw[bF] at aN aP;have g:((ya:Int),(yb:Int))∈(bpart (Zan a b) (0,0) k c).met→(bpart (Zan a b) (0,0) k (c+1)).met=(bpart (Zan a b) (0,0) k c).met:=fun h=>by rw[aN h]
      have z:((ya:Int),(yb:Int)) ∉ (bpart (Zan a b) (0,0) k c).met→(bpart (Zan a b) (0,0) k (c+1)).met=(bpart (Zan a b) (0,0) k c).met++[((ya:Int),(yb:Int))]:=fun h=>by rw[aP h]
      clear aN aP;obtain⟨T1,dE⟩:=eI ((bpart (Zan a b) (0,0) k (c+1)).met);obtain⟨T,hT⟩:=eI ((bpart (Zan a b) (0,0) k c).met);rw[← hT] at J cC dK aU H g z;rw[← dE] at d g z;rw[← hT];have bN:k<T.length:=Nat.lt_of_lt_of_le hlt H.length_le;have aI:T.getD k (0,0)=((i:Int),(j:Int)):=((Zas H hlt _).trans dH.o.symm).trans s.o;have bD:=Zhl (nx:=Zan a b) (F:=F) (x:=x) hc;rw[bF] at bD;have aH:((T.map prw).map intCells).length=T.length:=ZcF _ _ _
      have aB:((T.map prw).map intCells).getD k []=[.int .i64 (i:Int),.int .i64 (j:Int)]:=by
       have:((T.map prw).map intCells).getD k []=intCells (prw (T.getD k (0,0))):=by simp[bN]
       rw[this,aI];rfl
      obtain⟨ax,fQ,B,D,aC,dX,fE,eX,aW⟩:=J.rowAt 3 rfl aH bN;rw[aB] at B D aC;obtain⟨gx,dW,aA,cX,aT⟩:=D.form (by simp);simp only[Value.slice.injEq,List.length_cons,List.length_nil] at aA;obtain⟨rfl,-,rfl⟩:=aA;have p0:=D.cellAt 0 (by simp);have p1:=D.cellAt 1 (by simp);simp only[w_6,w_7] at p0 p1;simp only[List.length_cons,List.length_nil] at B aC;have eJ:=bV.o.below J.bel;have eV:=bY.o.below J.bel;obtain⟨g5,o5,c5,gT,gX,gN,fO,bT⟩:=eJ.row i (by have:=Y.o;omega);obtain⟨g6,o6,c6,gY,gW,gK,gA,bW⟩:=eV.row j (by have:=Z.o;omega);replace bT:=bT c hc;replace bW:=bW c hc;rw[← bE] at bT;rw[← bJ] at bW;have e0:=J.cell (v:=.slice (some ⟨b1,o1,none⟩) LA cv) 0 0 rfl rfl;have e1:=J.cell (v:=.slice (some ⟨b3,o3,none⟩) LB cx) 1 0 rfl rfl;have eZ:(k:Int)<T.length:=by omega
      have gZ:(c:Int)<3:=by omega
      have gJ:=qh bF;clear bF;have gM:=qh bE;clear bE;have gL:=qh bJ;clear bJ;have cH:=qh g;clear g;have cG:=qh z;clear z;have aQ:=qh dE;clear dE;have l:=qh hT;clear hT;have fD:=qh cC;clear cC;have fB:=qh dK;clear dK;have eE:=qh aU;clear aU;have dF:=qh d;clear d;have dB:=qh H;clear H;have eL:=qh aI;clear aI;have bG:=qh bD;clear bD;have aO:=qh aH;clear aH;have cS:=qh J;clear J;clear aB D eJ eV;go_wp2
      go_quiet (fail)
      obtain⟨m1,dN⟩:∃ n,n=nq:=⟨_,rfl⟩;subst dN;go_wp2
      go_quiet (fail)
      obtain⟨m2,dG⟩:∃ n,n=nq:=⟨_,rfl⟩;subst dG;obtain⟨w3,dL⟩:=eI ((wp.drewN m1).drewN m2);have dI:=(cS.o.drewN m1).drewN m2;rw[← dL] at dI;rw[← dL];have cZ:=qh dI;clear dI;clear e0 e1 fO gA bT bW B p0 p1 dL;go_wp2
      go_loopw [15,16] (fun av jj wj=>∃ m:Nat,jj = .int .i64 m∧m≤T.length∧av = .int .i64 (atP T ((ya:Int),(yb:Int)) m)∧Below w3.heap.size w3 wj) (fun _ jj _=>T.length-(intOf jj).toNat)
      case atStart=>exact⟨0,rfl,Nat.zero_le _,by simp[atP],Below.refl _ _⟩
      case round =>
       obtain⟨m,rfl,hm,rfl,q⟩:=hrel;by_cases hmT:m<T.length
       ·obtain⟨p,hp⟩:=eI (T.getD m (0,0))
        have aB:((T.map prw).map intCells).getD m []=[.int .i64 p.1,.int .i64 p.2]:=by
         have:((T.map prw).map intCells).getD m []=intCells (prw (T.getD m (0,0))):=by simp[hmT]
         rw[this,← hp];rfl
        obtain⟨ax,cm,B,D,cL,gF,gR,gP,aW⟩:=cZ.o.rowAt 3 rfl aO.o hmT;rw[aB] at B D cL;obtain⟨gm,dW,aA,cX,aT⟩:=D.form (by simp);simp only[Value.slice.injEq,List.length_cons,List.length_nil] at aA;obtain⟨rfl,-,rfl⟩:=aA;have p0:=D.cellAt 0 (by simp);have p1:=D.cellAt 1 (by simp);simp only[w_6,w_7] at p0 p1;simp only[List.length_cons,List.length_nil] at B cL;replace B:=(bcell q n1 m aW).trans B;replace p0:=(bcell q gm 0 aT).trans p0;replace p1:=(bcell q gm 1 aT).trans p1;obtain⟨xm,ym⟩:=p;simp only at p0 p1;have gG:(m:Int)<T.length:=by omega
        have bK:=qh (fun (v':Int) (h:v'=atP T ((ya:Int),(yb:Int)) (m+1))=>(show ∃ m':Nat,Value.int .i64 ((m:Int)+1) = .int .i64 (m':Int)∧m'≤T.length∧Value.int .i64 v' = .int .i64 (atP T ((ya:Int),(yb:Int)) m')∧Below w3.heap.size w3 wr from⟨m+1,by go_num,by omega,by rw[h],q⟩));have bZ:=qh hp;clear hp;have gQ:=qh q;clear q;clear aB D;by_cases hxe:xm=(ya:Int)
        ·subst hxe;by_cases hye:ym=(yb:Int)
         ·subst hye;go_wp2;go_roundw
          case rel=>exact bK.o _ (Zsd fB.o hmT bZ.o.symm).symm
          case measure=>simp[intOf];omega
         have fL:(ym==(yb:Int))=false:=by simpa using hye
         have fC:=qh hye;clear hye;go_wp2;go_roundw
         case rel=>exact bK.o _ (ZmE hmT (by rw[← bZ.o];exact Zol (fun h=>fC.o h.2))).symm
         case measure=>simp[intOf];omega
        have fL:(xm==(ya:Int))=false:=by simpa using hxe
        have eH:=qh hxe;clear hxe;go_wp2;go_roundw
        case rel=>exact bK.o _ (ZmE hmT (by rw[← bZ.o];exact Zol (fun h=>eH.o h.1))).symm
        case measure=>simp[intOf];omega
       obtain rfl:m=T.length:=by omega
       have cB:=cZ.o.call q;have aL:atP T ((ya:Int),(yb:Int)) T.length=if ((ya:Int),(yb:Int))∈T then(Zam T ((ya:Int),(yb:Int)):Int) else -1:=by unfold atP;rw[List.take_length]
       by_cases hmem:((ya:Int),(yb:Int))∈T
       ·rw[if_pos hmem] at aL;obtain⟨p,hp⟩:=eI (Zam T ((ya:Int),(yb:Int)));have hC:p<T.length:=by rw[hp];exact ZaV hmem
        have bH:Zam F ((ya:Int),(yb:Int))=p:=(Zbe eE.o hmem).trans hp.symm;rw[← hp] at aL;rw[aL];have cV:=cH.o hmem;have hB:¬ ((p:Int)<0):=by omega
        have V:=cB.alloc_ (.cells #[.int .i64 (p:Int)] 3);have HR:=qh (V.row 7 rfl);have bZ:=qh hp;clear hp;have bB:=qh bH;clear bH;have aX:=qh cV;clear cV;have M:=qh V;clear V;clear cB q aL;go_wp2_with (at_builtin;refine wpList_append_lies _ rfl _ _ _ rfl _ 3 i0 (.int .i64 0) 1 8 Tryz.underlying38 eK.o cQ.o cI.o cY.o rfl (by omega) _ c _ rfl HR.o ⟨wr.heap.size,0,none⟩ 1 1 [.int .i64 (p:Int)] rfl rfl (World.news_of_block (heap_alloc_new wr _)) ZbX (by omega) (by unfold maxLen;omega) (by omega) M.o.size _ rfl ?_;intro g6 c6 w6 G C R aD;have r:=qh (M.o.app 7 rfl G C R);clear G C R aD);go_roundw
        case rel =>refine⟨c+1,n1,E,_,_,vs1,by go_num,by rw[← aQ.o,aX.o],rfl,by omega,?_⟩;rw[← aQ.o,aX.o,bG.o,bB.o,Zaz];exact r.o.pick [0,1,2,3,4,5,6,7] (by decide)
        case measure=>simp[intOf];omega
       rw[if_neg hmem] at aL;rw[aL];have bO:=cG.o hmem;have bH:Zam F ((ya:Int),(yb:Int))=T.length:=ZgO (by rw[← bO];exact dF.o) hmem;have gS:=fD.o;have V:=((cB.alloc _ rfl #[.int .i64 (ya:Int),.int .i64 (yb:Int)] 3).boxrow 8 2 1 [.int .i64 (ya:Int),.int .i64 (yb:Int)] rfl rfl (by unfold maxLen;omega)).alloc (wr.heap.size+1) (by simp) #[.slice (some ⟨wr.heap.size,0,none⟩) 2 2] 38;have hR:=(V.rows 3 rfl).1;rw[aO.o] at hR;have bB:=qh bH;clear bH;have bI:=qh bO;clear bO;have M:=qh V;clear V;have bP:=qh hR;clear hR;clear cB q aL
       go_wp2_with (first
        | (at_builtin;refine wpList_append_lies _ rfl _ _ _ rfl _ 38 j0 (.slice none 0 0) 1 24 Tryz.underlying41 eO.o cT.o dC.o cM.o rfl (by omega) _ T.length _ rfl bP.o ⟨wr.heap.size+1,0,none⟩ 1 1 [.slice (some ⟨wr.heap.size,0,none⟩) 2 2] rfl rfl (World.news_of_block (M.o.box 9 rfl)) ZcT (by omega) (by unfold maxLen;omega) (by omega) M.o.size _ rfl ?_;intro g6 c6 w6 G C R aD;have r:=qh ((M.o.snoc 3 8 (by decide) rfl rfl (by decide) C (by rw[aO.o];exact G) (Zgh R)).alloc_ (.cells #[.int .i64 (T.length:Int)] 3));have fN:=qh (r.o.row 7 rfl);clear G C R aD)
        | (at_builtin;refine wpList_append_lies _ rfl _ _ _ rfl _ 3 i0 (.int .i64 0) 1 8 Tryz.underlying38 eK.o cQ.o cI.o cY.o rfl (by omega) _ c _ rfl fN.o ⟨w6.heap.size,0,none⟩ 1 1 [.int .i64 (T.length:Int)] rfl rfl (World.news_of_block (heap_alloc_new w6 _)) ZbX (by omega) (by unfold maxLen;omega) (by omega) r.o.size _ rfl ?_;intro g7 c7 w7 aY aS dA eP;have fX:=qh (r.o.app 7 rfl aY aS dA);clear aY aS dA eP))
       go_roundw
       case rel =>refine⟨c+1,g6,c6,g7,c7,vs1++[.slice (some ⟨wr.heap.size,0,none⟩) 2 2],by go_num,by rw[← aQ.o,bI.o,List.length_append];rfl,rfl,by omega,?_⟩;rw[← aQ.o,bI.o,bG.o,bB.o,Zaz,List.map_append,List.map_append,List.length_append];exact fX.o.pick [0,1,2,3,4,5,6,7] (by decide)
       case measure=>simp[intOf];omega
     obtain rfl:c=3:=by omega
     have eW:bat (Zan a b) (0,0) (k+1)=bpart (Zan a b) (0,0) k 3:=ZaP aR.o;have aM:=ZfB (Zan a b) (0,0) k 3;have H:=(Za7 (nx:=Zan a b) (a:=(0,0)) (k:=k) (Nat.zero_le 3)).1;rw[Zap] at H;rw[← I.o] at aM H;obtain⟨T,hT⟩:=eI ((bpart (Zan a b) (0,0) k 3).met);rw[← hT] at aM H J;rw[← hT];have aZ:k+1≤T.length:=Nat.le_trans hlt H.length_le;have fG:T.take (k+1)=S.met.take k++[x]:=by obtain⟨t,ht⟩:=H;rw[← ht,List.take_append_of_le_length (by omega),List.take_succ_eq_append_getElem hlt,dH.o];simp[hlt]
     have hn3:(Zai (Zan a b) F x).take 3=Zai (Zan a b) F x:=List.take_of_length_le (by simp[Zai]);have bC:(((S.met.take k).map (Zai (Zan a b) F)).map intCells).length=k:=by rw[ZcF,List.length_take];omega
     rw[hn3] at J;have e4:=J.cell (v:=.slice a2 k c2) 4 0 rfl rfl;have V:=J.alloc_ (.cells #[.slice (some ⟨b5,0,none⟩) 3 U] 38);have hR:=(V.rows 5 rfl).1;rw[bC] at hR;have P:=qh eW;clear eW;have aV:=qh aM;clear aM;have dB:=qh H;clear H;have cW:=qh fG;clear fG;have gD:=qh hn3;clear hn3;have dO:=qh bC;clear bC;have l:=qh hT;clear hT;have cS:=qh J;clear J;have M:=qh V;clear V;have bP:=qh hR;clear hR;go_wp2_with (at_builtin;refine wpList_append_lies _ rfl _ _ _ rfl _ 38 j0 (.slice none 0 0) 1 24 Tryz.underlying41 eO.o cT.o dC.o cM.o rfl (by omega) _ k _ rfl bP.o ⟨wp.heap.size,0,none⟩ 1 1 [.slice (some ⟨b5,0,none⟩) 3 U] rfl rfl (World.news_of_block (heap_alloc_new wp _)) ZcT (by omega) (by unfold maxLen;omega) (by omega) M.o.size _ rfl ?_;intro g6 c6 w6 G C R aD;have r:=qh (M.o.snoc 5 7 (by decide) rfl rfl (by decide) C (by rw[dO.o];exact G) (Zgh R));have f4:=r.o.fr 4 0 rfl;have k4:=r.o.cell (v:=.slice a2 k c2) 4 0 rfl rfl;clear G C R aD);have aE:=(r.o.set 4 rfl 0 (.slice (some ⟨g6,0,none⟩) (k+1) c6)).pick [0,1,2,3,4,5,6] (by decide);obtain⟨w7,bR⟩:=eI (w6.setCell ⟨w.heap.size+1+1+1+1+1,0,none⟩ (.slice (some ⟨g6,0,none⟩) (k+1) c6));rw[← bR] at aE;rw[← bR];have aH:((T.map prw).map intCells).length=T.length:=ZcF _ _ _
     have aI:T.getD k (0,0)=((i:Int),(j:Int)):=((Zas dB.o hlt _).trans dH.o.symm).trans s.o;have bN:k<T.length:=by omega
     have eZ:(k:Int)<T.length:=by omega
     have aB:((T.map prw).map intCells).getD k []=[.int .i64 (i:Int),.int .i64 (j:Int)]:=by
      have:((T.map prw).map intCells).getD k []=intCells (prw (T.getD k (0,0))):=by simp[bN]
      rw[this,aI];rfl
     obtain⟨ax,fQ,B,D,aC,dX,fE,eX,aW⟩:=aE.rowAt 3 rfl aH bN;rw[aB] at B D aC;obtain⟨gx,dW,aA,cX,aT⟩:=D.form (by simp);simp only[Value.slice.injEq,List.length_cons,List.length_nil] at aA;obtain⟨rfl,-,rfl⟩:=aA;have p0:=D.cellAt 0 (by simp);have p1:=D.cellAt 1 (by simp);simp only[w_6,w_7] at p0 p1;simp only[List.length_cons,List.length_nil] at B aC;have v5:=(bV.o.below aE.bel).en i (by have:=Y.o;omega);have v6:=(bY.o.below aE.bel).en j (by have:=Z.o;omega);have e0:=aE.cell (v:=.slice (some ⟨b2,o2,none⟩) LA cw) 0 1 rfl rfl;have e1:=aE.cell (v:=.slice (some ⟨b4,o4,none⟩) LB cy) 1 1 rfl rfl;obtain⟨ea,bU⟩:∃ e,e=enD a i:=⟨_,rfl⟩;obtain⟨eb,cF⟩:∃ e,e=enD b j:=⟨_,rfl⟩;have cA:Zba f a b x=f ea eb:=by rw[s.o,bU,cF];rfl
     rw[← bU] at v5;rw[← cF] at v6;have eR:=qh aE;clear aE;have gH:=qh bR;clear bR;have aO:=qh aH;clear aH;have eL:=qh aI;clear aI;have gC:=qh bU;clear bU;have gB:=qh cF;clear cF;replace cA:=qh cA;clear aB D e4 f4 k4
     go_quiet (fail)
     obtain⟨m1,dN⟩:∃ n,n=nq:=⟨_,rfl⟩;subst dN;go_wp2
     go_quiet (fail)
     obtain⟨m2,dG⟩:∃ n,n=nq:=⟨_,rfl⟩;subst dG;obtain⟨w8,dM⟩:=eI ((w7.drewN m1).drewN m2);have bS:=(eR.o.drewN m1).drewN m2;rw[← dM] at bS;rw[← dM];have d5:=bS.cell (v:=.slice a3 k c3) 4 1 rfl rfl;have cU:=qh bS;clear bS;clear e0 e1 v5 v6 B p0 p1 dM;rcases bX.o with rfl|rfl<;>cases ea<;>cases eb
     all_goals first
      |
       have hR:Zba f a b x=false:=cA.o.trans ((eG.o _ _).symm.trans (by decide))
       have aJ:=cU.o.alloc_ (.cells #[.bool false] 4);have dD:=qh (aJ.row 6 rfl);have dP:=qh hR;clear hR;have aG:=qh aJ;clear aJ;go_wp2_with (at_builtin;refine wpList_append_lies _ rfl _ _ _ rfl _ 4 k0 (.bool false) 1 1 Tryz.underlying42 eY.o cJ.o cK.o cP.o rfl (by omega) _ k _ rfl dD.o ⟨w8.heap.size,0,none⟩ 1 1 [.bool false] rfl rfl (World.news_of_block (heap_alloc_new w8 _)) Zc3 (by omega) (by unfold maxLen;omega) (by omega) aG.o.size _ rfl ?_;intro g9 c9 w9 X N aF bQ;have aK:=qh (aG.o.app 6 rfl X N aF);have z1:=aK.o.cell (v:=.slice a3 k c3) 4 1 rfl rfl;have z2:=aK.o.fr 4 1 rfl;clear X N aF bQ);go_roundw
       case rel =>refine⟨k+1,n1,E,c6,c9,some ⟨g6,0,none⟩,some ⟨g9,0,none⟩,vs1,vs2++[.slice (some ⟨b5,0,none⟩) 3 U],by go_num,rfl,by rw[P.o,l.o],by rw[P.o,← l.o];exact aZ,by omega,by rw[P.o,← l.o];have:=aV.o;omega,?_⟩;rw[P.o,← l.o,cW.o,Zkl,Zkk,dP.o];exact(aK.o.set 4 rfl 1 (.slice (some ⟨g9,0,none⟩) (k+1) c9)).pick [0,1,2,3,4,5,6] (by decide)
       case measure=>simp[intOf];omega
      |
       have hR:Zba f a b x=true:=cA.o.trans ((eG.o _ _).symm.trans (by decide))
       have aJ:=cU.o.alloc_ (.cells #[.bool true] 4);have dD:=qh (aJ.row 6 rfl);have dP:=qh hR;clear hR;have aG:=qh aJ;clear aJ;go_wp2_with (at_builtin;refine wpList_append_lies _ rfl _ _ _ rfl _ 4 k0 (.bool false) 1 1 Tryz.underlying42 eY.o cJ.o cK.o cP.o rfl (by omega) _ k _ rfl dD.o ⟨w8.heap.size,0,none⟩ 1 1 [.bool true] rfl rfl (World.news_of_block (heap_alloc_new w8 _)) Zc3 (by omega) (by unfold maxLen;omega) (by omega) aG.o.size _ rfl ?_;intro g9 c9 w9 X N aF bQ;have aK:=qh (aG.o.app 6 rfl X N aF);have z1:=aK.o.cell (v:=.slice a3 k c3) 4 1 rfl rfl;have z2:=aK.o.fr 4 1 rfl;clear X N aF bQ);go_roundw
       case rel =>refine⟨k+1,n1,E,c6,c9,some ⟨g6,0,none⟩,some ⟨g9,0,none⟩,vs1,vs2++[.slice (some ⟨b5,0,none⟩) 3 U],by go_num,rfl,by rw[P.o,l.o],by rw[P.o,← l.o];exact aZ,by omega,by rw[P.o,← l.o];have:=aV.o;omega,?_⟩;rw[P.o,← l.o,cW.o,Zkl,Zkk,dP.o];exact(aK.o.set 4 rfl 1 (.slice (some ⟨g9,0,none⟩) (k+1) c9)).pick [0,1,2,3,4,5,6] (by decide)
       case measure=>simp[intOf];omega
   have eQ:((S.met.length:Int)>40):=by omega
   have hlt2:(k:Int)<S.met.length:=by omega
   have cO:¬ ((metP a b K).length≤K):=by have h:=(ZdY (nx:=Zan a b) (a:=(0,0)) eU).1.length_le;rw[← I.o] at h;unfold metP;omega
   have f0:=O.o.fr 2 0 rfl;have f1:=O.o.fr 2 1 rfl;have q0:=O.o.cell (v:=.slice none 0 0) 2 0 rfl rfl;have q1:=O.o.cell (v:=.slice none 0 0) 2 1 rfl rfl;have dJ:=qh cO;clear cO;go_wp2;have hq:=(O.o.set 2 rfl 0 (.slice none 0 0)).set 2 rfl 1 (.slice none 0 0);have q0:=hq.cell (v:=.slice none 0 0) 2 0 rfl rfl;have q1:=hq.cell (v:=.slice none 0 0) 2 1 rfl rfl;refine bodyPost_ret (v:=.tuple #[.agg #[.slice none 0 0,.slice none 0 0],.bool false]) (by simp[results,Tryz.results85,go_sem,q0,q1]) rfl ?_;unfold ZbV;rw[if_neg dJ.o];exact⟨none,0,none,0,rfl,Zdb _ _,hq.bel⟩
  have aZ:k=S.met.length:=by omega
  have cR:metP a b K=S.met:=by have h:=Zbc (nx:=Zan a b) (a:=(0,0)) (k:=k) (m:=K) (by rw[← I.o];omega) eU;unfold metP;rw[h,← I.o]
  have gO:(S.met.length:Int)≤40:=by omega
  have d0:=O.o.cell (v:=.slice a2 k c2) 4 0 rfl rfl;have d1:=O.o.cell (v:=.slice a3 k c3) 4 1 rfl rfl;have f0:=O.o.fr 2 0 rfl;have f1:=O.o.fr 2 1 rfl;have q0:=O.o.cell (v:=.slice none 0 0) 2 0 rfl rfl;have q1:=O.o.cell (v:=.slice none 0 0) 2 1 rfl rfl;have hA:¬ ((k:Int)<S.met.length):=by omega
  have bA:=qh aZ;clear aZ;have bM:=qh cR;clear cR;go_wp2;have hq:=(O.o.set 2 rfl 0 (.slice a2 k c2)).set 2 rfl 1 (.slice a3 k c3);have q0:=hq.cell (v:=.slice a2 k c2) 2 0 rfl rfl;have q1:=hq.cell (v:=.slice a3 k c3) 2 1 rfl rfl;refine bodyPost_ret (v:=.tuple #[.agg #[.slice a2 k c2,.slice a3 k c3],.bool true]) (by simp[results,Tryz.results85,go_sem,q0,q1]) rfl ?_;unfold ZbV;rw[bM.o,if_pos (by have:=bA.o;omega)];have hN:(Zar (Zan a b) (Zba f a b) S.met).next.length=k∧(Zar (Zan a b) (Zba f a b) S.met).ends.length=k:=by rw[ZaW,bA.o];exact⟨rfl,by simp[Zar]⟩
  refine⟨a2,c2,a3,c3,?_,?_,hq.bel⟩
  ·rw[w_8,hN.1,hN.2];rfl
  rw[w_8,hN.1,hN.2];have ht:S.met.take k=S.met:=List.take_of_length_le (by have:=bA.o;omega);rw[ht,show F=S.met from hF.o.trans bM.o] at hq;exact⟨_,_,rfl,(hq.intSS 5 rfl).intSS,Za8 (hq.row 6 rfl)⟩
end Go.Proofs.YtncekbbhgipdlaaGreat
