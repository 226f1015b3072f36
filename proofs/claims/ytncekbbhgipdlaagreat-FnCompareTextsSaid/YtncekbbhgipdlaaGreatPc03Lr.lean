/-
  The walk over the reference's list of sets of states that are met: l9Subsets.
  Conditions: there are m states, at most 40; moves, first and last states lie below; the automaton reads as such.
-/
import Derived.Test.YtncekbbhgipdlaaGreatPc02Det
set_option maxHeartbeats 8000000
set_option maxRecDepth 100000
namespace Go.Proofs.YtncekbbhgipdlaaGreat
open Go.RowKit Go.Maps
theorem Tryz.infoBools:(Tryz.prog.info? 42).map (fun i=>(i.zero,i.size,i.bytes))=some (some (.slice none 0 0),1,24):=by kernel_rfl
def flc (m:Nat) (x:Int × Int):List Bool:=flags m x.1.toNat
def isM (m:Nat) (x:Int × Int):Prop:=∃ v:Nat,v<2 ^ m∧x=((v:Int),0)
theorem ZjC (m:Nat) (x:Int × Int):(flc m x).length=m:=ZhJ _ _
theorem Zpg {m:Nat} {x y:Int × Int} (hx:isM m x) (hy:isM m y) (h:flc m x=flc m y):x=y:=by obtain⟨v,B,rfl⟩:=hx;obtain⟨u,hu,rfl⟩:=hy;have:v=u:=Zph B hu (by simpa [flc] using h);rw[this]
theorem Zpk {m:Nat} {S:List (Int × Int)} {x:Int × Int} (hS:∀ y∈S,isM m y) (hx:isM m x):ZjD (S.map (flc m)) (flc m x)=if x∈S then(Zam S x:Int) else -1:=by
 have hmem:flc m x∈S.map (flc m)↔x∈S:=by
  constructor
  ·intro h;obtain⟨y,hy,e⟩:=List.mem_map.1 h;rw[← Zpg (hS y hy) hx e];exact hy
  exact fun h=>List.mem_map.2 ⟨x,h,rfl⟩
 by_cases h:x∈S
 ·rw[if_pos h];have hk:=ZaV h;refine Zmm (by simpa using hk) ?_ ?_
  ·rw[← List.map_take];intro hc;obtain⟨y,hy,e⟩:=List.mem_map.1 hc;have B:=Zpg (hS y (List.mem_of_mem_take hy)) hx e;subst B;have hp:=Zbe (List.take_prefix (Zam S y) S) hy;have:=ZaV hy;rw[List.length_take] at this;omega
  have:=ZjA h x;simp only[List.getD_eq_getElem?_getD,List.getElem?_map];rw[List.getElem?_eq_getElem hk];simp only[Option.map_some,w_8];congr 1;simpa [hk] using this
 rw[if_neg h];exact ZiK fun hc=>h (hmem.1 hc)
def nxSM (M:Nat) (n:NfaD) (x:Int × Int) (c:Nat):Int × Int:=((stV M n.moves x.1.toNat (c:Int):Nat),0)
def Zpe (M:Nat) (n:NfaD):Nat:=clV M n.moves (setV n.firsts)
abbrev metSM (M:Nat) (n:NfaD) (K:Nat):List (Int × Int):=(bat (nxSM M n) (((Zpe M n:Nat):Int),0) K).met
theorem Zoq {M:Nat} {n:NfaD} {m:Nat} (B:mvIn m n.moves) (x:Int × Int) (c:Nat):isM m (nxSM M n x c) :=
 ⟨_,ZdS B (Zca _ (fun v=>v<2 ^ m) (fun _ _ hm C=>ZcP B hm C) (Nat.two_pow_pos m)) M,rfl⟩
theorem Zr3 {M:Nat} {n:NfaD} {m:Nat} (B:mvIn m n.moves) (hf:inN m n.firsts):isM m (((Zpe M n:Nat):Int),0):=⟨_,ZdS B (ZdC hf) M,rfl⟩
def Zsh (M:Nat) (n:NfaD) (m K:Nat) (w:World) (e:Ending) (w':World):Prop :=
 ∃ a1 c1 a2 c2 l1 l2,e = .returned (.tuple #[.slice a1 l1 c1,.slice a2 l2 c2])∧l1<1000000 ∧
  (if (metSM M n K).length≤K then l1=(metSM M n K).length∧∃ vs1 vs2,St w w' [Ent.rows 42 4 (.slice a1 l1 c1) vs1 (((metSM M n K).map (flc m)).map boolCells),Ent.rows 38 3 (.slice a2 l2 c2) vs2 (((metSM M n K).map (Zai (nxSM M n) (metSM M n K))).map intCells)]
   else K<l1∧Below w.heap.size w w')
theorem ZmB {α:Type} [DecidableEq α] (nx:α→Nat→α) (x:α) (wd:List Nat) (s:Bs α):∀ n,(brow nx x wd s n).met.length≤s.met.length+n
 | 0=>Nat.le_refl _
 | n+1=>by
  have B:=ZmB nx x wd s n;show(bvisit nx x wd (brow nx x wd s n) n).met.length≤_;unfold bvisit
  split
  ·omega
  simp;omega
theorem ZfB {α:Type} [DecidableEq α] (nx:α→Nat→α) (a:α) (k n:Nat):(bpart nx a k n).met.length≤(bat nx a k).met.length+n:=ZmB _ _ _ _ _
theorem ZcF {α β γ:Type} (f:α→β) (g:β→γ) (l:List α):((l.map f).map g).length=l.length:=by simp
theorem Zhl {nx:Int × Int→Nat→Int × Int} {F:List (Int × Int)} {x:Int × Int} {n:Nat} (hn:n<3):(Zai nx F x).take (n+1)=(Zai nx F x).take n++[(Zam F (nx x n):Int)]:=by rw[List.take_succ_eq_append_getElem (by simp[Zai];omega)];simp[Zai]
theorem ZcT {a:Option Addr} {l c:Nat}:∀ u∈[Value.slice a l c],u.oneCell'=true:=by intro u hu;simp only[List.mem_singleton] at hu;subst hu;rfl
theorem Zh5 (M:Nat) (hM:M≤1000) (m K:Nat) (mvs:List (Int × Int × Int)) (fs es:List Int) (v1 v2 v3:Value) (w:World) (hm:m≤M) (hK0:0<K) (fE:K≤1000) (dK:mvIn m mvs) (dQ:mvs.length≤1000000) (hf:inN m fs) (dA:fs.length≤1000000) (h1:Moves 0 w v1 mvs) (h2:Ints 0 w v2 fs) :
  Calls Tryz.prog 156 #[.agg #[.int .i64 (m:Int),v1,v2,v3],.int .i64 (K:Nat)] w fun e w'=>Zsh M ⟨(m:Int),mvs,fs,es⟩ m K w e w':=by
 obtain⟨n,hn⟩:∃ n:NfaD,n=⟨(m:Int),mvs,fs,es⟩:=⟨_,rfl⟩;rw[← hn];have cV:n.moves=mvs:=by rw[hn]
 have cM:n.firsts=fs:=by rw[hn]
 obtain⟨W,hW⟩:=eI (w.alloc (.cells #[.int .i64 (m:Int),v1,v2,v3] 81));have N:St w W [Ent.box w.heap.size #[.int .i64 (m:Int),v1,v2,v3] 81]:=by rw[hW];exact(St.start w).alloc _ rfl _ _
 have c0:=N.cell (v:=.int .i64 (m:Int)) 0 0 rfl rfl;have c1:=N.cell (v:=v1) 0 1 rfl rfl;have c2:=N.cell (v:=v2) 0 2 rfl rfl;have c3:=N.cell (v:=v3) 0 3 rfl rfl;have P:=(N.boxlt 0 rfl).2;have Hk:=qh (fun (w':World) (h:Below W.drew.heap.size W.drew w')=>(show w'.cell? ⟨w.heap.size,0,none⟩=some (.int .i64 (m:Int))∧w'.cell? ⟨w.heap.size,1,none⟩=some v1∧w'.cell? ⟨w.heap.size,2,none⟩=some v2∧w'.cell? ⟨w.heap.size,3,none⟩=some v3 from⟨(bcell h _ _ P).trans c0,(bcell h _ _ P).trans c1,(bcell h _ _ P).trans c2,(bcell h _ _ P).trans c3⟩));have H1:=qh (h1.below N.bel.drew);have H2:=qh (h2.below N.bel.drew);have bE:clV M mvs (setV fs)=Zpe M n:=by rw[hn];rfl
 obtain⟨i0,hi,eA,eC,dZ⟩:=info_parts Tryz.infoInt;obtain⟨j0,hj,cZ,cH,cQ⟩:=info_parts Tryz.infoInts;obtain⟨k0,hk,dX,dU,dH⟩:=info_parts Tryz.infoBools;have eG:=qh h1;replace hn:=qh hn;have g:=qh cV;clear cV;have dF:=qh cM;clear cM;replace N:=qh N;have U:=qh dK;clear dK;have bS:=qh dQ;clear dQ;have bW:=qh hf;clear hf;have dJ:=qh dA;clear dA;have bZ:=qh bE;clear bE;have dS:=qh hi;clear hi;have bN:=qh eA;clear eA;have bH:=qh eC;clear eC;have bG:=qh dZ;clear dZ;have eR:=qh hj;clear hj;have cG:=qh cZ;clear cZ;have eE:=qh cH;clear cH;have dP:=qh cQ;clear cQ;have eQ:=qh hk;clear hk;have cY:=qh dX;clear dX;have dD:=qh dU;clear dU;have cX:=qh dH;clear dH;have HW:=qh hW;clear hW h1 h2
 go_enter Tryz.func156, Tryz.ntmps156
 go_wp2_with fail;rw[← HW.o]
 go_region_held3 (fun w'=>w'.cell? ⟨w.heap.size,0,none⟩=some (.int .i64 (m:Int))∧w'.cell? ⟨w.heap.size,1,none⟩=some v1∧w'.cell? ⟨w.heap.size,2,none⟩=some v2∧w'.cell? ⟨w.heap.size,3,none⟩=some v3)
  (first|go_keep|exact Hk.o _ O|exact Hk.o _ dV)
  (first
   | (go_at_call 166;(with_reducible refine(Zkq fs m _ _ (by omega) bW.o dJ.o H2.o).mono ?_);rintro e u0 ⟨⟨g0,d0,rfl,hr0⟩,O⟩)
   | (go_at_call 165;(with_reducible refine(Zge M hM ⟨(m:Int),mvs,fs,es⟩ m (setV fs) v1 v2 v3 _ _ hm U.o bS.o (ZdC bW.o) (H1.o.below O) (FlagsAt.of hr0)).mono ?_);rintro e u1 ⟨⟨g1,d1,rfl,dM⟩,hb1⟩;have dV:=O.trans (hb1.mono O.size)))
 have cW:=((N.o.drew).call O).made hb1 dM;have dT:=((cW.alloc _ rfl #[.slice (some ⟨g1,0,none⟩) m d1] 42).boxrow 2 1 1 [.slice (some ⟨g1,0,none⟩) m d1] rfl rfl (by unfold maxLen;omega)).onerow 2 1 (by decide) rfl rfl;have cU:=(((dT.pick [0,2] (by decide)).alloc (u1.heap.size+1) (by simp) #[] 38).boxrow 2 0 1 [] rfl rfl (Nat.zero_le _)).norows 2 rfl 3;have dG:=qh cU;clear cU;clear cW dT O dV hb1 hr0 dM c0 c1 c2 c3 P;obtain⟨F,hF⟩:=eI (metSM M n K);obtain⟨a0,aZ⟩:=eI (((((Zpe M n:Nat):Int),0):Int × Int));have bV:F=(bat (nxSM M n) a0 K).met:=by rw[hF,aZ]
 have dR:=qh (fun k=>ZbA (nx:=nxSM M n) (a:=a0) (Q:=isM m) (by rw[aZ];exact Zr3 (by rw[g.o];exact U.o) (by rw[dF.o];exact bW.o)) (fun x c _ _=>Zoq (by rw[g.o];exact U.o) x c) k);have bK:F=(bat (nxSM M n) a0 K).met:=bV;replace hF:=qh hF;have eV:=qh bV;clear bV;have cA:=qh bK;clear bK;have aJ:=qh aZ;clear aZ;go_wp2
 go_loopw [6,7,8] (fun vs vn i wr=>∃ (k:Nat) (b1 C b2 aC:Nat) (vs1 vs2:List Value),i = .int .i64 k∧vs = .slice (some ⟨b1,0,none⟩) (bat (nxSM M n) a0 k).met.length C∧vn = .slice (some ⟨b2,0,none⟩) k aC∧k≤(bat (nxSM M n) a0 k).met.length∧k≤K∧(bat (nxSM M n) a0 k).met.length≤K+3 ∧
   St w wr [Ent.box w.heap.size #[.int .i64 (m:Int),v1,v2,v3] 81,Ent.rows 42 4 (.slice (some ⟨b1,0,none⟩) (bat (nxSM M n) a0 k).met.length C) vs1 (((bat (nxSM M n) a0 k).met.map (flc m)).map boolCells),
    Ent.rows 38 3 (.slice (some ⟨b2,0,none⟩) k aC) vs2 ((((bat (nxSM M n) a0 k).met.take k).map (Zai (nxSM M n) F)).map intCells)])
  (fun _ _ i _=>K-(intOf i).toNat)
 case atStart =>
  refine⟨0,_,_,_,_,[.slice (some ⟨g1,0,none⟩) m d1],[],rfl,rfl,rfl,by simp,by omega,by simp[bat],?_⟩;have e1:((bat (nxSM M n) a0 0).met.map (flc m)).map boolCells=[boolCells (flags m (clV M mvs (setV fs)))]:=by simp[bat,aJ.o,flc,bZ.o]
  rw[e1];exact dG.o
 case round =>
  obtain⟨k,b1,C,b2,aC,vs1,vs2,rfl,rfl,rfl,hk,dC,eO,hS⟩:=hrel;obtain⟨S,aY⟩:=eI (bat (nxSM M n) a0 k);have hR:=dR.o k;rw[← aY] at hk eO hS hR;rw[← aY];obtain⟨wo,eN⟩:∃ wo:World,wo=wr:=⟨_,rfl⟩;subst eN;have bT:=qh hS;clear hS;have E:=qh aY;clear aY;have s:=qh hR;clear hR;by_cases hlt:k<S.met.length
  ·by_cases hle:S.met.length≤K
   ·have hlt2:(k:Int)<S.met.length:=by omega
    have cK:(S.met.length:Int)≤K:=by omega
    have dE:=(bT.o.alloc _ rfl #[] 3).boxrow 3 0 1 [] rfl rfl (Nat.zero_le _);obtain⟨x,hx⟩:=eI (S.met.getD k a0);have cL:isM m x:=by rw[hx];exact s.o _ (memD hlt)
    have cT:k<(bat (nxSM M n) a0 k).met.length:=by rw[← E.o];exact hlt
    have dW:(bat (nxSM M n) a0 k).met.getD k a0=x:=by rw[← E.o];exact hx.symm
    have cO:=qh dE;clear dE;have cF:=qh hx;clear hx;have eS:=qh cL;clear cL;have aB:=qh cT;clear cT;have dB:=qh dW;clear dW;go_wp2
    go_loopw [6,9,10] (fun vs rv i wi=>∃ (c:Nat) (b1 C b3 R:Nat) (vs1:List Value),i = .int .i64 c∧vs = .slice (some ⟨b1,0,none⟩) (bpart (nxSM M n) a0 k c).met.length C∧rv = .slice (some ⟨b3,0,none⟩) c R∧c≤3 ∧
      St w wi [Ent.box w.heap.size #[.int .i64 (m:Int),v1,v2,v3] 81,Ent.rows 42 4 (.slice (some ⟨b1,0,none⟩) (bpart (nxSM M n) a0 k c).met.length C) vs1 (((bpart (nxSM M n) a0 k c).met.map (flc m)).map boolCells),
       Ent.rows 38 3 (.slice (some ⟨b2,0,none⟩) k aC) vs2 (((S.met.take k).map (Zai (nxSM M n) F)).map intCells),Ent.row 3 1 (.slice (some ⟨b3,0,none⟩) c R) c (intCells ((Zai (nxSM M n) F x).take c))])
     (fun _ _ i _=>3-(intOf i).toNat)
    case atStart =>refine⟨0,b1,C,_,_,vs1,rfl,by rw[Zap,← E.o],rfl,by omega,?_⟩;rw[Zap,← E.o];exact cO.o
    case round =>
     obtain⟨c,b1,C,b3,R,vs1,rfl,rfl,rfl,hc3,H⟩:=hrel;obtain⟨wp,eH⟩:∃ wp:World,wp=wr:=⟨_,rfl⟩;subst eH;by_cases hc:c<3
     ·have aX:=ZfB (nxSM M n) a0 k c;have X:=ZkO (nx:=nxSM M n) (a:=a0) (Q:=isM m) (by have:=dR.o 0;exact this a0 (by simp[bat])) (fun x c _ _=>Zoq (by rw[g.o];exact U.o) x c) aB.o (show c≤3 by omega);have aO:=Zbp (nx:=nxSM M n) (a:=a0) (k:=k) (n:=c);have aQ:=Zbi (nx:=nxSM M n) (a:=a0) (k:=k) (n:=c);have G:=Za7 (nx:=nxSM M n) (a:=a0) (k:=k) (Nat.zero_le c);have aF:=ZaF (nx:=nxSM M n) (a:=a0) (m:=K) aB.o (show c≤3 by omega) (show k<K by omega);have V:=ZaF (nx:=nxSM M n) (a:=a0) (m:=K) aB.o (show c+1≤3 by omega) (show k<K by omega);rw[Zap,← E.o] at G;rw[dB.o] at aO aQ;rw[← E.o] at aX;replace aF:=aF.1;replace V:=V.1;replace G:=G.1;rw[← cA.o] at aF V;obtain⟨y,hy⟩:=eI (nxSM M n x c);have bX:isM m y:=by rw[hy];exact Zoq (by rw[g.o];exact U.o) x c
      have cE:flags m (stV M mvs x.1.toNat (c:Int))=flc m y:=by rw[hy,← g.o];rfl
      have Z:y∈(bpart (nxSM M n) a0 k c).met→(bpart (nxSM M n) a0 k (c+1)).met=(bpart (nxSM M n) a0 k c).met:=fun h=>by rw[aO (by rw[← hy];exact h)]
      have b:y ∉ (bpart (nxSM M n) a0 k c).met→(bpart (nxSM M n) a0 k (c+1)).met=(bpart (nxSM M n) a0 k c).met++[y]:=fun h=>by rw[aQ (by rw[← hy];exact h),← hy]
      clear aO aQ;obtain⟨T1,cD⟩:=eI ((bpart (nxSM M n) a0 k (c+1)).met);obtain⟨T,hT⟩:=eI ((bpart (nxSM M n) a0 k c).met);rw[← hT] at H aX X aF G Z b;rw[← cD] at V Z b;rw[← hT];have eD:k<T.length:=Nat.lt_of_lt_of_le hlt G.length_le;have bY:T.getD k a0=x:=(Zas G hlt _).trans cF.o.symm;have aK:=Zpk X bX;have aS:=Zhl (nx:=nxSM M n) (F:=F) (x:=x) hc;rw[← hy] at aS;have l:((T.map (flc m)).map boolCells).length=T.length:=ZcF _ _ _;have cR:((T.map (flc m)).map boolCells).getD k []=boolCells (flc m x):=by rw[← bY];simp[eD]
      obtain⟨ax,cx,Y,aW,bM,eZ,eT,eY,cI⟩:=H.rowAt 1 rfl l eD;rw[cR] at Y aW bM;have cN:(boolCells (flc m x)).length=m:=by simp[ZjC]
      rw[cN] at Y aW bM;have cS:=ZkP aW;have e0:=H.cell (v:=.int .i64 (m:Int)) 0 0 rfl rfl;have e1:=H.cell (v:=v1) 0 1 rfl rfl;have e2:=H.cell (v:=v2) 0 2 rfl rfl;have e3:=H.cell (v:=v3) 0 3 rfl rfl;have P:=(H.boxlt 0 rfl).2;have eP:=qh (fun (w':World) (h:Below wp.drew.heap.size wp.drew w')=>(show w'.cell? ⟨w.heap.size,0,none⟩=some (.int .i64 (m:Int))∧w'.cell? ⟨w.heap.size,1,none⟩=some v1∧w'.cell? ⟨w.heap.size,2,none⟩=some v2∧w'.cell? ⟨w.heap.size,3,none⟩=some v3∧w'.cell? ⟨b1,k,none⟩=some (.slice ax m cx) from⟨(bcell h _ _ P).trans e0,(bcell h _ _ P).trans e1,(bcell h _ _ P).trans e2,(bcell h _ _ P).trans e3,(bcell h _ _ cI).trans Y⟩));have eM:=qh (eG.o.below H.bel.drew);have eL:=qh (cS.below (Below.refl _ _).drew);have fB:(k:Int)<T.length:=by omega
      have fF:(c:Int)<3:=by omega
      have fD:=qh hy;clear hy;have eU:=qh bX;clear bX;have dN:=qh cE;clear cE;have bC:=qh Z;clear Z;have bB:=qh b;clear b;have aE:=qh cD;clear cD;have fG:=qh hT;clear hT;have bI:=qh aX;clear aX;have eF:=qh X;clear X;have cP:=qh aF;clear aF;have cB:=qh V;clear V;have dY:=qh G;clear G;have fA:=qh bY;clear bY;have bD:=qh aK;clear aK;have aU:=qh aS;clear aS;have aD:=qh l;clear l;have bR:=qh H;clear H;clear cR aW cN cS;go_wp2
      go_region_held3 (fun w'=>w'.cell? ⟨w.heap.size,0,none⟩=some (.int .i64 (m:Int))∧w'.cell? ⟨w.heap.size,1,none⟩=some v1∧w'.cell? ⟨w.heap.size,2,none⟩=some v2∧w'.cell? ⟨w.heap.size,3,none⟩=some v3∧w'.cell? ⟨b1,k,none⟩=some (.slice ax m cx))
       (first|go_keep|exact eP.o _ O)
       (first
        | (go_at_call 167;(with_reducible refine(Zls M hM ⟨(m:Int),mvs,fs,es⟩ m x.1.toNat (c:Int) v1 v2 v3 _ _ rfl hm U.o bS.o eM.o eL.o).mono ?_);rintro e u2 ⟨⟨g2,d2,rfl,dO⟩,O⟩))
      have aV:=bR.o.drew.made O dO;rw[show flags m (stV M (NfaD.moves ⟨(m:Int),mvs,fs,es⟩) x.1.toNat (c:Int))=flc m y from dN.o] at aV;have d:=Zm4 (T.map (flc m)) (flc m y) m (.slice (some ⟨b1,0,none⟩) T.length C) (.slice (some ⟨g2,0,none⟩) m d2) u2 (by intro z hz;obtain⟨q,-,rfl⟩:=List.mem_map.1 hz;exact ZjC _ _) (ZjC _ _) (by rw[List.length_map];have:=bI.o;omega) (aV.boolSS 1 rfl) (aV.bools 4 rfl);rw[bD.o] at d;have bL:=qh aV;clear aV;clear Y e0 e1 e2 e3 O dO;by_cases hmem:y∈T
      ·rw[if_pos hmem] at d;obtain⟨p,hp⟩:=eI (Zam T y);have fI:p<T.length:=by rw[hp];exact ZaV hmem
       have aG:Zam F y=p:=(Zbe cP.o hmem).trans hp.symm;rw[← hp] at d;have bJ:=bC.o hmem;have fH:¬ ((p:Int)<0):=by omega
       have aR:=qh d;clear d;have fC:=qh hp;clear hp;have aI:=qh aG;clear aG;have aL:=qh bJ;clear bJ;go_wp2_with fail;refine aR.o.mono ?_;rintro e w2 ⟨rfl,hb2⟩;have L:=(bL.o.call hb2).alloc_ (.cells #[.int .i64 (p:Int)] 3);have hR:=L.row 3 rfl;have I:=qh L;clear L;have s:=qh hR;clear hR;clear hb2;go_wp2_with (at_builtin;refine wpList_append_lies _ rfl _ _ _ rfl _ 3 i0 (.int .i64 0) 1 8 Tryz.underlying38 dS.o bN.o bH.o bG.o rfl (by omega) _ c _ rfl s.o ⟨w2.heap.size,0,none⟩ 1 1 [.int .i64 (p:Int)] rfl rfl (World.news_of_block (heap_alloc_new w2 _)) ZbX (by omega) (by unfold maxLen;omega) (by omega) I.o.size _ rfl ?_;intro g6 c6 w6 D B J j;have r:=qh (I.o.app 3 rfl D B J);clear D B J j);go_roundw
       case rel =>refine⟨c+1,b1,C,_,_,vs1,by go_num,by rw[← aE.o,aL.o],rfl,by omega,?_⟩;rw[← aE.o,aL.o,aU.o,aI.o,Zaz];exact r.o.pick [0,1,2,3] (by decide)
       case measure=>simp[intOf];omega
      rw[if_neg hmem] at d;have aH:=bB.o hmem;have aG:Zam F y=T.length:=ZgO (by rw[← aH];exact cB.o) hmem;have eX:=bI.o;have aR:=qh d;clear d;have aI:=qh aG;clear aG;have aM:=qh aH;clear aH;go_wp2_with fail;refine aR.o.mono ?_;rintro e w2 ⟨rfl,hb2⟩;have L:=(bL.o.call hb2).alloc_ (.cells #[.slice (some ⟨g2,0,none⟩) m d2] 42);have hR:=(L.rows 1 rfl).1;rw[aD.o] at hR;have I:=qh L;clear L;have s:=qh hR;clear hR;clear hb2
      go_wp2_with (first
       | (at_builtin;refine wpList_append_lies _ rfl _ _ _ rfl _ 42 k0 (.slice none 0 0) 1 24 Tryz.underlying174 eQ.o cY.o dD.o cX.o rfl (by omega) _ T.length _ rfl s.o ⟨w2.heap.size,0,none⟩ 1 1 [.slice (some ⟨g2,0,none⟩) m d2] rfl rfl (World.news_of_block (heap_alloc_new w2 _)) ZcT (by omega) (by unfold maxLen;omega) (by omega) I.o.size _ rfl ?_;intro g6 c6 w6 D B J j;have r:=qh ((I.o.snoc 1 4 (by decide) rfl rfl (by decide) B (by rw[aD.o];exact D) (Zgh J)).alloc_ (.cells #[.int .i64 (T.length:Int)] 3));have eJ:=qh (r.o.row 3 rfl);clear D B J j)
       | (at_builtin;refine wpList_append_lies _ rfl _ _ _ rfl _ 3 i0 (.int .i64 0) 1 8 Tryz.underlying38 dS.o bN.o bH.o bG.o rfl (by omega) _ c _ rfl eJ.o ⟨w6.heap.size,0,none⟩ 1 1 [.int .i64 (T.length:Int)] rfl rfl (World.news_of_block (heap_alloc_new w6 _)) ZbX (by omega) (by unfold maxLen;omega) (by omega) r.o.size _ rfl ?_;intro g7 c7 w7 aT aA bO cJ;have eK:=qh (r.o.app 3 rfl aT aA bO);clear aT aA bO cJ))
      go_roundw
      case rel =>refine⟨c+1,g6,c6,g7,c7,vs1++[.slice (some ⟨g2,0,none⟩) m d2],by go_num,by rw[← aE.o,aM.o,List.length_append];rfl,rfl,by omega,?_⟩;rw[← aE.o,aM.o,aU.o,aI.o,Zaz,List.map_append,List.map_append,List.length_append];exact eK.o.pick [0,1,2,3] (by decide)
      case measure=>simp[intOf];omega
     obtain rfl:c=3:=by omega
     have dL:bat (nxSM M n) a0 (k+1)=bpart (nxSM M n) a0 k 3:=ZaP aB.o;have aN:=ZfB (nxSM M n) a0 k 3;have G:=(Za7 (nx:=nxSM M n) (a:=a0) (k:=k) (Nat.zero_le 3)).1;rw[Zap] at G;rw[← E.o] at aN G;have bA:k+1≤(bpart (nxSM M n) a0 k 3).met.length:=Nat.le_trans hlt G.length_le;have dI:(bpart (nxSM M n) a0 k 3).met.take (k+1)=S.met.take k++[x]:=by obtain⟨t,ht⟩:=G;rw[← ht,List.take_append_of_le_length (by omega),List.take_succ_eq_append_getElem hlt,cF.o];simp[hlt]
     have hn3:(Zai (nxSM M n) F x).take 3=Zai (nxSM M n) F x:=List.take_of_length_le (by simp[Zai]);have l:(((S.met.take k).map (Zai (nxSM M n) F)).map intCells).length=k:=by rw[ZcF,List.length_take];omega
     rw[hn3] at H;have L:=H.alloc_ (.cells #[.slice (some ⟨b3,0,none⟩) 3 R] 38);have hR:=(L.rows 2 rfl).1;rw[l] at hR;have u:=qh dL;clear dL;have bU:=qh aN;clear aN;have dY:=qh G;clear G;have eB:=qh dI;clear dI;have eW:=qh hn3;clear hn3;have aD:=qh l;clear l;have bR:=qh H;clear H;have I:=qh L;clear L;have s:=qh hR;clear hR;go_wp2_with (at_builtin;refine wpList_append_lies _ rfl _ _ _ rfl _ 38 j0 (.slice none 0 0) 1 24 Tryz.underlying41 eR.o cG.o eE.o dP.o rfl (by omega) _ k _ rfl s.o ⟨wp.heap.size,0,none⟩ 1 1 [.slice (some ⟨b3,0,none⟩) 3 R] rfl rfl (World.news_of_block (heap_alloc_new wp _)) ZcT (by omega) (by unfold maxLen;omega) (by omega) I.o.size _ rfl ?_;intro g6 c6 w6 D B J j;have r:=qh (I.o.snoc 2 3 (by decide) rfl rfl (by decide) B (by rw[aD.o];exact D) (Zgh J));clear D B J j);go_roundw
     case rel =>refine⟨k+1,b1,C,g6,c6,vs1,vs2++[.slice (some ⟨b3,0,none⟩) 3 R],by go_num,by rw[u.o],rfl,by rw[u.o];exact bA,by omega,by rw[u.o];have:=bU.o;omega,?_⟩;rw[u.o,eB.o,List.map_append,List.map_append];exact r.o.pick [0,1,2] (by decide)
     case measure=>simp[intOf];omega
   have hlt2:(k:Int)<S.met.length:=by omega
   have cK:¬ ((S.met.length:Int)≤K):=by omega
   have bF:¬ ((metSM M n K).length≤K):=by have h:=(ZdY (nx:=nxSM M n) (a:=a0) dC).1.length_le;rw[← E.o,aJ.o] at h;unfold metSM;omega
   have cC:=qh bF;clear bF;go_wp2
   go_ret2
   refine⟨_,_,_,_,_,_,rfl,by omega,?_⟩;rw[if_neg cC.o];exact⟨by omega,bT.o.bel⟩
  have bA:k=S.met.length:=by omega
  have bP:metSM M n K=S.met:=by have h:=Zbc (nx:=nxSM M n) (a:=a0) (k:=k) (m:=K) (by rw[← E.o];omega) dC;unfold metSM;rw[← aJ.o,h,← E.o]
  have bQ:=qh bA;clear bA;have aP:=qh bP;clear bP;go_wp2
  go_ret2
  refine⟨_,_,_,_,_,_,rfl,by omega,?_⟩;rw[aP.o,if_pos (by have:=bQ.o;omega)];refine⟨rfl,vs1,vs2,?_⟩;have h:=bT.o.pick [1,2] (by decide);have h2:=bQ.o;subst h2;rw[List.take_length,hF.o,aP.o] at h;exact h
def RDetSM (M:Nat) (n:NfaD) (K B:Nat) (e:Ending) (w':World):Prop :=
 if (metSM M n K).length≤K then
  ∃ a1 l1 c1 a2 l2 c2,e = .returned (.tuple #[.agg #[.slice a1 l1 c1,.slice a2 l2 c2],.bool true])∧DfaR B w' (.agg #[.slice a1 l1 c1,.slice a2 l2 c2]) (Zar (nxSM M n) (enS n) (metSM M n K))
 else e = .returned (.tuple #[.agg #[.slice none 0 0,.slice none 0 0],.bool false])
theorem Zhw (M:Nat) (E:M≤1000) (m K:Nat) (F:K=40) (mvs:List (Int × Int × Int)) (fs es:List Int) (v1 v2 v3:Value) (w:World) (hm:m≤M) (B:mvIn m mvs) (D:mvs.length≤1000000) (hf:inN m fs) (C:fs.length≤1000000) (h1:Moves 0 w v1 mvs) (h2:Ints 0 w v2 fs) :
  Calls Tryz.prog 156 #[.agg #[.int .i64 (m:Int),v1,v2,v3],.int .i64 40] w fun e w'=>Zsh M ⟨(m:Int),mvs,fs,es⟩ m K w e w':=by
 have h:=Zh5 M E m K mvs fs es v1 v2 v3 w hm (by omega) (by omega) B D hf C h1 h2;have e:((K:Nat):Int)=40:=by omega
 rw[e] at h;exact h
theorem St.rowsform {w0 w:World} {L:List Ent} (h:St w0 w L) (i:Nat) {es e n c:Nat} {a:Option Addr} {vs:List Value} {css:List (List Value)} (hx:L[i]? = some (Ent.rows es e (.slice a n c) vs css)) (hn:0<css.length):∃ g,a=some ⟨g,0,none⟩∧n=css.length:=by obtain⟨g,cap,B,-,-⟩:=(h.rows i hx).1.form hn;simp only[Value.slice.injEq] at B;exact⟨g,B.1,B.2.1⟩
theorem Zc3 {x:Bool}:∀ u∈[Value.bool x],u.oneCell'=true:=by intro u hu;simp only[List.mem_singleton] at hu;subst hu;rfl
theorem ZbO (l:List Bool) (x:Bool):boolCells (l++[x])=boolCells l++[.bool x]:=by simp[boolCells]
theorem ZjT {l:List Int} {p:Int→Bool} {j:Nat} (hj:j<l.length):(l.take (j+1)).any p=((l.take j).any p||p (l.getD j 0)):=by rw[List.take_succ_eq_append_getElem hj,List.any_append];simp[hj]
theorem ZiC (M:Nat) (hM:M≤1000) (m K:Nat) (hK:K=40) (mvs:List (Int × Int × Int)) (fs es:List Int) (v1 v2 v3:Value) (w:World) (hm:m≤M) (bE:mvIn m mvs) (bJ:mvs.length≤1000000) (hf:inN m fs) (bG:fs.length≤1000000) (he:inN m es) (cA:es.length≤1000000) (h1:Moves 0 w v1 mvs) (h2:Ints 0 w v2 fs) (h3:Ints 0 w v3 es) :
  Calls Tryz.prog 126 #[.agg #[.int .i64 (m:Int),v1,v2,v3]] w fun e w'=>RDetSM M ⟨(m:Int),mvs,fs,es⟩ K w.heap.size e w'∧Below w.heap.size w w':=by
 obtain⟨a3,c3,rfl,hc3,cC,bC⟩:=h3.form;obtain⟨n,hn⟩:∃ n:NfaD,n=⟨(m:Int),mvs,fs,es⟩:=⟨_,rfl⟩;have aE:n.ends=es:=by rw[hn]
 have I:=((St.start w).alloc _ rfl #[.int .i64 (m:Int),v1,v2,.slice a3 es.length c3] 81).alloc (w.heap.size+1) (by simp) #[.slice none 0 0,.slice none 0 0] 44;have P:=Zhw M hM m K hK mvs fs es v1 v2 (.slice a3 es.length c3) _ hm bE bJ hf bG (h1.below I.bel) (h2.below I.bel);rw[← hn] at P;rw[← hn];obtain⟨i0,hi,aZ,bB,aY⟩:=info_parts Tryz.infoBool;have Y:=ZcZ (nx:=nxSM M n) (a:=(((Zpe M n:Nat):Int),0)) K;obtain⟨F,hF⟩:=eI (metSM M n K);have Q:0<F.length:=by rw[hF];exact Y
 have V:∀ B e w',RDetSM M n K B e w'=if F.length≤K then
  ∃ a1 l1 c1 a2 l2 c2,e = .returned (.tuple #[.agg #[.slice a1 l1 c1,.slice a2 l2 c2],.bool true])∧DfaR B w' (.agg #[.slice a1 l1 c1,.slice a2 l2 c2]) (Zar (nxSM M n) (enS n) F)
  else e = .returned (.tuple #[.agg #[.slice none 0 0,.slice none 0 0],.bool false]):=fun B e w'=>by rw[hF];rfl
 have aT:∀ e w',Zsh M n m K ((w.alloc (.cells #[.int .i64 (m:Int),v1,v2,.slice a3 es.length c3] 81)).alloc (.cells #[.slice none 0 0,.slice none 0 0] 44)) e w'→∃ a1 c1 a2 c2 l1 l2,e = .returned (.tuple #[.slice a1 l1 c1,.slice a2 l2 c2])∧l1<1000000 ∧
  (if F.length≤K then l1=F.length∧∃ vs1 vs2,St ((w.alloc (.cells #[.int .i64 (m:Int),v1,v2,.slice a3 es.length c3] 81)).alloc (.cells #[.slice none 0 0,.slice none 0 0] 44)) w' [Ent.rows 42 4 (.slice a1 l1 c1) vs1 ((F.map (flc m)).map boolCells),Ent.rows 38 3 (.slice a2 l2 c2) vs2 ((F.map (Zai (nxSM M n) F)).map intCells)]
   else K<l1∧Below ((w.alloc (.cells #[.int .i64 (m:Int),v1,v2,.slice a3 es.length c3] 81)).alloc (.cells #[.slice none 0 0,.slice none 0 0] 44)).heap.size ((w.alloc (.cells #[.int .i64 (m:Int),v1,v2,.slice a3 es.length c3] 81)).alloc (.cells #[.slice none 0 0,.slice none 0 0] 44)) w'):=fun e w' h=>by rw[hF];exact h
 have U:=qh V;have bM:=qh aT;have aD:=qh P;replace hn:=qh hn;have aB:=qh aE;clear aE;replace I:=qh I;have bO:=qh hi;clear hi;have aS:=qh aZ;clear aZ;have aG:=qh bB;clear bB;have aC:=qh aY;clear aY;replace hF:=qh hF;have aU:=qh bC;clear bC;have bF:=qh he;clear he;have aK:=qh hK;clear hK;clear h1 h2 h3 V aT P Y
 go_enter Tryz.func126, Tryz.ntmps126
 go_wp2_with fail;refine aD.o.mono ?_;rintro e w1 hr;obtain⟨a1,c1,a2,c2,l1,l2,rfl,bZ,hr⟩:=bM.o e w1 hr;by_cases hle:F.length≤K
 ·rw[if_pos hle] at hr;obtain⟨aO,vs1,vs2,aW⟩:=hr;have C:=I.o.cat aW;have O:((F.map (flc m)).map boolCells).length=F.length:=ZcF _ _ _;have G:((F.map (Zai (nxSM M n) F)).map intCells).length=F.length:=ZcF _ _ _;obtain⟨g1,rfl,-⟩:=C.rowsform 2 rfl (by rw[O];exact Q);obtain⟨g2,rfl,z⟩:=C.rowsform 3 rfl (by rw[G];exact Q);rw[G] at z;have aL:(l1:Int)≤40:=by have:=aK.o;omega
  have aX:=(C.alloc _ rfl #[.slice (some ⟨g2,0,none⟩) l2 c2,.slice none 0 0] 44).nilRow 4 1;have N:=qh aO;clear aO;have bV:=qh z;clear z;have r:=qh O;clear O;have bI:=qh G;clear G;have aI:=qh aX;clear aX;clear C aW;go_wp2
  go_loopw [7] (fun i wr=>∃ (k c:Nat) (a:Option Addr),i = .int .i64 k∧k≤l1∧St w wr [Ent.box w.heap.size #[.int .i64 (m:Int),v1,v2,.slice a3 es.length c3] 81,Ent.box (w.heap.size+1) #[.slice none 0 0,.slice none 0 0] 44,
    Ent.rows 42 4 (.slice (some ⟨g1,0,none⟩) l1 c1) vs1 ((F.map (flc m)).map boolCells),Ent.rows 38 3 (.slice (some ⟨g2,0,none⟩) l2 c2) vs2 ((F.map (Zai (nxSM M n) F)).map intCells),
    Ent.box w1.heap.size #[.slice (some ⟨g2,0,none⟩) l2 c2,.slice a k c] 44,Ent.row 4 1 (.slice a k c) k (boolCells ((F.take k).map (enS n)))])
   (fun i _=>l1-(intOf i).toNat)
  case atStart=>exact⟨0,0,none,rfl,Nat.zero_le _,aI.o⟩
  case round =>
   obtain⟨k,c,a,rfl,hk,hS⟩:=hrel;obtain⟨wo,bN⟩:∃ wo:World,wo=wr:=⟨_,rfl⟩;subst bN;have E:=qh hS;clear hS;by_cases hlt:k<l1
   ·have q:k<F.length:=by have:=N.o;omega
    obtain⟨x,hx⟩:=eI (F.getD k ((0,0):Int × Int));have aM:((F.map (flc m)).map boolCells).getD k []=boolCells (flc m x):=by rw[hx];simp[q]
    have hlt2:(k:Int)<l1:=by omega
    have bD:=qh hx;clear hx;have aN:=qh aM;clear aM;go_wp2
    go_loopw [8,9] (fun ev i wi=>∃ (j:Nat) (b:Bool),i = .int .i64 j∧ev = .bool b∧j≤es.length∧b=(es.take j).any (fun s=>x.1.toNat.testBit s.toNat)∧St w wi [Ent.box w.heap.size #[.int .i64 (m:Int),v1,v2,.slice a3 es.length c3] 81,Ent.box (w.heap.size+1) #[.slice none 0 0,.slice none 0 0] 44,
      Ent.rows 42 4 (.slice (some ⟨g1,0,none⟩) l1 c1) vs1 ((F.map (flc m)).map boolCells),Ent.rows 38 3 (.slice (some ⟨g2,0,none⟩) l2 c2) vs2 ((F.map (Zai (nxSM M n) F)).map intCells),
      Ent.box w1.heap.size #[.slice (some ⟨g2,0,none⟩) l2 c2,.slice a k c] 44,Ent.row 4 1 (.slice a k c) k (boolCells ((F.take k).map (enS n)))])
     (fun _ i _=>es.length-(intOf i).toNat)
    case atStart=>exact⟨0,false,rfl,rfl,Nat.zero_le _,by simp,E.o⟩
    case round =>
     obtain⟨j,b,rfl,rfl,hj,hb,D⟩:=hrel;have e3:=D.cell (v:=.slice a3 es.length c3) 0 3 rfl rfl;by_cases hjl:j<es.length
     ·obtain⟨b3,o3,rfl,-,aQ,g⟩:=aU.o (by omega);have bP:=(bcell D.bel b3 (o3+j) aQ).trans (g j hjl);obtain⟨s0,s1⟩:=bF.o _ (memD (d:=0) hjl);have hany:=ZjT (p:=fun s=>x.1.toNat.testBit s.toNat) hjl;obtain⟨s,hs⟩:=Int.eq_ofNat_of_zero_le s0;rw[hs] at bP s1 hany;have bL:s<m:=by omega
      obtain⟨ax,cx,L,J,Z,bX,bU,bW,bR⟩:=D.rowAt 2 rfl (r.o.trans N.o.symm) hlt;rw[aN.o] at L J Z;have aF:(boolCells (flc m x)).length=m:=by simp[ZjC]
      rw[aF] at L J Z;obtain⟨gx,cB,aP,-,-⟩:=J.form (by omega);simp only[Value.slice.injEq] at aP;obtain⟨rfl,-,rfl⟩:=aP;have aJ:=(J.cellAt s (by omega)).trans (Zeh bL);have bQ:(j:Int)<es.length:=by omega
      have bS:(s:Int)<m:=by omega
      have bY:=qh hs;clear hs;have y:=qh hb;clear hb;have R:=qh hany;clear hany;have T:=qh D;clear D;clear g J aF s0;cases b
      ·cases ht:x.1.toNat.testBit s
       all_goals
        rw[ht] at aJ;have bH:=qh ht;clear ht;go_wp2
        go_quiet (fail)
        go_wp2;go_roundw
        case rel =>refine⟨j+1,_,by go_num,rfl,by omega,?_,T.o.drewN _⟩;rw[R.o,← y.o,Int.toNat_natCast,bH.o];rfl
        case measure=>simp[intOf];omega
      go_wp2
      go_quiet (fail)
      go_wp2;go_roundw
      case rel =>refine⟨j+1,_,by go_num,rfl,by omega,?_,T.o.drewN _⟩;rw[R.o,← y.o];rfl
      case measure=>simp[intOf];omega
     obtain rfl:j=es.length:=by omega
     rw[List.take_length] at hb;have hen:enS n x=b:=by rw[hb,← aB.o];rfl
     have d1:=D.cell (v:=.slice a k c) 4 1 rfl rfl;have aA:=D.alloc_ (.cells #[.bool b] 4);have hR:=aA.row 5 rfl;have aV:(F.take (k+1)).map (enS n)=(F.take k).map (enS n)++[b]:=by rw[List.take_succ_eq_append_getElem q,List.map_append,← hen,bD.o];simp[q]
     have bT:=qh hen;clear hen;have y:=qh hb;clear hb;have bA:=qh aV;clear aV;have T:=qh D;clear D;have X:=qh aA;clear aA;have bK:=qh hR;clear hR;go_wp2_with (at_builtin;refine wpList_append_lies _ rfl _ _ _ rfl _ 4 i0 (.bool false) 1 1 Tryz.underlying42 bO.o aS.o aG.o aC.o rfl (by omega) _ k _ rfl bK.o ⟨wr.heap.size,0,none⟩ 1 1 [.bool b] rfl rfl (World.news_of_block (heap_alloc_new wr _)) Zc3 (by omega) (by unfold maxLen;omega) (by omega) X.o.size _ rfl ?_;intro g6 c6 w6 S H l aR;have u:=qh (X.o.app 5 rfl S H l);have y1:=u.o.cell (v:=.slice a k c) 4 1 rfl rfl;have y2:=u.o.fr 4 1 rfl;clear S H l aR);go_roundw
     case rel =>refine⟨k+1,c6,some ⟨g6,0,none⟩,by go_num,by omega,?_⟩;rw[bA.o,ZbO];exact u.o.set 4 rfl 1 (.slice (some ⟨g6,0,none⟩) (k+1) c6)
     case measure=>simp[intOf];omega
   obtain rfl:k=l1:=by omega
   have d0:=E.o.cell (v:=.slice (some ⟨g2,0,none⟩) l2 c2) 4 0 rfl rfl;have d1:=E.o.cell (v:=.slice a k c) 4 1 rfl rfl;have f0:=E.o.fr 1 0 rfl;have f1:=E.o.fr 1 1 rfl;have k0:=E.o.cell (v:=.slice none 0 0) 1 0 rfl rfl;have k1:=E.o.cell (v:=.slice none 0 0) 1 1 rfl rfl;go_wp2;have hq:=(E.o.set 1 rfl 0 (.slice (some ⟨g2,0,none⟩) l2 c2)).set 1 rfl 1 (.slice a k c);have q0:=hq.cell (v:=.slice (some ⟨g2,0,none⟩) l2 c2) 1 0 rfl rfl;have q1:=hq.cell (v:=.slice a k c) 1 1 rfl rfl;refine bodyPost_ret (v:=.tuple #[.agg #[.slice (some ⟨g2,0,none⟩) l2 c2,.slice a k c],.bool true]) (by simp[results,Tryz.results126,go_sem,q0,q1]) rfl ⟨?_,hq.bel⟩;rw[U.o,if_pos hle];refine⟨_,_,_,_,_,_,rfl,_,_,rfl,(hq.intSS 3 rfl).intSS,?_⟩;have hb:=Za8 (hq.row 5 rfl);rw[List.take_of_length_le (by have:=N.o;omega)] at hb;exact hb
 rw[if_neg hle] at hr;have aL:(l1:Int)>40:=by have:=aK.o;omega
 have C:=I.o.call hr.2;have f0:=C.fr 1 0 rfl;have f1:=C.fr 1 1 rfl;have k0:=C.cell (v:=.slice none 0 0) 1 0 rfl rfl;have k1:=C.cell (v:=.slice none 0 0) 1 1 rfl rfl;have aH:=qh C;clear C;go_wp2;have hq:=(aH.o.set 1 rfl 0 (.slice none 0 0)).set 1 rfl 1 (.slice none 0 0);have q0:=hq.cell (v:=.slice none 0 0) 1 0 rfl rfl;have q1:=hq.cell (v:=.slice none 0 0) 1 1 rfl rfl;refine bodyPost_ret (v:=.tuple #[.agg #[.slice none 0 0,.slice none 0 0],.bool false]) (by simp[results,Tryz.results126,go_sem,q0,q1]) rfl ⟨?_,hq.bel⟩;rw[U.o,if_neg hle]
def detK (K:Nat) (n:NfaD):Option DfaD:=if Zjk n=true∧(metS n K).length≤K then some (Zar (nxS n) (enS n) (metS n K)) else none
def Za2:DfaD:=⟨[],[]⟩
theorem Zhi (w:World) (B e size:Nat):w.ownsRow B e size (.slice none 0 0) 0 []:=⟨by simp,Or.inl ⟨rfl,rfl⟩⟩
theorem Znw (w:World) (B tS tI tB:Nat):DfaO tS tI tB B w.heap.size w (.agg #[.slice none 0 0,.slice none 0 0]) Za2 :=
 ⟨_,_,rfl,⟨[],Zab (Zhi w B tS 1),fun i hi=>absurd hi (by simp[Za2]),fun i j k _ hj=>absurd hj (by simp[Za2])⟩,Zab (Zhi w B tB 1)⟩
theorem ZjE (a0:Int) (bc bd:Nat) (nx:Int→Nat→Int) (en:Int→Bool) (Q:Int→Prop) (most:Nat) (w:World) (h0:Q a0) (hQ:∀ x c,c<3→Q x→Q (nx x c)) (aI:∀ x,Q x→fitI x) (fL:0<most) (fQ:most≤100000) (hroom:(bat nx a0 most).met.length≤most)
  (hN:∀ x c w',Q x→c<3→Below w.heap.size w w'→Calls Tryz.prog 106 #[.int .i64 x,.int .i64 (c:Nat),.pointer (some ⟨bc,0,none⟩),.pointer (some ⟨bd,0,none⟩)] w' fun e w2=>e = .returned (.int .i64 (nx x c))∧Below w'.heap.size w' w2)
  (hE:∀ x w',Q x→Below w.heap.size w w'→Calls Tryz.prog 107 #[.int .i64 x,.pointer (some ⟨bd,0,none⟩)] w' fun e w2=>e = .returned (.bool (en x))∧Below w'.heap.size w' w2) :
  Calls Tryz.prog 105 #[.int .i64 a0,.int .i64 most,.func (.func 106) #[] #[.pointer (some ⟨bc,0,none⟩),.pointer (some ⟨bd,0,none⟩)],.func (.func 107) #[] #[.pointer (some ⟨bd,0,none⟩)]] w
   fun e w'=>∃ a1 c1 a2 c2 a3 c3 vs,e = .returned (.tuple #[.agg #[.slice a1 (bat nx a0 most).met.length c1,.slice a2 (bat nx a0 most).met.length c2],.slice a3 (bat nx a0 most).met.length c3,.bool true]) ∧
    St w w' [Ent.rows 38 3 (.slice a1 (bat nx a0 most).met.length c1) vs (((bat nx a0 most).met.map (Zai nx (bat nx a0 most).met)).map intCells),Ent.row 4 1 (.slice a2 (bat nx a0 most).met.length c2) (bat nx a0 most).met.length (boolCells ((bat nx a0 most).met.map en)),
     Ent.row 3 1 (.slice a3 (bat nx a0 most).met.length c3) (bat nx a0 most).met.length (intCells (bat nx a0 most).met)]:=by
 have eL:=@run_makeMap Tryz.prog;obtain⟨l0,cN⟩:=Tryz.keyOfInt a0 (aI _ h0);obtain⟨i0,hi,eC,eD,eB⟩:=info_parts Tryz.infoInt;obtain⟨j0,hj,dI,cT,cZ⟩:=info_parts Tryz.infoInts;obtain⟨b0,bK,eA,dY,dQ⟩:=info_parts Tryz.infoBool;have I:=(St.start w).alloc _ rfl #[.slice none 0 0,.slice none 0 0] 44;have HM:MapL Tryz.prog 3 Zb9 ((w.alloc (.cells #[.slice none 0 0,.slice none 0 0] 44)).alloc (.map #[] 0)) (w.heap.size+1) ([]:List (Int × Value)):=by simpa using MapL.made (P:=Tryz.prog) (kt:=3) (enc:=Zb9) (w.alloc (.cells #[.slice none 0 0,.slice none 0 0] 44))
 have cW:=I.add ((Below.refl _ _).alloc (Nat.le_refl _) (.map #[] 0)) (Ent.map 3 Zb9 (w.heap.size+1) ([]:List (Int × Value))) HM fun k hk=>by have hk:k=w.heap.size+1:=hk;subst hk;simp
 obtain⟨w1,bH,bO,dV⟩:=HM.store Tryz.lawInt ZaH Tryz.underlying159 cN (.int .i64 0);simp only[Zb9] at bH;have dJ:=cW.mapset 1 rfl bO dV;have dG:=(((((dJ.alloc _ rfl #[.int .i64 a0] 3).boxrow 2 1 1 [.int .i64 a0] rfl rfl (by unfold maxLen;omega)).alloc (w1.heap.size+1) (by simp) #[.slice none 0 0,.slice none 0 0] 44).nilRow 38 1).norows 4 rfl 3).nilRow 4 1;obtain⟨F,hF⟩:=eI ((bat nx a0 most).met);have bQ:∀ k,k≤most→(bat nx a0 k).met.length≤most:=fun k hk=>by have:=(ZdY (nx:=nx) (a:=a0) hk).1.length_le;omega
 rw[← hF] at hroom;rw[← hF];have HN:=qh hN;have HE:=qh hE;have HQ:=qh hQ;have dE:=qh aI;have eS:=qh h0;have cY:=qh bQ;replace hF:=qh hF;have dX:=qh dG;clear dG;have fI:=qh cN;clear cN;have dW:=qh hi;clear hi;have bL:=qh eC;clear eC;have bF:=qh eD;clear eD;have bE:=qh eB;clear eB;have eY:=qh hj;clear hj;have cQ:=qh dI;clear dI;have eE:=qh cT;clear cT;have dS:=qh cZ;clear cZ;have cA:=qh bK;clear bK;have dH:=qh eA;clear eA;have dL:=qh dY;clear dY;have dF:=qh dQ;clear dQ;clear I cW dJ HM bO dV hN hE hQ aI h0 bQ
 go_enter Tryz.func105, Tryz.ntmps105
 go_wp2;clear bH eL
 go_loopw [9,10,12,14] (fun r1 r2 vm i wr=>∃ (k g3 c3:Nat) (a1 a2:Option Addr) (c1 c2:Nat) (vs:List Value),i = .int .i64 k∧vm = .slice (some ⟨g3,0,none⟩) (bat nx a0 k).met.length c3∧k≤(bat nx a0 k).met.length∧k≤most ∧
   St w wr [Ent.box w.heap.size #[.slice none 0 0,.slice none 0 0] 44,Ent.map 3 Zb9 (w.heap.size+1) (numbered (bat nx a0 k).met),Ent.row 3 1 (.slice (some ⟨g3,0,none⟩) (bat nx a0 k).met.length c3) (bat nx a0 k).met.length (intCells (bat nx a0 k).met),
    Ent.box (w1.heap.size+1) #[.slice a1 k c1,.slice a2 k c2] 44,Ent.rows 38 3 (.slice a1 k c1) vs ((((bat nx a0 k).met.take k).map (Zai nx F)).map intCells),Ent.row 4 1 (.slice a2 k c2) k (boolCells (((bat nx a0 k).met.take k).map en))])
  (fun _ _ _ i _=>most+1-(intOf i).toNat)
 case atStart=>exact⟨0,_,_,none,none,0,0,[],rfl,rfl,Nat.zero_le _,Nat.zero_le _,dX.o⟩
 case round =>
  obtain⟨k,g3,c3,a1,a2,c1,c2,vs,rfl,rfl,hk,eN,hS⟩:=hrel;obtain⟨wo,eU⟩:∃ wo:World,wo=wr:=⟨_,rfl⟩;subst eU;obtain⟨M,hM⟩:=eI ((bat nx a0 k).met);have cV:=cY.o k eN;rw[← hM] at hS hk cV;rw[← hM];by_cases hlt:k<M.length
  ·have hlt2:(k:Int)<M.length:=by omega
   have HF:∀ n,n≤3→(bpart nx a0 k n).met <+: F:=fun n hn=>by rw[hF.o];exact(ZaF (by rw[← hM];exact hlt) hn (by omega)).1
   have HT:∀ n,n≤3→(bpart nx a0 k n).met.length≤most:=fun n hn=>Nat.le_trans (HF n hn).length_le hroom
   obtain⟨x,cG⟩:=eI (M.getD k a0);have dM:Q x:=by rw[cG,hM];exact ZbA eS.o HQ.o k _ (Zc6 (by rw[← hM];exact hlt))
   have O:=qh cG;clear cG;replace HF:=qh HF;have dO:=qh HT;clear HT;have aD:=qh dM;clear dM;have U:=qh hM;clear hM;have bS:=qh hS;clear hS;go_wp2_with (at_make;refine wpList_make_full _ rfl _ _ 38 rfl wo.heap.size 3 i0 (.int .i64 0) 1 Tryz.underlying38 dW.o bL.o bF.o .i64 .i64 _ _ 3 rfl rfl rfl rfl (by rw[bE.o];omega) (by unfold maxLen;omega) (Nat.le_refl _) ?_;intro w2 aN aG;have eR:=qh (bS.o.made ((Below.refl _ _).grown aG (Nat.le_refl _) (fun _ h=>by cases h)) aN);have eV:=qh aN.1;clear aN aG)
   go_loopw [9,10,12,32] (fun r1 r2 vm i wi=>∃ (n g4 c4:Nat) (cs:List Value),i = .int .i64 n∧vm = .slice (some ⟨g4,0,none⟩) (bpart nx a0 k n).met.length c4∧n≤3∧cs.length=3∧cs.take n=(intCells (Zai nx F x)).take n ∧
     St w wi [Ent.box w.heap.size #[.slice none 0 0,.slice none 0 0] 44,Ent.map 3 Zb9 (w.heap.size+1) (numbered (bpart nx a0 k n).met),Ent.row 3 1 (.slice (some ⟨g4,0,none⟩) (bpart nx a0 k n).met.length c4) (bpart nx a0 k n).met.length (intCells (bpart nx a0 k n).met),
      Ent.box (w1.heap.size+1) #[.slice a1 k c1,.slice a2 k c2] 44,Ent.rows 38 3 (.slice a1 k c1) vs (((M.take k).map (Zai nx F)).map intCells),Ent.row 4 1 (.slice a2 k c2) k (boolCells ((M.take k).map en)),Ent.row 3 1 (.slice (some ⟨wo.heap.size,0,none⟩) 3 3) 3 cs])
    (fun _ _ _ i _=>3-(intOf i).toNat)
   case atStart =>refine⟨0,g3,c3,(madeCells (Value.int .i64 0).cells (3*1)).toList,rfl,by rw[Zap,← U.o],by omega,by simpa using eV.o,rfl,?_⟩;rw[Zap,← U.o];exact eR.o
   case round =>
    obtain⟨n,g4,c4,cs,rfl,rfl,hn,aV,aK,H⟩:=hrel;have T:M <+: (bpart nx a0 k n).met:=by rw[U.o,← Zap];exact(Za7 (Nat.zero_le n)).1
    have dU:M.length≤(bpart nx a0 k n).met.length:=T.length_le;by_cases hn3:n<3
    ·have cM:(bpart nx a0 k n).met.Nodup:=(Zb2 (by rw[← U.o];exact hlt) hn).1;have cD:=HF.o n hn;have aJ:=HF.o (n+1) (by omega);have eP:=dO.o n hn;have cK:=dO.o (n+1) (by omega);have Z:nx x n∈(bpart nx a0 k n).met→(bpart nx a0 k (n+1)).met=(bpart nx a0 k n).met:=fun h=>by rw[Zbp (by rw[← U.o,← O.o];exact h)]
     have g:nx x n ∉ (bpart nx a0 k n).met→(bpart nx a0 k (n+1)).met=(bpart nx a0 k n).met++[nx x n]:=fun h=>by rw[Zbi (by rw[← U.o,← O.o];exact h),← U.o,← O.o]
     have bB:Q (nx x n):=HQ.o x n hn3 aD.o;have hf:=dE.o _ bB;have bX:=fun w' (h:Below w.heap.size w w')=>HN.o x n w' aD.o hn3 h
     have m:(intCells (Zai nx F x))[n]? = some (.int .i64 (Zam F (nx x n):Int)):=by simp[Zai,hn3]
     obtain⟨S1,cB⟩:=eI ((bpart nx a0 k (n+1)).met);obtain⟨S,V⟩:=eI ((bpart nx a0 k n).met);obtain⟨y,hy⟩:=eI (nx x n);rw[← V] at H T dU cM Z g cD eP;rw[← cB] at Z g aJ cK;rw[← hy] at bB hf bX Z g m;rw[← V];have Y:S.getD k a0=x:=by rw[O.o];exact Zas T hlt _
     have dB:(k:Int)<S.length:=by omega
     have e1:=H.rcell (v:=.int .i64 x) 2 k rfl (by omega) (by rw[← Y];simp[intCells,show k<S.length by omega]);obtain⟨ly,cX⟩:=Tryz.keyOfInt y hf;have dN:=qh (bX _ H.bel);have cU:=qh V;clear V;have z:=qh cB;clear cB;have fK:=qh hy;clear hy;have bI:=qh cM;clear cM;have aQ:=qh Z;clear Z;have bY:=qh g;clear g;have dD:=qh cD;clear cD;have cL:=qh aJ;clear aJ;have s:=qh m;clear m;have b:=qh aV;clear aV;have aS:=qh aK;clear aK;have bR:=qh H;clear H;have dC:=qh T;clear T;have fC:=qh bB;clear bB;have fO:=qh hf;clear hf;have dK:=qh Y;clear Y;have j:=qh cX;clear cX;clear bX;go_wp2_with fail;refine dN.o.mono ?_;rintro e w3 ⟨rfl,dT⟩;have G:=bR.o.call dT;clear dT e1;by_cases hmem:y∈S
     ·have L:=(G.map 1 rfl).lookupOk Tryz.lawInt ZaH Tryz.underlying159 (ZgC _) j.o;have aH:=(G.map 1 rfl).lookup Tryz.lawInt ZaH Tryz.underlying159 (ZgC _) j.o;have aT:Zam S y=Zam F y:=(Zbe dD.o hmem).symm;rw[ZbD bI.o hmem,aT] at L aH;simp only[w_8,Option.isSome_some,Zb9] at L aH;obtain⟨q,hq⟩:=eI (Zam F y);rw[← hq] at L aH;obtain⟨u0,eX⟩:=Zc1 (G.row 6 rfl) n (by omega);have fP:=G.rfr 6 n rfl;have cJ:=qh hq;clear hq;have fH:=qh aT;clear aT;have bJ:=qh G;clear G;have p:=qh hmem;clear hmem;go_wp2;go_roundw
      case rel =>refine⟨n+1,g4,c4,cs.set n (.int .i64 (q:Int)),by go_num,by rw[← z.o,aQ.o p.o],by omega,by simpa using b.o,Zdy (n:=3) b.o (by simp[Zai]) hn3 aS.o (by rw[s.o,← cJ.o]),?_⟩;rw[← z.o,aQ.o p.o];exact bJ.o.store 6 rfl n (.int .i64 (q:Int))
      case measure=>simp[intOf];omega
     have L:=(G.map 1 rfl).lookupOk Tryz.lawInt ZaH Tryz.underlying159 (ZgC _) j.o;rw[ZcV hmem] at L;simp only[Option.getD_none,Option.isSome_none,Zb9] at L;have bA:=bY.o hmem;have hfull:S.length<most:=by rw[bA] at cK;simp at cK;omega
     have fR:((S.length:Int)==(most:Int))=false:=by simp;omega
     have fN:¬ (S.length:Int)=(most:Int):=by omega
     obtain⟨w5,cE,aY,bV⟩:=(G.map 1 rfl).store Tryz.lawInt ZaH Tryz.underlying159 j.o (.int .i64 (S.length:Int));rw[Zdc hmem] at aY;simp only[Zb9] at cE;have cF:=G.mapset 1 rfl aY bV;have I:=cF.alloc_ (.cells #[.int .i64 y] 3);have hR:=I.row 2 rfl;obtain⟨q,hq⟩:=eI (Zam F y);have hA:∀ w7,MapL Tryz.prog 3 Zb9 w7 (w.heap.size+1) (numbered (S++[y]))→(Instr.lookup 159 (.map (some (w.heap.size+1))) (.int .i64 y) false).run Tryz.prog w7 = .ok (.int .i64 (q:Int)) w7:=fun w7 h7=>by have aM:=h7.lookup Tryz.lawInt ZaH Tryz.underlying159 (ZgC _) j.o;have aT:Zam (S++[y]) y=Zam F y:=(Zbe (by rw[← bA];exact cL.o) (by simp)).symm;rw[ZbD (Zdp bI.o hmem) (by simp),aT,← hq] at aM;exact aM
     have eH:(S.length+1)*8≤140737488355328:=by omega
     have cS:S.length+1≤maxLen:=by unfold maxLen;omega
     have cJ:=qh hq;clear hq;have eO:=qh hA;clear hA;have bJ:=qh G;clear G;have fB:=qh cF;clear cF;have d:=qh I;clear I;have eT:=qh hR;clear hR;have fG:=qh aY;clear aY;have fE:=qh bV;clear bV;have p:=qh hmem;clear hmem;have bC:=qh bA;clear bA;go_wp2_with (at_builtin;refine wpList_append_lies _ rfl _ _ _ rfl _ 3 i0 (.int .i64 0) 1 8 Tryz.underlying38 dW.o bL.o bF.o bE.o rfl (by omega) _ S.length _ rfl eT.o ⟨w5.heap.size,0,none⟩ 1 1 [.int .i64 y] rfl rfl (World.news_of_block (heap_alloc_new w5 _)) ZbX (by omega) cS eH d.o.size _ rfl ?_;intro N J w7 aL u bM eZ;have aZ:=qh (d.o.app 2 rfl aL u bM);have aM:=eO.o w7 (aZ.o.map 1 rfl);obtain⟨u0,eX⟩:=Zc1 (aZ.o.row 6 rfl) n (by omega);have fJ:=aZ.o.rfr 6 n rfl;clear aL u bM);go_roundw
     case rel =>refine⟨n+1,N,J,cs.set n (.int .i64 (q:Int)),by go_num,by rw[← z.o,bC.o,List.length_append];rfl,by omega,by simpa using b.o,Zdy (n:=3) b.o (by simp[Zai]) hn3 aS.o (by rw[s.o,← cJ.o]),?_⟩;rw[← z.o,bC.o,List.length_append,Zaz];exact aZ.o.store 6 rfl n (.int .i64 (q:Int))
     case measure=>simp[intOf];omega
    obtain rfl:n=3:=by omega
    have cH:(bat nx a0 (k+1)).met=(bpart nx a0 k 3).met:=congrArg Bs.met (ZaP (by rw[← U.o];exact hlt));have Y:(bpart nx a0 k 3).met.getD k a0=x:=by rw[O.o];exact Zas T hlt _
    have E:(bpart nx a0 k 3).met.take (k+1)=M.take k++[x]:=by obtain⟨t,ht⟩:=T;rw[← ht,List.take_append_of_le_length (by omega),List.take_succ_eq_append_getElem hlt,O.o];simp[hlt]
    obtain⟨S,V⟩:=eI ((bpart nx a0 k 3).met);rw[← V] at H Y E dU cH;rw[← V];have dB:k<S.length:=by omega
    have fD:(k:Int)<S.length:=by omega
    have eW:cs=intCells (Zai nx F x):=by rwa [List.take_of_length_le (by omega),List.take_of_length_le (by simp[Zai])] at aK
    subst eW;have bU:(((M.take k).map (Zai nx F)).map intCells).length=k:=by rw[ZcF,List.length_take];omega
    have I:=H.alloc_ (.cells #[.slice (some ⟨wo.heap.size,0,none⟩) 3 3] 38);have bW:=(I.rows 4 rfl).1;rw[bU] at bW;have e0:=H.cell (v:=.slice a1 k c1) 3 0 rfl rfl;have dR:(intCells S)[k]? = some (.int .i64 x):=by rw[← Y];simp[intCells,dB]
    have bD:(S.take (k+1)).map (Zai nx F)=(M.take k).map (Zai nx F)++[Zai nx F x]:=by rw[E,List.map_append];rfl
    have aR:(S.take (k+1)).map en=(M.take k).map en++[en x]:=by rw[E,List.map_append];rfl
    have cI:=fun w' (h:Below w.heap.size w w')=>HE.o x w' aD.o h
    obtain⟨r,hr⟩:=eI (en x);rw[← hr] at cI aR;have eG:=qh cI;have dA:=qh bU;clear bU;have bR:=qh H;clear H;have d:=qh I;clear I;have dZ:=qh bW;clear bW;have aC:=qh cH;clear cH;have cU:=qh V;clear V;have eF:=qh E;clear E;have cO:=qh dR;clear dR;have dK:=qh Y;clear Y;have bZ:=qh bD;clear bD;have cC:=qh aR;clear aR;have dC:=qh T;clear T;have b:=qh aV;clear aV;have aS:=qh aK;clear aK;have fM:=qh hr;clear hr;clear cI;go_wp2_with (at_builtin;refine wpList_append_lies _ rfl _ _ _ rfl _ 38 j0 (.slice none 0 0) 1 24 Tryz.underlying41 eY.o cQ.o eE.o dS.o rfl (by omega) _ k _ rfl dZ.o ⟨wr.heap.size,0,none⟩ 1 1 [.slice (some ⟨wo.heap.size,0,none⟩) 3 3] rfl rfl (World.news_of_block (heap_alloc_new wr _)) ZcT (by omega) (by unfold maxLen;omega) (by omega) d.o.size _ rfl ?_;intro g6 c6 w6 aO aB bP dP;have aX:=qh (d.o.snoc 4 6 (by decide) rfl rfl (by decide) aB (by rw[dA.o];exact aO) (Zgh bP));have y1:=aX.o.cell (v:=.slice a1 k c1) 3 0 rfl rfl;have y2:=aX.o.fr 3 0 rfl;clear aO aB bP dP);have bT:=(aX.o.set 3 rfl 0 (.slice (some ⟨g6,0,none⟩) (k+1) c6)).pick [0,1,2,3,4,5] (by decide);obtain⟨wq,aU⟩:=eI (w6.setCell ⟨w1.heap.size+1,0,none⟩ (.slice (some ⟨g6,0,none⟩) (k+1) c6));rw[← aU] at bT
    have bG:St w wq [Ent.box w.heap.size #[.slice none 0 0,.slice none 0 0] 44,Ent.map 3 Zb9 (w.heap.size+1) (numbered S),Ent.row 3 1 (.slice (some ⟨g4,0,none⟩) S.length c4) S.length (intCells S),
      Ent.box (w1.heap.size+1) #[.slice (some ⟨g6,0,none⟩) (k+1) c6,.slice a2 k c2] 44,
      Ent.rows 38 3 (.slice (some ⟨g6,0,none⟩) (k+1) c6) (vs++[.slice (some ⟨wo.heap.size,0,none⟩) 3 3]) (((S.take (k+1)).map (Zai nx F)).map intCells),Ent.row 4 1 (.slice a2 k c2) k (boolCells ((M.take k).map en))]:=by
     rw[bZ.o,List.map_append];exact bT
    rw[← aU];have eK:=qh bG;have fF:=qh aU;clear aU;clear bT bG y1 y2 e0 aX;refine wp_region_any (by kernel_rfl) ?_
    refine Zay (fun A listed a w'=>∃ (l0 l1 l2 l3 l4 l5 l6 l7 l8 l9 aW X:Bool) (N:Nat) (J:Nat) (l:Nat),listed=#[l0,l1,l2,l3,l4,l5,l6,l7,l8,l9,aW,X]∧(l9=true→l1=true∧l8=true)∧(X=true→l9=true∧l1=true) ∧
      a=⟨(((((((((((A.tmps.setIfInBounds 76 (if l0=true then .pointer (some ⟨w1.heap.size+1,1,none⟩) else A.tmps.getD 76 undef)).setIfInBounds 77 (if l1=true then .slice a2 k c2 else A.tmps.getD 77 undef)).setIfInBounds 78 (if l2=true then .func (.func 107) #[] #[.pointer (some ⟨bd,0,none⟩)] else A.tmps.getD 78 undef)).setIfInBounds 79 (if l3=true then .slice (some ⟨g4,0,none⟩) S.length c4 else A.tmps.getD 79 undef)).setIfInBounds 80 (if l4=true then .int .i64 (k:Int) else A.tmps.getD 80 undef)).setIfInBounds 81 (if l5=true then .pointer (some ⟨g4,k,none⟩) else A.tmps.getD 81 undef)).setIfInBounds 82 (if l6=true then .int .i64 x else A.tmps.getD 82 undef)).setIfInBounds 83 (if l7=true then .bool r else A.tmps.getD 83 undef)).setIfInBounds 84 (if l8=true then .slice (some ⟨l,0,none⟩) 1 1 else A.tmps.getD 84 undef)).setIfInBounds 85 (if l9=true then .slice (some ⟨N,0,none⟩) (k+1) J else A.tmps.getD 85 undef)).setIfInBounds 86 (if aW=true then .pointer (some ⟨w1.heap.size+1,1,none⟩) else A.tmps.getD 86 undef)),A.defers⟩ ∧
      St w w' [Ent.box w.heap.size #[.slice none 0 0,.slice none 0 0] 44,Ent.map 3 Zb9 (w.heap.size+1) (numbered S),Ent.row 3 1 (.slice (some ⟨g4,0,none⟩) S.length c4) S.length (intCells S),Ent.box (w1.heap.size+1) #[.slice (some ⟨g6,0,none⟩) (k+1) c6,(if X=true then .slice (some ⟨N,0,none⟩) (k+1) J else .slice a2 k c2)] 44,Ent.rows 38 3 (.slice (some ⟨g6,0,none⟩) (k+1) c6) (vs++[.slice (some ⟨wo.heap.size,0,none⟩) 3 3]) (((S.take (k+1)).map (Zai nx F)).map intCells),(if l9=true then Ent.row 4 1 (.slice (some ⟨N,0,none⟩) (k+1) J) (k+1) ((boolCells ((M.take k).map en))++[.bool r]) else Ent.row 4 1 (.slice a2 k c2) k (boolCells ((M.take k).map en))),(if l8=true then Ent.box l #[.bool r] 4 else Ent.nil)]) ?_ ?_ ?_
    ·rintro listed a w' ⟨l0,l1,l2,l3,l4,l5,l6,l7,l8,l9,aW,X,N,J,l,rfl,D,B,rfl,hS⟩ i hi;obtain⟨C,o,ho,hall⟩:=mem_ready.1 hi;have hlt:=(Array.getElem?_eq_some_iff.1 ho).1;refine wpOp_step ho (fun K hK => ?_);clear hi;have R:=qh hS;clear hS;simp only[w_1,w_2,w_3,w_4,w_5,w_6,w_7,w_8];obtain h|h|h|h|h|h|h|h|h|h|h|h:i=0∨i=1∨i=2∨i=3∨i=4∨i=5∨i=6∨i=7∨i=8∨i=9∨i=10∨i=11:=by simp at hlt;omega
     all_goals subst h
     all_goals simp only[w_5,w_6,w_7,w_9] at ho
     all_goals subst ho
     all_goals simp[Region.binds] at C hall
     ·subst C;go_simp;exact hK _ _ ⟨_,_,_,_,_,_,_,_,_,_,_,_,N,J,l,rfl,D,B,(by simp),R.o⟩
     ·obtain rfl:=hall;subst C;obtain rfl:l9=false:=offL D rfl;obtain rfl:X=false:=offL B rfl;have e0:=R.o.cell (v:=.slice a2 k c2) 3 1 rfl rfl;go_simp;exact hK _ _ ⟨_,_,_,_,_,_,_,_,_,_,_,_,N,J,l,rfl,by simp,by simp,(by simp),R.o⟩
     ·subst C;go_simp;exact hK _ _ ⟨_,_,_,_,_,_,_,_,_,_,_,_,N,J,l,rfl,D,B,(by simp),R.o⟩
     ·subst C;go_simp;exact hK _ _ ⟨_,_,_,_,_,_,_,_,_,_,_,_,N,J,l,rfl,D,B,(by simp),R.o⟩
     ·subst C;go_simp;exact hK _ _ ⟨_,_,_,_,_,_,_,_,_,_,_,_,N,J,l,rfl,D,B,(by simp),R.o⟩
     ·obtain⟨rfl,rfl⟩:=hall;subst C;go_simp;exact hK _ _ ⟨_,_,_,_,_,_,_,_,_,_,_,_,N,J,l,rfl,D,B,(by simp),R.o⟩
     ·obtain rfl:=hall;subst C;have e0:=R.o.rcell (v:=.int .i64 x) 2 k rfl (by omega) cO.o;go_simp;exact hK _ _ ⟨_,_,_,_,_,_,_,_,_,_,_,_,N,J,l,rfl,D,B,(by simp),R.o⟩
     ·obtain⟨rfl,rfl⟩:=hall;subst C;go_simp
      go_at_call 107
      refine(eG.o _ R.o.bel).mono ?_;rintro e u1 ⟨rfl,eQ⟩;have aP:=R.o.call eQ;have aE:=qh aP;clear aP;go_simp;exact hK _ _ ⟨_,_,_,_,_,_,_,_,_,_,_,_,N,J,l,rfl,D,B,(by simp),aE.o⟩
     ·obtain rfl:=hall;subst C;obtain rfl:l9=false:=offR D rfl;obtain rfl:X=false:=offL B rfl;have aP:=(R.o.alloc _ rfl #[.bool r] 4).pick [0,1,2,3,4,5,7] (by decide);have aE:=qh aP;clear aP;go_simp;exact hK _ _ ⟨_,_,_,_,_,_,_,_,_,_,_,_,N,J,_,rfl,by simp,by simp,(by simp),aE.o⟩
     ·obtain⟨rfl,rfl,rfl⟩:=hall;subst C;obtain rfl:X=false:=offL B rfl;refine step_append_lies (a:=⟨_,_⟩) _ (by rfl) _ _ _ (by rfl) w.heap.size 4 b0 (.bool false) 1 1 Tryz.underlying42 cA.o dH.o dL.o dF.o (by rfl) (by omega) (.slice a2 k c2) k (boolCells ((M.take k).map en)) (by rfl) (R.o.row 5 rfl) ⟨l,0,none⟩ 1 1 [.bool r] (by rfl) (by rfl) (World.news_of_block (R.o.box 6 rfl)) Zc3 (by omega) (by unfold maxLen;omega) (by omega) R.o.size _ rfl ?_;intro g8 c8 w8 aF aA bN fA;have eM:=qh (R.o.app 5 rfl aF aA bN);clear aF aA bN;go_simp;exact hK _ _ ⟨_,_,_,_,_,_,_,_,_,_,_,_,g8,c8,l,rfl,by simp,by simp,(by simp),eM.o⟩
     ·obtain⟨rfl,rfl,rfl,rfl,rfl,rfl,rfl,rfl,rfl,rfl⟩:=hall;subst C;go_simp;exact hK _ _ ⟨_,_,_,_,_,_,_,_,_,_,_,_,N,J,l,rfl,by simp,B,(by simp only[↓reduceIte,w_1,w_2,w_3]),R.o⟩
     obtain⟨rfl,rfl,rfl,rfl,rfl,rfl,rfl,rfl,rfl,rfl,rfl,-⟩:=hall;subst C;have f0:=R.o.fr 3 1 rfl;have k0:=R.o.cell (v:=.slice a2 k c2) 3 1 rfl rfl;go_simp;exact hK _ _ ⟨_,_,_,_,_,_,_,_,_,_,_,_,N,J,l,rfl,by simp,by simp,(by simp only[↓reduceIte,w_1,w_2,w_3]),(R.o.set 3 rfl 1 (.slice (some ⟨N,0,none⟩) (k+1) J))⟩
    ·rintro listed a w' ⟨l0,l1,l2,l3,l4,l5,l6,l7,l8,l9,aW,X,N,J,l,rfl,D,B,rfl,hS⟩ hr;obtain⟨rfl,rfl,rfl,rfl,rfl,rfl,rfl,rfl,rfl,rfl,rfl,rfl,-⟩:=zA (ZbK (by kernel_rfl) rfl hr) rfl;clear hr D B;simp only[↓reduceIte] at hS ⊢;simp only[w_1,w_2,w_3];have cR:=hS.pick [0,1,2,3,4,5] (by decide);have cP:=qh cR;clear cR;clear hS;go_wp2;go_roundw
     case rel =>refine⟨k+1,g4,c4,some ⟨g6,0,none⟩,some ⟨N,0,none⟩,c6,J,vs++[.slice (some ⟨wo.heap.size,0,none⟩) 3 3],by go_num,by rw[aC.o],by rw[aC.o];omega,by omega,?_⟩;rw[aC.o,cC.o,ZbO];exact cP.o
     case measure=>simp[intOf];omega
    refine⟨false,false,false,false,false,false,false,false,false,false,false,false,0,0,0,rfl,by simp,by simp,(by simp),?_⟩;exact eK.o.drew.pick [0,1,2,3,4,5,6] (by decide)
  have eJ:M=F:=by rw[hF.o,hM];exact(congrArg Bs.met (Zbc (by rw[← hM];omega) (by omega))).symm
  obtain rfl:k=M.length:=by omega
  subst eJ;rw[List.take_length] at hS;have d0:=hS.cell (v:=.slice a1 M.length c1) 3 0 rfl rfl;have d1:=hS.cell (v:=.slice a2 M.length c2) 3 1 rfl rfl;have f0:=hS.fr 0 0 rfl;have f1:=hS.fr 0 1 rfl;have k0:=hS.cell (v:=.slice none 0 0) 0 0 rfl rfl;have k1:=hS.cell (v:=.slice none 0 0) 0 1 rfl rfl;have bS:=qh hS;clear hS;have U:=qh hM;clear hM;clear hk cV;go_wp2;have hq:=(bS.o.set 0 rfl 0 (.slice a1 M.length c1)).set 0 rfl 1 (.slice a2 M.length c2);have q0:=hq.cell (v:=.slice a1 M.length c1) 0 0 rfl rfl;have q1:=hq.cell (v:=.slice a2 M.length c2) 0 1 rfl rfl;refine bodyPost_ret (v:=.tuple #[.agg #[.slice a1 M.length c1,.slice a2 M.length c2],.slice (some ⟨g3,0,none⟩) M.length c3,.bool true]) (by simp[results,Tryz.results105,go_sem,q0,q1]) rfl ?_;exact⟨a1,c1,a2,c2,_,c3,vs,rfl,hq.pick [4,5,2] (by decide)⟩
end Go.Proofs.YtncekbbhgipdlaaGreat
namespace Go.Proofs.YtncekbbhgipdlaaGreat
section
variable (n:Nat) (nx:Nat→Nat→Nat)
def ZbZ (cl:Nat→Nat) (t s:Nat):Bool:=decide (cl t=cl s)&&(List.range 3).all fun c=>decide (cl (nx t c)=cl (nx s c))
theorem ZaB {cl:Nat→Nat} {t s:Nat}:ZbZ nx cl t s=true↔cl t=cl s∧∀ c,c<3→cl (nx t c)=cl (nx s c):=by simp[ZbZ]
theorem Zla (cl:Nat→Nat) (s:Nat):ZbZ nx cl s s=true:=(ZaB nx).2 ⟨rfl,fun _ _=>rfl⟩
theorem Zg8 {cl:Nat→Nat} {t s:Nat} (h:ZbZ nx cl t s=true):ZbZ nx cl s t=true:=by obtain⟨h1,h2⟩:=(ZaB nx).1 h;exact(ZaB nx).2 ⟨h1.symm,fun c hc=>(h2 c hc).symm⟩
theorem Zd7 {cl:Nat→Nat} {t s r:Nat} (h:ZbZ nx cl t s=true) (B:ZbZ nx cl s r=true):ZbZ nx cl t r=true:=by obtain⟨h1,h2⟩:=(ZaB nx).1 h;obtain⟨h3,h4⟩:=(ZaB nx).1 B;exact(ZaB nx).2 ⟨h1.trans h3,fun c hc=>(h2 c hc).trans (h4 c hc)⟩
def Zbo (p:Nat→Bool):Nat→Nat
 | 0=>0
 | k+1=>if p (Zbo p k)&&decide (Zbo p k<k) then Zbo p k else if p k then k else k+1
end
theorem ZiB (p:Nat→Bool):∀ k,(Zbo p k<k∧p (Zbo p k)=true∧∀ j,j<Zbo p k→p j=false)∨(Zbo p k=k∧∀ j,j<k→p j=false)
 | 0=>Or.inr ⟨rfl,fun j hj=>absurd hj (by omega)⟩
 | k+1=>by
  rcases ZiB p k with⟨h1,h2,h3⟩|⟨h1,h2⟩
  ·left;have e:Zbo p (k+1)=Zbo p k:=by simp[Zbo,h1,h2]
   rw[e];exact⟨by omega,h2,h3⟩
  by_cases hp:p k=true
  ·left;have e:Zbo p (k+1)=k:=by simp[Zbo,h1,hp]
   rw[e];exact⟨by omega,hp,h2⟩
  right;have e:Zbo p (k+1)=k+1:=by simp[Zbo,h1,hp]
  refine⟨e,fun j hj => ?_⟩;by_cases hjk:j=k
  ·subst hjk;simpa using hp
  exact h2 j (by omega)
theorem Zmd {p:Nat→Bool} {k s:Nat} (hs:s<k) (hp:p s=true):Zbo p k≤s∧p (Zbo p k)=true∧∀ j,j<Zbo p k→p j=false:=by
 rcases ZiB p k with⟨h1,h2,h3⟩|⟨h1,h2⟩
 ·refine⟨?_,h2,h3⟩;rcases Nat.lt_or_ge s (Zbo p k) with h|h
  ·rw[h3 s h] at hp;cases hp
  exact h
 rw[h2 s hs] at hp;cases hp
section
variable {n:Nat} {nx:Nat→Nat→Nat}
structure GoodC (n:Nat) (cl:Nat→Nat):Prop where
 le:∀ s,s<n→cl s≤s
 id:∀ s,s<n→cl (cl s)=cl s
def Zav (n:Nat) (nx:Nat→Nat→Nat) (cl:Nat→Nat) (s:Nat):Nat:=Zbo (fun t=>ZbZ nx cl t s) n
theorem Za5 {cl:Nat→Nat} {s:Nat} (hs:s<n):Zav n nx cl s≤s∧ZbZ nx cl (Zav n nx cl s) s=true∧∀ j,j<Zav n nx cl s→ZbZ nx cl j s=false :=
 Zmd hs (Zla nx cl s)
theorem Zb7 {cl:Nat→Nat} {s t:Nat} (hs:s<n) (ht:t<n):Zav n nx cl s=Zav n nx cl t↔ZbZ nx cl s t=true:=by
 obtain⟨a1,a2,a3⟩:=Za5 (nx:=nx) (cl:=cl) hs;obtain⟨b1,b2,b3⟩:=Za5 (nx:=nx) (cl:=cl) ht;constructor
 ·intro h;rw[h] at a2;exact Zd7 nx (Zg8 nx a2) b2
 intro h;have h1:¬ Zav n nx cl s<Zav n nx cl t:=fun hlt=>by have:=b3 _ hlt;rw[Zd7 nx a2 h] at this;cases this
 have h2:¬ Zav n nx cl t<Zav n nx cl s:=fun hlt=>by have:=a3 _ hlt;rw[Zd7 nx b2 (Zg8 nx h)] at this;cases this
 omega
theorem ZeO {cl:Nat→Nat}:GoodC n (Zav n nx cl):=by refine⟨fun s hs=>(Za5 hs).1,fun s hs => ?_⟩;obtain⟨a1,a2,a3⟩:=Za5 (nx:=nx) (cl:=cl) hs;exact(Zb7 (by omega) hs).2 a2
theorem ZmO {cl:Nat→Nat} (B:GoodC n cl) {s:Nat} (hs:s<n) (h:cl s=s):Zav n nx cl s=s:=by obtain⟨a1,a2,a3⟩:=Za5 (nx:=nx) (cl:=cl) hs;have e:=((ZaB nx).1 a2).1;have:=B.le (Zav n nx cl s) (by omega);omega
def reps (n:Nat) (cl:Nat→Nat):Nat:=((List.range n).filter fun s=>decide (cl s=s)).length
theorem Zhb {cl:Nat→Nat} (C:GoodC n cl) {s:Nat} (hs:s<n) (B:Zav n nx cl s≠cl s):reps n cl<reps n (Zav n nx cl):=by
 obtain⟨a1,a2,a3⟩:=Za5 (nx:=nx) (cl:=cl) hs;have e:=((ZaB nx).1 a2).1;have hr:Zav n nx cl s<n:=by omega
 refine Zei (a:=Zav n nx cl s) ?_ ?_ (List.mem_range.2 hr) fun x hx h => ?_
 ·have:cl (Zav n nx cl s)≠Zav n nx cl s:=by rw[e];exact fun h=>B h.symm
  simpa using this
 ·simpa using ZeO.id s hs
 simp only[decide_eq_true_eq] at h ⊢;exact ZmO C (List.mem_range.1 hx) h
theorem Zlc (n:Nat) (cl:Nat→Nat):reps n cl≤n:=by have:=List.length_filter_le (fun s=>decide (cl s=s)) (List.range n);simpa [reps] using this
def clAt (n:Nat) (nx:Nat→Nat→Nat) (en:Nat→Bool):Nat→Nat→Nat
 | 0=>fun s=>Zbo (fun t=>en t==en s) n
 | i+1=>Zav n nx (clAt n nx en i)
theorem Zel {en:Nat→Bool} {s:Nat} (hs:s<n):clAt n nx en 0 s≤s∧en (clAt n nx en 0 s)=en s∧∀ j,j<clAt n nx en 0 s→en j≠en s:=by
 obtain⟨a,b,c⟩:=Zmd (p:=fun t=>en t==en s) hs (by simp);have B:en (Zbo (fun t=>en t==en s) n)=en s:=by simpa using b
 exact⟨a,B,fun j hj=>by simpa using c j hj⟩
theorem ZiN {en:Nat→Bool} {s t:Nat} (hs:s<n) (ht:t<n):clAt n nx en 0 s=clAt n nx en 0 t↔en s=en t:=by
 obtain⟨a1,a2,a3⟩:=Zel (nx:=nx) (en:=en) hs;obtain⟨b1,b2,b3⟩:=Zel (nx:=nx) (en:=en) ht;constructor
 ·intro h;rw[← a2,← b2,h]
 intro h;have h1:¬ clAt n nx en 0 s<clAt n nx en 0 t:=fun hlt=>b3 _ hlt (a2.trans h)
 have h2:¬ clAt n nx en 0 t<clAt n nx en 0 s:=fun hlt=>a3 _ hlt (b2.trans h.symm)
 omega
theorem Zek (en:Nat→Bool):∀ i,GoodC n (clAt n nx en i)
 | 0=>⟨fun s hs=>(Zel hs).1,fun s hs=>by obtain⟨a1,a2,a3⟩:=Zel (nx:=nx) (en:=en) hs;exact(ZiN (by omega) hs).2 a2⟩
 | _+1=>ZeO
def stays (n:Nat) (nx:Nat→Nat→Nat) (en:Nat→Bool) (i:Nat):Prop:=∀ s,s<n→clAt n nx en (i+1) s=clAt n nx en i s
theorem Zi0 (en:Nat→Bool):∃ i,i≤n∧stays n nx en i∧∀ j,j<i→¬ stays n nx en j:=by
 have key:∀ k,(∀ j,j<k→¬ stays n nx en j)→k≤reps n (clAt n nx en k):=by
  intro k
  induction k with
  | zero=>intro _;exact Nat.zero_le _
  | succ k E =>
   intro h;have h1:=E fun j hj=>h j (by omega)
   have h2:=h k (by omega);have h3:∃ s,s<n∧clAt n nx en (k+1) s≠clAt n nx en k s:=Classical.byContradiction fun hn=>h2 fun s hs=>Classical.byContradiction fun B=>hn ⟨s,hs,B⟩
   obtain⟨s,hs,B⟩:=h3;have:=Zhb (nx:=nx) (Zek (nx:=nx) en k) hs B;show k+1≤reps n (Zav n nx (clAt n nx en k));omega
 have D:∃ i,i≤n∧stays n nx en i:=Classical.byContradiction fun hn=>by
  have:=key (n+1) fun j hj hs=>hn ⟨j,by omega,hs⟩
  have:=Zlc n (clAt n nx en (n+1));omega
 obtain⟨i,hi,hs⟩:=D
 have C:∀ k,(∃ j,j<k∧stays n nx en j)→∃ i,i<k∧stays n nx en i∧∀ j,j<i→¬ stays n nx en j:=by
  intro k
  induction k with
  | zero=>rintro⟨j,hj,-⟩;omega
  | succ k E =>
   rintro⟨j,hj,hs⟩;by_cases h:∃ j,j<k∧stays n nx en j
   ·obtain⟨i,h1,h2⟩:=E h;exact⟨i,by omega,h2⟩
   have:j=k:=Classical.byContradiction fun B=>h ⟨j,by omega,hs⟩
   subst this;exact⟨j,by omega,hs,fun i hi F=>h ⟨i,hi,F⟩⟩
 obtain⟨G,h1,h2⟩:=C (n+1) ⟨i,by omega,hs⟩;exact⟨G,by omega,h2⟩
theorem Zed {p q:Nat→Bool}:∀ {k:Nat},(∀ t,t<k→p t=q t)→Zbo p k=Zbo q k
 | 0,_=>rfl
 | k+1,h=>by
  have B:=Zed (k:=k) fun t ht=>h t (by omega)
  have hk:=h k (by omega);unfold Zbo;rw[← B,← hk];by_cases hl:Zbo p k<k
  ·rw[h _ (by omega)]
  simp[hl]
theorem Zj9 (B:∀ s c,s<n→c<3→nx s c<n) {cl C:Nat→Nat} (h:∀ s,s<n→cl s=C s) {s:Nat} (hs:s<n):Zav n nx cl s=Zav n nx C s:=by
 unfold Zav;refine Zed fun t ht => ?_
 rw[Bool.eq_iff_iff,ZaB,ZaB,h t ht,h s hs];constructor
 ·rintro⟨h1,h2⟩;exact⟨h1,fun c hc=>by rw[← h _ (B t c ht hc),← h _ (B s c hs hc)];exact h2 c hc⟩
 rintro⟨h1,h2⟩;exact⟨h1,fun c hc=>by rw[h _ (B t c ht hc),h _ (B s c hs hc)];exact h2 c hc⟩
theorem Zd2 (B:∀ s c,s<n→c<3→nx s c<n) {en:Nat→Bool} {i:Nat} (h:stays n nx en i):∀ j,i≤j→∀ s,s<n→clAt n nx en j s=clAt n nx en i s:=by
 intro j
 induction j with
 | zero =>
  intro hj s _;obtain rfl:i=0:=by omega
  rfl
 | succ j C =>
  intro hj s hs;by_cases hij:i=j+1
  ·subst hij;rfl
  have e:clAt n nx en (j+1) s=Zav n nx (clAt n nx en j) s:=rfl;rw[e,Zj9 B (C (by omega)) hs];exact h s hs
def Zfz (n:Nat) (nx:Nat→Nat→Nat) (en:Nat→Bool):Nat→Nat:=clAt n nx en n
theorem Zmy (B:∀ s c,s<n→c<3→nx s c<n) {en:Nat→Bool} {i:Nat} (hi:i≤n) (h:stays n nx en i) {s:Nat} (hs:s<n):Zfz n nx en s=clAt n nx en i s:=Zd2 B h n hi s hs
theorem ZhR (B:∀ s c,s<n→c<3→nx s c<n) (en:Nat→Bool):stays n nx en n:=by obtain⟨i,hi,hs,-⟩:=Zi0 (n:=n) (nx:=nx) en;intro s C;rw[Zd2 B hs (n+1) (by omega) s C,Zd2 B hs n hi s C]
theorem ZjN (B:∀ s c,s<n→c<3→nx s c<n) {en:Nat→Bool} {s t:Nat} (hs:s<n) (ht:t<n):Zfz n nx en s=Zfz n nx en t→∀ c,c<3→Zfz n nx en (nx s c)=Zfz n nx en (nx t c):=by
 intro h;have h1:=ZhR B en;have h2:Zav n nx (Zfz n nx en) s=Zav n nx (Zfz n nx en) t:=by have a:=h1 s hs;have b:=h1 t ht;exact a.trans (h.trans b.symm)
 exact((ZaB nx).1 ((Zb7 hs ht).1 h2)).2
theorem ZkJ {en:Nat→Bool}:∀ (i:Nat) {s t:Nat},s<n→t<n→clAt n nx en i s=clAt n nx en i t→en s=en t
 | 0,_,_,hs,ht,h=>(ZiN hs ht).1 h
 | i+1,_,_,hs,ht,h=>ZkJ i hs ht ((ZaB nx).1 ((Zb7 hs ht).1 h)).1
theorem Zdx {en:Nat→Bool} {s t:Nat} (hs:s<n) (ht:t<n) (h:Zfz n nx en s=Zfz n nx en t):en s=en t:=ZkJ n hs ht h
end
end Go.Proofs.YtncekbbhgipdlaaGreat
namespace Go.Proofs.YtncekbbhgipdlaaGreat
open Go.RowKit
section
variable {α β:Type} [DecidableEq α] [DecidableEq β] {nx:α→Nat→α} {nx':β→Nat→β} {a:α} {f:α→β} {Q:α→Prop}
theorem ZkK (B:∀ x c,c<3→Q x→Q (nx x c)) (hf:∀ x y,Q x→Q y→f x=f y→x=y) (hn:∀ x c,c<3→Q x→f (nx x c)=nx' (f x) c) {x:α} (hx:Q x) (wd:List Nat) {s:Bs α} (hs:∀ y∈s.met,Q y) :
  ∀ n,n≤3→brow nx' (f x) wd ⟨s.met.map f,s.words⟩ n=⟨(brow nx x wd s n).met.map f,(brow nx x wd s n).words⟩∧∀ y∈(brow nx x wd s n).met,Q y
 | 0,_=>⟨rfl,hs⟩
 | n+1,hn3=>by
  obtain⟨h1,h2⟩:=ZkK B hf hn hx wd hs n (by omega);have hq:=B x n (by omega) hx
  have hm:nx' (f x) n∈(brow nx x wd s n).met.map f↔nx x n∈(brow nx x wd s n).met:=by
   rw[← hn x n (by omega) hx];constructor
   ·intro h;obtain⟨y,hy,e⟩:=List.mem_map.1 h;rw[← hf _ _ (h2 y hy) hq e];exact hy
   exact fun h=>List.mem_map.2 ⟨_,h,rfl⟩
  have e:brow nx' (f x) wd ⟨s.met.map f,s.words⟩ (n+1)=bvisit nx' (f x) wd (brow nx' (f x) wd ⟨s.met.map f,s.words⟩ n) n:=rfl;have e2:brow nx x wd s (n+1)=bvisit nx x wd (brow nx x wd s n) n:=rfl;rw[e,e2,h1];unfold bvisit;by_cases h:nx x n∈(brow nx x wd s n).met
  ·rw[if_pos h,if_pos (hm.2 h)];exact⟨rfl,h2⟩
  rw[if_neg h,if_neg (fun h2=>h (hm.1 h2))];refine⟨by simp[hn x n (by omega) hx],fun y hy => ?_⟩;simp only[List.mem_append,List.mem_singleton] at hy;rcases hy with hy|rfl
  ·exact h2 y hy
  exact hq
theorem ZmD (h0:Q a) (B:∀ x c,c<3→Q x→Q (nx x c)) (hf:∀ x y,Q x→Q y→f x=f y→x=y) (hn:∀ x c,c<3→Q x→f (nx x c)=nx' (f x) c):∀ k,bat nx' (f a) k=⟨(bat nx a k).met.map f,(bat nx a k).words⟩
 | 0=>rfl
 | k+1=>by
  have C:=ZmD h0 B hf hn k;have hl:(bat nx' (f a) k).met.length=(bat nx a k).met.length:=by rw[C];simp
  by_cases h:k<(bat nx a k).met.length
  ·rw[ZaP h,ZaP (by rw[hl];exact h)];unfold bpart;rw[C];have hx:((bat nx a k).met.map f).getD k (f a)=f ((bat nx a k).met.getD k a):=by simp[h]
   simp only[hx];exact(ZkK B hf hn (ZbA h0 B k _ (memD h)) _ (ZbA h0 B k) 3 (by omega)).1
  rw[ZbU (by omega),ZbU (by omega),C]
theorem Zhg {L:List α} {x:α} (hf:∀ y∈L,f y=f x→y=x):Zam (L.map f) (f x)=Zam L x:=by
 unfold Zam
 induction L with
 | nil=>rfl
 | cons y l B =>
  have h1:=hf y (by simp);have h2:=B fun z hz=>hf z (by simp[hz])
  simp only[List.map_cons,List.idxOf_cons];by_cases h:y=x
  ·subst h;simp
  have:f y≠f x:=fun e=>h (h1 e)
  have e1:(f y==f x)=false:=by simpa using this
  have e2:(y==x)=false:=by simpa using h
  rw[e1,e2];simp[h2]
theorem ZdI {en:α→Bool} {en':β→Bool} {K:Nat} (h0:Q a) (B:∀ x c,c<3→Q x→Q (nx x c)) (hf:∀ x y,Q x→Q y→f x=f y→x=y) (hn:∀ x c,c<3→Q x→f (nx x c)=nx' (f x) c) (he:∀ x,Q x→en' (f x)=en x) :
  Zar nx' en' (bat nx' (f a) K).met=Zar nx en (bat nx a K).met:=by
 have hm:=congrArg Bs.met (ZmD h0 B hf hn K);simp only at hm;have hq:=ZbA h0 B K;rw[hm];unfold Zar
 have e1:((bat nx a K).met.map f).map (Zai nx' ((bat nx a K).met.map f))=(bat nx a K).met.map (Zai nx (bat nx a K).met):=by
  rw[List.map_map];refine List.map_congr_left fun x hx => ?_
  unfold Zai;refine List.map_congr_left fun c hc => ?_
  have hc3:c<3:=List.mem_range.1 hc;rw[← hn x c hc3 (hq x hx),Zhg fun y hy e=>hf _ _ (hq y hy) (B x c hc3 (hq x hx)) e]
 have e2:((bat nx a K).met.map f).map en'=(bat nx a K).met.map en:=by rw[List.map_map];exact List.map_congr_left fun x hx=>he x (hq x hx)
 rw[e1,e2]
end
theorem Zmz {n m:Nat} {nx nx':Nat→Nat→Nat} {en en':Nat→Bool} (φ:Nat→Nat) (C:∀ i,i<m→φ i<n) (B:∀ i c,i<m→c<3→nx' i c<m∧φ (nx' i c)=nx (φ i) c) (hen:∀ i,i<m→en' i=en (φ i)) :
  ∀ (r:Nat) {i j:Nat},i<m→j<m→(clAt m nx' en' r i=clAt m nx' en' r j↔clAt n nx en r (φ i)=clAt n nx en r (φ j))
 | 0,i,j,hi,hj=>by rw[ZiN hi hj,ZiN (C i hi) (C j hj),hen i hi,hen j hj]
 | r+1,i,j,hi,hj=>by
  have D:=fun {i j:Nat} (hi:i<m) (hj:j<m)=>Zmz φ C B hen r hi hj
  show Zav m nx' (clAt m nx' en' r) i=Zav m nx' (clAt m nx' en' r) j↔Zav n nx (clAt n nx en r) (φ i)=Zav n nx (clAt n nx en r) (φ j);rw[Zb7 hi hj,Zb7 (C i hi) (C j hj),ZaB,ZaB,D hi hj];constructor
  ·rintro⟨h1,h2⟩;refine⟨h1,fun c hc => ?_⟩;have h:=(D (B i c hi hc).1 (B j c hj hc).1).1 (h2 c hc)
   rwa [(B i c hi hc).2,(B j c hj hc).2] at h
  rintro⟨h1,h2⟩;refine⟨h1,fun c hc=>(D (B i c hi hc).1 (B j c hj hc).1).2 ?_⟩;rw[(B i c hi hc).2,(B j c hj hc).2];exact h2 c hc
theorem ZpJ {n m:Nat} {nx nx':Nat→Nat→Nat} {en en':Nat→Bool} (φ:Nat→Nat) (B:m≤n) (D:∀ i,i<m→φ i<n) (C:∀ i c,i<m→c<3→nx' i c<m∧φ (nx' i c)=nx (φ i) c) (hen:∀ i,i<m→en' i=en (φ i)) {i j:Nat} (hi:i<m) (hj:j<m) :
  Zfz m nx' en' i=Zfz m nx' en' j↔Zfz n nx en (φ i)=Zfz n nx en (φ j):=by
 have hin:∀ s c,s<m→c<3→nx' s c<m:=fun s c hs hc=>(C s c hs hc).1
 have hs:=ZhR hin en';have e1:=Zd2 hin hs n B i hi;have e2:=Zd2 hin hs n B j hj;show clAt m nx' en' m i=clAt m nx' en' m j↔_;rw[← e1,← e2];exact Zmz φ D C hen n hi hj
def clD (d:DfaD) (s:Nat):Nat:=Zfz d.next.length (nxD d) (enD d) s
def nxM (d:DfaD) (s:Int) (c:Nat):Int:=(clD d (nxD d s.toNat c):Nat)
def minD (d:DfaD):DfaD:=Zar (nxM d) (den d) (bat (nxM d) ((clD d 0:Nat):Int) d.next.length).met
def Zdi (x:DfaD):DfaD:=⟨(List.range x.next.length).map fun k=>(List.range 3).map fun c=>((clD x (nxD x k c):Nat):Int),x.ends⟩
def Zao (d:DfaD):DfaD:=Zbj (Zdi (Zbj d))
theorem ZbH {d:DfaD} (s:Nat) (hs:s<d.next.length):clD d s≤s∧clD d (clD d s)=clD d s:=by have h:=Zek (n:=d.next.length) (nx:=nxD d) (enD d) d.next.length;exact⟨h.le s hs,h.id s hs⟩
def phiD (d:DfaD) (i:Nat):Nat:=((bat (dnx d) 0 d.next.length).met.getD i 0).toNat
theorem Zil {d:DfaD} (hd:fine d):fine (Zbj d)∧(Zbj d).next.length≤d.next.length∧(∀ i,i<(Zbj d).next.length→phiD d i<d.next.length) ∧
  (∀ i c,i<(Zbj d).next.length→c<3→nxD (Zbj d) i c<(Zbj d).next.length∧phiD d (nxD (Zbj d) i c)=nxD d (phiD d i) c)∧(∀ i,i<(Zbj d).next.length→enD (Zbj d) i=enD d (phiD d i))∧phiD d 0=0:=by
 obtain⟨h1,h2⟩:=ZbL hd d.next.length;have hf:=Zeu (nx:=dnx d) (a:=(0:Int)) (en:=den d) h2 (by have:=hd.2.1;omega);have hl:(Zbj d).next.length=(bat (dnx d) 0 d.next.length).met.length:=ZaW _ _ _;have B:∀ i,i<(bat (dnx d) 0 d.next.length).met.length→(bat (dnx d) 0 d.next.length).met.getD i 0=((phiD d i:Nat):Int)∧phiD d i<d.next.length:=fun i hi=>by obtain⟨a,b⟩:=h1 _ (memD (d:=0) hi);unfold phiD;omega
 refine⟨hf,by rw[hl];exact h2,fun i hi=>(B i (by rw[← hl];exact hi)).2,fun i c hi hc => ?_,fun i hi => ?_,?_⟩
 ·have hi':i<(bat (dnx d) 0 d.next.length).met.length:=by rw[← hl];exact hi
  refine⟨(Zcv hf hi hc).1,?_⟩;obtain⟨D,C⟩:=B i hi';have hn:nxD (Zbj d) i c=Zam (bat (dnx d) 0 d.next.length).met (dnx d ((bat (dnx d) 0 d.next.length).met.getD i 0) c):=by unfold nxD Zbj;rw[ZfQ (a:=(0:Int)) hi',Zhm hc,Int.toNat_natCast]
  have hm:=ZcN (nx:=dnx d) (a:=(0:Int)) h2 (memD (d:=0) hi') hc;rw[hn];unfold phiD;rw[ZjA hm,D,(Zcv hd C hc).2,Int.toNat_natCast];rfl
 ·have hi':i<(bat (dnx d) 0 d.next.length).met.length:=by rw[← hl];exact hi
  unfold enD Zbj phiD;simp[Zar,hi',den]
 unfold phiD;rw[ZhV];rfl
theorem ZiI {x:DfaD} (hx:fine x):fine (Zdi x)∧(Zdi x).next.length=x.next.length∧∀ k c,k<x.next.length→c<3→dnx (Zdi x) (k:Int) c=((clD x (nxD x k c):Nat):Int):=by
 have hl:(Zdi x).next.length=x.next.length:=by simp[Zdi]
 have hr:∀ k,k<x.next.length→(Zdi x).next.getD k []=(List.range 3).map fun c=>((clD x (nxD x k c):Nat):Int):=fun k hk=>by simp[Zdi,hk]
 have hc:∀ k c,k<x.next.length→c<3→((Zdi x).next.getD k []).getD c 0=((clD x (nxD x k c):Nat):Int):=fun k c hk hc=>by rw[hr k hk];simp[hc]
 refine⟨⟨by rw[hl];exact hx.1,by rw[hl];exact hx.2.1,by rw[hl];exact hx.2.2.1,fun i hi => ?_⟩,hl,fun k c hk h3 => ?_⟩
 ·rw[hl] at hi;refine⟨by rw[hr i hi];simp,fun c h3 => ?_⟩;rw[hc i c hi h3,hl];have h1:=(Zcv hx hi h3).1;have h2:=(ZbH (nxD x i c) h1).1;omega
 unfold dnx;rw[Int.toNat_natCast];exact hc k c hk h3
theorem ZcR {d:DfaD} (hd:fine d):Zao d=minD d:=by
 obtain⟨hx,E,B,F,hen,I⟩:=Zil hd;obtain⟨x,hxe⟩:=eI (Zbj d);unfold Zao;rw[← hxe] at hx E B F hen ⊢;obtain⟨hff,M,H⟩:=ZiI hx;have J:0<x.next.length:=hx.1;have D:=fun {i j:Nat} (hi:i<x.next.length) (hj:j<x.next.length)=>ZpJ (n:=d.next.length) (m:=x.next.length) (nx:=nxD d) (nx':=nxD x) (en:=enD d) (en':=enD x) (phiD d) E B F hen hi hj
 have G:∀ s c,s<d.next.length→c<3→nxD d s c<d.next.length:=fun s c hs hc=>(Zcv hd hs hc).1
 have C:=(ZbL hff x.next.length).2;rw[M] at C;have L:bat (dnx (Zdi x)) 0 d.next.length=bat (dnx (Zdi x)) 0 x.next.length:=Zbc C E
 have key:=ZdI (nx:=dnx (Zdi x)) (nx':=nxM d) (a:=(0:Int)) (f:=fun j:Int=>((clD d (phiD d j.toNat):Nat):Int)) (Q:=fun j=>∃ k:Nat,j=(k:Int)∧k<x.next.length∧clD x k=k) (en:=den (Zdi x)) (en':=den d) (K:=d.next.length)
  ⟨0,rfl,J,Nat.le_zero.1 (ZbH 0 J).1⟩ ?_ ?_ ?_ ?_
 ·unfold Zbj minD;rw[M,← L,← key];have e:((clD d (phiD d (0:Int).toNat):Nat):Int)=((clD d 0:Nat):Int):=by show((clD d (phiD d 0):Nat):Int)=_;rw[I]
  simp only[e]
 ·rintro j c hc ⟨k,rfl,hk,-⟩;rw[H k c hk hc];have h1:=(Zcv hx hk hc).1;obtain⟨h2,h3⟩:=ZbH (nxD x k c) h1;exact⟨_,rfl,by omega,h3⟩
 ·rintro j R ⟨k,rfl,hk,hr⟩ ⟨P,rfl,O,N⟩ h;simp only[Int.toNat_natCast] at h;have h1:clD d (phiD d k)=clD d (phiD d P):=by omega
  have h2:clD x k=clD x P:=(D hk O).2 h1;rw[hr,N] at h2;rw[h2]
 ·rintro j c hc ⟨k,rfl,hk,-⟩;rw[H k c hk hc];obtain⟨h1,-⟩:=Zcv hx hk hc;obtain⟨h2,h3⟩:=ZbH (nxD x k c) h1;simp only[Int.toNat_natCast,nxM];have a1:clD d (phiD d (clD x (nxD x k c)))=clD d (phiD d (nxD x k c)):=(D (by omega) h1).1 h3;rw[a1,(F k c hk hc).2];obtain⟨h4,h5⟩:=ZbH (phiD d k) (B k hk);have a2:clD d (nxD d (clD d (phiD d k)) c)=clD d (nxD d (phiD d k) c):=ZjN G (en:=enD d) (s:=clD d (phiD d k)) (t:=phiD d k) (by have:=B k hk;omega) (B k hk) h5 c hc;rw[a2]
 rintro j ⟨k,rfl,hk,-⟩;obtain⟨h4,h5⟩:=ZbH (phiD d k) (B k hk);have a:=Zdx (n:=d.next.length) (nx:=nxD d) (en:=enD d) (s:=clD d (phiD d k)) (t:=phiD d k) (by have:=B k hk;omega) (B k hk) h5;simp only[Int.toNat_natCast];show enD d (((clD d (phiD d k):Nat):Int).toNat)=enD x (((k:Nat):Int).toNat);rw[Int.toNat_natCast,Int.toNat_natCast,a,hen k hk]
def clsL (n:Nat) (cl:Nat→Nat):List Int:=(List.range n).map fun s=>(cl s:Int)
theorem ZbT (n:Nat) (cl:Nat→Nat):(clsL n cl).length=n:=by simp[clsL]
theorem ZjM {n s:Nat} (cl:Nat→Nat) (h:s<n):(clsL n cl).getD s 0=(cl s:Int):=by simp[clsL,h]
def ZeM (d:DfaD) (cl:Nat→Nat) (s o:Nat) (k:Nat):Bool:=(List.range k).all fun c=>decide (cl (nxD d s c)=cl (nxD d o c))
theorem Zit (d:DfaD) (cl:Nat→Nat) (s o k:Nat):ZeM d cl s o (k+1)=(ZeM d cl s o k&&decide (cl (nxD d s k)=cl (nxD d o k))):=by unfold ZeM;rw[List.range_succ,List.all_append];simp
theorem Zqp {d:DfaD} {cl:Nat→Nat} {s o k:Nat} (hk:k<3) (h:cl (nxD d s k)≠cl (nxD d o k)):ZeM d cl s o 3=false:=by
 cases he:ZeM d cl s o 3 with
 | false=>rfl
 | true =>have:=List.all_eq_true.1 he k (List.mem_range.2 hk);exact absurd (by simpa using this) h
theorem Zk9 (d:DfaD) (cl:Nat→Nat) (s o:Nat) (dv cv:Value) (w:World) (hd:Zac d.next d.ends=true) (hs:s<d.next.length) (ho:o<d.next.length) (aC:∀ t,t<d.next.length→cl t<d.next.length) (h:DfaR 0 w dv d) (hc:Ints 0 w cv (clsL d.next.length cl)) (r:Bool) (hr:ZeM d cl s o 3=r) :
  Calls Tryz.prog 139 #[dv,cv,.int .i64 s,.int .i64 o] w fun e w'=>e = .returned (.bool r)∧Below w.heap.size w w':=by
 obtain⟨v1,v2,rfl,q1,q2⟩:=h;have hf:=ZaS hd;obtain⟨L,X⟩:=eI (d.next.length);obtain⟨aE,aJ,-⟩:=Zaf hd;have D:=fun (i:Nat) (hi:i<d.next.length)=>(ZaM hd hi).1
 have b:=fun (i c:Nat) (hi:i<d.next.length) (h3:c<3)=>(Zcv hf hi h3)
 obtain⟨av,U,rfl,aN,aO,aA⟩:=q1.formI;obtain⟨b1,o1,rfl,-,hb1,F⟩:=aA (by omega);obtain⟨ac,cc,rfl,hc3,aR,j⟩:=hc.form;rw[ZbT] at hc3 j;rw[ZbT];obtain⟨b2,o2,rfl,-,hb2,P⟩:=j (by omega);have G:∀ t,t<d.next.length→w.cell? ⟨b2,o2+t,none⟩=some (.int .i64 (cl t:Nat)):=fun t ht=>by rw[P t ht,ZjM cl ht]
 obtain⟨ax,cs,a,-,-,l⟩:=F s hs;obtain⟨ao,co,g,-,-,S⟩:=F o ho;rw[D s hs] at a l;rw[D o ho] at g S;obtain⟨_,_,B,-,-,V⟩:=l.form;rw[D s hs] at B V;simp only[Value.slice.injEq,true_and] at B;obtain⟨rfl,rfl⟩:=B;obtain⟨b3,o3,rfl,-,aK,Q⟩:=V (by omega);obtain⟨_,_,B,-,-,hro⟩:=S.form;rw[D o ho] at B hro;simp only[Value.slice.injEq,true_and] at B;obtain⟨rfl,rfl⟩:=B;obtain⟨b4,o4,rfl,-,aG,N⟩:=hro (by omega)
 have R:∀ i c,i<d.next.length→c<3→(d.next.getD i []).getD c 0=((nxD d i c:Nat):Int):=fun i c hi h3=>by
  have:=(b i c hi h3).2;unfold dnx at this
  rwa [Int.toNat_natCast] at this
 have J:=(St.start w).alloc _ rfl #[.slice (some ⟨b1,o1,none⟩) d.next.length U,v2] 44;have x:=qh b;have O:=qh R;have H:=qh G;have aF:=qh a;have aH:=qh g;have m:=qh Q;have z:=qh N;have aU:=qh aC;rw[← X] at hs ho aE aJ J;rw[← X];have aT:(s:Int)<L:=by omega
 have aS:(o:Int)<L:=by omega
 replace J:=qh J;have u:=qh hr;clear hr;replace X:=qh X;clear b R G a g Q N aC F P aA j V hro l S q1 q2 hc hd D hf
 go_enter Tryz.func139, Tryz.ntmps139
 go_wp2
 go_loopw [10] (fun i wr=>∃ k:Nat,i = .int .i64 k∧k≤3∧ZeM d cl s o k=true∧St w wr [Ent.box w.heap.size #[.slice (some ⟨b1,o1,none⟩) L U,v2] 44]) (fun i _=>3-(intOf i).toNat)
 case atStart=>exact⟨0,rfl,by omega,rfl,J.o⟩
 case round =>
  obtain⟨k,rfl,hk,E,hS⟩:=hrel;by_cases hlt:k<3
  ·have hlt2:(k:Int)<3:=by omega
   have Y:s<d.next.length:=by have:=X.o;omega
   have T:o<d.next.length:=by have:=X.o;omega
   have h1:=(x.o s k Y hlt).1;have h2:=(x.o o k T hlt).1;have e0:=hS.cell (v:=.slice (some ⟨b1,o1,none⟩) L U) 0 0 rfl rfl;have e1:=(bcell hS.bel b1 _ hb1).trans aF.o;have e2:=(bcell hS.bel b1 _ hb1).trans aH.o;have e3:=(bcell hS.bel b3 _ aK).trans (m.o k hlt);have e4:=(bcell hS.bel b4 _ aG).trans (z.o k hlt);rw[O.o s k Y hlt] at e3;rw[O.o o k T hlt] at e4;have e5:=(bcell hS.bel b2 _ hb2).trans (H.o _ h1);have e6:=(bcell hS.bel b2 _ hb2).trans (H.o _ h2);have C:=Zit d cl s o k;obtain⟨p,hp⟩:=eI (nxD d s k);obtain⟨q,hq⟩:=eI (nxD d o k);rw[← hp] at h1 e3 e5 C;rw[← hq] at h2 e4 e6 C;rw[E,Bool.true_and] at C;rw[← X.o] at h1 h2;have aP:(p:Int)<L:=by omega
   have aQ:(q:Int)<L:=by omega
   have aD:=qh hp;clear hp;have aL:=qh hq;clear hq;have I:=qh hS;clear hS;have n:=qh E;clear E;have M:=qh C;clear C;clear h1 h2 Y T;by_cases he:cl p=cl q
   ·have aI:((cl p:Int) != (cl q:Int))=false:=by rw[he];simp
    have y:((cl p:Int)=(cl q:Int))=True:=by simp[he]
    have aB:(!((cl p:Int)==(cl q:Int)))=false:=by rw[he];simp
    have Z:=qh he;clear he;go_wp2
    go_quiet (fail)
    go_wp2;go_roundw
    case rel=>exact⟨k+1,by go_num,by omega,by rw[M.o];simp[Z.o],I.o.drewN _⟩
    case measure=>simp[intOf];omega
   have aI:((cl p:Int) != (cl q:Int))=true:=by simp;omega
   have y:((cl p:Int)=(cl q:Int))=False:=by simp;omega
   have aB:(!((cl p:Int)==(cl q:Int)))=true:=by simp;omega
   have Z:=qh he;clear he;go_wp2
   go_quiet (fail)
   go_wp2;go_ret;have hrf:false=r:=by rw[← u.o];exact(Zqp hlt (by rw[← aD.o,← aL.o];exact Z.o)).symm
   subst hrf;exact⟨rfl,(I.o.drewN _).bel⟩
  obtain rfl:k=3:=by omega
  have aM:true=r:=by rw[← u.o,E]
  subst aM;have I:=qh hS;clear hS;have n:=qh E;clear E;go_wp2;go_ret;exact⟨rfl,I.o.bel⟩
def Zdr (l:List Int) (x:Int):Int:=if x∈l then((l.idxOf x:Nat):Int) else -1
theorem Zki {l:List Int} {x:Int} {k:Nat} (hk:k<l.length) (hn:x ∉ l.take k) (h:l.getD k 0=x):Zdr l x=(k:Int):=by
 have hx:l[k]=x:=by simpa [hk] using h
 have hm:x∈l:=by rw[← hx];exact List.getElem_mem hk
 unfold Zdr;rw[if_pos hm];have e:l=l.take k++(x::l.drop (k+1)):=by rw[← hx,List.getElem_cons_drop,List.take_append_drop]
 have:l.idxOf x=k:=by rw[e,List.idxOf_append,if_neg hn];simp;omega
 rw[this]
theorem ZiD (l:List Int) (x:Int) (v:Value) (w:World) (hl:l.length≤1000000) (h:Ints 0 w v l) :
  Calls Tryz.prog 128 #[v,.int .i64 x] w fun e w'=>e = .returned (.int .i64 (Zdr l x))∧Below w.heap.size w w':=by
 obtain⟨a,c,rfl,J,M,hr⟩:=h.form;have Hr:=qh hr;clear hr h
 go_enter Tryz.func128, Tryz.ntmps128
 go_wp2
 go_loopw [5] (fun i wr=>∃ k:Nat,i = .int .i64 k∧k≤l.length∧x ∉ l.take k∧Below w.heap.size w wr) (fun i _=>l.length-(intOf i).toNat)
 case atStart=>exact⟨0,rfl,Nat.zero_le _,by simp,Below.refl _ _⟩
 case round =>
  obtain⟨k,rfl,hk,hn,hb⟩:=hrel;by_cases hlt:k<l.length
  ·have hlt2:(k:Int)<l.length:=by omega
   obtain⟨b,o,rfl,-,I,F⟩:=Hr.o (by omega);have O:=(bcell hb b _ I).trans (F k hlt);have E:l.take (k+1)=l.take k++[l.getD k 0]:=by rw[List.take_succ_eq_append_getElem hlt];simp[hlt]
   obtain⟨y,hy⟩:=eI (l.getD k 0);rw[← hy] at O E;replace hy:=qh hy;replace hb:=qh hb;have G:=qh E;clear E;clear F;by_cases he:y=x
   ·subst he;have C:Zdr l y=(k:Int):=Zki hlt hn hy.o.symm;have D:=qh hn;clear hn;have B:=qh C;clear C;go_wp2;go_ret;refine⟨?_,hb.o⟩;rw[B.o];rfl
   have L:(y=x)=False:=by simp[he]
   have N:(y==x)=false:=by simpa using he
   have D:=qh hn;clear hn;have H:=qh he;clear he;go_wp2;go_roundw
   case rel=>exact⟨k+1,by go_num,by omega,by rw[G.o];simp only[List.mem_append,List.mem_singleton,not_or];exact⟨D.o,fun e=>H.o e.symm⟩,hb.o⟩
   case measure=>simp[intOf];omega
  obtain rfl:k=l.length:=by omega
  rw[List.take_length] at hn;have C:Zdr l x = -1:=by unfold Zdr;rw[if_neg hn]
  have D:=qh hn;clear hn;replace hb:=qh hb;have B:=qh C;clear C;go_wp2;go_ret;refine⟨?_,hb.o⟩;rw[B.o];rfl
section
variable {n:Nat} {nx:Nat→Nat→Nat}
def clR (n:Nat) (nx:Nat→Nat→Nat) (en:Nat→Bool):Nat→Nat→Nat
 | 0=>fun s=>if en s=true then 1 else 0
 | i+1=>Zav n nx (clR n nx en i)
theorem Zld (B:∀ s c,s<n→c<3→nx s c<n) {cl C:Nat→Nat} (h:∀ s t,s<n→t<n→(cl s=cl t↔C s=C t)) {s:Nat} (hs:s<n):Zav n nx cl s=Zav n nx C s:=by
 unfold Zav;refine Zed fun t ht => ?_
 rw[Bool.eq_iff_iff,ZaB,ZaB,h t s ht hs];constructor
 ·rintro⟨a,b⟩;exact⟨a,fun c hc=>(h _ _ (B t c ht hc) (B s c hs hc)).1 (b c hc)⟩
 rintro⟨a,b⟩;exact⟨a,fun c hc=>(h _ _ (B t c ht hc) (B s c hs hc)).2 (b c hc)⟩
theorem Zmw (B:∀ s c,s<n→c<3→nx s c<n) (en:Nat→Bool):∀ i,(∀ s t,s<n→t<n→(clR n nx en i s=clR n nx en i t↔clAt n nx en i s=clAt n nx en i t))∧(0<i→∀ s,s<n→clR n nx en i s=clAt n nx en i s)
 | 0=>⟨fun s t hs ht=>by rw[ZiN hs ht];unfold clR;cases en s<;>cases en t<;>simp,fun h=>absurd h (by omega)⟩
 | i+1=>by
  have C:=(Zmw B en i).1;have h2:∀ s,s<n→clR n nx en (i+1) s=clAt n nx en (i+1) s:=fun s hs=>Zld B C hs
  exact⟨fun s t hs ht=>by rw[h2 s hs,h2 t ht],fun _=>h2⟩
theorem Zio (B:∀ s c,s<n→c<3→nx s c<n) (en:Nat→Bool) (i:Nat):stays n nx en i↔∀ k j,k<n→j<k→(clR n nx en i j=clR n nx en i k↔clR n nx en (i+1) j=clR n nx en (i+1) k):=by
 have h0:=(Zmw B en i).1;have h1:=(Zmw B en (i+1)).1;constructor
 ·intro h k j hk hj;rw[h0 j k (by omega) hk,h1 j k (by omega) hk,h j (by omega),h k hk]
 intro h
 have key:∀ k j,k<n→j≤k→(clAt n nx en i j=clAt n nx en i k↔clAt n nx en (i+1) j=clAt n nx en (i+1) k):=fun k j hk hj=>by
  by_cases e:j=k
  ·rw[e];exact⟨fun _=>rfl,fun _=>rfl⟩
  have:=h k j hk (by omega)
  rwa [h0 j k (by omega) hk,h1 j k (by omega) hk] at this
 intro s hs;have C:=Zek (n:=n) (nx:=nx) en i;have g1:=Zek (n:=n) (nx:=nx) en (i+1);have a1:=g1.le s hs;have b1:=C.le s hs;have a2:=(key s _ hs a1).2 (g1.id s hs);have b2:=(key s _ hs b1).1 (C.id s hs);have a3:=C.le (clAt n nx en (i+1) s) (by omega);have b3:=g1.le (clAt n nx en i s) (by omega);omega
theorem Zox {cl:Nat→Nat} (B:GoodC n cl) {k:Nat} (hk:k<n):Zdr (clsL n cl) (cl k:Int)=(cl k:Int):=by have h1:=B.le k hk;have h2:=B.id k hk;refine Zki (by rw[ZbT];omega) (fun hm => ?_) (by rw[ZjM cl (by omega),h2]);obtain⟨i,hi,e⟩:=List.getElem_of_mem hm;simp only[List.length_take,ZbT] at hi;rw[List.getElem_take] at e;simp only[clsL,List.getElem_map,List.getElem_range] at e;have:=B.le i (by omega);omega
def lowK (n:Nat) (nx:Nat→Nat→Nat) (cl:Nat→Nat) (k m x:Nat):Prop:=x=Zav n nx cl k∨(x=k∧∀ t,m≤t→t<k→ZbZ nx cl t k=false)
theorem Zm2 (cl:Nat→Nat) (k:Nat):lowK n nx cl k k k:=Or.inr ⟨rfl,fun t h1 h2=>by omega⟩
theorem ZqL {cl:Nat→Nat} {k m:Nat} (hk:k<n) (hm:m<n) (h:ZbZ nx cl m k=true):lowK n nx cl k m (Zav n nx cl m):=Or.inl ((Zb7 hm hk).2 h)
theorem ZrW {cl:Nat→Nat} {k m x:Nat} (h:ZbZ nx cl m k=false) (hl:lowK n nx cl k (m+1) x):lowK n nx cl k m x:=by
 rcases hl with h1|⟨h1,h2⟩
 ·exact Or.inl h1
 refine Or.inr ⟨h1,fun t a b => ?_⟩;by_cases e:t=m
 ·rw[e];exact h
 exact h2 t (by omega) b
theorem ZqM {cl:Nat→Nat} {k x:Nat} (hk:k<n) (hl:lowK n nx cl k 0 x):x=Zav n nx cl k:=by
 rcases hl with h1|⟨h1,h2⟩
 ·exact h1
 obtain⟨a1,a2,a3⟩:=Za5 (nx:=nx) (cl:=cl) hk;by_cases e:Zav n nx cl k<k
 ·have:=h2 _ (Nat.zero_le _) e;rw[this] at a2;exact absurd a2 (by simp)
 omega
end
theorem ZfX {n:Nat} {cl B:Nat→Nat} (h:∀ s,s<n→cl s=B s):clsL n cl=clsL n B:=List.map_congr_left fun s hs=>by rw[h s (List.mem_range.1 hs)]
theorem Zfw (k:Nat) (cl:Nat→Nat):clsL (k+1) cl=clsL k cl++[(cl k:Int)]:=by unfold clsL;rw[List.range_succ,List.map_append];rfl
theorem Zl0 (d:DfaD) (cl:Nat→Nat) (t s:Nat):ZbZ (nxD d) cl t s=(decide (cl t=cl s)&&ZeM d cl t s 3):=rfl
def inL (M:List Int) (n:Nat):List Bool:=(List.range n).map fun (s:Nat)=>decide ((s:Int)∈M)
theorem Zq0 (M:List Int) (n x:Nat):inL (M++[(x:Int)]) n=(inL M n).set x true:=by
 apply List.ext_getElem?;intro i;rw[List.getElem?_set];by_cases hin:i<n
 ·by_cases hx:x=i
  ·subst hx;simp[inL,hin]
  have:¬ (i:Int)=(x:Int):=by omega
  simp[inL,hin,hx,this]
 by_cases hx:x=i
 ·subst hx;simp[inL,hin]
 simp[inL,hin,hx]
theorem Zr1 (n:Nat):inL [] n=List.replicate n false:=by apply List.ext_getElem?;intro i;by_cases hin:i<n<;>simp[inL,hin]
theorem Zmj {M:List Int} {n s:Nat} (h:s<n):(boolCells (inL M n))[s]? = some (.bool (decide ((s:Int)∈M))):=by simp[inL,h]
theorem Zo3 {M:List Int} {n x:Nat}:(boolCells (inL M n)).set x (.bool true)=boolCells (inL (M++[(x:Int)]) n):=by rw[Zq0];simp[boolCells,List.map_set]
theorem ZqK {w:World} {B n:Nat} {v:Value} (h:w.ownsRow B 4 1 v n (madeCells (Value.bool false).cells (n*1)).toList):w.ownsRow B 4 1 v n (boolCells (inL [] n)):=by
 have e:(madeCells (Value.bool false).cells (n*1)).toList=boolCells (inL [] n):=by rw[Zr1];simp[madeCells,Value.cells,boolCells,Nat.mod_one,List.map_const']
 rwa [e] at h
theorem Zlt (d:DfaD) (v:Value) (w:World) (hd:Zac d.next d.ends=true) (h:DfaR 0 w v d) (F:List Int) (hF:(bat (dnx d) 0 d.next.length).met=F) :
  Calls Tryz.prog 127 #[v] w fun e w'=>∃ a c,e = .returned (.slice a F.length c)∧St w w' [Ent.row 3 1 (.slice a F.length c) F.length (intCells F)]:=by
 obtain⟨v1,v2,rfl,q1,q2⟩:=h;have hf:=ZaS hd;obtain⟨L,r⟩:=eI (d.next.length);obtain⟨cC,cH,-⟩:=Zaf hd;have aJ:=fun (i:Nat) (hi:i<d.next.length)=>(ZaM hd hi).1
 have bJ:=fun (i c:Nat) (hi:i<d.next.length) (h3:c<3)=>(Zcv hf hi h3)
 have aI:=fun (K:Nat)=>ZbL hf K
 obtain⟨av,G,rfl,cU,cX,bQ⟩:=q1.formI;obtain⟨b1,o1,rfl,-,hb1,aE⟩:=bQ (by omega);obtain⟨i0,hi,bY,bZ,bX⟩:=info_parts Tryz.infoBool;obtain⟨j0,hj,bK,bE,bH⟩:=info_parts Tryz.infoInt;have s:=(((St.start w).alloc _ rfl #[.slice (some ⟨b1,o1,none⟩) d.next.length G,v2] 44).alloc (w.heap.size+1) (by simp) #[.int .i64 0] 3).boxrow 1 1 1 [.int .i64 0] rfl rfl (by unfold maxLen;omega);rw[← r] at cC cH s hF;rw[← r];have dB:(0:Int)<L:=by omega
 have cN:0<L:=by omega
 have bB:=qh aJ;have cE:=qh bJ;have l:=qh aI;have bT:=qh aE;replace s:=qh s;replace r:=qh r;replace hF:=qh hF;have cK:=qh hi;clear hi;have bO:=qh bY;clear bY;have bG:=qh bZ;clear bZ;have bF:=qh bX;clear bX;have cL:=qh hj;clear hj;have bC:=qh bK;clear bK;have cA:=qh bE;clear bE;have bS:=qh bH;clear bH;clear aJ bJ aI aE bQ q1 q2 hf hd
 go_enter Tryz.func127, Tryz.ntmps127
 have HD:=qh (show ∀ w1:World,w1.ownsRow ((w.alloc (.cells #[.slice (some ⟨b1,o1,none⟩) L G,v2] 44)).alloc (.cells #[.int .i64 0] 3)).heap.size 4 1 (.slice (some ⟨w.heap.size+1+1,0,none⟩) L L) L (boolCells (inL [] L))→Below ((w.alloc (.cells #[.slice (some ⟨b1,o1,none⟩) L G,v2] 44)).alloc (.cells #[.int .i64 0] 3)).heap.size ((w.alloc (.cells #[.slice (some ⟨b1,o1,none⟩) L G,v2] 44)).alloc (.cells #[.int .i64 0] 3)) w1 →
   St w w1 [Ent.box w.heap.size #[.slice (some ⟨b1,o1,none⟩) L G,v2] 44,Ent.row 3 1 (.slice (some ⟨w.heap.size+1,0,none⟩) 1 1) 1 [.int .i64 0],Ent.row 4 1 (.slice (some ⟨w.heap.size+1+1,0,none⟩) L L) L (boolCells (inL [] L))] from fun w1 h1 h2=>s.o.made h2 h1)
 go_wp2_with (at_make;refine wpList_make_full _ rfl _ _ 42 rfl _ 4 i0 (.bool false) 1 Tryz.underlying42 cK.o bO.o bG.o .i64 .i64 _ _ L rfl rfl rfl rfl (by rw[bF.o];omega) (by unfold maxLen;omega) (Nat.le_refl _) ?_;intro w1 aM j;have hm:=ZqK aM;simp only[World.size_alloc] at hm;have aU:=qh (HD.o w1 (by simpa only [World.size_alloc] using hm) ((Below.refl _ _).grown j (Nat.le_refl _) (fun _ h=>by cases h)));have f0:=aU.o.rfr 2 0 rfl;have k0:=aU.o.rcell (v:=.bool false) 2 0 rfl (by omega) (by rw[Zmj (by omega)];simp);clear aM j hm);clear f0 k0
 go_loopw [3,5] (fun vo i wr=>∃ (k:Nat) (g cap:Nat),i = .int .i64 k∧vo = .slice (some ⟨g,0,none⟩) (bat (dnx d) 0 k).met.length cap∧k≤(bat (dnx d) 0 k).met.length ∧
   St w wr [Ent.box w.heap.size #[.slice (some ⟨b1,o1,none⟩) L G,v2] 44,Ent.row 3 1 (.slice (some ⟨g,0,none⟩) (bat (dnx d) 0 k).met.length cap) (bat (dnx d) 0 k).met.length (intCells (bat (dnx d) 0 k).met),Ent.row 4 1 (.slice (some ⟨w.heap.size+1+1,0,none⟩) L L) L (boolCells (inL (bat (dnx d) 0 k).met L))])
  (fun _ i _=>L+1-(intOf i).toNat)
 case atStart =>refine⟨0,_,_,rfl,rfl,Nat.zero_le _,?_⟩;have h:=aU.o.store 2 rfl 0 (.bool true);have e:=Zo3 (M:=[]) (n:=L) (x:=0);rw[e] at h;exact h
 case round =>
  obtain⟨k,g,cap,rfl,rfl,hk,hS⟩:=hrel;obtain⟨S,C⟩:=eI (bat (dnx d) 0 k);have aX:=(l.o k).2;have X:=(l.o k).1;rw[← C] at hk hS aX X;rw[← C];rw[← r.o] at aX X;by_cases hlt:k<S.met.length
  ·have hlt2:(k:Int)<S.met.length:=by omega
   have bI:k<(bat (dnx d) 0 k).met.length:=by rw[← C];exact hlt
   obtain⟨x,hx⟩:∃ x:Nat,S.met.getD k 0=(x:Int):=⟨(S.met.getD k 0).toNat,by have:=(X _ (Zc6 hlt (d:=0))).1;omega⟩;have aQ:x<L:=by have:=(X _ (Zc6 hlt (d:=0))).2;omega
   have bV:(bat (dnx d) 0 k).met.getD k 0=(x:Int):=by rw[← C];exact hx
   obtain⟨ax,cx,aS,-,-,aW⟩:=bT.o x (by rw[← r.o];exact aQ);have aB:=bB.o x (by rw[← r.o];exact aQ);rw[aB] at aS aW;obtain⟨_,_,O,-,-,aP⟩:=aW.form;rw[aB] at O aP;simp only[Value.slice.injEq,true_and] at O;obtain⟨rfl,rfl⟩:=O;obtain⟨b3,o3,rfl,-,cJ,aL⟩:=aP (by omega);have bD:=qh aL;have cY:(x:Int)<L:=by omega
   have aO:=qh hS;clear hS;have H:=qh C;clear C;have cQ:=qh X;clear X;have aG:=qh bI;clear bI;have cB:=qh hx;clear hx;have bL:=qh bV;clear bV;have cP:=qh aB;clear aB;have bM:=qh aS;clear aS;clear aW aP aL;go_wp2
   go_loopw [3,6] (fun vo i wi=>∃ (c:Nat) (g cap:Nat),i = .int .i64 c∧vo = .slice (some ⟨g,0,none⟩) (bpart (dnx d) 0 k c).met.length cap∧c≤3 ∧
     St w wi [Ent.box w.heap.size #[.slice (some ⟨b1,o1,none⟩) L G,v2] 44,Ent.row 3 1 (.slice (some ⟨g,0,none⟩) (bpart (dnx d) 0 k c).met.length cap) (bpart (dnx d) 0 k c).met.length (intCells (bpart (dnx d) 0 k c).met),Ent.row 4 1 (.slice (some ⟨w.heap.size+1+1,0,none⟩) L L) L (boolCells (inL (bpart (dnx d) 0 k c).met L))])
    (fun _ i _=>3-(intOf i).toNat)
   case atStart =>refine⟨0,g,cap,rfl,by rw[Zap,← H.o],by omega,?_⟩;rw[Zap,← H.o];exact aO.o
   case round =>
    obtain⟨c,g,cap,rfl,rfl,hc3,B⟩:=hrel;obtain⟨wp,cD⟩:∃ wp:World,wp=wr:=⟨_,rfl⟩;subst cD;by_cases hc:c<3
    ·have N:=(Za7 (nx:=dnx d) (a:=0) (k:=k) (Nat.zero_le c)).1;rw[Zap,← H.o] at N;have I:=Zbp (nx:=dnx d) (a:=0) (k:=k) (n:=c);have J:=Zbi (nx:=dnx d) (a:=0) (k:=k) (n:=c);rw[bL.o] at I J;obtain⟨bA,q⟩:=cE.o x c (by rw[← r.o];exact aQ) hc
     have R:(d.next.getD x []).getD c 0=((nxD d x c:Nat):Int):=by
      unfold dnx at q
      rwa [Int.toNat_natCast] at q
     rw[q] at I J;rw[← r.o] at bA;obtain⟨y,hy⟩:=eI (nxD d x c);rw[← hy] at I J R bA;have D:(y:Int)∈(bpart (dnx d) 0 k c).met→(bpart (dnx d) 0 k (c+1)).met=(bpart (dnx d) 0 k c).met:=fun h=>by rw[I h]
     have E:(y:Int) ∉ (bpart (dnx d) 0 k c).met→(bpart (dnx d) 0 k (c+1)).met=(bpart (dnx d) 0 k c).met++[(y:Int)]:=fun h=>by rw[J h]
     clear I J;have hle:=(ZaF (nx:=dnx d) (a:=0) (m:=k+1) aG.o (show c≤3 by omega) (by omega)).1.length_le;have aK:=(l.o (k+1)).2;rw[← r.o] at aK;obtain⟨T1,aY⟩:=eI ((bpart (dnx d) 0 k (c+1)).met);obtain⟨T,hT⟩:=eI ((bpart (dnx d) 0 k c).met);rw[← hT] at B N D E hle;rw[← aY] at D E;rw[← hT];have cW:T.length≤L:=by omega
     have cM:k<T.length:=Nat.lt_of_lt_of_le hlt N.length_le;have aT:T.getD k 0=(x:Int):=(Zas N hlt _).trans cB.o;have e0:=B.cell (v:=.slice (some ⟨b1,o1,none⟩) L G) 0 0 rfl rfl;have e1:=B.rcell (v:=.int .i64 (x:Int)) 1 k rfl (by omega) (by rw[← aT];simp[intCells,cM]);have e2:=(bcell B.bel b1 _ hb1).trans bM.o;have e3:=(bcell B.bel b3 _ cJ).trans (bD.o c hc);rw[R] at e3;have e4:=B.rcell (v:=.bool (decide ((y:Int)∈T))) 2 y rfl (by omega) (Zmj bA);have e5:=B.rfr 2 y rfl;have cZ:(c:Int)<3:=by omega
     have dA:(y:Int)<L:=by omega
     have cS:(k:Int)<T.length:=by omega
     have aD:=Zo3 (M:=T) (n:=L) (x:=y);clear hle aK;have U:=qh B;clear B;have cV:=qh hy;clear hy;have z:=qh D;clear D;have u:=qh E;clear E;have Q:=qh aY;clear aY;have dC:=qh hT;clear hT;have cT:=qh N;clear N;have cR:=qh aT;clear aT;have cG:=qh R;clear R;have cO:=qh q;clear q;have aV:=qh aD;clear aD;by_cases hmem:(y:Int)∈T
     ·have P:decide ((y:Int)∈T)=true:=by simpa using hmem
      rw[P] at e4;have aH:=z.o hmem;have Z:=qh aH;clear aH;have bW:=qh P;clear P;have aZ:=qh hmem;clear hmem;go_wp2
      go_quiet (fail)
      go_wp2;go_roundw
      case rel =>refine⟨c+1,g,cap,by go_num,by rw[← Q.o,Z.o],by omega,?_⟩;rw[← Q.o,Z.o];exact U.o.drewN _
      case measure=>simp[intOf];omega
     have P:decide ((y:Int)∈T)=false:=by simpa using hmem
     rw[P] at e4;have aC:=u.o hmem;have b:=qh aC;clear aC;have bW:=qh P;clear P;have aZ:=qh hmem;clear hmem;go_wp2
     go_quiet (fail)
     have aA:=((U.o.drewN nq).store 2 rfl y (.bool true)).alloc_ (.cells #[.int .i64 (y:Int)] 3);rw[aV.o] at aA;have hR:=aA.row 1 rfl;have aR:=heap_alloc_new ((wp.drewN nq).setCell ⟨w.heap.size+1+1,y,none⟩ (.bool true)) (.cells #[.int .i64 (y:Int)] 3);rw[ZaU,show(wp.drewN nq).heap.size=wp.heap.size from rfl] at aR;have bU:=qh aR;clear aR;have aF:=qh aA;clear aA;have cI:=qh hR;clear hR;go_wp2_with (at_builtin;refine wpList_append_lies _ rfl _ _ _ rfl _ 3 j0 (.int .i64 0) 1 8 Tryz.underlying38 cL.o bC.o cA.o bS.o rfl (by omega) _ T.length _ rfl cI.o ⟨wp.heap.size,0,none⟩ 1 1 [.int .i64 (y:Int)] rfl rfl (World.news_of_block bU.o) ZbX (by omega) (by unfold maxLen;omega) (by omega) aF.o.size _ rfl ?_;intro g6 c6 w6 p V aN bN;have cF:=qh (aF.o.app 1 rfl p V aN);clear p V aN bN);go_roundw
     case rel =>refine⟨c+1,g6,c6,by go_num,by rw[← Q.o,b.o,List.length_append];rfl,by omega,?_⟩;rw[← Q.o,b.o,List.length_append,Zaz];exact cF.o
     case measure=>simp[intOf];omega
    obtain rfl:c=3:=by omega
    have bP:bat (dnx d) 0 (k+1)=bpart (dnx d) 0 k 3:=ZaP aG.o;have N:=(Za7 (nx:=dnx d) (a:=0) (k:=k) (Nat.zero_le 3)).1.length_le;rw[Zap,← H.o] at N;have Y:=qh bP;clear bP;have U:=qh B;clear B;go_wp2;go_roundw
    case rel=>exact⟨k+1,g,cap,by go_num,by rw[Y.o],by rw[Y.o];omega,by rw[Y.o];exact U.o⟩
    case measure=>simp[intOf];omega
  obtain rfl:k=S.met.length:=by omega
  have bR:F=S.met:=by have h:=Zbc (nx:=dnx d) (a:=0) (k:=S.met.length) (m:=L) (by rw[← C];omega) aX;rw[← hF.o,h,← C]
  subst bR;have aO:=qh hS;clear hS;have H:=qh C;clear C;go_wp2;go_ret;exact⟨_,_,rfl,aO.o.pick [1] (by decide)⟩
theorem Zm1 {d:DfaD} (hd:Zac d.next d.ends=true) {k c:Nat} (hk:k<(bat (dnx d) 0 d.next.length).met.length) (hc:c<3):dnx d ((bat (dnx d) 0 d.next.length).met.getD k 0) c∈(bat (dnx d) 0 d.next.length).met:=by
 have hm:=(ZbL (ZaS hd) d.next.length).2;have C:k<d.next.length:=by omega
 have B:k<(bat (dnx d) 0 k).met.length:=by
  by_cases h:k<(bat (dnx d) 0 k).met.length
  ·exact h
  have:=Zbc (nx:=dnx d) (a:=0) (k:=k) (m:=d.next.length) (by omega) (by omega);rw[this] at hk;omega
 have hp:=(ZdY (nx:=dnx d) (a:=(0:Int)) (k:=k) (m:=d.next.length) (by omega)).1;rw[Zas hp B];have h1:=ZkM (nx:=dnx d) (a:=(0:Int)) (k:=k) (n:=3) hc;have h2:=(ZaF (nx:=dnx d) (a:=(0:Int)) (m:=d.next.length) B (Nat.le_refl 3) C).1;exact h2.subset h1
theorem ZrU {d:DfaD} (hd:Zac d.next d.ends=true) {k:Nat} (hk:k<(bat (dnx d) 0 d.next.length).met.length):∃ x:Nat,(bat (dnx d) 0 d.next.length).met.getD k 0=(x:Int)∧x<d.next.length∧∀ c,c<3→((nxD d x c:Nat):Int)∈(bat (dnx d) 0 d.next.length).met:=by
 have h:=(ZbL (ZaS hd) d.next.length).1 _ (Zc6 hk (d:=0));refine⟨((bat (dnx d) 0 d.next.length).met.getD k 0).toNat,by omega,by omega,fun c hc => ?_⟩;have h1:=Zm1 hd hk hc;have e:(bat (dnx d) 0 d.next.length).met.getD k 0=((((bat (dnx d) 0 d.next.length).met.getD k 0).toNat:Nat):Int):=by omega
 rw[e,(Zcv (ZaS hd) (by omega) hc).2] at h1;exact h1
theorem ZmZ {l:List Int} {x:Int} (h:x∈l):Zdr l x=(Zam l x:Int):=by unfold Zdr Zam;rw[if_pos h]
theorem Zeb {α β:Type} {f:α→β}:∀ {l:List α},(l.map f).Nodup→l.Nodup
 | [],_=>List.nodup_nil
 | x::l,h=>by rw[List.map_cons,List.nodup_cons] at h;exact List.nodup_cons.2 ⟨fun hx=>h.1 (List.mem_map.2 ⟨x,hx,rfl⟩),Zeb h.2⟩
theorem Zgg {α β:Type} {f:α→β}:∀ {l:List α},(l.map f).Nodup→∀ {x y:α},x∈l→y∈l→f x=f y→x=y
 | [],_,x,_,hx,_,_=>by simp at hx
 | z::l,h,x,y,hx,hy,e=>by
  rw[List.map_cons,List.nodup_cons] at h;rcases List.mem_cons.1 hx with C|C
  ·rcases List.mem_cons.1 hy with B|B
   ·rw[C,B]
   exact absurd (List.mem_map.2 ⟨y,B,by rw[← e,C]⟩) h.1
  rcases List.mem_cons.1 hy with B|B
  ·exact absurd (List.mem_map.2 ⟨x,C,by rw[e,B]⟩) h.1
  exact Zgg h.2 C B e
section
variable {β:Type} [DecidableEq β] (key:List Nat→β)
def kvisit (s:List (List Nat)) (w:List Nat):List (List Nat):=if key w∈s.map key then s else s++[w]
def krow (s:List (List Nat)) (w:List Nat):Nat→List (List Nat)
 | 0=>s
 | n+1=>kvisit key (krow s w n) (w++[n])
def kat (s0:List (List Nat)):Nat→List (List Nat)
 | 0=>s0
 | k+1=>if k<(kat s0 k).length then krow key (kat s0 k) ((kat s0 k).getD k []) 3 else kat s0 k
def kpart (s0:List (List Nat)) (k n:Nat):List (List Nat):=krow key (kat key s0 k) ((kat key s0 k).getD k []) n
variable {key} {s0:List (List Nat)}
theorem Zfj {k:Nat} (h:k<(kat key s0 k).length):kat key s0 (k+1)=kpart key s0 k 3:=by simp only[kat,if_pos h];rfl
theorem Zfk {k:Nat} (h:(kat key s0 k).length≤k):kat key s0 (k+1)=kat key s0 k:=by simp only[kat,if_neg (show ¬ k<(kat key s0 k).length by omega)]
theorem ZiG (k n:Nat):kpart key s0 k (n+1)=kvisit key (kpart key s0 k n) ((kat key s0 k).getD k []++[n]):=rfl
theorem ZiE (s:List (List Nat)) (w:List Nat):s <+: kvisit key s w:=by
 unfold kvisit
 split
 ·exact List.prefix_rfl
 exact List.prefix_append _ _
theorem ZqU (s:List (List Nat)) (w:List Nat) {n m:Nat} (h:n≤m):krow key s w n <+: krow key s w m:=by
 induction m with
 | zero =>
  obtain rfl:n=0:=by omega
  exact List.prefix_rfl
 | succ m B =>
  by_cases hn:n=m+1
  ·subst hn;exact List.prefix_rfl
  exact(B (by omega)).trans (ZiE _ _)
theorem Zkt {k n m:Nat} (h:n≤m):kpart key s0 k n <+: kpart key s0 k m:=ZqU _ _ h
theorem Zjs {k m:Nat} (h:k≤m):kat key s0 k <+: kat key s0 m:=by
 induction m with
 | zero =>
  obtain rfl:k=0:=by omega
  exact List.prefix_rfl
 | succ m B =>
  by_cases hn:k=m+1
  ·subst hn;exact List.prefix_rfl
  refine(B (by omega)).trans ?_;by_cases hl:m<(kat key s0 m).length
  ·rw[Zfj hl];exact Zkt (Nat.zero_le 3)
  rw[Zfk (by omega)];exact List.prefix_rfl
theorem ZqV {k m:Nat} (h:(kat key s0 k).length≤k) (hm:k≤m):kat key s0 m=kat key s0 k:=by
 induction m with
 | zero =>
  obtain rfl:k=0:=by omega
  rfl
 | succ m B =>
  by_cases hn:k=m+1
  ·subst hn;rfl
  have e:=B (by omega);rw[Zfk (by rw[e];omega),e]
theorem ZiF (Q:List (List Nat)→Prop) (B:∀ s w,Q s→Q (kvisit key s w)) {s:List (List Nat)} (hs:Q s) (w:List Nat):∀ n,Q (krow key s w n)
 | 0=>hs
 | n+1=>B _ _ (ZiF Q B hs w n)
theorem ZoV (Q:List (List Nat)→Prop) (h0:Q s0) (C:∀ s w,Q s→Q (kvisit key s w)):∀ k,Q (kat key s0 k)
 | 0=>h0
 | k+1=>by
  have B:=ZoV Q h0 C k;by_cases h:k<(kat key s0 k).length
  ·rw[Zfj h];exact ZiF Q C B _ 3
  rw[Zfk (by omega)];exact B
theorem Zks {s:List (List Nat)} (w:List Nat) (h:(s.map key).Nodup):((kvisit key s w).map key).Nodup:=by
 unfold kvisit
 split
 ·exact h
 rename_i hn;rw[List.map_append];exact Zdp h hn
theorem ZoU (h:(s0.map key).Nodup) (k:Nat):((kat key s0 k).map key).Nodup:=ZoV (fun s=>(s.map key).Nodup) h (fun _ w hs=>Zks w hs) k
theorem Zm8 (s:List (List Nat)) (w:List Nat):key w∈(kvisit key s w).map key:=by
 unfold kvisit
 split
 ·assumption
 simp
theorem ZoT {k n c:Nat} (hc:c<n):key ((kat key s0 k).getD k []++[c])∈(kpart key s0 k n).map key:=by
 have h1:key ((kat key s0 k).getD k []++[c])∈(kpart key s0 k (c+1)).map key:=by rw[ZiG];exact Zm8 _ _
 obtain⟨t,ht⟩:=Zkt (key:=key) (s0:=s0) (k:=k) (show c+1≤n by omega);rw[← ht,List.map_append,List.mem_append];exact Or.inl h1
theorem Zm9 {K:Nat} (B:(kat key s0 K).length≤K) {i c:Nat} (hi:i<(kat key s0 K).length) (hc:c<3):key ((kat key s0 K).getD i []++[c])∈(kat key s0 K).map key:=by
 have hp:=Zjs (key:=key) (s0:=s0) (show i≤K by omega);by_cases h:i<(kat key s0 i).length
 ·rw[Zas hp h];have h1:=ZoT (key:=key) (s0:=s0) (k:=i) hc;rw[← Zfj h] at h1;obtain⟨t,ht⟩:=Zjs (key:=key) (s0:=s0) (show i+1≤K by omega);rw[← ht,List.map_append,List.mem_append];exact Or.inl h1
 have:=ZqV (key:=key) (s0:=s0) (m:=K) (show(kat key s0 i).length≤i by omega) (by omega);rw[this] at hi;omega
end
def runD (d:DfaD) (s:Int) (w:List Nat):Int:=w.foldl (dnx d) s
def accD (d:DfaD) (w:List Nat):Bool:=den d (runD d 0 w)
def rowW (d:DfaD) (rests:List (List Nat)) (w:List Nat):List Bool:=rests.map fun r=>accD d (w++r)
theorem Zha (d:DfaD) (s:Int) (u v:List Nat):runD d s (u++v)=runD d (runD d s u) v:=by simp[runD]
theorem ZlN (d:DfaD) (u v:List Nat):accD d (u++v)=den d (runD d (runD d 0 u) v):=by rw[accD,Zha]
theorem Zjc (d:DfaD) (rests:List (List Nat)) (w:List Nat):(rowW d rests w).length=rests.length:=by simp[rowW]
def isW (w:List Nat):Prop:=∀ c∈w,c<3
theorem ZfT {u v:List Nat} (hu:isW u) (B:isW v):isW (u++v):=fun c hc=>by
 rcases List.mem_append.1 hc with h|h
 ·exact hu c h
 exact B c h
theorem ZlA {c:Nat} (h:c<3):isW [c]:=fun x hx=>by simp at hx;omega
theorem ZqY {w:List Nat} (h:isW w) (k:Nat):isW (w.take k):=fun c hc=>h c (List.mem_of_mem_take hc)
theorem Zmh {w:List Nat} (h:isW w) (k:Nat):isW (w.drop k):=fun c hc=>h c (List.mem_of_mem_drop hc)
theorem Zn1 {d:DfaD} (hd:Zac d.next d.ends=true):∀ {w:List Nat},isW w→∀ {s:Int},0≤s→s<d.next.length→0≤runD d s w∧runD d s w<d.next.length
 | [],_,s,h0,h1=>⟨h0,h1⟩
 | c::w,B,s,h0,h1=>by have hc:c<3:=B c (by simp);have hr:=(ZaM hd (i:=s.toNat) (by omega)).2 c hc;exact Zn1 hd (w:=w) (fun x hx=>B x (by simp[hx])) (s:=dnx d s c) hr.1 hr.2
theorem Zn4 {d:DfaD} (hd:Zac d.next d.ends=true) {rests l:List (List Nat)} (hl:∀ w∈l,isW w) (hn:(l.map (rowW d rests)).Nodup):l.length≤d.next.length:=by
 have h0:=(Zaf hd).1
 have hm:(l.map (runD d 0)).Nodup:=by
  have e:l.map (rowW d rests)=(l.map (runD d 0)).map fun s=>rests.map fun r=>den d (runD d s r):=by rw[List.map_map];apply List.map_congr_left;intro w _;simp[rowW,ZlN]
  rw[e] at hn;exact Zeb hn
 have h1:=ZdJ (m:=ZaY d.next.length) hm fun x hx=>by obtain⟨w,B,rfl⟩:=List.mem_map.1 hx;obtain⟨a,b⟩:=Zn1 hd (hl w B) (s:=0) (by omega) (by omega);obtain⟨n,hn⟩:=Int.eq_ofNat_of_zero_le a;rw[hn] at b ⊢;exact Zch.2 (by omega)
 simpa [Zcf] using h1
def Zej (d:DfaD) (starts rests:List (List Nat)):List (List Nat):=kat (rowW d rests) starts (d.next.length+1)
def ZaI (d:DfaD) (starts rests:List (List Nat)):DfaD:=⟨starts.map fun w=>(List.range 3).map fun c=>ZjD (starts.map (rowW d rests)) (rowW d rests (w++[c])),starts.map (accD d)⟩
def mixW (starts:List (List Nat)) (g:DfaD) (s:List Nat) (k:Nat):List Nat:=starts.getD (runD g 0 (s.take k)).toNat []++s.drop k
def cutW (d:DfaD) (starts:List (List Nat)) (g:DfaD) (s:List Nat):Nat:=((List.range s.length).find? fun k=>accD d (mixW starts g s k) != accD d (mixW starts g s (k+1))).getD 0
def tabW (d:DfaD) (hit:DfaD→Option (List Nat)):Nat→List (List Nat) × List (List Nat)
 | 0=>(Zej d [[]] [[]],[[]])
 | j+1 =>
  let s:=(tabW d hit j).1
  let r:=(tabW d hit j).2
  let g:=ZaI d s r
  let w:=(hit g).getD []
  let r':=r++[w.drop (cutW d s g w+1)]
  (Zej d s r',r')
def gssW (d:DfaD) (hit:DfaD→Option (List Nat)) (j:Nat):DfaD:=ZaI d (tabW d hit j).1 (tabW d hit j).2
structure LInv (d:DfaD) (s r:List (List Nat)):Prop where
 sw:∀ x∈s,isW x
 rw:∀ x∈r,isW x
 s0:s.head? = some []
 r0:r.head? = some []
 nd:(s.map (rowW d r)).Nodup
 cl:∀ i c,i<s.length→c<3→rowW d r (s.getD i []++[c])∈s.map (rowW d r)
theorem LInv.pos {d:DfaD} {s r:List (List Nat)} (h:LInv d s r):0<s.length:=by
 have:=h.s0;cases s with
 | nil=>simp at this
 | cons=>simp
theorem LInv.first {d:DfaD} {s r:List (List Nat)} (h:LInv d s r):s.getD 0 []=[]:=by
 have:=h.s0;cases s with
 | nil=>rfl
 | cons x l=>simpa using this
theorem LInv.le {d:DfaD} (hd:Zac d.next d.ends=true) {s r:List (List Nat)} (h:LInv d s r):s.length≤d.next.length:=Zn4 hd h.sw h.nd
theorem ZiL {d:DfaD} (hd:Zac d.next d.ends=true) {s r:List (List Nat)} (hs:∀ x∈s,isW x) (hr:∀ x∈r,isW x) (h0:s.head? = some []) (hr0:r.head? = some []) (hn:(s.map (rowW d r)).Nodup):LInv d (Zej d s r) r∧s <+: Zej d s r:=by
 have B:s <+: Zej d s r:=Zjs (key:=rowW d r) (s0:=s) (Nat.zero_le (d.next.length+1))
 have F:∀ K,∀ x∈kat (rowW d r) s K,isW x:=fun K=>by
  induction K with
  | zero=>exact hs
  | succ K E =>
   by_cases h:K<(kat (rowW d r) s K).length
   ·rw[Zfj h]
    have key:∀ n,n≤3→∀ x∈kpart (rowW d r) s K n,isW x:=by
     intro n
     induction n with
     | zero=>intro _;exact E
     | succ n C =>
      intro hn3 x hx;rw[ZiG] at hx;unfold kvisit at hx
      split at hx
      ·exact C (by omega) x hx
      rcases List.mem_append.1 hx with hx|hx
      ·exact C (by omega) x hx
      simp only[List.mem_singleton] at hx;subst hx;exact ZfT (E _ (memD h)) (ZlA (by omega))
    exact key 3 (by omega)
   rw[Zfk (by omega)];exact E
 have D:=ZoU (key:=rowW d r) (s0:=s) hn (d.next.length+1);have hle:=Zn4 hd (F (d.next.length+1)) D;refine⟨⟨F _,hr,?_,hr0,D,fun i c hi hc=>Zm9 (by omega) hi hc⟩,B⟩;obtain⟨t,ht⟩:=B;rw[← ht];cases s with
 | nil=>simp at h0
 | cons x l=>simpa using h0
theorem Zjz {d:DfaD} {s r:List (List Nat)} (h:LInv d s r) {i c:Nat} (hi:i<s.length) (hc:c<3) :
  ∃ q:Nat,q<s.length∧((ZaI d s r).next.getD i []).getD c 0=(q:Int)∧rowW d r (s.getD q [])=rowW d r (s.getD i []++[c]):=by
 have hm:=h.cl i c hi hc;have hl:=ZaV hm;rw[List.length_map] at hl;refine⟨Zam (s.map (rowW d r)) (rowW d r (s.getD i []++[c])),hl,?_,?_⟩
 ·have e1:(ZaI d s r).next.getD i []=(List.range 3).map fun c=>ZjD (s.map (rowW d r)) (rowW d r (s.getD i []++[c])):=by simp[ZaI,hi]
  rw[e1];simp only[List.getD_eq_getElem?_getD,List.getElem?_map,List.getElem?_range hc,Option.map_some,w_8];unfold ZjD;rw[← List.getD_eq_getElem?_getD,if_pos hm]
 have:=ZjA hm (rowW d r []);simpa [hl] using this
theorem Zo9 (d:DfaD) (s r:List (List Nat)):(ZaI d s r).next.length=s.length∧(ZaI d s r).ends.length=s.length:=by simp[ZaI]
theorem ZhG {d:DfaD} {s r:List (List Nat)} (h:LInv d s r):∀ {w:List Nat},isW w→∀ {i:Nat},i<s.length→∃ q:Nat,q<s.length∧runD (ZaI d s r) i w=(q:Int)
 | [],_,i,hi=>⟨i,hi,rfl⟩
 | c::w,B,i,hi=>by obtain⟨q,hq,e,-⟩:=Zjz h hi (B c (by simp));obtain⟨p,hp,e2⟩:=ZhG h (w:=w) (fun x hx=>B x (by simp[hx])) hq;refine⟨p,hp,?_⟩;show runD (ZaI d s r) (dnx (ZaI d s r) i c) w=_;unfold dnx;rw[Int.toNat_natCast,e];exact e2
theorem Zpa {d:DfaD} {s r:List (List Nat)} {q:Nat} (hq:q<s.length):den (ZaI d s r) (q:Int)=accD d (s.getD q []):=by unfold den;simp[ZaI,hq]
theorem ZnN {f:Nat→Bool}:∀ {n:Nat},f 0≠f n→∃ k,k<n∧f k≠f (k+1)
 | 0,h=>absurd rfl h
 | n+1,h=>by
  by_cases e:f n=f (n+1)
  ·rw[← e] at h;obtain⟨k,hk,hh⟩:=ZnN h;exact⟨k,by omega,hh⟩
  exact⟨n,by omega,e⟩
theorem ZsB {d:DfaD} {s r:List (List Nat)} (h:LInv d s r) {w:List Nat} (D:isW w) (C:accD d w≠accD (ZaI d s r) w) :
  cutW d s (ZaI d s r) w<w.length∧(accD d (mixW s (ZaI d s r) w (cutW d s (ZaI d s r) w)) != accD d (mixW s (ZaI d s r) w (cutW d s (ZaI d s r) w+1)))=true ∧
   ∀ k,k<cutW d s (ZaI d s r) w→(accD d (mixW s (ZaI d s r) w k) != accD d (mixW s (ZaI d s r) w (k+1)))=false:=by
 have E:accD d (mixW s (ZaI d s r) w 0)=accD d w:=by unfold mixW;rw[List.take_zero,List.drop_zero];show accD d (s.getD 0 []++w)=_;rw[h.first,List.nil_append]
 have fn:accD d (mixW s (ZaI d s r) w w.length)=accD (ZaI d s r) w:=by obtain⟨q,hq,e⟩:=ZhG h D h.pos;unfold mixW;rw[List.take_length,List.drop_length,List.append_nil];unfold accD at *;have e':runD (ZaI d s r) 0 w=(q:Int):=e;rw[e',Int.toNat_natCast,Zpa hq];rfl
 obtain⟨k,hk,B⟩:=ZnN (f:=fun k=>accD d (mixW s (ZaI d s r) w k)) (n:=w.length) (by rw[E,fn];exact C);unfold cutW;cases hf:(List.range w.length).find? fun k=>accD d (mixW s (ZaI d s r) w k) != accD d (mixW s (ZaI d s r) w (k+1)) with
 | none =>have:=List.find?_eq_none.1 hf k (List.mem_range.2 hk);simp only[bne_iff_ne,ne_eq,Decidable.not_not] at this;exact absurd this B
 | some c =>obtain⟨h1,n,hn,hc,h2⟩:=List.find?_eq_some_iff_getElem.1 hf;simp only[List.getElem_range,List.length_range] at hn hc h2;subst hc;simp only[w_8];refine⟨hn,h1,fun k hk => ?_⟩;have:=h2 k hk;simpa using this
theorem Zll {d:DfaD} (hd:Zac d.next d.ends=true) {s r:List (List Nat)} (h:LInv d s r) {w:List Nat} (H:isW w) (O:accD d w≠accD (ZaI d s r) w) {r':List (List Nat)} (C:r'=r++[w.drop (cutW d s (ZaI d s r) w+1)]) :
  LInv d (Zej d s r') r'∧s <+: Zej d s r'∧s.length<(Zej d s r').length:=by
 obtain⟨hk,hcut,-⟩:=ZsB h H O;obtain⟨k,L⟩:=eI (cutW d s (ZaI d s r) w);rw[← L] at hk hcut C
 have J:∀ x∈r',isW x:=fun x hx=>by
  rw[C] at hx;rcases List.mem_append.1 hx with hx|hx
  ·exact h.rw x hx
  simp only[List.mem_singleton] at hx;subst hx;exact Zmh H _
 have B:∀ u,rowW d r' u=rowW d r u++[accD d (u++w.drop (k+1))]:=fun u=>by rw[C];simp[rowW]
 have hr0:r'.head? = some []:=by
  rw[C];have:=h.r0;cases hr:r with
  | nil=>rw[hr] at this;simp at this
  | cons x l=>rw[hr] at this;simpa using this
 have P:(s.map (rowW d r')).Nodup:=by
  have e:s.map (rowW d r)=(s.map (rowW d r')).map (List.take r.length):=by rw[List.map_map];apply List.map_congr_left;intro u _;simp only[Function.comp_apply];rw[B,List.take_left' (Zjc _ _ _)]
  have:=h.nd;rw[e] at this;exact Zeb this
 obtain⟨S,hp⟩:=ZiL hd h.sw J h.s0 hr0 P;refine⟨S,hp,?_⟩;obtain⟨q,hq,e⟩:=ZhG h (ZqY H k) h.pos;have hc:w.getD k 0<3:=H _ (memD hk);obtain⟨G,Q,e2,e3⟩:=Zjz h hq hc;have e:runD (ZaI d s r) 0 (w.take k)=(q:Int):=e;have M:w.take (k+1)=w.take k++[w.getD k 0]:=by rw[List.take_succ_eq_append_getElem hk];simp[hk]
 have I:w.drop k=w.getD k 0::w.drop (k+1):=by rw[List.drop_eq_getElem_cons hk];simp[hk]
 have e':runD (ZaI d s r) 0 (w.take (k+1))=(G:Int):=by rw[M,Zha,e];show dnx (ZaI d s r) (q:Int) (w.getD k 0)=_;unfold dnx;rw[Int.toNat_natCast,e2]
 have T:mixW s (ZaI d s r) w k=(s.getD q []++[w.getD k 0])++w.drop (k+1):=by unfold mixW;rw[e,Int.toNat_natCast,I];simp
 have U:mixW s (ZaI d s r) w (k+1)=s.getD G []++w.drop (k+1):=by unfold mixW;rw[e',Int.toNat_natCast]
 rw[T,U] at hcut
 have F:rowW d r' (s.getD q []++[w.getD k 0]) ∉ s.map (rowW d r'):=by
  intro hm;obtain⟨u,hu,R⟩:=List.mem_map.1 hm;rw[B,B] at R;obtain⟨h1,h2⟩:=List.append_inj R (by rw[Zjc,Zjc]);have N:s.getD G []∈s:=memD Q;have:u=s.getD G []:=by exact Zgg h.nd hu N (by rw[h1,e3])
  rw[this] at h2;simp only[List.cons.injEq,and_true] at h2;rw[h2] at hcut;simp at hcut
 rcases Nat.lt_or_ge s.length (Zej d s r').length with h1|h1
 ·exact h1
 exfalso;have D:Zej d s r'=s:=by obtain⟨t,ht⟩:=hp;have:t=[]:=List.eq_nil_of_length_eq_zero (by have:=congrArg List.length ht;simp at this;omega);rw[← ht,this,List.append_nil]
 have E:=S.cl q (w.getD k 0) (by rw[D];exact hq) hc;rw[D] at E;exact F E
theorem ZjH {next:List (List Int)} {ends:List Bool} (h1:1≤next.length) (h2:next.length≤40) (h3:ends.length=next.length) (hr:∀ i,i<next.length→(next.getD i []).length=3∧∀ c,c<3→0≤(next.getD i []).getD c 0∧(next.getD i []).getD c 0<next.length):Zac next ends=true:=by
 simp only[Zac,Bool.and_eq_true,List.all_eq_true,decide_eq_true_eq];refine⟨⟨fun x hx => ?_,?_⟩,h3⟩
 ·obtain⟨i,hi,e⟩:=List.getElem_of_mem hx;obtain⟨a,b⟩:=hr i hi;rw[Zbg hi,e] at a b;simp only[ZdZ,Bool.and_eq_true,decide_eq_true_eq,List.all_eq_true];refine⟨a,fun y hy => ?_⟩;obtain⟨c,hc,e2⟩:=List.getElem_of_mem hy;have:=b c (by omega);rw[Zbg hc,e2] at this;simp[inB];omega
 simp[inB];omega
theorem Zq4 {d:DfaD} (hd:Zac d.next d.ends=true) {s r:List (List Nat)} (h:LInv d s r):Zac (ZaI d s r).next (ZaI d s r).ends=true:=by
 have h1:=h.pos;have h2:=h.le hd;have h3:=Zaf hd;obtain⟨l1,l2⟩:=Zo9 d s r;refine ZjH (by omega) (by omega) (by omega) fun i hi => ?_
 rw[l1] at hi;refine⟨by simp[ZaI,hi],fun c hc => ?_⟩;obtain⟨q,hq,e,-⟩:=Zjz h hi hc;rw[e,l1];omega
def Zsz (d:DfaD) (hit:DfaD→Option (List Nat)):Prop:=∀ g,Zac g.next g.ends=true→∀ w,hit g=some w→isW w∧accD d w≠accD g w
theorem ZkY {d:DfaD} (hd:Zac d.next d.ends=true) {hit:DfaD→Option (List Nat)} (hh:Zsz d hit):∀ j,(∀ i,i<j→(hit (gssW d hit i)).isSome=true)→LInv d (tabW d hit j).1 (tabW d hit j).2∧j+1≤(tabW d hit j).1.length
 | 0,_=>by have h:=(ZiL hd (s:=[[]]) (r:=[[]]) (fun x hx=>by simp at hx;subst hx;intro c hc;simp at hc) (fun x hx=>by simp at hx;subst hx;intro c hc;simp at hc) rfl rfl (by simp)).1;exact⟨h,h.pos⟩
 | j+1,hy=>by
  obtain⟨h,hl⟩:=ZkY hd hh j fun i hi=>hy i (by omega)
  have h1:=hy j (by omega);obtain⟨w,D⟩:=Option.isSome_iff_exists.1 h1;obtain⟨C,B⟩:=hh _ (Zq4 hd h) w D;have hm:=Zll hd h C B (r':=(tabW d hit (j+1)).2) (by show(tabW d hit j).2++_=_;simp only[show hit (ZaI d (tabW d hit j).1 (tabW d hit j).2)=some w from D,w_8]);exact⟨hm.1,by have:=hm.2.2;show _≤(Zej d (tabW d hit j).1 (tabW d hit (j+1)).2).length;omega⟩
end Go.Proofs.YtncekbbhgipdlaaGreat
