/-
  Automata as automata with choices, turned round; plain: they are valid, and what is determinized is valid.
  No condition: this text speaks of no program.
-/
import Derived.Test.YtncekbbhgipdlaaGreatPc03Lr
set_option maxHeartbeats 8000000
set_option maxRecDepth 100000
namespace Go.Proofs.YtncekbbhgipdlaaGreat
open Go.RowKit
def rowM (d:DfaD) (s:Nat):List (Int × Int × Int):=(List.range 3).map fun (c:Nat)=>((s:Int),(c:Int),(d.next.getD s []).getD c 0)
def mvs (d:DfaD):Nat→List (Int × Int × Int)
 | 0=>[]
 | s+1=>mvs d s++rowM d s
def ZaL (d:DfaD):NfaD:=⟨d.next.length,mvs d d.next.length,[0],eds d d.next.length⟩
theorem ZgI (d:DfaD) (s:Nat):(rowM d s).length=3:=by simp[rowM]
theorem Zj8 (d:DfaD) (s:Nat) {c:Nat} (hc:c<3):(rowM d s).take (c+1)=(rowM d s).take c++[((s:Int),(c:Int),(d.next.getD s []).getD c 0)]:=by rw[List.take_succ_eq_append_getElem (by rw[ZgI];exact hc)];simp[rowM]
theorem ZcA (d:DfaD):∀ s,(mvs d s).length=3*s
 | 0=>rfl
 | s+1=>by show(mvs d s++rowM d s).length=_;rw[List.length_append,ZcA d s,ZgI];omega
theorem Zgl (d:DfaD):∀ s,∀ x∈eds d s,0≤x∧x<(s:Int)
 | 0,x,hx=>by simp[eds] at hx
 | s+1,x,hx=>by
  have B:=Zgl d s;unfold eds at hx
  split at hx
  ·rcases List.mem_append.1 hx with hx|hx
   ·have:=B x hx;omega
   simp only[List.mem_singleton] at hx;omega
  have:=B x hx;omega
theorem Zgd {d:DfaD} (hd:Zac d.next d.ends=true):∀ s,s≤d.next.length→mvIn d.next.length (mvs d s)
 | 0,_,x,hx=>by simp[mvs] at hx
 | s+1,hs,x,hx=>by
  have hx:x∈mvs d s++rowM d s:=hx;rcases List.mem_append.1 hx with hx|hx
  ·exact Zgd hd s (by omega) x hx
  obtain⟨c,hc,rfl⟩:=List.mem_map.1 hx;have:=(ZaM hd (show s<d.next.length by omega)).2 c (List.mem_range.1 hc);simp only;omega
theorem ZeV (d:DfaD) (v:Value) (w:World) (hd:Zac d.next d.ends=true) (h:DfaR 0 w v d) :
  Calls Tryz.prog 60 #[v] w fun e w'=>RNfaS (ZaL d) w e w':=by
 obtain⟨v1,v2,rfl,q1,q2⟩:=h;obtain⟨L,y⟩:=eI (d.next.length);obtain⟨aZ,bC,Y⟩:=Zaf hd;have R:=fun (i:Nat) (hi:i<d.next.length)=>(ZaM hd hi)
 obtain⟨av,cv,rfl,aY,bO,aN⟩:=q1.formI;obtain⟨b1,o1,rfl,-,hb1,P⟩:=aN (by omega);obtain⟨a2,c2,rfl,hc3,bA,aO⟩:=q2.form;obtain⟨b2,o2,rfl,-,hb2,O⟩:=aO (by omega);rw[Y] at O hc3;rw[← y] at aZ bC Y R aY P O hc3;rw[Y,← y];obtain⟨i0,hi,aT,aW,aS⟩:=info_parts Tryz.infoMv;obtain⟨j0,hj,aL,aC,aH⟩:=info_parts Tryz.infoInt;have aI:=(((St.start w).alloc _ rfl #[.slice (some ⟨b1,o1,none⟩) L cv,.slice (some ⟨b2,o2,none⟩) L c2] 44).alloc (w.heap.size+1) (by simp) #[.int .i64 0,.slice none 0 0,.slice none 0 0,.slice none 0 0] 81).alloc (w.heap.size+1+1) (by simp) #[.int .i64 0] 3;have aJ:=(aI.boxrow 2 1 1 [.int .i64 0] rfl rfl (by unfold maxLen;omega)).alloc (w.heap.size+1+1+1) (by simp) #[.int .i64 L,.slice none 0 0,.slice (some ⟨w.heap.size+1+1,0,none⟩) 1 1,.slice none 0 0] 81;have q:=(aJ.nilRow 117 3).nilRow 3 1;have z:=qh R;have aQ:=qh P;have aG:=qh O;replace q:=qh q;replace y:=qh y;have bF:=qh hi;clear hi;have aM:=qh aT;clear aT;have aF:=qh aW;clear aW;have aD:=qh aS;clear aS;have bG:=qh hj;clear hj;have aA:=qh aL;clear aL;have aX:=qh aC;clear aC;have aP:=qh aH;clear aH;clear aI aJ R P O aN aO q1 q2 hd Y
 go_enter Tryz.func60, Tryz.ntmps60
 go_wp2
 go_loopw [16] (fun i wr=>∃ (s c1 c3:Nat) (a1 a3:Option Addr),i = .int .i64 s∧s≤L∧St w wr [Ent.box w.heap.size #[.slice (some ⟨b1,o1,none⟩) L cv,.slice (some ⟨b2,o2,none⟩) L c2] 44,Ent.box (w.heap.size+1) #[.int .i64 0,.slice none 0 0,.slice none 0 0,.slice none 0 0] 81,
   Ent.row 3 1 (.slice (some ⟨w.heap.size+1+1,0,none⟩) 1 1) 1 [.int .i64 0],Ent.box (w.heap.size+1+1+1) #[.int .i64 L,.slice a1 (mvs d s).length c1,.slice (some ⟨w.heap.size+1+1,0,none⟩) 1 1,.slice a3 (eds d s).length c3] 81,
   Ent.row 117 3 (.slice a1 (mvs d s).length c1) (mvs d s).length ((mvs d s).flatMap Zae),Ent.row 3 1 (.slice a3 (eds d s).length c3) (eds d s).length (intCells (eds d s))])
  (fun i _=>L-(intOf i).toNat)
 case atStart=>exact⟨0,0,0,none,none,rfl,Nat.zero_le _,q.o⟩
 case round =>
  obtain⟨s,c1,c3,a1,a3,rfl,hs,hS⟩:=hrel;obtain⟨wo,bE⟩:∃ wo:World,wo=wr:=⟨_,rfl⟩;subst bE;by_cases hlt:s<L
  ·have hlt2:(s:Int)<L:=by omega
   obtain⟨ar,cr,n,-,-,l⟩:=aQ.o s hlt;obtain⟨u,-⟩:=z.o s (by have:=y.o;omega);rw[u] at n l;obtain⟨_,_,I,aU,bL,p⟩:=l.form;rw[u] at I p aU;simp only[Value.slice.injEq,true_and] at I;obtain⟨rfl,rfl⟩:=I;obtain⟨b3,o3,rfl,-,bD,Z⟩:=p (by omega);have k1:=(bcell hS.bel b1 _ hb1).trans n;have m:=ZcA d s;obtain⟨M,j⟩:=eI (mvs d s);obtain⟨E,X⟩:=eI (eds d s);have aE:=Zdk d s;rw[← j] at hS m;rw[← X] at hS aE;have bH:M.length≤120:=by omega
   have bI:E.length≤40:=by omega
   have aB:=qh Z;have aR:=qh m;clear m;clear aE;have a:=qh hS;clear hS;have g:=qh j;clear j;replace X:=qh X;clear Z p l n u;go_wp2
   go_loopw [23] (fun i wi=>∃ (c c1:Nat) (a1:Option Addr),i = .int .i64 c∧c≤3∧St w wi [Ent.box w.heap.size #[.slice (some ⟨b1,o1,none⟩) L cv,.slice (some ⟨b2,o2,none⟩) L c2] 44,Ent.box (w.heap.size+1) #[.int .i64 0,.slice none 0 0,.slice none 0 0,.slice none 0 0] 81,
     Ent.row 3 1 (.slice (some ⟨w.heap.size+1+1,0,none⟩) 1 1) 1 [.int .i64 0],Ent.box (w.heap.size+1+1+1) #[.int .i64 L,.slice a1 (M.length+c) c1,.slice (some ⟨w.heap.size+1+1,0,none⟩) 1 1,.slice a3 E.length c3] 81,
     Ent.row 117 3 (.slice a1 (M.length+c) c1) (M.length+c) ((M++(rowM d s).take c).flatMap Zae),Ent.row 3 1 (.slice a3 E.length c3) E.length (intCells E)])
    (fun i _=>3-(intOf i).toNat)
   case atStart=>exact⟨0,c1,a1,rfl,by omega,by rw[List.take_zero,List.append_nil];exact a.o⟩
   case round =>
    obtain⟨c,c1,a1,rfl,bM,C⟩:=hrel;by_cases hc:c<3
    ·have bA:(c:Int)<3:=by omega
     have k2:=(bcell C.bel b3 _ bD).trans (aB.o c hc);have k:=Zj8 d s hc;obtain⟨x,hx⟩:=eI ((d.next.getD s []).getD c 0);rw[← hx] at k2 k;have e1:=C.cell (v:=.slice a1 (M.length+c) c1) 3 1 rfl rfl;have f1:=C.fr 3 1 rfl;have N:=C.alloc_ (.cells #[.int .i64 s,.int .i64 c,.int .i64 x] 117);have Q:=N.row 4 rfl;have H:=qh C;clear C;have F:=qh N;clear N;have U:=qh Q;clear Q;have bN:=qh hx;clear hx;have aV:=qh k;clear k;go_wp2_with (at_builtin;refine wpList_append_lies _ rfl _ _ _ rfl _ 117 i0 (.agg #[.int .i64 0,.int .i64 0,.int .i64 0]) 3 24 Tryz.underlying79 bF.o aM.o aF.o aD.o rfl (by omega) _ (M.length+c) _ rfl U.o ⟨wr.heap.size,0,none⟩ 1 1 [.int .i64 s,.int .i64 c,.int .i64 x] rfl rfl (World.news_of_block (heap_alloc_new wr _)) ZeD (by omega) (by unfold maxLen;omega) (by omega) F.o.size _ rfl ?_;intro g6 c6 w6 D B G S;have J:=qh (F.o.app 4 rfl D B G);have y1:=J.o.cell (v:=.slice a1 (M.length+c) c1) 3 1 rfl rfl;have y2:=J.o.fr 3 1 rfl;clear D B G S);go_roundw
     case rel =>refine⟨c+1,c6,some ⟨g6,0,none⟩,by go_num,by omega,?_⟩;rw[aV.o,← List.append_assoc,ZcK];exact J.o.set 3 rfl 1 (.slice (some ⟨g6,0,none⟩) (M.length+c+1) c6)
     case measure=>simp[intOf];omega
    obtain rfl:c=3:=by omega
    have aK:(rowM d s).take 3=rowM d s:=List.take_of_length_le (by rw[ZgI];exact Nat.le_refl _);have r:M++rowM d s=mvs d (s+1):=by rw[g.o];rfl
    have b:M.length+3=(mvs d (s+1)).length:=by rw[ZcA,aR.o];omega
    rw[aK,r,b] at C;have k2:=(bcell C.bel b2 _ hb2).trans (aG.o s hlt);have e0:=C.cell (v:=.slice (some ⟨b2,o2,none⟩) L c2) 0 1 rfl rfl;have H:=qh C;clear C;have bJ:=qh r;clear r;have bK:=qh b;clear b;clear aK;cases hz:d.ends.getD s false with
    | false =>
     rw[hz] at k2;have T:eds d (s+1)=E:=by rw[X.o];show(if d.ends.getD s false=true then _ else _)=_;rw[hz];rfl
     have V:=qh T;clear T;have bB:=qh hz;clear hz;go_wp2;go_roundw
     case rel =>refine⟨s+1,c1,c3,a1,a3,by go_num,by omega,?_⟩;rw[V.o];exact H.o
     case measure=>simp[intOf];omega
    | true =>
     rw[hz] at k2;have T:eds d (s+1)=E++[(s:Int)]:=by rw[X.o];show(if d.ends.getD s false=true then _ else _)=_;rw[hz];rfl
     have e1:=H.o.cell (v:=.slice a3 E.length c3) 3 3 rfl rfl;have f1:=H.o.fr 3 3 rfl;have N:=H.o.alloc_ (.cells #[.int .i64 s] 3);have Q:=N.row 5 rfl;have F:=qh N;clear N;have U:=qh Q;clear Q;have V:=qh T;clear T;have bB:=qh hz;clear hz;go_wp2_with (at_builtin;refine wpList_append_lies _ rfl _ _ _ rfl _ 3 j0 (.int .i64 0) 1 8 Tryz.underlying38 bG.o aA.o aX.o aP.o rfl (by omega) _ E.length _ rfl U.o ⟨wr.heap.size,0,none⟩ 1 1 [.int .i64 s] rfl rfl (World.news_of_block (heap_alloc_new wr _)) on_i (by omega) (by unfold maxLen;omega) (by omega) F.o.size _ rfl ?_;intro g6 c6 w6 D B G S;have J:=qh (F.o.app 5 rfl D B G);have y1:=J.o.cell (v:=.slice a3 E.length c3) 3 3 rfl rfl;have y2:=J.o.fr 3 3 rfl;clear D B G S);go_roundw
     case rel =>refine⟨s+1,c1,c6,a1,some ⟨g6,0,none⟩,by go_num,by omega,?_⟩;rw[V.o,List.length_append,List.length_singleton,Zo2];exact J.o.set 3 rfl 3 (.slice (some ⟨g6,0,none⟩) (E.length+1) c6)
     case measure=>simp[intOf];omega
  obtain rfl:s=L:=by omega
  have bP:(s:Int)≤s:=Int.le_refl _;obtain⟨M,j⟩:=eI (mvs d s);obtain⟨E,X⟩:=eI (eds d s);rw[← j,← X] at hS;have f0:=hS.fr 1 0 rfl;have f1:=hS.fr 1 1 rfl;have f2:=hS.fr 1 2 rfl;have f3:=hS.fr 1 3 rfl;have k0:=hS.cell (v:=.int .i64 0) 1 0 rfl rfl;have k1:=hS.cell (v:=.slice none 0 0) 1 1 rfl rfl;have k2:=hS.cell (v:=.slice none 0 0) 1 2 rfl rfl;have k3:=hS.cell (v:=.slice none 0 0) 1 3 rfl rfl;have d0:=hS.cell (v:=.int .i64 s) 3 0 rfl rfl;have d1:=hS.cell (v:=.slice a1 M.length c1) 3 1 rfl rfl;have d2:=hS.cell (v:=.slice (some ⟨w.heap.size+1+1,0,none⟩) 1 1) 3 2 rfl rfl;have d3:=hS.cell (v:=.slice a3 E.length c3) 3 3 rfl rfl;have a:=qh hS;clear hS;have g:=qh j;clear j;replace X:=qh X;go_wp2;have hq:=(((a.o.set 1 rfl 0 (.int .i64 s)).set 1 rfl 1 (.slice a1 M.length c1)).set 1 rfl 2 (.slice (some ⟨w.heap.size+1+1,0,none⟩) 1 1)).set 1 rfl 3 (.slice a3 E.length c3);have q0:=hq.cell (v:=.int .i64 s) 1 0 rfl rfl;have q1:=hq.cell (v:=.slice a1 M.length c1) 1 1 rfl rfl;have q2:=hq.cell (v:=.slice (some ⟨w.heap.size+1+1,0,none⟩) 1 1) 1 2 rfl rfl;have q3:=hq.cell (v:=.slice a3 E.length c3) 1 3 rfl rfl;refine bodyPost_ret (v:=.agg #[.int .i64 s,.slice a1 M.length c1,.slice (some ⟨w.heap.size+1+1,0,none⟩) 1 1,.slice a3 E.length c3]) (by simp[results,Tryz.results60,go_sem,q0,q1,q2,q3]) rfl ?_
  have hr:RNfaS ⟨(s:Int),M,[0],E⟩ w (.returned (.agg #[.int .i64 s,.slice a1 M.length c1,.slice (some ⟨w.heap.size+1+1,0,none⟩) 1 1,.slice a3 E.length c3])) _:=⟨a1,c1,_,1,a3,c3,rfl,hq.pick [4,2,5] (by decide)⟩;have hn:ZaL d=⟨(s:Int),M,[0],E⟩:=by unfold ZaL;rw[← y.o,g.o,X.o]
  rw[hn];exact hr
def padL (n s:Nat) (cl:Nat→Nat):List Int:=clsL s cl++List.replicate (n-s) 0
def padT (n s:Nat) (cl:Nat→Nat) (t:Nat):List Int:=clsL s cl++((t:Nat):Int)::List.replicate (n-s-1) 0
theorem Zon (n:Nat) (cl:Nat→Nat):padL n 0 cl=List.replicate n 0:=by simp[padL,clsL]
theorem Zji (n:Nat) (cl:Nat→Nat):padL n n cl=clsL n cl:=by simp[padL]
theorem Zl9 {n s:Nat} (cl:Nat→Nat) (h:s<n):padL n s cl=padT n s cl 0:=by unfold padL padT;rw[show n-s=(n-s-1)+1 by omega,List.replicate_succ];rfl
theorem ZgK {n s:Nat} (cl:Nat→Nat):padT n s cl (cl s)=padL n (s+1) cl:=by unfold padL padT;rw[Zfw,List.append_assoc,show n-(s+1)=n-s-1 by omega];rfl
theorem ZgJ {n s:Nat} (cl:Nat→Nat) (t B:Nat):(intCells (padT n s cl t)).set s (.int .i64 ((B:Nat):Int))=intCells (padT n s cl B):=by unfold intCells;rw[← List.map_set (f:=fun x=>Value.int .i64 x)];congr 1;unfold padT;rw[List.set_append_right _ _ (by rw[ZbT];exact Nat.le_refl _),ZbT,Nat.sub_self];rfl
theorem ZdF {n s:Nat} (cl:Nat→Nat) (t:Nat):(intCells (padT n s cl t))[s]? = some (.int .i64 ((t:Nat):Int)):=by simp[intCells,padT,ZbT]
theorem Za6 {n s:Nat} (cl:Nat→Nat) (h:s<n):(intCells (clsL n cl))[s]? = some (.int .i64 ((cl s:Nat):Int)):=by simp[intCells,clsL,h]
theorem Zhr {w:World} {B n:Nat} {v:Value} (cl:Nat→Nat) (h:w.ownsRow B 3 1 v n (madeCells (Value.int .i64 0).cells (n*1)).toList):w.ownsRow B 3 1 v n (intCells (padL n 0 cl)):=by
 have e:(madeCells (Value.int .i64 0).cells (n*1)).toList=intCells (padL n 0 cl):=by rw[Zon];simp[madeCells,Value.cells,intCells,Nat.mod_one,List.map_const']
 rwa [e] at h
theorem Zrf {n:Nat} {a b:Nat→Nat}:clsL n a=clsL n b↔∀ s,s<n→a s=b s:=by
 constructor
 ·intro h s hs;have:=congrArg (fun l=>l.getD s 0) h;simp only[ZjM a hs,ZjM b hs] at this;omega
 exact ZfX
theorem St.intsC {w0 w:World} {L:List Ent} (h:St w0 w L) (i:Nat) {v:Value} {n:Nat} {cl:Nat→Nat} (hx:L[i]? = some (Ent.row 3 1 v n (intCells (clsL n cl)))):Ints 0 w v (clsL n cl) :=
 Zeg (B:=w0.heap.size) (e:=3) (by rw[ZbT];exact h.row i hx)
theorem Znc (xs:List Bool) (y:Bool) (p:Nat) (v:Value) (w:World) (h1:Bools 0 w v xs) (hp:p<xs.length) (hy:xs.getD p false=y) (E:∀ j,j<p→xs.getD j false≠y) :
  Calls Tryz.prog 138 #[v,.bool y] w fun e w'=>e = .returned (.int .i64 (p:Nat))∧Below w.heap.size w w':=by
 obtain⟨a1,c1,rfl,M,P,F⟩:=h1.form;obtain⟨b1,o1,rfl,-,D,C⟩:=F (by omega);have J:=qh C;have I:=qh E;replace hy:=qh hy;clear F C E h1
 go_enter Tryz.func138, Tryz.ntmps138
 go_wp2
 go_loopw [4,8] (fun r i wr=>∃ k:Nat,k≤p∧i = .int .i64 k∧Below w.heap.size w wr) (fun _ i _=>p+1-(intOf i).toNat)
 case atStart=>exact⟨0,Nat.zero_le _,rfl,Below.refl _ _⟩
 case round =>
  obtain⟨k,hk,rfl,hb⟩:=hrel;have N:(k:Int)<xs.length:=by omega
  have O:=(bcell hb b1 (o1+k) D).trans (J.o k (by omega));obtain⟨z,hz⟩:=eI (xs.getD k false);rw[← hz] at O;replace hb:=qh hb;by_cases he:k=p
  ·subst he;have G:z=y:=by rw[hz];exact hy.o
   subst G;have H:=qh hz;clear hz;go_wp2;go_ret;exact⟨rfl,hb.o⟩
  have B:z≠y:=by rw[hz];exact I.o k (by omega)
  have g1:(y==z)=false:=by simpa using B.symm
  have g2:(z==y)=false:=by simpa using B
  have H:=qh hz;clear hz;have L:=qh B;clear B;go_wp2;go_roundw
  case rel=>exact⟨k+1,by omega,by go_num,hb.o⟩
  case measure=>simp[intOf];omega
theorem Znk (xs ys:List Int) (n:Nat) (v1 v2:Value) (w:World) (hx:xs.length=n) (hy:ys.length=n) (h1:Ints 0 w v1 xs) (h2:Ints 0 w v2 ys) (r:Bool) (hr:decide (xs=ys)=r) :
  Calls Tryz.prog 140 #[v1,v2] w fun e w'=>e = .returned (.bool r)∧Below w.heap.size w w':=by
 obtain⟨a1,c1,rfl,N,S,C⟩:=h1.form;obtain⟨a2,c2,rfl,O,Q,D⟩:=h2.form;rw[hx] at N C;rw[hy] at O D;rw[hx,hy];have T:((n:Int) != n)=false:=by simp
 replace hx:=qh hx;have J:=qh hy;clear hy;replace hr:=qh hr;clear h1 h2
 go_enter Tryz.func140, Tryz.ntmps140
 go_wp2
 go_loopw [4,13] (fun r i wr=>∃ k:Nat,k≤n∧i = .int .i64 k∧xs.take k=ys.take k∧Below w.heap.size w wr) (fun _ i _=>n-(intOf i).toNat)
 case atStart=>exact⟨0,Nat.zero_le _,rfl,rfl,Below.refl _ _⟩
 case round =>
  obtain⟨k,hk,rfl,M,hb⟩:=hrel;have F:=qh M;clear M;by_cases hlt:k<n
  ·obtain⟨b1,o1,rfl,-,L,E⟩:=C (by omega);obtain⟨b2,o2,rfl,-,H,G⟩:=D (by omega);have R:=(bcell hb b1 (o1+k) L).trans (E k hlt);have P:=(bcell hb b2 (o2+k) H).trans (G k hlt);obtain⟨p,hp⟩:=eI (xs.getD k 0);obtain⟨q,hq⟩:=eI (ys.getD k 0);rw[← hp] at R;rw[← hq] at P;replace hp:=qh hp;have I:=qh hq;clear hq;replace hb:=qh hb;clear E G C D;by_cases hpq:p=q
   ·have g1:(p != q)=false:=by simpa using hpq
    have g2:(!(p==q))=false:=by simpa using hpq
    have g3:(p=q)=True:=by simpa using hpq
    have B:=qh hpq;clear hpq;go_wp2
    go_quiet (fail)
    go_wp2;go_roundw
    case rel=>exact⟨k+1,by omega,by go_num,Zf6 (d:=0) (by rw[hx.o];exact hlt) (by rw[J.o];exact hlt) F.o (by rw[← hp.o,← I.o];exact B.o),below_drewN hb.o _⟩
    case measure=>simp[intOf];omega
   have g1:(p != q)=true:=by simpa using hpq
   have g2:(!(p==q))=true:=by simpa using hpq
   have g3:(p=q)=False:=by simpa using hpq
   have B:=qh hpq;clear hpq;go_wp2
   go_quiet (fail)
   go_wp2;go_ret;exact⟨by rw[← hr.o,decide_eq_false (Ziz (k:=k) (d:=0) (by rw[← hp.o,← I.o];exact B.o))];rfl,below_drewN hb.o _⟩
  obtain rfl:k=n:=by omega
  replace hb:=qh hb;clear C D;go_wp2;go_ret;refine⟨?_,hb.o⟩;have h:=F.o;rw[List.take_of_length_le (by rw[hx.o];exact Nat.le_refl _),List.take_of_length_le (by rw[J.o];exact Nat.le_refl _)] at h;rw[← hr.o,decide_eq_true h];rfl
theorem ZpC (xs:List Int) (v:Value) (w:World) (hl:xs.length≤1000000) (h:Ints 0 w v xs) :
  Calls Tryz.prog 136 #[v] w fun e w'=>∃ a c,e = .returned (.slice a xs.length c)∧St w w' [Ent.row 3 1 (.slice a xs.length c) xs.length (intCells xs)]:=by
 have hx:=h;obtain⟨a,cap,rfl,S,V,hr⟩:=h.form;obtain⟨T,hj,L,H,G⟩:=info_parts Tryz.infoInt;cases a with
 | none =>
  have h0:xs=[]:=by
   rcases Nat.eq_zero_or_pos xs.length with h0|h0
   ·exact List.eq_nil_of_length_eq_zero h0
   obtain⟨b,off,hb,-⟩:=hr h0;cases hb
  subst h0;have I:=fun (w':World)=>Lib.run_eql_slice_nil (P:=Tryz.prog) w' 38 3 none 0 cap 0 0 Tryz.underlying38
  simp only[Option.isNone] at I
  go_enter Tryz.func136, Tryz.ntmps136
  go_wp2;go_ret;exact⟨none,0,rfl,(St.start w).nilRow 3 1⟩
 | some X =>
  have C:=((St.start w).alloc _ rfl #[] 3).boxrow 0 0 1 [] rfl rfl (Nat.zero_le _);have F:=C.row 0 rfl;have O:=hx.below C.bel;replace C:=qh C;replace F:=qh F;have M:=qh O;clear O;have U:=qh hx;clear hx;clear hr;have I:=fun (w':World)=>Lib.run_eql_slice_nil (P:=Tryz.prog) w' 38 3 (some X) xs.length cap 0 0 Tryz.underlying38
  simp only[Option.isNone] at I
  go_enter Tryz.func136, Tryz.ntmps136
  go_wp2_with (at_builtin;refine Zak _ rfl _ _ _ rfl _ 3 T (.int .i64 0) 1 8 Tryz.underlying38 hj L H G rfl (by omega) _ 0 _ rfl F.o _ xs.length (intCells xs) rfl M.o ZsW (by unfold maxLen;omega) (by omega) C.o.size ?_;intro N Q R D B E;have J:=qh (C.o.appS 0 rfl D B E);clear D B E);go_ret;have hq:St w R [Ent.row 3 1 (.slice N (0+xs.length) Q) (0+xs.length) (intCells xs)]:=J.o;rw[Nat.zero_add] at hq;exact⟨N,Q,rfl,hq⟩
theorem Zm5 (d:DfaD) (v:Value) (w:World) (hl:d.ends.length≤40) (h:Bools 0 w v d.ends) :
  Calls Tryz.prog 155 #[v] w fun e w'=>∃ a c,e = .returned (.slice a (eds d d.ends.length).length c)∧St w w' [Ent.row 3 1 (.slice a (eds d d.ends.length).length c) (eds d d.ends.length).length (intCells (eds d d.ends.length))]:=by
 obtain⟨n,hn⟩:=eI (d.ends.length);obtain⟨a2,c2,rfl,hc3,q,O⟩:=h.form;rw[← hn] at hc3 O hl;rw[← hn];obtain⟨r,hj,Y,U,P⟩:=info_parts Tryz.infoInt;have M:=((St.start w).alloc _ rfl #[] 3).boxrow 0 0 1 [] rfl rfl (Nat.zero_le _);have Hr:=qh O;replace M:=qh M;have x:=qh hn;clear hn;have l:=qh hj;clear hj;have Q:=qh Y;clear Y;have b:=qh U;clear U;have T:=qh P;clear P;clear O h
 go_enter Tryz.func155, Tryz.ntmps155
 go_wp2
 go_loopw [3,4] (fun u i wr=>∃ (k c:Nat) (a:Option Addr),i = .int .i64 k∧u = .slice a (eds d k).length c∧k≤n∧St w wr [Ent.row 3 1 (.slice a (eds d k).length c) (eds d k).length (intCells (eds d k))])
  (fun _ i _=>n-(intOf i).toNat)
 case atStart=>exact⟨0,0,_,rfl,rfl,Nat.zero_le _,M.o⟩
 case round =>
  obtain⟨k,c,a,rfl,rfl,hk,hS⟩:=hrel;obtain⟨E,F⟩:=eI (eds d k);have N:=Zdk d k;rw[← F] at hS N;by_cases hlt:k<n
  ·have hlt2:(k:Int)<n:=by omega
   obtain⟨b2,o2,rfl,-,hb2,R⟩:=Hr.o (by omega);have m:=(bcell hS.bel b2 _ hb2).trans (R k hlt);have p:E.length≤40:=by omega
   replace F:=qh F;have H:=qh hS;clear hS;clear R N;cases hz:d.ends.getD k false with
   | false =>
    rw[hz] at m;have G:eds d (k+1)=E:=by rw[F.o];show(if d.ends.getD k false=true then _ else _)=_;rw[hz];rfl
    have B:=qh G;clear G;have g:=qh hz;clear hz;go_wp2;go_roundw
    case rel =>refine⟨k+1,c,a,by go_num,by rw[B.o,F.o],by omega,?_⟩;rw[B.o];exact H.o
    case measure=>simp[intOf];omega
   | true =>
    rw[hz] at m;have G:eds d (k+1)=E++[(k:Int)]:=by rw[F.o];show(if d.ends.getD k false=true then _ else _)=_;rw[hz];rfl
    have L:=H.o.alloc_ (.cells #[.int .i64 k] 3);have Z:=L.row 0 rfl;rw[← F.o];have J:=qh L;clear L;have V:=qh Z;clear Z;have B:=qh G;clear G;have g:=qh hz;clear hz;go_wp2_with (at_builtin;refine wpList_append_lies _ rfl _ _ _ rfl _ 3 r (.int .i64 0) 1 8 Tryz.underlying38 l.o Q.o b.o T.o rfl (by omega) _ E.length _ rfl V.o ⟨wr.heap.size,0,none⟩ 1 1 [.int .i64 k] rfl rfl (World.news_of_block (heap_alloc_new wr _)) on_i (by omega) (by unfold maxLen;omega) (by omega) J.o.size _ rfl ?_;intro y z w6 D C I S;have j:=qh (J.o.app 0 rfl D C I);clear D C I S);go_roundw
    case rel =>
     have X:(eds d (k+1)).length=E.length+1:=by rw[B.o];simp
     refine⟨k+1,z,some ⟨y,0,none⟩,by go_num,by rw[X],by omega,?_⟩;rw[X,B.o,Zo2];exact j.o
    case measure=>simp[intOf];omega
  obtain rfl:k=n:=by omega
  have s:(k:Int)≤k:=Int.le_refl _;have H:=qh hS;clear hS;rw[← F];replace F:=qh F;clear N;go_wp2;go_ret;rw[← F.o];exact⟨a,c,rfl,H.o⟩
theorem ZdB (d:DfaD) (v:Value) (w:World) (hd:Zac d.next d.ends=true) (h:DfaR 0 w v d) :
  Calls Tryz.prog 125 #[v] w fun e w'=>RNfaS (ZaL d) w e w':=by
 obtain⟨v1,v2,rfl,q1,q2⟩:=h;have aB:=fun (w':World) (hb:Below w.heap.size w w')=>Zcy d.next d.ends v1 v2 w' (q1.below hb) (q2.below hb) true hd
 have S:=fun (w':World) (hb:Below w.heap.size w w')=>Zm5 d v2 w' (by have:=Zaf hd;omega) (q2.below hb)
 obtain⟨L,hL⟩:=eI (d.next.length);obtain⟨bS,bX,aK⟩:=Zaf hd;have z:=fun (i:Nat) (hi:i<d.next.length)=>(ZaM hd hi)
 obtain⟨av,cv,rfl,bQ,cL,bH⟩:=q1.formI;obtain⟨b1,o1,rfl,-,hb1,q⟩:=bH (by omega);rw[aK] at S;rw[← hL] at bS bX aK z bQ q S aB;rw[← hL];obtain⟨E,hE⟩:=eI (eds d L);have bA:=Zdk d L;rw[← hE] at S bA;have cE:E.length≤40:=by omega
 obtain⟨i0,hi,bM,bP,bL⟩:=info_parts Tryz.infoMv;have hS:=((St.start w).alloc _ rfl #[.slice (some ⟨b1,o1,none⟩) L cv,v2] 44).alloc (w.heap.size+1) (by simp) #[.int .i64 0,.slice none 0 0,.slice none 0 0,.slice none 0 0] 81;have aV:=qh z;have bJ:=qh q;have bI:=qh aB;have bV:=qh S;have l:=qh hS;clear hS;replace hL:=qh hL;replace hE:=qh hE;have cB:=qh hi;clear hi;have bG:=qh bM;clear bM;have bB:=qh bP;clear bP;have aZ:=qh bL;clear bL;clear z q bH q1 q2 hd aK aB S bA
 go_enter Tryz.func125, Tryz.ntmps125
 go_wp2_with fail;refine(bI.o _ l.o.bel).mono ?_;rintro e w1 ⟨rfl,hb⟩;have bE:=l.o.call hb;have bC:=qh bE;clear bE;clear hb;go_wp2;refine wp_region_any (by kernel_rfl) ?_
 refine ZgV (fun listed a w'=>∃ (l0 l1 l2 y l4 l5 u m l8 k:Bool) (H:Option Addr) (G:Nat) (I:Nat) (b:Nat),listed=#[l0,l1,l2,y,l4,l5,u,m,l8,k]∧(m=true→y=true∧u=true)∧(k=true→m=true∧l8=true) ∧
   a=⟨#[.agg #[.slice (some ⟨b1,o1,none⟩) L cv,v2],.pointer (some ⟨w.heap.size,0,none⟩),.pointer (some ⟨w.heap.size+1,0,none⟩),(if l8=true then .pointer (some ⟨b,0,none⟩) else undef),undef,undef,.agg #[.slice (some ⟨b1,o1,none⟩) L cv,v2],.bool true,.bool false,undef,(if l0=true then .pointer (some ⟨w.heap.size,0,none⟩) else undef),(if l1=true then .slice (some ⟨b1,o1,none⟩) L cv else undef),(if l2=true then .int .i64 (L:Int) else undef),(if y=true then .slice (some ⟨I,0,none⟩) 1 1 else undef),(if l4=true then .pointer (some ⟨w.heap.size,1,none⟩) else undef),(if l5=true then v2 else undef),(if u=true then .slice H E.length G else undef),(if m=true then .agg #[.int .i64 L,.slice none 0 0,.slice (some ⟨I,0,none⟩) 1 1,.slice H E.length G] else undef),undef,undef,undef,undef,undef,undef,undef,undef,undef,undef,undef,undef,undef,undef,undef,undef,undef,undef,undef,undef,undef,undef,undef,undef,undef,undef,undef,undef],[]⟩ ∧
   St w w' [Ent.box w.heap.size #[.slice (some ⟨b1,o1,none⟩) L cv,v2] 44,Ent.box (w.heap.size+1) #[.int .i64 0,.slice none 0 0,.slice none 0 0,.slice none 0 0] 81,(if y=true then Ent.row 3 1 (.slice (some ⟨I,0,none⟩) 1 1) 1 [.int .i64 0] else Ent.nil),(if u=true then Ent.row 3 1 (.slice H E.length G) E.length (intCells E) else Ent.nil),(if l8=true then Ent.box b (if k=true then #[.int .i64 L,.slice none 0 0,.slice (some ⟨I,0,none⟩) 1 1,.slice H E.length G] else #[.int .i64 0,.slice none 0 0,.slice none 0 0,.slice none 0 0]) 81 else Ent.nil)]) ?_ ?_ _ _ _ _ (Zro _ _) ?_
 ·rintro listed a w' ⟨l0,l1,l2,y,l4,l5,u,m,l8,k,H,G,I,b,rfl,V,R,rfl,hS⟩ i hi;obtain⟨B,o,ho,hall⟩:=mem_ready.1 hi;have hlt:=(Array.getElem?_eq_some_iff.1 ho).1;refine wpOp_step ho (fun K P => ?_);clear hi;have F:=qh hS;clear hS;obtain h|h|h|h|h|h|h|h|h|h:i=0∨i=1∨i=2∨i=3∨i=4∨i=5∨i=6∨i=7∨i=8∨i=9:=by simp at hlt;omega
  all_goals subst h
  all_goals simp only[w_5,w_6,w_7,w_9] at ho
  all_goals subst ho
  all_goals simp[Region.binds] at B hall
  ·subst B;go_simp;exact P _ _ ⟨_,_,_,_,_,_,_,_,_,_,H,G,I,b,rfl,V,R,rfl,F.o⟩
  ·obtain rfl:=hall;subst B;have e0:=F.o.cell (v:=.slice (some ⟨b1,o1,none⟩) L cv) 0 0 rfl rfl;go_simp;exact P _ _ ⟨_,_,_,_,_,_,_,_,_,_,H,G,I,b,rfl,V,R,rfl,F.o⟩
  ·obtain rfl:=hall;subst B;go_simp;exact P _ _ ⟨_,_,_,_,_,_,_,_,_,_,H,G,I,b,rfl,V,R,rfl,F.o⟩
  ·subst B;obtain rfl:m=false:=offL V rfl;obtain rfl:k=false:=offL R rfl;have O:=(((F.o.alloc _ rfl #[.int .i64 0] 3).boxrow 5 1 1 [.int .i64 0] rfl rfl (by unfold maxLen;omega)).pick [0,1,5,3,4] (by decide));have J:=qh O;clear O;go_simp;exact P _ _ ⟨_,_,_,_,_,_,_,_,_,_,H,G,_,b,rfl,by simp,by simp,rfl,J.o⟩
  ·subst B;go_simp;exact P _ _ ⟨_,_,_,_,_,_,_,_,_,_,H,G,I,b,rfl,V,R,rfl,F.o⟩
  ·obtain rfl:=hall;subst B;have e0:=F.o.cell (v:=v2) 0 1 rfl rfl;go_simp;exact P _ _ ⟨_,_,_,_,_,_,_,_,_,_,H,G,I,b,rfl,V,R,rfl,F.o⟩
  ·obtain rfl:=hall;subst B;obtain rfl:m=false:=offR V rfl;obtain rfl:k=false:=offL R rfl;go_simp
   go_at_call 155
   refine(bV.o _ F.o.bel).mono ?_;rintro e u1 ⟨a7,c8,rfl,bY⟩;have O:=(F.o.cat bY).pick [0,1,2,5,4] (by decide);have J:=qh O;clear O;go_simp;exact P _ _ ⟨_,_,_,_,_,_,_,_,_,_,a7,c8,I,b,rfl,by simp,by simp,rfl,J.o⟩
  ·obtain⟨rfl,rfl,rfl⟩:=hall;subst B;obtain rfl:k=false:=offL R rfl;go_simp;exact P _ _ ⟨_,_,_,_,_,_,_,_,_,_,H,G,I,b,rfl,by simp,by simp,rfl,F.o⟩
  ·subst B;obtain rfl:k=false:=offR R rfl;have O:=(F.o.alloc _ rfl #[.int .i64 0,.slice none 0 0,.slice none 0 0,.slice none 0 0] 81).pick [0,1,2,3,5] (by decide);have J:=qh O;clear O;go_simp;exact P _ _ ⟨_,_,_,_,_,_,_,_,_,_,H,G,I,_,rfl,V,by simp,rfl,J.o⟩
  obtain⟨rfl,rfl,rfl,rfl,rfl,rfl,rfl,rfl,rfl,-⟩:=hall;subst B;have f0:=F.o.fr 4 0 rfl;have k0:=F.o.cell (v:=.int .i64 0) 4 0 rfl rfl;have f1:=F.o.fr 4 1 rfl;have k1:=F.o.cell (v:=.slice none 0 0) 4 1 rfl rfl;have f2:=F.o.fr 4 2 rfl;have k2:=F.o.cell (v:=.slice none 0 0) 4 2 rfl rfl;have f3:=F.o.fr 4 3 rfl;have k3:=F.o.cell (v:=.slice none 0 0) 4 3 rfl rfl;go_simp;exact P _ _ ⟨_,_,_,_,_,_,_,_,_,_,H,G,I,b,rfl,by simp,by simp,rfl,((((F.o.set 4 rfl 0 (.int .i64 L)).set 4 rfl 1 (.slice none 0 0)).set 4 rfl 2 (.slice (some ⟨I,0,none⟩) 1 1)).set 4 rfl 3 (.slice H E.length G))⟩
 ·rintro listed a w' ⟨l0,l1,l2,y,l4,l5,u,m,l8,k,H,G,I,b,rfl,V,R,rfl,hS⟩ hr;obtain⟨rfl,rfl,rfl,rfl,rfl,rfl,rfl,rfl,rfl,rfl,-⟩:=zA (ZbK (by kernel_rfl) rfl hr) rfl;clear hr V R;simp only[↓reduceIte] at hS ⊢;have x1:=hS.cell (v:=.slice (some ⟨b1,o1,none⟩) L cv) 0 0 rfl rfl;have bD:=(hS.pick [0,1,2,3,4] (by decide)).nilRow 117 3
  have O:St w w' [Ent.box w.heap.size #[.slice (some ⟨b1,o1,none⟩) L cv,v2] 44,Ent.box (w.heap.size+1) #[.int .i64 0,.slice none 0 0,.slice none 0 0,.slice none 0 0] 81,Ent.row 3 1 (.slice (some ⟨I,0,none⟩) 1 1) 1 [.int .i64 0],Ent.row 3 1 (.slice H E.length G) E.length (intCells E),
    Ent.box b #[.int .i64 L,.slice none 0 0,.slice (some ⟨I,0,none⟩) 1 1,.slice H E.length G] 81,Ent.row 117 3 (.slice none 0 0) 0 []]:=bD
  have J:=qh O;clear O;clear hS bD x1;go_wp2
  go_loopw [4] (fun i wr=>∃ (s c1:Nat) (a1:Option Addr),i = .int .i64 s∧s≤L∧St w wr [Ent.box w.heap.size #[.slice (some ⟨b1,o1,none⟩) L cv,v2] 44,Ent.box (w.heap.size+1) #[.int .i64 0,.slice none 0 0,.slice none 0 0,.slice none 0 0] 81,Ent.row 3 1 (.slice (some ⟨I,0,none⟩) 1 1) 1 [.int .i64 0],Ent.row 3 1 (.slice H E.length G) E.length (intCells E),
    Ent.box b #[.int .i64 L,.slice a1 (mvs d s).length c1,.slice (some ⟨I,0,none⟩) 1 1,.slice H E.length G] 81,Ent.row 117 3 (.slice a1 (mvs d s).length c1) (mvs d s).length ((mvs d s).flatMap Zae)])
   (fun i _=>L-(intOf i).toNat)
  case atStart=>exact⟨0,0,none,rfl,Nat.zero_le _,J.o⟩
  case round =>
   obtain⟨s,c1,a1,rfl,hs,hS⟩:=hrel;obtain⟨wo,cA⟩:∃ wo:World,wo=wr:=⟨_,rfl⟩;subst cA;have x1:=hS.cell (v:=.slice (some ⟨b1,o1,none⟩) L cv) 0 0 rfl rfl;have aA:=ZcA d s;obtain⟨M,hM⟩:=eI (mvs d s);rw[← hM] at hS aA;have cD:M.length≤120:=by omega
   by_cases hlt:s<L
   ·have hlt2:(s:Int)<L:=by omega
    obtain⟨ar,cr,aP,-,-,aO⟩:=bJ.o s hlt;obtain⟨aT,-⟩:=aV.o s (by have:=hL.o;omega);rw[aT] at aP aO;obtain⟨_,_,Z,bN,cH,aQ⟩:=aO.form;rw[aT] at Z aQ bN;simp only[Value.slice.injEq,true_and] at Z;obtain⟨rfl,rfl⟩:=Z;obtain⟨b3,o3,rfl,-,bZ,aI⟩:=aQ (by omega);have aX:=qh aI;have aY:=qh aP;clear aP;have l:=qh hS;clear hS;have aM:=qh hM;clear hM;have aJ:=qh aA;clear aA;clear aI aQ aO aT;go_wp2
    go_loopw [5] (fun i wi=>∃ (c c1:Nat) (a1:Option Addr),i = .int .i64 c∧c≤3∧St w wi [Ent.box w.heap.size #[.slice (some ⟨b1,o1,none⟩) L cv,v2] 44,Ent.box (w.heap.size+1) #[.int .i64 0,.slice none 0 0,.slice none 0 0,.slice none 0 0] 81,Ent.row 3 1 (.slice (some ⟨I,0,none⟩) 1 1) 1 [.int .i64 0],Ent.row 3 1 (.slice H E.length G) E.length (intCells E),
      Ent.box b #[.int .i64 L,.slice a1 (M.length+c) c1,.slice (some ⟨I,0,none⟩) 1 1,.slice H E.length G] 81,Ent.row 117 3 (.slice a1 (M.length+c) c1) (M.length+c) ((M++(rowM d s).take c).flatMap Zae)])
     (fun i _=>3-(intOf i).toNat)
    case atStart=>exact⟨0,c1,a1,rfl,by omega,by rw[List.take_zero,List.append_nil];exact l.o⟩
    case round =>
     obtain⟨c,c1,a1,rfl,cJ,p⟩:=hrel;obtain⟨wp,bT⟩:∃ wp:World,wp=wr:=⟨_,rfl⟩;subst bT;by_cases hc:c<3
     ·have cM:(c:Int)<3:=by omega
      have aN:=Zj8 d s hc;have k3:=aX.o c hc;obtain⟨x,hx⟩:=eI ((d.next.getD s []).getD c 0);rw[← hx] at k3 aN;obtain⟨N,hN⟩:=eI (M++(rowM d s).take c);obtain⟨g,aR⟩:=eI (M.length+c);have cI:g≤130:=by omega
      rw[← hN,← aR] at p;have bR:=qh k3;clear k3;have bO:=qh aN;clear aN;have cK:=qh hx;clear hx;have bU:=qh hN;clear hN;have bK:=qh aR;clear aR;have aC:=qh p;clear p;clear x1;go_wp2;refine wp_region_any (by kernel_rfl) ?_
      refine Zay (fun A listed a w'=>∃ (l0 l1 l2 y l4 l5 u m l8 k aE aD aG n X aF Y:Bool) (T:Nat) (Q:Nat) (U:Nat),listed=#[l0,l1,l2,y,l4,l5,u,m,l8,k,aE,aD,aG,n,X,aF,Y]∧(X=true→l1=true∧n=true)∧(Y=true→X=true∧l1=true) ∧
        a=⟨((((((((((((((((A.tmps.setIfInBounds 29 (if l0=true then .pointer (some ⟨b,1,none⟩) else A.tmps.getD 29 undef)).setIfInBounds 30 (if l1=true then .slice a1 g c1 else A.tmps.getD 30 undef)).setIfInBounds 31 (if l2=true then .int .i64 (s:Int) else A.tmps.getD 31 undef)).setIfInBounds 32 (if y=true then .int .i64 (c:Int) else A.tmps.getD 32 undef)).setIfInBounds 33 (if l4=true then .pointer (some ⟨w.heap.size,0,none⟩) else A.tmps.getD 33 undef)).setIfInBounds 34 (if l5=true then .slice (some ⟨b1,o1,none⟩) L cv else A.tmps.getD 34 undef)).setIfInBounds 35 (if u=true then .int .i64 (s:Int) else A.tmps.getD 35 undef)).setIfInBounds 36 (if m=true then .pointer (some ⟨b1,o1+s,none⟩) else A.tmps.getD 36 undef)).setIfInBounds 37 (if l8=true then .slice (some ⟨b3,o3,none⟩) 3 cr else A.tmps.getD 37 undef)).setIfInBounds 38 (if k=true then .int .i64 (c:Int) else A.tmps.getD 38 undef)).setIfInBounds 39 (if aE=true then .pointer (some ⟨b3,o3+c,none⟩) else A.tmps.getD 39 undef)).setIfInBounds 40 (if aD=true then .int .i64 x else A.tmps.getD 40 undef)).setIfInBounds 41 (if aG=true then .agg #[.int .i64 s,.int .i64 c,.int .i64 x] else A.tmps.getD 41 undef)).setIfInBounds 42 (if n=true then .slice (some ⟨U,0,none⟩) 1 1 else A.tmps.getD 42 undef)).setIfInBounds 43 (if X=true then .slice (some ⟨T,0,none⟩) (g+1) Q else A.tmps.getD 43 undef)).setIfInBounds 44 (if aF=true then .pointer (some ⟨b,1,none⟩) else A.tmps.getD 44 undef)),A.defers⟩ ∧
        St w w' [Ent.box w.heap.size #[.slice (some ⟨b1,o1,none⟩) L cv,v2] 44,Ent.box (w.heap.size+1) #[.int .i64 0,.slice none 0 0,.slice none 0 0,.slice none 0 0] 81,Ent.row 3 1 (.slice (some ⟨I,0,none⟩) 1 1) 1 [.int .i64 0],Ent.row 3 1 (.slice H E.length G) E.length (intCells E),Ent.box b #[.int .i64 L,(if Y=true then .slice (some ⟨T,0,none⟩) (g+1) Q else .slice a1 g c1),.slice (some ⟨I,0,none⟩) 1 1,.slice H E.length G] 81,(if X=true then Ent.row 117 3 (.slice (some ⟨T,0,none⟩) (g+1) Q) (g+1) (N.flatMap Zae++[.int .i64 s,.int .i64 c,.int .i64 x]) else Ent.row 117 3 (.slice a1 g c1) g (N.flatMap Zae)),(if n=true then Ent.box U #[.int .i64 s,.int .i64 c,.int .i64 x] 117 else Ent.nil)]) ?_ ?_ ?_
      ·rintro listed a w' ⟨l0,l1,l2,y,l4,l5,u,m,l8,k,aE,aD,aG,n,X,aF,Y,T,Q,U,rfl,D,C,rfl,hS⟩ i hi;obtain⟨B,o,ho,hall⟩:=mem_ready.1 hi;have hlt:=(Array.getElem?_eq_some_iff.1 ho).1;refine wpOp_step ho (fun K P => ?_);clear hi;have F:=qh hS;clear hS;simp only[w_1,w_2,w_3,w_4,w_5,w_6,w_7,w_8];obtain h|h|h|h|h|h|h|h|h|h|h|h|h|h|h|h|h:i=0∨i=1∨i=2∨i=3∨i=4∨i=5∨i=6∨i=7∨i=8∨i=9∨i=10∨i=11∨i=12∨i=13∨i=14∨i=15∨i=16:=by simp at hlt;omega
       all_goals subst h
       all_goals simp only[w_5,w_6,w_7,w_9] at ho
       all_goals subst ho
       all_goals simp[Region.binds] at B hall
       ·subst B;go_simp;exact P _ _ ⟨_,_,_,_,_,_,_,_,_,_,_,_,_,_,_,_,_,T,Q,U,rfl,D,C,(by simp),F.o⟩
       ·obtain rfl:=hall;subst B;obtain rfl:X=false:=offL D rfl;obtain rfl:Y=false:=offL C rfl;have e0:=F.o.cell (v:=.slice a1 g c1) 4 1 rfl rfl;go_simp;exact P _ _ ⟨_,_,_,_,_,_,_,_,_,_,_,_,_,_,_,_,_,T,Q,U,rfl,by simp,by simp,(by simp),F.o⟩
       ·subst B;go_simp;exact P _ _ ⟨_,_,_,_,_,_,_,_,_,_,_,_,_,_,_,_,_,T,Q,U,rfl,D,C,(by simp),F.o⟩
       ·subst B;go_simp;exact P _ _ ⟨_,_,_,_,_,_,_,_,_,_,_,_,_,_,_,_,_,T,Q,U,rfl,D,C,(by simp),F.o⟩
       ·subst B;go_simp;exact P _ _ ⟨_,_,_,_,_,_,_,_,_,_,_,_,_,_,_,_,_,T,Q,U,rfl,D,C,(by simp),F.o⟩
       ·obtain rfl:=hall;subst B;have e0:=F.o.cell (v:=.slice (some ⟨b1,o1,none⟩) L cv) 0 0 rfl rfl;go_simp;exact P _ _ ⟨_,_,_,_,_,_,_,_,_,_,_,_,_,_,_,_,_,T,Q,U,rfl,D,C,(by simp),F.o⟩
       ·subst B;go_simp;exact P _ _ ⟨_,_,_,_,_,_,_,_,_,_,_,_,_,_,_,_,_,T,Q,U,rfl,D,C,(by simp),F.o⟩
       ·obtain⟨rfl,rfl⟩:=hall;subst B;go_simp;exact P _ _ ⟨_,_,_,_,_,_,_,_,_,_,_,_,_,_,_,_,_,T,Q,U,rfl,D,C,(by simp),F.o⟩
       ·obtain rfl:=hall;subst B;have e0:=(bcell F.o.bel b1 _ hb1).trans aY.o;go_simp;exact P _ _ ⟨_,_,_,_,_,_,_,_,_,_,_,_,_,_,_,_,_,T,Q,U,rfl,D,C,(by simp),F.o⟩
       ·subst B;go_simp;exact P _ _ ⟨_,_,_,_,_,_,_,_,_,_,_,_,_,_,_,_,_,T,Q,U,rfl,D,C,(by simp),F.o⟩
       ·obtain⟨rfl,rfl⟩:=hall;subst B;go_simp;exact P _ _ ⟨_,_,_,_,_,_,_,_,_,_,_,_,_,_,_,_,_,T,Q,U,rfl,D,C,(by simp),F.o⟩
       ·obtain rfl:=hall;subst B;have e0:=(bcell F.o.bel b3 _ bZ).trans bR.o;go_simp;exact P _ _ ⟨_,_,_,_,_,_,_,_,_,_,_,_,_,_,_,_,_,T,Q,U,rfl,D,C,(by simp),F.o⟩
       ·obtain⟨rfl,rfl,rfl⟩:=hall;subst B;go_simp;exact P _ _ ⟨_,_,_,_,_,_,_,_,_,_,_,_,_,_,_,_,_,T,Q,U,rfl,D,C,(by simp),F.o⟩
       ·obtain rfl:=hall;subst B;obtain rfl:X=false:=offR D rfl;obtain rfl:Y=false:=offL C rfl;have O:=(F.o.alloc _ rfl #[.int .i64 s,.int .i64 c,.int .i64 x] 117).pick [0,1,2,3,4,5,7] (by decide);have J:=qh O;clear O;go_simp;exact P _ _ ⟨_,_,_,_,_,_,_,_,_,_,_,_,_,_,_,_,_,T,Q,_,rfl,by simp,by simp,(by simp),J.o⟩
       ·obtain⟨rfl,rfl⟩:=hall;subst B;obtain rfl:Y=false:=offL C rfl;refine step_append_lies (a:=⟨_,_⟩) _ (by rfl) _ _ _ (by rfl) w.heap.size 117 i0 (.agg #[.int .i64 0,.int .i64 0,.int .i64 0]) 3 24 Tryz.underlying79 cB.o bG.o bB.o aZ.o (by rfl) (by omega) (.slice a1 g c1) g (N.flatMap Zae) (by rfl) (F.o.row 5 rfl) ⟨U,0,none⟩ 1 1 [.int .i64 s,.int .i64 c,.int .i64 x] (by rfl) (by rfl) (World.news_of_block (F.o.box 6 rfl)) ZeD (by omega) (by unfold maxLen;omega) (by omega) F.o.size _ rfl ?_;intro g8 c8 w8 r j aH cC;have bW:=qh (F.o.app 5 rfl r j aH);clear r j aH;go_simp;exact P _ _ ⟨_,_,_,_,_,_,_,_,_,_,_,_,_,_,_,_,_,g8,c8,U,rfl,by simp,by simp,(by simp),bW.o⟩
       ·obtain⟨rfl,rfl,rfl,rfl,rfl,rfl,rfl,rfl,rfl,rfl,rfl,rfl,rfl,rfl,rfl⟩:=hall;subst B;go_simp;exact P _ _ ⟨_,_,_,_,_,_,_,_,_,_,_,_,_,_,_,_,_,T,Q,U,rfl,by simp,C,(by simp only[↓reduceIte,w_1,w_2,w_3]),F.o⟩
       obtain⟨rfl,rfl,rfl,rfl,rfl,rfl,rfl,rfl,rfl,rfl,rfl,rfl,rfl,rfl,rfl,rfl,-⟩:=hall;subst B;have f0:=F.o.fr 4 1 rfl;have k0:=F.o.cell (v:=.slice a1 g c1) 4 1 rfl rfl;go_simp;exact P _ _ ⟨_,_,_,_,_,_,_,_,_,_,_,_,_,_,_,_,_,T,Q,U,rfl,by simp,by simp,(by simp only[↓reduceIte,w_1,w_2,w_3]),(F.o.set 4 rfl 1 (.slice (some ⟨T,0,none⟩) (g+1) Q))⟩
      ·rintro listed a w' ⟨l0,l1,l2,y,l4,l5,u,m,l8,k,aE,aD,aG,n,X,aF,Y,T,Q,U,rfl,D,C,rfl,hS⟩ hr;obtain⟨rfl,rfl,rfl,rfl,rfl,rfl,rfl,rfl,rfl,rfl,rfl,rfl,rfl,rfl,rfl,rfl,rfl,-⟩:=zA (ZbK (by kernel_rfl) rfl hr) rfl;clear hr D C;simp only[↓reduceIte] at hS ⊢;simp only[w_1,w_2,w_3];have aW:=hS.pick [0,1,2,3,4,5] (by decide);have aU:=qh aW;clear aW;clear hS;go_wp2;go_roundw
       case rel =>refine⟨c+1,Q,some ⟨T,0,none⟩,by go_num,by omega,?_⟩;rw[bO.o,← List.append_assoc,← bU.o,ZcK,show M.length+(c+1)=g+1 by rw[bK.o];omega];exact aU.o
       case measure=>simp[intOf];omega
      refine⟨false,false,false,false,false,false,false,false,false,false,false,false,false,false,false,false,false,0,0,0,rfl,by simp,by simp,(by simp),?_⟩;exact aC.o.drew.pick [0,1,2,3,4,5,6] (by decide)
     obtain rfl:c=3:=by omega
     have bF:(rowM d s).take 3=rowM d s:=List.take_of_length_le (by rw[ZgI];exact Nat.le_refl _);have aS:M++rowM d s=mvs d (s+1):=by rw[aM.o];rfl
     have aL:M.length+3=(mvs d (s+1)).length:=by rw[ZcA,aJ.o];omega
     rw[bF,aS,aL] at p;have aC:=qh p;clear p;have cF:=qh aS;clear aS;have cG:=qh aL;clear aL;clear bF x1;go_wp2;go_roundw
     case rel=>exact⟨s+1,c1,a1,by go_num,by omega,aC.o⟩
     case measure=>simp[intOf];omega
   obtain rfl:s=L:=by omega
   have f0:=hS.fr 1 0 rfl;have f1:=hS.fr 1 1 rfl;have f2:=hS.fr 1 2 rfl;have f3:=hS.fr 1 3 rfl;have k0:=hS.cell (v:=.int .i64 0) 1 0 rfl rfl;have k1:=hS.cell (v:=.slice none 0 0) 1 1 rfl rfl;have k2:=hS.cell (v:=.slice none 0 0) 1 2 rfl rfl;have k3:=hS.cell (v:=.slice none 0 0) 1 3 rfl rfl;have d0:=hS.cell (v:=.int .i64 s) 4 0 rfl rfl;have d1:=hS.cell (v:=.slice a1 M.length c1) 4 1 rfl rfl;have d2:=hS.cell (v:=.slice (some ⟨I,0,none⟩) 1 1) 4 2 rfl rfl;have d3:=hS.cell (v:=.slice H E.length G) 4 3 rfl rfl;have l:=qh hS;clear hS;have aM:=qh hM;clear hM;have aJ:=qh aA;clear aA;go_wp2;have hq:=(((l.o.set 1 rfl 0 (.int .i64 s)).set 1 rfl 1 (.slice a1 M.length c1)).set 1 rfl 2 (.slice (some ⟨I,0,none⟩) 1 1)).set 1 rfl 3 (.slice H E.length G);have q0:=hq.cell (v:=.int .i64 s) 1 0 rfl rfl;have q1:=hq.cell (v:=.slice a1 M.length c1) 1 1 rfl rfl;have q2:=hq.cell (v:=.slice (some ⟨I,0,none⟩) 1 1) 1 2 rfl rfl;have q3:=hq.cell (v:=.slice H E.length G) 1 3 rfl rfl;refine bodyPost_ret (v:=.agg #[.int .i64 s,.slice a1 M.length c1,.slice (some ⟨I,0,none⟩) 1 1,.slice H E.length G]) (by simp[results,Tryz.results125,go_sem,q0,q1,q2,q3]) rfl ?_;have hr:RNfaS ⟨(s:Int),M,[0],E⟩ w (.returned (.agg #[.int .i64 s,.slice a1 M.length c1,.slice (some ⟨I,0,none⟩) 1 1,.slice H E.length G])) _:=⟨a1,c1,_,1,H,G,rfl,hq.pick [5,2,3] (by decide)⟩;have hn:ZaL d=⟨(s:Int),M,[0],E⟩:=by unfold ZaL;rw[← hL.o,aM.o,hE.o]
   rw[hn];exact hr
 refine⟨false,false,false,false,false,false,false,false,false,false,none,0,0,0,rfl,by simp,by simp,rfl,?_⟩;exact bC.o.drew.pick [0,1,2,3,4] (by decide)
def zeD:DfaD:=⟨[],[]⟩
theorem ZiT (w:World) (B tS tI tB:Nat):DfaO tS tI tB B w.heap.size w (.agg #[.slice none 0 0,.slice none 0 0]) zeD :=
 ⟨_,_,rfl,⟨[],Zab ⟨by simp[zeD],Or.inl ⟨rfl,rfl⟩⟩,fun i hi=>absurd hi (by simp[zeD]),fun i j k _ hj=>absurd hj (by simp[zeD])⟩,Zab ⟨by simp[zeD],Or.inl ⟨rfl,rfl⟩⟩⟩
def RTt (D:DfaD) (fb:Bool) (B:Nat) (e:Ending) (w':World):Prop:=∃ a1 c1 a2 c2,e = .returned (.tuple #[.agg #[.slice a1 D.next.length c1,.slice a2 D.ends.length c2],.bool fb])∧DfaO 38 3 4 B w'.heap.size w' (.agg #[.slice a1 D.next.length c1,.slice a2 D.ends.length c2]) D
theorem ZfN {d:DfaD} (h:fine d) (B:d.next.length≤40):Zac d.next d.ends=true:=by
 obtain⟨h1,-,h3,hr⟩:=h;simp only[Zac,Bool.and_eq_true,List.all_eq_true,decide_eq_true_eq];refine⟨⟨fun x hx => ?_,?_⟩,h3⟩
 ·obtain⟨i,hi,e⟩:=List.getElem_of_mem hx;obtain⟨a,b⟩:=hr i hi;rw[Zbg hi,e] at a b;simp only[ZdZ,Bool.and_eq_true,decide_eq_true_eq,List.all_eq_true];refine⟨a,fun y hy => ?_⟩;obtain⟨c,hc,e2⟩:=List.getElem_of_mem hy;have:=b c (by omega);rw[Zbg hc,e2] at this;unfold inB;simp;omega
 unfold inB;simp;omega
theorem ZkW {d:DfaD} (h:Zac d.next d.ends=true):Zac (Zbj d).next (Zbj d).ends=true∧(Zbj d).next.length≤d.next.length:=by obtain⟨h1,h2,-⟩:=Zil (ZaS h);have:=Zaf h;exact⟨ZfN h1 (by omega),h2⟩
theorem Zpf {x:DfaD} (h:Zac x.next x.ends=true):Zac (Zdi x).next (Zdi x).ends=true:=by obtain⟨h1,h2,-⟩:=ZiI (ZaS h);have:=Zaf h;exact ZfN h1 (by omega)
def ZmY (w:World) (b j:Nat):Nat:=match w.cell? ⟨b,j,none⟩ with
 | some v=>(intOf v).toNat
 | none=>0
theorem ZdM {w:World} {b j t:Nat} (h:w.cell? ⟨b,j,none⟩=some (.int .i64 ((t:Nat):Int))):ZmY w b j=t:=by unfold ZmY;rw[h];simp[intOf]
def ZrI (w:World) (b n:Nat):Nat:=((List.range n).filter fun s=>decide (ZmY w b s=s)).length
theorem Zl3 {w:World} {b n:Nat} {cl:Nat→Nat} (h:∀ s,s<n→w.cell? ⟨b,s,none⟩=some (.int .i64 ((cl s:Nat):Int))):ZrI w b n=reps n cl:=by
 unfold ZrI reps;congr 1;refine List.filter_congr fun s hs => ?_
 rw[ZdM (h s (List.mem_range.1 hs))]
def Zf1:Value→Nat
 | .slice (some a) _ _=>a.block
 | _=>0
def Znb:Value→Bool
 | .bool b=>b
 | _=>false
def RCl (d:DfaD) (w:World) (e:Ending) (w':World):Prop:=∃ b c,e = .returned (.slice (some ⟨b,0,none⟩) d.next.length c)∧St w w' [Ent.row 3 1 (.slice (some ⟨b,0,none⟩) d.next.length c) d.next.length (intCells (clsL d.next.length (clD d)))]
theorem ZhZ (d:DfaD) (v:Value) (w:World) (hd:Zac d.next d.ends=true) (h:DfaR 0 w v d) :
  Calls Tryz.prog 104 #[v] w fun e w'=>RCl d w e w':=by
 have HR:=qh h;obtain⟨b1,o1,cv,b2,o2,cw,rfl,hC⟩:=Zcb hd h;have bD:∀ s c,s<d.next.length→c<3→nxD d s c<d.next.length:=fun s c hs hc=>hC.lt s c hs hc
 obtain⟨N,hN,aB,aZ⟩:=Zi0 (n:=d.next.length) (nx:=nxD d) (enD d);obtain⟨C,H⟩:=eI (clAt d.next.length (nxD d) (enD d));have Y:∀ s,s<d.next.length→C (N+1) s=clD d s:=fun s hs=>by rw[H,aB s hs];exact(Zmy bD hN aB hs).symm
 have O:∀ i,GoodC d.next.length (C i):=fun i=>by rw[H];exact Zek (enD d) i
 have aT:∀ s,s<d.next.length→C 0 s≤s∧enD d (C 0 s)=enD d s∧∀ j,j<C 0 s→enD d j≠enD d s:=fun s hs=>by rw[H];exact Zel hs
 have aN:∀ i s,s<d.next.length→C (i+1) s≤s∧ZbZ (nxD d) (C i) (C (i+1) s) s=true∧∀ j,j<C (i+1) s→ZbZ (nxD d) (C i) j s=false:=fun i s hs=>by rw[H];exact Za5 hs
 have aR:∀ i,clsL d.next.length (C (i+1))=clsL d.next.length (C i)↔stays d.next.length (nxD d) (enD d) i:=fun i=>by rw[Zrf,H];exact Iff.rfl
 obtain⟨L,R⟩:=eI (d.next.length);have bO:=hC.l1;have cA:=hC.l2;have aM:=(St.start w).alloc _ rfl #[.slice (some ⟨b1,o1,none⟩) L cv,.slice (some ⟨b2,o2,none⟩) L cw] 44;unfold RCl;rw[← R] at bO cA HR hN O aT aN aR Y;rw[← R];obtain⟨i0,hi,bK,bL,bJ⟩:=info_parts Tryz.infoInt;have HC:=qh hC;have l:=qh O;have cF:=qh aT;have cI:=qh aN;have aY:=qh aR;have bA:=qh Y;have cC:=qh aZ;have cJ:=qh aB;replace aM:=qh aM;replace R:=qh R;replace H:=qh H;have bI:=qh hi;clear hi;have aJ:=qh bK;clear bK;have aH:=qh bL;clear bL;have aF:=qh bJ;clear bJ;clear hC O aT aN aR Y aZ aB bD h
 go_enter Tryz.func104, Tryz.ntmps104
 have HD:=qh (show ∀ w1:World,w1.ownsRow (w.alloc (.cells #[.slice (some ⟨b1,o1,none⟩) L cv,.slice (some ⟨b2,o2,none⟩) L cw] 44)).heap.size 3 1 (.slice (some ⟨w.heap.size+1,0,none⟩) L L) L (intCells (padL L 0 (C 0)))→Below (w.alloc (.cells #[.slice (some ⟨b1,o1,none⟩) L cv,.slice (some ⟨b2,o2,none⟩) L cw] 44)).heap.size (w.alloc (.cells #[.slice (some ⟨b1,o1,none⟩) L cv,.slice (some ⟨b2,o2,none⟩) L cw] 44)) w1 →
   St w w1 [Ent.box w.heap.size #[.slice (some ⟨b1,o1,none⟩) L cv,.slice (some ⟨b2,o2,none⟩) L cw] 44,Ent.row 3 1 (.slice (some ⟨w.heap.size+1,0,none⟩) L L) L (intCells (padL L 0 (C 0)))] from fun w1 h1 h2=>aM.o.made h2 h1)
 go_wp2_with (at_make;refine wpList_make_full _ rfl _ _ 38 rfl _ 3 i0 (.int .i64 0) 1 Tryz.underlying38 bI.o aJ.o aH.o .i64 .i64 _ _ L rfl rfl rfl rfl (by rw[aF.o];omega) (by unfold maxLen;omega) (Nat.le_refl _) ?_;intro w1 J F;have hm:=Zhr (C 0) J;simp only[World.size_alloc] at hm;have bU:=qh (HD.o w1 (by simpa only [World.size_alloc] using hm) ((Below.refl _ _).grown F (Nat.le_refl _) (fun _ h=>by cases h)));clear J F hm)
 go_loopw [14] (fun i wr=>∃ s:Nat,i = .int .i64 s∧s≤L∧St w wr [Ent.box w.heap.size #[.slice (some ⟨b1,o1,none⟩) L cv,.slice (some ⟨b2,o2,none⟩) L cw] 44,Ent.row 3 1 (.slice (some ⟨w.heap.size+1,0,none⟩) L L) L (intCells (padL L s (C 0)))]) (fun i _=>L-(intOf i).toNat)
 case atStart=>exact⟨0,rfl,Nat.zero_le _,bU.o⟩
 case round =>
  obtain⟨s,rfl,hs,hS⟩:=hrel;by_cases hlt:s<L
  ·have hlt2:(s:Int)<L:=by omega
   have aL:s<d.next.length:=by have:=R.o;omega
   have hen:=HC.o.en s aL;have M:=cF.o s hlt;have aI:=ZgK (n:=L) (s:=s) (C 0);have E:=ZgJ (n:=L) (s:=s) (C 0) 0 (C 0 s);rw[Zl9 (C 0) hlt] at hS;rw[aI] at E;have aS:=ZdF (n:=L) (s:=s) (C 0) 0;have aP:=fun (w':World) (hb:Below w.heap.size w w') (z:Bool) (hz:z=enD d s)=>Znc d.ends z (C 0 s) (.slice (some ⟨b2,o2,none⟩) L cw) w' (by obtain⟨u1,u2,hq,-,h2⟩:=HR.o;simp only[Value.agg.injEq,Array.mk.injEq,List.cons.injEq,and_true] at hq;rw[hq.2];exact h2.below hb) (by have:=HC.o.le;omega) (by rw[hz];exact M.2.1) (fun j hj=>by rw[hz];exact M.2.2 j hj)
   obtain⟨z,hz⟩:=eI (enD d s);rw[← hz] at hen;obtain⟨p,hp⟩:=eI (C 0 s);rw[← hp] at E aP;have cH:=qh fun (w':World) (hb:Below w.heap.size w w')=>aP w' hb z hz
   have bQ:=qh hen;obtain⟨X0,aD⟩:=eI (intCells (padT L s (C 0) 0));obtain⟨X1,aW⟩:=eI (intCells (padL L (s+1) (C 0)));rw[← aD,← aW] at E;rw[← aD] at hS aS;have G:=qh hS;have cQ:=qh hz;clear hz;have bN:=qh hp;clear hp;have aU:=qh E;clear E;have bH:=qh aS;clear aS;have cO:=qh aD;clear aD;have bF:=qh aW;clear aW;clear hS aP hen M aI;go_wp2;refine wp_region_any (by kernel_rfl) ?_
   refine Zay (fun A listed a w'=>∃ (l0 l1 l2 l3 l4 l5 l6 l7 l8 l9 aA u:Bool) ,listed=#[l0,l1,l2,l3,l4,l5,l6,l7,l8,l9,aA,u] ∧
     a=⟨(((((((((((A.tmps.setIfInBounds 17 (if l0=true then .slice (some ⟨w.heap.size+1,0,none⟩) L L else A.tmps.getD 17 undef)).setIfInBounds 18 (if l1=true then .int .i64 (s:Int) else A.tmps.getD 18 undef)).setIfInBounds 19 (if l2=true then .pointer (some ⟨w.heap.size,1,none⟩) else A.tmps.getD 19 undef)).setIfInBounds 20 (if l3=true then .slice (some ⟨b2,o2,none⟩) L cw else A.tmps.getD 20 undef)).setIfInBounds 21 (if l4=true then .pointer (some ⟨w.heap.size,1,none⟩) else A.tmps.getD 21 undef)).setIfInBounds 22 (if l5=true then .slice (some ⟨b2,o2,none⟩) L cw else A.tmps.getD 22 undef)).setIfInBounds 23 (if l6=true then .int .i64 (s:Int) else A.tmps.getD 23 undef)).setIfInBounds 24 (if l7=true then .pointer (some ⟨b2,o2+s,none⟩) else A.tmps.getD 24 undef)).setIfInBounds 25 (if l8=true then .bool z else A.tmps.getD 25 undef)).setIfInBounds 26 (if l9=true then .int .i64 (p:Int) else A.tmps.getD 26 undef)).setIfInBounds 27 (if aA=true then .pointer (some ⟨w.heap.size+1,s,none⟩) else A.tmps.getD 27 undef)),A.defers⟩ ∧
     St w w' [Ent.box w.heap.size #[.slice (some ⟨b1,o1,none⟩) L cv,.slice (some ⟨b2,o2,none⟩) L cw] 44,Ent.row 3 1 (.slice (some ⟨w.heap.size+1,0,none⟩) L L) L (if u=true then X1 else X0)]) ?_ ?_ ?_
   ·rintro listed a w' ⟨l0,l1,l2,l3,l4,l5,l6,l7,l8,l9,aA,u,rfl,rfl,hS⟩ i hi;obtain⟨D,o,ho,hall⟩:=mem_ready.1 hi;have hlt:=(Array.getElem?_eq_some_iff.1 ho).1;refine wpOp_step ho (fun K V => ?_);clear hi;have G:=qh hS;clear hS;simp only[w_1,w_2,w_3,w_4,w_5,w_6,w_7,w_8];obtain h|h|h|h|h|h|h|h|h|h|h|h:i=0∨i=1∨i=2∨i=3∨i=4∨i=5∨i=6∨i=7∨i=8∨i=9∨i=10∨i=11:=by simp at hlt;omega
    all_goals subst h
    all_goals simp only[w_5,w_6,w_7,w_9] at ho
    all_goals subst ho
    all_goals simp[Region.binds] at D hall
    ·subst D;go_simp;exact V _ _ ⟨_,_,_,_,_,_,_,_,_,_,_,_,rfl,(by simp),G.o⟩
    ·subst D;go_simp;exact V _ _ ⟨_,_,_,_,_,_,_,_,_,_,_,_,rfl,(by simp),G.o⟩
    ·subst D;go_simp;exact V _ _ ⟨_,_,_,_,_,_,_,_,_,_,_,_,rfl,(by simp),G.o⟩
    ·obtain rfl:=hall;subst D;have e0:=G.o.cell (v:=.slice (some ⟨b2,o2,none⟩) L cw) 0 1 rfl rfl;go_simp;exact V _ _ ⟨_,_,_,_,_,_,_,_,_,_,_,_,rfl,(by simp),G.o⟩
    ·subst D;go_simp;exact V _ _ ⟨_,_,_,_,_,_,_,_,_,_,_,_,rfl,(by simp),G.o⟩
    ·obtain rfl:=hall;subst D;have e0:=G.o.cell (v:=.slice (some ⟨b2,o2,none⟩) L cw) 0 1 rfl rfl;go_simp;exact V _ _ ⟨_,_,_,_,_,_,_,_,_,_,_,_,rfl,(by simp),G.o⟩
    ·subst D;go_simp;exact V _ _ ⟨_,_,_,_,_,_,_,_,_,_,_,_,rfl,(by simp),G.o⟩
    ·obtain⟨rfl,rfl⟩:=hall;subst D;go_simp;exact V _ _ ⟨_,_,_,_,_,_,_,_,_,_,_,_,rfl,(by simp),G.o⟩
    ·obtain rfl:=hall;subst D;have e0:=(bcell G.o.bel b2 _ HC.o.hb2).trans bQ.o;go_simp;exact V _ _ ⟨_,_,_,_,_,_,_,_,_,_,_,_,rfl,(by simp),G.o⟩
    ·obtain⟨rfl,rfl⟩:=hall;subst D;go_simp
     go_at_call 138
     refine(cH.o _ G.o.bel).mono ?_;rintro e u1 ⟨rfl,cB⟩;have g:=G.o.call cB;have bC:=qh g;clear g;go_simp;exact V _ _ ⟨_,_,_,_,_,_,_,_,_,_,_,_,rfl,(by simp),bC.o⟩
    ·obtain⟨rfl,rfl,-,-,rfl,rfl,rfl,rfl,rfl,rfl,rfl,rfl⟩:=hall;subst D;go_simp;exact V _ _ ⟨_,_,_,_,_,_,_,_,_,_,_,_,rfl,(by simp only[↓reduceIte,w_1,w_2,w_3]),G.o⟩
    obtain⟨rfl,rfl,rfl,rfl,rfl,rfl,rfl,rfl,rfl,rfl,rfl,-⟩:=hall;subst D;have f0:=G.o.rfr 1 s rfl;have k0:=G.o.rcell (v:=.int .i64 ((0:Nat):Int)) 1 s rfl (by omega) bH.o;have g:=G.o.store 1 rfl s (.int .i64 (p:Int));simp only[w_3,w_2,Bool.false_eq_true,↓reduceIte,aU.o] at g;go_simp;exact V _ _ ⟨_,_,_,_,_,_,_,_,_,_,_,_,rfl,(by simp only[↓reduceIte,w_1,w_2,w_3]),g⟩
   ·rintro listed a w' ⟨l0,l1,l2,l3,l4,l5,l6,l7,l8,l9,aA,u,rfl,rfl,hS⟩ hr;obtain⟨rfl,rfl,rfl,rfl,rfl,rfl,rfl,rfl,rfl,rfl,rfl,rfl,-⟩:=zA (ZbK (by kernel_rfl) rfl hr) rfl;clear hr ;simp only[↓reduceIte] at hS ⊢;simp only[w_1,w_2,w_3];have bZ:=qh hS;clear hS;go_wp2;go_roundw
    case rel =>refine⟨s+1,by go_num,by omega,?_⟩;rw[← bF.o];exact bZ.o
    case measure=>simp[intOf];omega
   refine⟨false,false,false,false,false,false,false,false,false,false,false,false,rfl,(by simp),?_⟩;exact G.o.drew
  obtain rfl:L=s:=by omega
  rw[Zji] at hS;have cD:=qh hS;clear hS;go_wp2
  go_loopw [3,5] (fun vc va wr=>∃ (i S cc:Nat) (ag:Bool),vc = .slice (some ⟨S,0,none⟩) L cc∧va = .bool ag∧((ag=true∧i≤N)∨(ag=false∧i=N+1)) ∧
    St w wr [Ent.box w.heap.size #[.slice (some ⟨b1,o1,none⟩) L cv,.slice (some ⟨b2,o2,none⟩) L cw] 44,Ent.row 3 1 (.slice (some ⟨S,0,none⟩) L cc) L (intCells (clsL L (C i)))])
   (fun vc va wr=>if Znb va=true then L+1-ZrI wr (Zf1 vc) L else 0)
  case atStart=>exact⟨0,_,_,true,rfl,rfl,Or.inl ⟨rfl,Nat.zero_le _⟩,cD.o⟩
  case round =>
   obtain⟨i,S,cc,ag,rfl,rfl,bS,hS⟩:=hrel;obtain⟨wo,cG⟩:∃ wo:World,wo=wr:=⟨_,rfl⟩;subst cG;rcases bS with⟨rfl,aX⟩|⟨rfl,rfl⟩
   ·have aC:=qh hS;clear hS;go_wp2_with (at_make;refine wpList_make_full _ rfl _ _ 38 rfl _ 3 i0 (.int .i64 0) 1 Tryz.underlying38 bI.o aJ.o aH.o .i64 .i64 _ _ L rfl rfl rfl rfl (by rw[aF.o];omega) (by unfold maxLen;omega) (Nat.le_refl _) ?_;intro w1 J F;have bX:=qh (aC.o.made ((Below.refl _ _).grown F (Nat.le_refl _) (fun _ h=>by cases h)) (Zhr (C (i+1)) J));clear J F)
    go_loopw [35] (fun j wi=>∃ s:Nat,j = .int .i64 s∧s≤L∧St w wi [Ent.box w.heap.size #[.slice (some ⟨b1,o1,none⟩) L cv,.slice (some ⟨b2,o2,none⟩) L cw] 44,Ent.row 3 1 (.slice (some ⟨S,0,none⟩) L cc) L (intCells (clsL L (C i))),Ent.row 3 1 (.slice (some ⟨wo.heap.size,0,none⟩) L L) L (intCells (padL L s (C (i+1))))]) (fun j _=>L-(intOf j).toNat)
    case atStart=>exact⟨0,rfl,Nat.zero_le _,bX.o⟩
    case round =>
     obtain⟨s,rfl,hs,hS⟩:=hrel;by_cases hlt:s<L
     ·have hlt2:(s:Int)<L:=by omega
      have aL:s<d.next.length:=by have:=R.o;omega
      have M:=cI.o i s hlt;have cL:=M.1;rw[Zl9 _ hlt] at hS;have U:=qh hS;have aQ:=qh M;clear hS M;go_wp2
      go_loopw [] (fun wi=>∃ t:Nat,t≤C (i+1) s∧(∀ j,j<t→ZbZ (nxD d) (C i) j s=false)∧St w wi [Ent.box w.heap.size #[.slice (some ⟨b1,o1,none⟩) L cv,.slice (some ⟨b2,o2,none⟩) L cw] 44,Ent.row 3 1 (.slice (some ⟨S,0,none⟩) L cc) L (intCells (clsL L (C i))),Ent.row 3 1 (.slice (some ⟨wo.heap.size,0,none⟩) L L) L (intCells (padT L s (C (i+1)) t))]) (fun wi=>L+1-ZmY wi wo.heap.size s)
      case atStart=>exact⟨0,Nat.zero_le _,fun j hj=>absurd hj (by omega),U.o⟩
      case round =>
       obtain⟨t,ht,bB,hS⟩:=hrel;have bP:t<L:=by omega
       have cN:(t:Int)<L:=by omega
       have bY:t<d.next.length:=by have:=R.o;omega
       have c1:=hS.rcell (v:=.int .i64 ((t:Nat):Int)) 2 s rfl (by omega) (ZdF (C (i+1)) t);have c2:=hS.rcell (v:=.int .i64 ((C i t:Nat):Int)) 1 t rfl (by omega) (Za6 (C i) bP);have c3:=hS.rcell (v:=.int .i64 ((C i s:Nat):Int)) 1 s rfl (by omega) (Za6 (C i) hlt);have f1:=hS.rfr 2 s rfl;have E:=ZgJ (n:=L) (s:=s) (C (i+1)) t (t+1);have I:=Zl0 d (C i) t s;have bM:=qh c1;have B:=qh hS;have bG:=qh bB;have Q:=qh E;obtain⟨p,hp⟩:=eI (C i t);obtain⟨q,hq⟩:=eI (C i s);rw[← hp] at c2 I;rw[← hq] at c3 I;have bN:=qh hp;clear hp;have cR:=qh hq;clear hq;clear bB E;by_cases he:p=q
       ·have g1:((p:Int) != (q:Int))=false:=by rw[he];simp
        have g2:((p:Int)=(q:Int))=True:=by simp[he]
        have g3:(!((p:Int)==(q:Int)))=false:=by rw[he];simp
        rw[decide_eq_true he,Bool.true_and] at I;have b0:=hS.cell (v:=.slice (some ⟨b1,o1,none⟩) L cv) 0 0 rfl rfl;have b3:=hS.cell (v:=.slice (some ⟨b2,o2,none⟩) L cw) 0 1 rfl rfl
        have hk:=fun (w':World) (hb:Below wr.heap.size wr w')=>(show w'.cell? ⟨wo.heap.size,s,none⟩=some (.int .i64 (t:Nat))∧w'.cell? ⟨S,t,none⟩=some (.int .i64 (p:Nat))∧w'.cell? ⟨S,s,none⟩=some (.int .i64 (q:Nat))∧w'.cell? ⟨w.heap.size,0,none⟩=some (.slice (some ⟨b1,o1,none⟩) L cv)∧w'.cell? ⟨w.heap.size,1,none⟩=some (.slice (some ⟨b2,o2,none⟩) L cw) from
         ⟨(bcell hb _ _ (hS.rowlt 2 rfl).2).trans c1,(bcell hb _ _ (hS.rowlt 1 rfl).2).trans c2,(bcell hb _ _ (hS.rowlt 1 rfl).2).trans c3,(bcell hb _ _ (hS.boxlt 0 rfl).2).trans b0,(bcell hb _ _ (hS.boxlt 0 rfl).2).trans b3⟩)
        have Hk:=qh hk;cases hr:ZeM d (C i) t s 3
        all_goals
         have bE:=fun (w':World) (hb:Below wr.heap.size wr w')=>Zk9 d (C i) t s (.agg #[.slice (some ⟨b1,o1,none⟩) L cv,.slice (some ⟨b2,o2,none⟩) L cw]) (.slice (some ⟨S,0,none⟩) L cc) w' hd bY aL (fun x hx=>Nat.lt_of_le_of_lt ((l.o i).le x (by rw[R.o];exact hx)) hx) (HR.o.below (B.o.call hb).bel) (by rw[← R.o];exact(B.o.call hb).intsC 1 rfl) _ hr
         rw[hr] at I;have bT:=qh bE;have T:=qh I;have cP:=qh hr;clear hr;have bR:=qh he;clear he;clear hS hk bE I;go_wp2
         go_region_held3 (fun w'=>w'.cell? ⟨wo.heap.size,s,none⟩=some (.int .i64 (t:Nat))∧w'.cell? ⟨S,t,none⟩=some (.int .i64 (p:Nat))∧w'.cell? ⟨S,s,none⟩=some (.int .i64 (q:Nat))∧w'.cell? ⟨w.heap.size,0,none⟩=some (.slice (some ⟨b1,o1,none⟩) L cv)∧w'.cell? ⟨w.heap.size,1,none⟩=some (.slice (some ⟨b2,o2,none⟩) L cw))
          (first|go_keep|exact Hk.o _ k)
          (first
           | (go_at_call 139;(with_reducible refine(bT.o _ (Below.refl _ _).drew).mono ?_);rintro e v3 ⟨rfl,X⟩;have k:Below wr.heap.size wr v3:=((Below.refl _ _).drew).trans X))
        ·have B:=qh (B.o.call k);have z1:=B.o.rcell (v:=.int .i64 ((t:Nat):Int)) 2 s rfl (by omega) (ZdF (C (i+1)) t);have z2:=B.o.rfr 2 s rfl;clear k X b0 b3 c1 c2 c3 f1;go_wp2;go_roundw
         case rel =>
          refine⟨t+1,?_,?_,?_⟩
          ·rcases Nat.lt_or_ge t (C (i+1) s) with h|h
           ·exact h
           have he:t=C (i+1) s:=Nat.le_antisymm ht h;have h2:=aQ.o.2.1;rw[← he,T.o] at h2;exact absurd h2 (by simp)
          ·intro j hj;by_cases e:j=t
           ·rw[e];exact T.o
           exact bG.o j (by omega)
          have h:=B.o.store 2 rfl s (.int .i64 ((t:Int)+1));rw[show((t:Int)+1)=((t+1:Nat):Int) by omega] at h;simp only[w_3,w_2,Q.o] at h;exact h
         case measure =>have h:=B.o.store 2 rfl s (.int .i64 ((t:Int)+1));rw[show((t:Int)+1)=((t+1:Nat):Int) by omega] at h;simp only[w_3,w_2,Q.o] at h;rw[show((t:Int)+1)=((t+1:Nat):Int) by omega,ZdM (h.rcell (v:=.int .i64 ((t+1:Nat):Int)) 2 s rfl (by omega) (ZdF (C (i+1)) (t+1))),ZdM bM.o];omega
        have B:=qh (B.o.call k);clear k X b0 b3 c1 c2 c3 f1;go_wp2;go_roundw
        case rel =>
         refine⟨s+1,by go_num,by omega,?_⟩
         have e:t=C (i+1) s:=by
          rcases Nat.lt_or_ge t (C (i+1) s) with h|h
          ·have h2:=aQ.o.2.2 t h;rw[T.o] at h2;exact absurd h2 (by simp)
          exact Nat.le_antisymm ht h
         have h:=B.o;rw[e,ZgK] at h;exact h
        case measure=>simp[intOf];omega
       have g1:((p:Int) != (q:Int))=true:=by simp;omega
       have g2:((p:Int)=(q:Int))=False:=by simp;omega
       have g3:(!((p:Int)==(q:Int)))=true:=by simp;omega
       rw[decide_eq_false he,Bool.false_and] at I;have T:=qh I;have bR:=qh he;clear he;clear hS I;go_wp2
       go_quiet (fail)
       have B:=qh (B.o.drewN nq);go_wp2;go_roundw
       case rel =>
        refine⟨t+1,?_,?_,?_⟩
        ·rcases Nat.lt_or_ge t (C (i+1) s) with h|h
         ·exact h
         have he:t=C (i+1) s:=Nat.le_antisymm ht h;have h2:=aQ.o.2.1;rw[← he,T.o] at h2;exact absurd h2 (by simp)
        ·intro j hj;by_cases e:j=t
         ·rw[e];exact T.o
         exact bG.o j (by omega)
        have h:=B.o.store 2 rfl s (.int .i64 ((t:Int)+1));rw[show((t:Int)+1)=((t+1:Nat):Int) by omega] at h;simp only[w_3,w_2,Q.o] at h;exact h
       case measure =>have h:=B.o.store 2 rfl s (.int .i64 ((t:Int)+1));rw[show((t:Int)+1)=((t+1:Nat):Int) by omega] at h;simp only[w_3,w_2,Q.o] at h;rw[show((t:Int)+1)=((t+1:Nat):Int) by omega,ZdM (h.rcell (v:=.int .i64 ((t+1:Nat):Int)) 2 s rfl (by omega) (ZdF (C (i+1)) (t+1))),ZdM bM.o];omega
     obtain rfl:L=s:=by omega
     rw[Zji] at hS;have U:=qh hS;clear hS
     have P:∀ (r:Bool),decide (clsL L (C (i+1))=clsL L (C i))=r→Calls Tryz.prog 140 #[.slice (some ⟨wo.heap.size,0,none⟩) L L,.slice (some ⟨S,0,none⟩) L cc] wr fun e w'=>e = .returned (.bool r)∧Below wr.heap.size wr w' :=
      fun r hr=>Znk (clsL L (C (i+1))) (clsL L (C i)) L _ _ wr (ZbT _ _) (ZbT _ _) (U.o.intsC 2 rfl) (U.o.intsC 1 rfl) r hr
     have y:=Zl3 (w:=wo) (b:=S) (n:=L) (cl:=C i) fun x hx=>aC.o.rcell 1 x rfl (by omega) (Za6 (C i) hx)
     by_cases aX:i=N
     ·have h1:=P true (by rw[decide_eq_true_eq,aY.o i,aX,R.o];exact cJ.o);have H1:=qh h1;have aK:=qh y;clear P h1 y;go_wp2_with fail;refine H1.o.mono ?_;rintro e v3 ⟨rfl,Z⟩;have B:=qh (U.o.call Z);clear Z;go_wp2;go_roundw
      case rel=>exact⟨i+1,_,_,false,rfl,rfl,Or.inr ⟨rfl,by omega⟩,B.o.pick [0,2] (by decide)⟩
      case measure =>have:=Zlc L (C i);simp only[Znb,Zf1,↓reduceIte,Bool.false_eq_true,aK.o];omega
     have aE:=cC.o i (by omega);have h1:=P false (by rw[decide_eq_false_iff_not,aY.o i,R.o];exact aE)
     have m:reps L (C i)<reps L (C (i+1)):=by
      have cE:∃ x,x<L∧C (i+1) x≠C i x:=by
       apply Classical.byContradiction;intro hc;refine aE fun x hx => ?_
       rw[← H.o];apply Classical.byContradiction;intro bW;exact hc ⟨x,by rw[R.o];exact hx,bW⟩
      obtain⟨x,hx,aG⟩:=cE;have bV:C (i+1)=Zav L (nxD d) (C i):=by rw[H.o,R.o];rfl
      rw[bV] at aG ⊢;exact Zhb (l.o i) hx aG
     have H1:=qh h1;have aK:=qh y;have aO:=qh m;have cK:=qh aE;clear aE;clear P h1 y m;go_wp2_with fail;refine H1.o.mono ?_;rintro e v3 ⟨rfl,Z⟩;have B:=qh (U.o.call Z);clear Z;go_wp2;go_roundw
     case rel=>exact⟨i+1,_,_,true,rfl,rfl,Or.inl ⟨rfl,by omega⟩,B.o.pick [0,2] (by decide)⟩
     case measure =>
      have h2:=Zl3 (w:=v3) (b:=wo.heap.size) (n:=L) (cl:=C (i+1)) fun x hx=>B.o.rcell 2 x rfl (by omega) (Za6 (C (i+1)) hx)
      have h3:=aO.o;have h4:=Zlc L (C i);simp only[Znb,Zf1,↓reduceIte,aK.o,h2];omega
   have aV:intCells (clsL L (C (N+1)))=intCells (clsL L (clD d)):=by rw[ZfX bA.o]
   rw[aV] at hS;have aC:=qh hS;have cM:=qh aV;clear aV;clear hS;go_wp2;go_ret;exact⟨S,cc,rfl,aC.o.pick [1] (by decide)⟩
theorem ZqH (d:DfaD) (cl:Nat→Nat) (b1 o1 cv b2 o2 cw G E g I x c:Nat) (w:World) (D:DfaC w d b1 o1 cv b2 o2 cw) (hx:x<d.next.length) (hc:c<3) (hb:Bx w E #[.slice (some ⟨b1,o1,none⟩) d.next.length cv,.slice (some ⟨b2,o2,none⟩) d.next.length cw] 44)
  (hbc:Bx w G #[.slice (some ⟨g,0,none⟩) d.next.length I] 38) (C:∀ s,s<d.next.length→w.cell? ⟨g,s,none⟩=some (.int .i64 ((cl s:Nat):Int))) :
  Calls Tryz.prog 106 #[.int .i64 (x:Nat),.int .i64 (c:Nat),.pointer (some ⟨G,0,none⟩),.pointer (some ⟨E,0,none⟩)] w fun e w'=>e = .returned (.int .i64 ((cl (nxD d x c):Nat):Int))∧Below w.heap.size w w':=by
 have c0:=hb.cell 0;have c1:=hbc.cell 0;simp only[w_5,w_6] at c0 c1;obtain⟨b3,o3,c3,P,O,R,Q,F⟩:=D.row x hx;have J:=F c hc;have B:=D.lt x c hx hc;obtain⟨y,hy⟩:=eI (nxD d x c);rw[← hy] at J B;rw[← hy];have c2:=C y B;obtain⟨z,hz⟩:=eI (cl y);rw[← hz] at c2;rw[← hz];have hc3:(c:Int)<3:=by omega
 have H:(x:Int)<d.next.length:=by omega
 have N:(y:Int)<d.next.length:=by omega
 have M:=D.l2;replace hy:=qh hy;have L:=qh hz;clear hz;clear F D hb hbc C
 go_enter Tryz.func106, Tryz.ntmps106
 go_wp2
 go_quiet (fail)
 go_wp2;go_ret;exact⟨rfl,below_drewN (Below.refl _ _) _⟩
theorem ZqG (d:DfaD) (b1 o1 cv b2 o2 cw C x:Nat) (w:World) (B:DfaC w d b1 o1 cv b2 o2 cw) (hx:x<d.next.length) (hb:Bx w C #[.slice (some ⟨b1,o1,none⟩) d.next.length cv,.slice (some ⟨b2,o2,none⟩) d.next.length cw] 44) :
  Calls Tryz.prog 107 #[.int .i64 (x:Nat),.pointer (some ⟨C,0,none⟩)] w fun e w'=>e = .returned (.bool (den d (x:Int)))∧Below w.heap.size w w':=by
 have c0:=hb.cell 1;simp only[w_5,w_6,w_7] at c0;have E:=B.en x hx;have hz:den d (x:Int)=enD d x:=by simp[den,enD]
 rw[hz];obtain⟨y,hy⟩:=eI (enD d x);rw[← hy] at E;rw[← hy];have D:(x:Int)<d.next.length:=by omega
 have G:=B.l2;replace hy:=qh hy;have F:=qh hz;clear hz;clear B hb
 go_enter Tryz.func107, Tryz.ntmps107
 go_wp2;go_ret;exact⟨rfl,Below.refl _ _⟩
theorem Zm0 {d:DfaD} (hd:Zac d.next d.ends=true) (K:Nat):(∀ x∈(bat (nxM d) ((clD d 0:Nat):Int) K).met,0≤x∧x<(d.next.length:Int))∧(bat (nxM d) ((clD d 0:Nat):Int) K).met.length≤d.next.length:=by
 have hf:=ZaS hd;have hl:=Zaf hd
 have h1:∀ x∈(bat (nxM d) ((clD d 0:Nat):Int) K).met,0≤x∧x<(d.next.length:Int):=by
  refine ZbA (Q:=fun x=>0≤x∧x<(d.next.length:Int)) ?_ (fun x c hc hx => ?_) K
  ·have:=(ZbH (d:=d) 0 (by omega)).1;omega
  have h2:=(Zcv hf (s:=x.toNat) (c:=c) (by omega) hc).1;have h3:=(ZbH (d:=d) (nxD d x.toNat c) h2).1;unfold nxM;omega
 refine⟨h1,?_⟩
 have h2:=ZdJ (ZaG (nx:=nxM d) (a:=((clD d 0:Nat):Int)) K).1 (m:=ZaY d.next.length) (fun x hx=>by
  have:=h1 x hx;have e:x=((x.toNat:Nat):Int):=by omega
  rw[e,Zch];omega)
 rw[Zcf] at h2;exact h2
theorem Zck (d:DfaD) (v:Value) (w:World) (hd:Zac d.next d.ends=true) (h:DfaR 0 w v d) :
  Calls Tryz.prog 63 #[v] w fun e w'=>RDo (minD d) w e w':=by
 have HR:=qh h;obtain⟨b1,o1,cv,b2,o2,cw,rfl,hC⟩:=Zcb hd h;have aD:=hC.l1;have aG:=hC.l2;have r:=(Zm0 hd d.next.length).2;have T:=((St.start w).alloc _ rfl #[.slice (some ⟨b1,o1,none⟩) d.next.length cv,.slice (some ⟨b2,o2,none⟩) d.next.length cw] 44).alloc (w.heap.size+1) (by simp) #[.slice none 0 0,.slice none 0 0] 44
 have Z:=fun (W:World) (bc g q:Nat) (m:Bx W w.heap.size #[.slice (some ⟨b1,o1,none⟩) d.next.length cv,.slice (some ⟨b2,o2,none⟩) d.next.length cw] 44) (hbc:Bx W bc #[.slice (some ⟨g,0,none⟩) d.next.length q] 38)
   (hg:g<W.heap.size) (aJ:∀ s,s<d.next.length→W.cell? ⟨g,s,none⟩=some (.int .i64 ((clD d s:Nat):Int))) (hb:Below w.heap.size w W) =>
  ZjE ((clD d 0:Nat):Int) bc w.heap.size (nxM d) (den d) (fun x=>0≤x∧x<(d.next.length:Int)) d.next.length W
   (by have:=(ZbH (d:=d) 0 (by omega)).1;omega)
   (fun x c hc hx=>by have h2:=(Zcv (ZaS hd) (s:=x.toNat) (c:=c) (by omega) hc).1;have h3:=(ZbH (d:=d) (nxD d x.toNat c) h2).1;unfold nxM;omega)
   (fun x hx=>by unfold fitI;omega) (by omega) (by omega) r
   (fun x c w' hx hc U=>by obtain⟨n,rfl⟩:∃ n:Nat,x=(n:Int):=⟨x.toNat,by omega⟩;exact ZqH d (clD d) b1 o1 cv b2 o2 cw bc w.heap.size g q n c w' ((hC.below hb).below U) (by omega) hc (m.below U m.lt) (hbc.below U hbc.lt) (fun s hs=>(bcell U g _ hg).trans (aJ s hs)))
   (fun x w' hx U=>by obtain⟨n,rfl⟩:∃ n:Nat,x=(n:Int):=⟨x.toNat,by omega⟩;exact ZqG d b1 o1 cv b2 o2 cw w.heap.size n w' ((hC.below hb).below U) (by omega) (m.below U m.lt))
 obtain⟨F,hF⟩:=eI ((bat (nxM d) ((clD d 0:Nat):Int) d.next.length).met);rw[← hF] at Z r;have u:minD d=⟨F.map (Zai (nxM d) F),F.map (den d)⟩:=by unfold minD;rw[← hF];rfl
 rw[u];have p:=fun (W:World) (hb:Below w.heap.size w W)=>ZhZ d (.agg #[.slice (some ⟨b1,o1,none⟩) d.next.length cv,.slice (some ⟨b2,o2,none⟩) d.next.length cw]) W hd (HR.o.below hb)
 unfold RCl at p;obtain⟨L,hL⟩:=eI (d.next.length);obtain⟨C,R⟩:=eI (clD d);rw[← hL,← R] at Z p;rw[← hL] at T r aD aG;rw[← hL];obtain⟨k0,hk0⟩:=eI (C 0);rw[← hk0] at Z;have aE:=qh Z;have aI:=qh p;replace T:=qh T;replace hF:=qh hF;have aL:=qh u;clear u;have aM:=qh hL;clear hL;have aN:=qh R;clear R;have aA:=qh hk0;clear hk0;clear Z p hC h
 go_enter Tryz.func63, Tryz.ntmps63
 have e0:=T.o.cell (v:=.slice (some ⟨b1,o1,none⟩) L cv) 0 0 rfl rfl;have e1:=T.o.cell (v:=.slice (some ⟨b2,o2,none⟩) L cw) 0 1 rfl rfl;go_wp2_with fail;refine(aI.o _ T.o.bel).mono ?_;rintro e w1 ⟨g,q,rfl,aC⟩;have S:=(T.o.cat aC).alloc _ rfl #[.slice (some ⟨g,0,none⟩) L q] 38;have M:=qh S;clear S aC e0 e1;go_wp2;have y:=Za6 (n:=L) (s:=0) C (by omega);rw[← aA.o] at y;have aO:(0:Int)<L:=by omega
 have aK:0<L:=by omega
 have aB:=qh y;clear y;refine wp_region_any (by kernel_rfl) ?_
 refine Zay (fun A listed a w'=>∃ (l0 l1 l2 l3 l4 l5 l6 z X j Q P k V O N l:Bool) (a1:Option Addr) (c1:Nat) (a2:Option Addr) (c2:Nat) (a3:Option Addr) (c3:Nat) (vs:List Value) (b:Nat),listed=#[l0,l1,l2,l3,l4,l5,l6,z,X,j,Q,P,k,V,O,N,l]∧(X=true→z=true∧l6=true)∧(j=true→X=true∧z=true)∧(Q=true→j=true∧X=true)∧(P=true→j=true∧X=true)∧(O=true→Q=true∧V=true)∧(N=true→P=true∧O=true) ∧
   a=⟨((((((((((((((((A.tmps.setIfInBounds 10 (if l0=true then .slice (some ⟨g,0,none⟩) L q else A.tmps.getD 10 undef)).setIfInBounds 11 (if l1=true then .pointer (some ⟨g,0,none⟩) else A.tmps.getD 11 undef)).setIfInBounds 12 (if l2=true then .int .i64 ((k0:Nat):Int) else A.tmps.getD 12 undef)).setIfInBounds 13 (if l3=true then .pointer (some ⟨w.heap.size,0,none⟩) else A.tmps.getD 13 undef)).setIfInBounds 14 (if l4=true then .slice (some ⟨b1,o1,none⟩) L cv else A.tmps.getD 14 undef)).setIfInBounds 15 (if l5=true then .int .i64 (L:Int) else A.tmps.getD 15 undef)).setIfInBounds 16 (if l6=true then .func (.func 106) #[] #[.pointer (some ⟨w1.heap.size,0,none⟩),.pointer (some ⟨w.heap.size,0,none⟩)] else A.tmps.getD 16 undef)).setIfInBounds 17 (if z=true then .func (.func 107) #[] #[.pointer (some ⟨w.heap.size,0,none⟩)] else A.tmps.getD 17 undef)).setIfInBounds 18 (if X=true then .tuple #[.agg #[.slice a1 F.length c1,.slice a2 F.length c2],.slice a3 F.length c3,.bool true] else A.tmps.getD 18 undef)).setIfInBounds 9 (if j=true then .tuple #[.agg #[.slice a1 F.length c1,.slice a2 F.length c2],.slice a3 F.length c3,.bool true] else A.tmps.getD 9 undef)).setIfInBounds 19 (if Q=true then .agg #[.slice a1 F.length c1,.slice a2 F.length c2] else A.tmps.getD 19 undef)).setIfInBounds 20 (if P=true then .slice a3 F.length c3 else A.tmps.getD 20 undef)).setIfInBounds 21 (if k=true then .bool true else A.tmps.getD 21 undef)).setIfInBounds 4 (if V=true then .pointer (some ⟨b,0,none⟩) else A.tmps.getD 4 undef)).setIfInBounds 5 (if N=true then .slice a3 F.length c3 else A.tmps.getD 5 undef)).setIfInBounds 6 (if l=true then .bool true else A.tmps.getD 6 undef)),A.defers⟩ ∧
   St w w' [Ent.box w.heap.size #[.slice (some ⟨b1,o1,none⟩) L cv,.slice (some ⟨b2,o2,none⟩) L cw] 44,Ent.box (w.heap.size+1) #[.slice none 0 0,.slice none 0 0] 44,Ent.row 3 1 (.slice (some ⟨g,0,none⟩) L q) L (intCells (clsL L C)),Ent.box w1.heap.size #[.slice (some ⟨g,0,none⟩) L q] 38,(if V=true then Ent.box b (if O=true then #[.slice a1 F.length c1,.slice a2 F.length c2] else #[.slice none 0 0,.slice none 0 0]) 44 else Ent.nil),(if X=true then Ent.rows 38 3 (.slice a1 F.length c1) vs ((F.map (Zai (nxM d) F)).map intCells) else Ent.nil),(if X=true then Ent.row 4 1 (.slice a2 F.length c2) F.length (boolCells (F.map (den d))) else Ent.nil),(if X=true then Ent.row 3 1 (.slice a3 F.length c3) F.length (intCells F) else Ent.nil)]) ?_ ?_ ?_
 ·rintro listed a w' ⟨l0,l1,l2,l3,l4,l5,l6,z,X,j,Q,P,k,V,O,N,l,a1,c1,a2,c2,a3,c3,vs,b,rfl,I,J,G,D,E,B,rfl,hS⟩ i hi;obtain⟨H,o,ho,hall⟩:=mem_ready.1 hi;have hlt:=(Array.getElem?_eq_some_iff.1 ho).1;refine wpOp_step ho (fun K R => ?_);clear hi;have M:=qh hS;clear hS;simp only[w_1,w_2,w_3,w_4,w_5,w_6,w_7,w_8];obtain h|h|h|h|h|h|h|h|h|h|h|h|h|h|h|h|h:i=0∨i=1∨i=2∨i=3∨i=4∨i=5∨i=6∨i=7∨i=8∨i=9∨i=10∨i=11∨i=12∨i=13∨i=14∨i=15∨i=16:=by simp at hlt;omega
  all_goals subst h
  all_goals simp only[w_5,w_6,w_7,w_9] at ho
  all_goals subst ho
  all_goals simp[Region.binds] at H hall
  ·subst H;have e0:=M.o.cell (v:=.slice (some ⟨g,0,none⟩) L q) 3 0 rfl rfl;go_simp;exact R _ _ ⟨_,_,_,_,_,_,_,_,_,_,_,_,_,_,_,_,_,a1,c1,a2,c2,a3,c3,vs,b,rfl,I,J,G,D,E,B,(by simp),M.o⟩
  ·obtain rfl:=hall;subst H;go_simp;exact R _ _ ⟨_,_,_,_,_,_,_,_,_,_,_,_,_,_,_,_,_,a1,c1,a2,c2,a3,c3,vs,b,rfl,I,J,G,D,E,B,(by simp),M.o⟩
  ·obtain rfl:=hall;subst H;have e0:=M.o.rcell (v:=.int .i64 ((k0:Nat):Int)) 2 0 rfl (by omega) aB.o;go_simp;exact R _ _ ⟨_,_,_,_,_,_,_,_,_,_,_,_,_,_,_,_,_,a1,c1,a2,c2,a3,c3,vs,b,rfl,I,J,G,D,E,B,(by simp),M.o⟩
  ·subst H;go_simp;exact R _ _ ⟨_,_,_,_,_,_,_,_,_,_,_,_,_,_,_,_,_,a1,c1,a2,c2,a3,c3,vs,b,rfl,I,J,G,D,E,B,(by simp),M.o⟩
  ·obtain rfl:=hall;subst H;have e0:=M.o.cell (v:=.slice (some ⟨b1,o1,none⟩) L cv) 0 0 rfl rfl;go_simp;exact R _ _ ⟨_,_,_,_,_,_,_,_,_,_,_,_,_,_,_,_,_,a1,c1,a2,c2,a3,c3,vs,b,rfl,I,J,G,D,E,B,(by simp),M.o⟩
  ·obtain rfl:=hall;subst H;go_simp;exact R _ _ ⟨_,_,_,_,_,_,_,_,_,_,_,_,_,_,_,_,_,a1,c1,a2,c2,a3,c3,vs,b,rfl,I,J,G,D,E,B,(by simp),M.o⟩
  ·subst H;obtain rfl:X=false:=offR I rfl;obtain rfl:j=false:=offL J rfl;obtain rfl:Q=false:=offL G rfl;obtain rfl:P=false:=offL D rfl;obtain rfl:O=false:=offL E rfl;obtain rfl:N=false:=offL B rfl;go_simp;exact R _ _ ⟨_,_,_,_,_,_,_,_,_,_,_,_,_,_,_,_,_,a1,c1,a2,c2,a3,c3,vs,b,rfl,by simp,by simp,by simp,by simp,by simp,by simp,(by simp),M.o⟩
  ·subst H;obtain rfl:X=false:=offL I rfl;obtain rfl:j=false:=offL J rfl;obtain rfl:Q=false:=offL G rfl;obtain rfl:P=false:=offL D rfl;obtain rfl:O=false:=offL E rfl;obtain rfl:N=false:=offL B rfl;go_simp;exact R _ _ ⟨_,_,_,_,_,_,_,_,_,_,_,_,_,_,_,_,_,a1,c1,a2,c2,a3,c3,vs,b,rfl,by simp,by simp,by simp,by simp,by simp,by simp,(by simp),M.o⟩
  ·obtain⟨rfl,rfl,rfl,rfl⟩:=hall;subst H;obtain rfl:j=false:=offL J rfl;obtain rfl:Q=false:=offL G rfl;obtain rfl:P=false:=offL D rfl;obtain rfl:O=false:=offL E rfl;obtain rfl:N=false:=offL B rfl;go_simp
   go_at_call 105
   refine(aE.o _ _ _ _ (M.o.box 0 rfl) (M.o.box 3 rfl) (M.o.rowlt 2 rfl).2 (fun x hx=>M.o.rcell 2 x rfl (by omega) (Za6 C hx)) M.o.bel).mono ?_;rintro e u1 ⟨a1,c1,a2,c2,a3,c3,vs,rfl,aH⟩;have S:=(M.o.cat aH).pick [0,1,2,3,4,8,9,10] (by decide);have Y:=qh S;clear S;go_simp;exact R _ _ ⟨_,_,_,_,_,_,_,_,_,_,_,_,_,_,_,_,_,a1,c1,a2,c2,a3,c3,vs,b,rfl,by simp,by simp,by simp,by simp,by simp,by simp,(by simp),Y.o⟩
  ·obtain rfl:=hall;subst H;obtain⟨rfl,rfl⟩:=I rfl;obtain rfl:Q=false:=offL G rfl;obtain rfl:P=false:=offL D rfl;obtain rfl:O=false:=offL E rfl;obtain rfl:N=false:=offL B rfl;go_simp;exact R _ _ ⟨_,_,_,_,_,_,_,_,_,_,_,_,_,_,_,_,_,a1,c1,a2,c2,a3,c3,vs,b,rfl,by simp,by simp,by simp,by simp,by simp,by simp,(by simp),M.o⟩
  ·obtain rfl:=hall;subst H;obtain⟨rfl,rfl⟩:=J rfl;obtain⟨-,rfl⟩:=I rfl;obtain rfl:O=false:=offL E rfl;obtain rfl:N=false:=offR B rfl;go_simp;exact R _ _ ⟨_,_,_,_,_,_,_,_,_,_,_,_,_,_,_,_,_,a1,c1,a2,c2,a3,c3,vs,b,rfl,by simp,by simp,by simp,D,by simp,by simp,(by simp),M.o⟩
  ·obtain rfl:=hall;subst H;obtain⟨rfl,rfl⟩:=J rfl;obtain⟨-,rfl⟩:=I rfl;obtain rfl:N=false:=offL B rfl;go_simp;exact R _ _ ⟨_,_,_,_,_,_,_,_,_,_,_,_,_,_,_,_,_,a1,c1,a2,c2,a3,c3,vs,b,rfl,by simp,by simp,G,by simp,E,by simp,(by simp),M.o⟩
  ·obtain rfl:=hall;subst H;obtain⟨rfl,rfl⟩:=J rfl;obtain⟨-,rfl⟩:=I rfl;go_simp;exact R _ _ ⟨_,_,_,_,_,_,_,_,_,_,_,_,_,_,_,_,_,a1,c1,a2,c2,a3,c3,vs,b,rfl,by simp,by simp,G,D,E,B,(by simp),M.o⟩
  ·subst H;obtain rfl:O=false:=offR E rfl;obtain rfl:N=false:=offR B rfl;have S:=(M.o.alloc _ rfl #[.slice none 0 0,.slice none 0 0] 44).pick [0,1,2,3,8,5,6,7] (by decide);have Y:=qh S;clear S;go_simp;exact R _ _ ⟨_,_,_,_,_,_,_,_,_,_,_,_,_,_,_,_,_,a1,c1,a2,c2,a3,c3,vs,_,rfl,I,J,G,D,by simp,by simp,(by simp),Y.o⟩
  ·obtain⟨rfl,rfl,rfl,rfl,rfl,rfl,rfl,rfl,rfl,rfl,rfl,-,rfl,-⟩:=hall;subst H;obtain rfl:N=false:=offR B rfl;have f0:=M.o.fr 4 0 rfl;have f1:=M.o.fr 4 1 rfl;have k0:=M.o.cell (v:=.slice none 0 0) 4 0 rfl rfl;have k1:=M.o.cell (v:=.slice none 0 0) 4 1 rfl rfl;go_simp;exact R _ _ ⟨_,_,_,_,_,_,_,_,_,_,_,_,_,_,_,_,_,a1,c1,a2,c2,a3,c3,vs,b,rfl,by simp,by simp,by simp,D,by simp,by simp,(by simp),((M.o.set 4 rfl 0 (.slice a1 F.length c1)).set 4 rfl 1 (.slice a2 F.length c2))⟩
  ·obtain⟨rfl,rfl,rfl,rfl,rfl,rfl,rfl,rfl,rfl,rfl,rfl,rfl,rfl,-,rfl,-⟩:=hall;subst H;go_simp;exact R _ _ ⟨_,_,_,_,_,_,_,_,_,_,_,_,_,_,_,_,_,a1,c1,a2,c2,a3,c3,vs,b,rfl,by simp,by simp,by simp,by simp,by simp,by simp,(by simp),M.o⟩
  obtain⟨rfl,rfl,rfl,rfl,rfl,rfl,rfl,rfl,rfl,rfl,rfl,rfl,rfl,rfl,-,rfl,rfl,-⟩:=hall;subst H;go_simp;exact R _ _ ⟨_,_,_,_,_,_,_,_,_,_,_,_,_,_,_,_,_,a1,c1,a2,c2,a3,c3,vs,b,rfl,by simp,by simp,by simp,by simp,by simp,by simp,(by simp only[↓reduceIte,w_1,w_2,w_3]),M.o⟩
 ·rintro listed a w' ⟨l0,l1,l2,l3,l4,l5,l6,z,X,j,Q,P,k,V,O,N,l,a1,c1,a2,c2,a3,c3,vs,b,rfl,I,J,G,D,E,B,rfl,hS⟩ hr;obtain⟨rfl,rfl,rfl,rfl,rfl,rfl,rfl,rfl,rfl,rfl,rfl,rfl,rfl,rfl,rfl,rfl,rfl,-⟩:=zA (Za1 (by kernel_rfl) rfl hr) rfl;clear hr I J G D E B;simp only[↓reduceIte] at hS ⊢;simp only[w_1,w_2,w_3];have d0:=hS.cell (v:=.slice a1 F.length c1) 4 0 rfl rfl;have d1:=hS.cell (v:=.slice a2 F.length c2) 4 1 rfl rfl;have f0:=hS.fr 1 0 rfl;have f1:=hS.fr 1 1 rfl;have k0:=hS.cell (v:=.slice none 0 0) 1 0 rfl rfl;have k1:=hS.cell (v:=.slice none 0 0) 1 1 rfl rfl;have aF:=qh hS;clear hS;go_wp2;have hq:=(aF.o.set 1 rfl 0 (.slice a1 F.length c1)).set 1 rfl 1 (.slice a2 F.length c2);have q0:=hq.cell (v:=.slice a1 F.length c1) 1 0 rfl rfl;have q1:=hq.cell (v:=.slice a2 F.length c2) 1 1 rfl rfl;refine bodyPost_ret (v:=.agg #[.slice a1 F.length c1,.slice a2 F.length c2]) (by simp[results,Tryz.results63,go_sem,q0,q1]) rfl ?_;refine⟨a1,c1,a2,c2,by simp only[List.length_map],⟨.slice a1 F.length c1,.slice a2 F.length c2,by simp only[List.length_map],hq.intSS 5 rfl,?_⟩,hq.bel⟩;have hb:=Zab (hq.row 6 rfl);unfold OBools;simpa only [List.length_map] using hb
 refine⟨false,false,false,false,false,false,false,false,false,false,false,false,false,false,false,false,false,none,0,none,0,none,0,[],0,rfl,by simp,by simp,by simp,by simp,by simp,by simp,(by simp),?_⟩;exact M.o.drew.pick [0,1,2,3,4,5,6,7] (by decide)
def pOk (p:Int × Int):Bool:=inB p.1 1 8&&(decide (p.1=3)&&inB p.2 0 2||(!decide (p.1=3)&&decide (p.2=0)))
def Zag (p:Int × Int):Int:=if pOk p=true then(if p.1=1∨p.1=2∨p.1=3 then 0 else if p.1=7∨p.1=8 then 1 else 2) else -1
theorem Zcu (p:Int × Int):-1≤Zag p∧Zag p≤2:=by
 unfold Zag
 split<;>(try split)<;>(try split)<;>omega
theorem Ze8 {p:Int × Int} (h:0≤Zag p):pOk p=true:=by
 unfold Zag at h
 split at h
 ·assumption
 omega
def dep (es:List (Int × Int)):Nat→Int
 | 0=>0
 | k+1=>dep es k-Zag (es.getD k (0,0))+1
theorem Zgm (es:List (Int × Int)):∀ k:Nat,-(2*k:Int)≤dep es k∧dep es k≤2*k
 | 0=>by simp[dep]
 | k+1=>by have B:=Zgm es k;have:=Zcu (es.getD k (0,0));unfold dep;omega
def exAt (es:List (Int × Int)) (k:Nat):Bool:=decide (0≤Zag (es.getD k (0,0)))&&decide (Zag (es.getD k (0,0))≤dep es k)
def exOk (es:List (Int × Int)):Bool:=(List.range es.length).all (exAt es)&&decide (dep es es.length=1)&&decide (es.length≤60)
theorem Zbh {es:List (Int × Int)} (h:exOk es=true):(∀ k,k<es.length→0≤Zag (es.getD k (0,0))∧Zag (es.getD k (0,0))≤dep es k)∧dep es es.length=1∧1≤es.length∧es.length≤60:=by
 simp only[exOk,exAt,Bool.and_eq_true,List.all_eq_true,List.mem_range,decide_eq_true_eq] at h;refine⟨h.1.1,h.1.2,?_,h.2⟩;cases es with
 | nil=>have:=h.1.2;simp[dep] at this
 | cons=>simp
theorem Zmn {es:List (Int × Int)} {k:Nat} (hk:k<es.length) (h:exAt es k=false):exOk es=false:=by
 cases he:exOk es with
 | false=>rfl
 | true =>obtain⟨h1,-⟩:=Zbh he;obtain⟨a,b⟩:=h1 k hk;simp only[exAt,decide_eq_true a,decide_eq_true b,Bool.and_self] at h;cases h
theorem Zr7 {es:List (Int × Int)} (h:∀ k,k<es.length→0≤Zag (es.getD k (0,0))∧Zag (es.getD k (0,0))≤dep es k):∀ k,0<k→k≤es.length→1≤dep es k
 | 0,h0,_=>by omega
 | k+1,_,hk=>by have:=h k (by omega);unfold dep;omega
def ZcH (es:List (Int × Int)) (n a:Nat):Prop:=a<n∧dep es a=dep es n-1∧∀ j,a<j→j<n→dep es j≠dep es n-1
theorem ZpQ {es:List (Int × Int)} {n:Nat} (h:∀ k,k<n→0≤Zag (es.getD k (0,0))) (hn:1≤dep es n):∃ a,ZcH es n a:=by
 have key:∀ m,m≤n→(∀ j,m≤j→j<n→dep es j≠dep es n-1)→(m=n∨dep es n≤dep es m)→∃ a,ZcH es n a:=by
  intro m
  induction m with
  | zero =>
   intro _ hj hm;exfalso;have h0:dep es 0=0:=rfl;rcases hm with hm|hm
   ·subst hm;omega
   omega
  | succ m B =>
   intro D hj hm;have hs:dep es (m+1)=dep es m-Zag (es.getD m (0,0))+1:=rfl;have hp:=h m (by omega)
   have C:dep es n≤dep es (m+1):=by
    rcases hm with hm|hm
    ·rw[hm];exact Int.le_refl _
    exact hm
   by_cases he:dep es m=dep es n-1
   ·exact⟨m,by omega,he,fun j h1 h2=>hj j (by omega) h2⟩
   exact B (by omega) (fun j h1 h2=>by
    by_cases hjm:j=m
    ·rw[hjm];exact he
    exact hj j (by omega) h2) (Or.inr (by omega))
 exact key n (Nat.le_refl _) (fun j h1 h2=>by omega) (Or.inl rfl)
theorem Zaw {a b:Int} (h:a≠b):(a==b)=false∧(a=b)=False∧(a != b)=true∧(!(a==b))=true:=by simp[h]
theorem Ze7 (k l:Int) (w:World) (r:Bool) (hr:pOk (k,l)=r) :
  Calls Tryz.prog 121 #[.agg #[.int .i64 k,.int .i64 l]] w fun e w'=>e = .returned (.bool r)∧Below w.heap.size w w':=by
 unfold pOk at hr;simp only at hr;cases h1:inB k 1 8
 ·rw[h1,Bool.false_and] at hr;subst hr;have B:=qh h1;clear h1
  go_enter Tryz.func121, Tryz.ntmps121
  go_wp2_with (go_at_call 87;refine(Zcq _ _ _ _ _ B.o).mono ?_;rintro e w' ⟨rfl,rfl⟩);go_ret;exact⟨rfl,(Below.refl _ _).alloc (Nat.le_refl _) _⟩
 rw[h1,Bool.true_and] at hr;have B:=qh h1;clear h1;by_cases h3:k=3
 ·subst h3;cases h2:inB l 0 2
  ·rw[h2] at hr;have hr:false=r:=hr;subst hr;have C:=qh h2;clear h2
   go_enter Tryz.func121, Tryz.ntmps121
   go_wp2_with (go_at_call 87;(first|(with_reducible refine(Zcq _ _ _ _ _ B.o).mono ?_)|(with_reducible refine(Zcq _ _ _ _ _ C.o).mono ?_));rintro e w' ⟨rfl,rfl⟩);go_ret;exact⟨rfl,(Below.refl _ _).alloc (Nat.le_refl _) _⟩
  rw[h2] at hr;have hr:true=r:=hr;subst hr;have C:=qh h2;clear h2
  go_enter Tryz.func121, Tryz.ntmps121
  go_wp2_with (go_at_call 87;(first|(with_reducible refine(Zcq _ _ _ _ _ B.o).mono ?_)|(with_reducible refine(Zcq _ _ _ _ _ C.o).mono ?_));rintro e w' ⟨rfl,rfl⟩);go_ret;exact⟨rfl,(Below.refl _ _).alloc (Nat.le_refl _) _⟩
 obtain⟨E,I,G,F⟩:=Zaw h3;rw[decide_eq_false h3] at hr;replace h3:=qh h3;by_cases h0:l=0
 ·subst h0;have hr:true=r:=hr;subst hr
  go_enter Tryz.func121, Tryz.ntmps121
  go_wp2_with (go_at_call 87;refine(Zcq _ _ _ _ _ B.o).mono ?_;rintro e w' ⟨rfl,rfl⟩);go_ret;exact⟨rfl,(Below.refl _ _).alloc (Nat.le_refl _) _⟩
 obtain⟨L,D,J,H⟩:=Zaw h0;rw[decide_eq_false h0] at hr;have hr:false=r:=hr;subst hr;replace h0:=qh h0
 go_enter Tryz.func121, Tryz.ntmps121
 go_wp2_with (go_at_call 87;refine(Zcq _ _ _ _ _ B.o).mono ?_;rintro e w' ⟨rfl,rfl⟩);go_ret;exact⟨rfl,(Below.refl _ _).alloc (Nat.le_refl _) _⟩
theorem Zb8 (k l:Int) (w:World) (n:Int) (hn:Zag (k,l)=n) :
  Calls Tryz.prog 80 #[.agg #[.int .i64 k,.int .i64 l]] w fun e w'=>e = .returned (.int .i64 n)∧Below w.heap.size w w':=by
 have B:=(St.start w).alloc _ rfl #[.int .i64 k,.int .i64 l] 62;have F:=B.cell (v:=.int .i64 k) 0 0 rfl rfl;have e1:=B.cell (v:=.int .i64 l) 0 1 rfl rfl;cases h:pOk (k,l)
 ·have C:n = -1:=by rw[← hn];unfold Zag;rw[if_neg (by simp[h])]
  subst C;have H:=qh h;replace B:=qh B;clear hn h
  go_enter Tryz.func80, Tryz.ntmps80
  go_wp2_with fail;refine(Ze7 k l _ _ H.o).mono ?_;rintro e w1 ⟨rfl,hb1⟩;have D:=qh (B.o.call hb1);clear hb1;go_wp2;go_ret;exact⟨rfl,D.o.bel⟩
 have hk:k=1∨k=2∨k=3∨k=4∨k=5∨k=6∨k=7∨k=8:=by have E:=h;unfold pOk at E;simp only[Bool.and_eq_true] at E;have:=Zfo E.1;omega
 have C:n=if k=1∨k=2∨k=3 then 0 else if k=7∨k=8 then 1 else 2:=by rw[← hn];unfold Zag;rw[if_pos h]
 have H:=qh h;replace B:=qh B;clear hn h;rcases hk with rfl|rfl|rfl|rfl|rfl|rfl|rfl|rfl
 all_goals
  simp at C;subst C
  go_enter Tryz.func80, Tryz.ntmps80
  go_wp2_with fail;refine(Ze7 _ l _ _ H.o).mono ?_;rintro e w1 ⟨rfl,hb1⟩;have c0:=(B.o.call hb1).cell (v:=.int .i64 _) 0 0 rfl rfl;have D:=qh (B.o.call hb1);clear hb1;go_wp2;go_ret;exact⟨rfl,D.o.bel⟩
theorem ZkC (xs:List (Int × Int)):∀ n:Nat,(xs.take n).flatMap Zaa=(xs.flatMap Zaa).take (n*2):=by
 induction xs with
 | nil=>intro n;simp
 | cons x l B =>
  intro n;cases n with
  | zero=>simp
  | succ n =>rw[List.take_succ_cons,List.flatMap_cons,List.flatMap_cons,B n,show(n+1)*2=n*2+2 by omega];rfl
theorem ZkD (xs:List (Int × Int)):∀ n:Nat,(xs.drop n).flatMap Zaa=(xs.flatMap Zaa).drop (n*2):=by
 induction xs with
 | nil=>intro n;simp
 | cons x l B =>
  intro n;cases n with
  | zero=>simp
  | succ n =>rw[List.drop_succ_cons,List.flatMap_cons,B n,show(n+1)*2=n*2+2 by omega];rfl
theorem Pairs.take {w:World} {a:Option Addr} {len cap:Nat} {xs:List (Int × Int)} (h:Pairs 0 w (.slice a len cap) xs) {n:Nat} (hn:n≤xs.length):Pairs 0 w (.slice a n cap) (xs.take n):=by
 obtain⟨hl,C,cap',B,h1,h2,h3⟩:=h;simp only[Value.slice.injEq] at B;obtain⟨rfl,rfl,rfl⟩:=B;have e:(xs.take n).length=n:=by rw[List.length_take];omega
 unfold Pairs;rw[e];refine⟨by rw[ZkC,List.length_take];omega,a,cap,rfl,by omega,h2,fun hn0 => ?_⟩;obtain⟨b,off,ha,hb,hlt,hc⟩:=h3 (by omega);refine⟨b,off,ha,hb,hlt,fun j hj => ?_⟩;rw[hc j (by omega),ZkC,List.getElem?_take_of_lt hj]
theorem Pairs.drop {w:World} {b off len cap:Nat} {xs:List (Int × Int)} (h:Pairs 0 w (.slice (some ⟨b,off,none⟩) len cap) xs) {n:Nat} (hn:n<xs.length):Pairs 0 w (.slice (some ⟨b,off+n*2,none⟩) (xs.length-n) (cap-n)) (xs.drop n):=by obtain⟨hl,D,cap',B,h1,h2,h3⟩:=h;simp only[Value.slice.injEq] at B;obtain⟨rfl,rfl,rfl⟩:=B;unfold Pairs;rw[List.length_drop];refine⟨by rw[ZkD,List.length_drop];omega,_,_,rfl,by omega,by omega,fun hn0 => ?_⟩;obtain⟨E,C,ha,hb,hlt,hc⟩:=h3 (by omega);simp only[w_9,Addr.mk.injEq,and_true] at ha;obtain⟨rfl,rfl⟩:=ha;refine⟨b,off+n*2,rfl,hb,hlt,fun j hj => ?_⟩;rw[show off+n*2+j=off+(n*2+j) by omega,hc _ (by omega),ZkD,List.getElem?_drop]
theorem ZbE (es:List (Int × Int)) (v:Value) (w:World) (hlen:es.length≤2000000) (h:Pairs 0 w v es) (r:Bool) (hr:exOk es=r) :
  Calls Tryz.prog 42 #[v] w fun e w'=>e = .returned (.bool r)∧Below w.heap.size w w':=by
 obtain⟨a,c,rfl,d,l,O⟩:=h.form;have S:=qh O;have Hr:=qh hr;clear h hr O
 go_enter Tryz.func42, Tryz.ntmps42
 go_wp2
 go_loopw [3,4] (fun q i wr=>∃ k:Nat,i = .int .i64 k∧k≤es.length∧q = .int .i64 (dep es k)∧(∀ j,j<k→exAt es j=true)∧Below w.heap.size w wr) (fun _ i _=>es.length-(intOf i).toNat)
 case atStart=>exact⟨0,rfl,Nat.zero_le _,rfl,fun j hj=>absurd hj (by omega),Below.refl _ _⟩
 case round =>
  obtain⟨k,rfl,hk,rfl,hall,hb⟩:=hrel;have I:=Zgm es k;have hds:dep es (k+1)=dep es k-Zag (es.getD k (0,0))+1:=rfl;have F:=Zcu (es.getD k (0,0));have B:exAt es k=(decide (0≤Zag (es.getD k (0,0)))&&decide (Zag (es.getD k (0,0))≤dep es k)):=rfl;have G:=qh hall;have L:=qh hb;clear hall hb;by_cases hlt:k<es.length
  ·have hlt2:(k:Int)<es.length:=by omega
   obtain⟨b,o,rfl,-,P,M⟩:=S.o (by omega);obtain⟨g1,g2⟩:=M k hlt;have U:=(bcell L.o b _ P).trans g1;have R:=(bcell L.o b _ P).trans g2;obtain⟨p,hp⟩:=eI (es.getD k (0,0));rw[← hp] at U R hds F B;obtain⟨Y,X⟩:=p;simp only at U R;obtain⟨n,hn⟩:=eI (Zag (Y,X));rw[← hn] at hds F B;obtain⟨D,E⟩:=eI (dep es k);rw[← E] at hds I B;rw[← E];obtain⟨t,s⟩:=I;obtain⟨m,g⟩:=F;have T:=qh hds;have H:=qh B;replace hp:=qh hp;replace hn:=qh hn;replace E:=qh E;clear hds B M g1 g2;go_wp2_with fail;refine(Zb8 Y X _ _ hn.o.symm).mono ?_;rintro e w1 ⟨rfl,hb1⟩;have J:=qh (L.o.trans (hb1.mono L.o.size));clear hb1 U R;by_cases hn0:n<0
   ·have Q:(n<0)=True:=by simp[hn0]
    have hrf:false=r:=by rw[← Hr.o];exact(Zmn hlt (by rw[H.o,decide_eq_false (by omega)];rfl)).symm
    subst hrf;go_wp2;go_ret;exact⟨rfl,J.o⟩
   have Q:(n<0)=False:=by simp;omega
   have V:0≤n:=by omega
   clear hn0;by_cases hDn:D<n
   ·have Z:(D<n)=True:=by simp[hDn]
    have hrf:false=r:=by rw[← Hr.o];exact(Zmn hlt (by rw[H.o,decide_eq_false (show ¬ n≤D by omega),Bool.and_false])).symm
    subst hrf;go_wp2;go_ret;exact⟨rfl,J.o⟩
   have Z:(D<n)=False:=by simp;omega
   have N:n≤D:=by omega
   clear hDn;go_wp2;go_roundw
   case rel =>
    refine⟨k+1,by go_num,by omega,by rw[T.o],fun j hj => ?_,J.o⟩;by_cases e:j=k
    ·rw[e,H.o,decide_eq_true V,decide_eq_true N];rfl
    exact G.o j (by omega)
   case measure=>simp[intOf];omega
  obtain rfl:k=es.length:=by omega
  have hro:exOk es=(decide (dep es es.length=1)&&decide (es.length≤60)):=by unfold exOk;rw[List.all_eq_true.2 (fun j hj=>G.o j (List.mem_range.1 hj)),Bool.true_and]
  obtain⟨D,E⟩:=eI (dep es es.length);rw[← E] at hro;rw[← E];rw[Hr.o] at hro;have Hro:=qh hro;replace E:=qh E;clear hro I hds F B;by_cases hD1:D=1
  ·subst hD1;by_cases h60:es.length≤60
   ·have Q:((es.length:Int)≤60)=True:=by simp;omega
    have C:true=r:=by rw[Hro.o,decide_eq_true h60];rfl
    subst C;go_wp2;go_ret;exact⟨rfl,L.o⟩
   have Q:((es.length:Int)≤60)=False:=by simp;omega
   have C:false=r:=by rw[Hro.o,decide_eq_false h60];rfl
   subst C;clear h60;go_wp2;go_ret;exact⟨rfl,L.o⟩
  obtain⟨Q,Z,u,x⟩:=Zaw hD1;have C:false=r:=by rw[Hro.o,decide_eq_false hD1];rfl
  subst C;clear hD1;go_wp2;go_ret;exact⟨rfl,L.o⟩
theorem Zlv (es:List (Int × Int)) (en C:Nat) (v:Value) (w:World) (hlen:es.length≤1000000) (hen:en<es.length) (h:Pairs 0 w v es) (ha:ZcH es (en+1) C) :
  Calls Tryz.prog 122 #[v,.int .i64 ((en:Nat):Int)] w fun e w'=>e = .returned (.int .i64 ((C:Nat):Int))∧Below w.heap.size w w':=by
 obtain⟨a,c,rfl,u,aB,U⟩:=h.form;obtain⟨b,o,rfl,-,M,O⟩:=U (by omega);obtain⟨aG,N,S⟩:=ha;have m:=qh O;have Y:=qh N;have j:=qh S;have l:=Zgm es (en+1);obtain⟨L,P⟩:=l;obtain⟨E,H⟩:=eI (dep es (en+1));rw[← H] at L P;replace H:=qh H;clear h O U N S
 go_enter Tryz.func122, Tryz.ntmps122
 go_wp2
 go_loopw [5,6] (fun vn i wr=>∃ k:Nat,i = .int .i64 k∧C≤k∧k≤en∧vn = .int .i64 (1+dep es (k+1)-E)∧Below w.heap.size w wr) (fun _ i _=>(intOf i).toNat)
 case atStart=>exact⟨en,rfl,by omega,Nat.le_refl _,by rw[H.o];congr 1;omega,Below.refl _ _⟩
 case round =>
  obtain⟨k,rfl,aC,hk,rfl,hb⟩:=hrel;have hlt2:(k:Int)<es.length:=by omega
  have Q:=Zgm es (k+1);have J:=Zgm es k;have hds:dep es (k+1)=dep es k-Zag (es.getD k (0,0))+1:=rfl;have G:=Zcu (es.getD k (0,0));obtain⟨g1,g2⟩:=m.o k (by omega);have X:=(bcell hb b _ M).trans g1;have Z:=(bcell hb b _ M).trans g2;obtain⟨p,hp⟩:=eI (es.getD k (0,0));rw[← hp] at X Z hds G;obtain⟨q,s⟩:=p;simp only at X Z;obtain⟨n,hn⟩:=eI (Zag (q,s));rw[← hn] at hds G;obtain⟨V,hD1⟩:=eI (dep es (k+1));rw[← hD1] at hds Q;rw[← hD1];obtain⟨D,I⟩:=eI (dep es k);rw[← I] at hds J;obtain⟨aH,aE⟩:=Q;obtain⟨z,aD⟩:=J;obtain⟨aF,aA⟩:=G;have F:1+V-E-1+n=1+D-E:=by omega
  have r:=qh hb;have y:=qh hds;have B:=qh F;have x:=qh hp;clear hp;have g:=qh hn;clear hn;replace I:=qh I;have t:=qh hD1;clear hD1;clear hds F g1 g2 hb;go_wp2_with fail;refine(Zb8 q s _ _ g.o.symm).mono ?_;rintro e w1 ⟨rfl,hb1⟩;have R:=qh (r.o.trans (hb1.mono r.o.size));clear hb1 X Z;by_cases hka:k=C
  ·subst hka;have hz:1+V-E-1+n=0:=by rw[B.o,I.o,Y.o,← H.o];omega
   go_wp2;go_ret;exact⟨rfl,R.o⟩
  have hz:1+V-E-1+n≠0:=by rw[B.o];intro he;have h:=j.o k (by omega) (by omega);rw[← H.o,← I.o] at h;omega
  obtain⟨z1,z2,z3,z4⟩:=Zaw hz;have T:1+V-E-1+n=1+dep es ((k-1)+1)-E:=by rw[B.o,show(k-1)+1=k by omega,I.o]
  have d:=qh T;have hk0:1≤k:=by omega
  clear hz T;go_wp2;go_roundw
  case rel=>exact⟨k-1,by congr 1;omega,by omega,by omega,by rw[d.o],R.o⟩
  case measure=>simp[intOf];omega
def splits (es:List (Int × Int)) (xs ys:List (Int × Int)):Prop:=(Zag (es.getD (es.length-1) (0,0))=0→xs=[]∧ys=[])∧(Zag (es.getD (es.length-1) (0,0))=1→xs=es.take (es.length-1)∧ys=[]) ∧
 (Zag (es.getD (es.length-1) (0,0))=2→∃ a,ZcH es (es.length-1) a∧xs=es.take a∧ys=(es.drop a).take (es.length-1-a))
theorem Zhh (w:World) (a:Option Addr) {c:Nat} (hc:c≤maxLen):Pairs 0 w (.slice a 0 c) []:=⟨rfl,_,_,rfl,Nat.zero_le _,hc,fun h=>by simp at h⟩
theorem ZaJ (es:List (Int × Int)) (v:Value) (w:World) (hok:exOk es=true) (h:Pairs 0 w v es) :
  Calls Tryz.prog 82 #[v] w fun e w'=>∃ Z d xs ys,splits es xs ys∧e = .returned (.tuple #[Z,d])∧Pairs 0 w' Z xs∧Pairs 0 w' d ys∧Below w.heap.size w w':=by
 obtain⟨hall,Q,y,Y⟩:=Zbh hok;have V:=qh h;obtain⟨a,c,rfl,i,r,P⟩:=h.form;obtain⟨b,o,rfl,-,aB,O⟩:=P (by omega);obtain⟨m,hm⟩:∃ m,es.length=m+1:=⟨es.length-1,by omega⟩;obtain⟨g1,g2⟩:=O m (by omega);have G:=hall m (by omega);have L:=Zcu (es.getD m (0,0));have R:dep es (m+1)=dep es m-Zag (es.getD m (0,0))+1:=rfl;rw[← hm,Q] at R;have C:Zag (es.getD m (0,0))=2→∃ a,ZcH es m a:=fun h2=>ZpQ (fun k hk=>(hall k (by omega)).1) (by omega)
 have D:∀ xs ys,splits es xs ys↔(Zag (es.getD m (0,0))=0→xs=[]∧ys=[])∧(Zag (es.getD m (0,0))=1→xs=es.take m∧ys=[])∧(Zag (es.getD m (0,0))=2→∃ a,ZcH es m a∧xs=es.take a∧ys=(es.drop a).take (m-a)):=fun xs ys=>by unfold splits;rw[show es.length-1=m by omega]
 obtain⟨p,hp⟩:=eI (es.getD m (0,0));rw[← hp] at g1 g2 L G C D;obtain⟨U,T⟩:=p;simp only at g1 g2;obtain⟨n,hn⟩:=eI (Zag (U,T));rw[← hn] at L G C D;have hn3:n=0∨n=1∨n=2:=by omega
 have N:=qh C;have I:=qh D;have aA:(m:Int)<es.length:=by omega
 replace hn:=qh hn;have j:=qh hp;clear hp;clear hall Q h hok O P R C D G L;have hlen:(es.length:Int)-1=(m:Int):=by omega
 replace hm:=qh hm
 go_enter Tryz.func82, Tryz.ntmps82
 rcases hn3 with rfl|rfl|rfl
 ·go_wp2_with fail;refine(Zb8 U T _ _ hn.o.symm).mono ?_;rintro e w1 ⟨rfl,hb1⟩;have M:=qh (((((St.start w).call hb1).alloc_ (.cells #[] 62)).alloc_ (.cells #[] 62)).bel);clear hb1;go_wp2;refine bodyPost_ret (v:=.tuple #[.slice (some ⟨w1.heap.size,0,none⟩) 0 0,.slice (some ⟨w1.heap.size+1,0,none⟩) 0 0]) (by simp[results,Tryz.results82,go_sem]) rfl ?_;exact⟨_,_,[],[],(I.o _ _).2 ⟨fun _=>⟨rfl,rfl⟩,fun h=>absurd h (by omega),fun h=>absurd h (by omega)⟩,rfl,Zhh _ _ (by unfold maxLen;omega),Zhh _ _ (by unfold maxLen;omega),M.o⟩
 ·have s:(m:Int)≤c:=by omega
  go_wp2_with fail;refine(Zb8 U T _ _ hn.o.symm).mono ?_;rintro e w1 ⟨rfl,hb1⟩;have M:=qh ((((St.start w).call hb1).alloc_ (.cells #[] 62)).bel);clear hb1;go_wp2;refine bodyPost_ret (v:=.tuple #[.slice (some ⟨b,o,none⟩) m c,.slice (some ⟨w1.heap.size,0,none⟩) 0 0]) (by simp[results,Tryz.results82,go_sem]) rfl ?_;exact⟨_,_,es.take m,[],(I.o _ _).2 ⟨fun h=>absurd h (by omega),fun _=>⟨rfl,rfl⟩,fun h=>absurd h (by omega)⟩,rfl,(V.o.below M.o).take (by have:=hm.o;omega),Zhh _ _ (by unfold maxLen;omega),M.o⟩
 obtain⟨B,E⟩:=N.o rfl;have x:=E.1;obtain⟨q,J⟩:∃ q,m=q+1:=⟨m-1,by omega⟩;have hq:(m:Int)-1=(q:Int):=by omega
 have l:(B:Int)≤(m:Int):=by omega
 have u:(B:Int)≤c:=by omega
 have z:(m:Int)≤c:=by omega
 rw[J] at E;have F:=qh J;clear J;have S:=qh E;clear E;go_wp2_with fail;refine(Zb8 U T _ _ hn.o.symm).mono ?_;rintro e w1 ⟨rfl,hb1⟩;have M:=qh ((St.start w).call hb1);clear hb1;go_wp2_with fail;refine(Zlv es q B _ _ (by have:=hm.o;omega) (by have:=hm.o;have:=F.o;omega) (V.o.below M.o.bel) S.o).mono ?_;rintro e w2 ⟨rfl,hb2⟩;have X:=qh (M.o.call hb2);clear hb2;go_wp2
 go_quiet (fail)
 go_wp2;have H:=qh (X.o.drewN nq);refine bodyPost_ret (v:=.tuple #[.slice (some ⟨b,o,none⟩) B c,.slice (some ⟨b,o+B*2,none⟩) (m-B) (c-B)]) (by simp[results,Tryz.results82,go_sem]) rfl ?_;have g:=hm.o
 exact⟨_,_,es.take B,(es.drop B).take (m-B),(I.o _ _).2 ⟨fun h=>absurd h (by omega),fun h=>absurd h (by omega),fun _=>⟨B,by rw[F.o];exact S.o,rfl,rfl⟩⟩,rfl,
  (V.o.below H.o.bel).take (by omega),((V.o.below H.o.bel).drop (by omega)).take (by rw[List.length_drop];omega),H.o.bel⟩
end Go.Proofs.YtncekbbhgipdlaaGreat
namespace Go.Proofs.YtncekbbhgipdlaaGreat
inductive Ex where
 | zero|one|ltr (c:Fin 3)|join (a b:Ex)|alt (a b:Ex)|both (a b:Ex)|neg (a:Ex)|star (a:Ex)
 deriving DecidableEq
def Ex.post:Ex→List (Int × Int)
 | .zero=>[(1,0)]
 | .one=>[(2,0)]
 | .ltr c=>[(3,(c.val:Int))]
 | .join a b=>a.post++b.post++[(4,0)]
 | .alt a b=>a.post++b.post++[(5,0)]
 | .both a b=>a.post++b.post++[(6,0)]
 | .neg a=>a.post++[(7,0)]
 | .star a=>a.post++[(8,0)]
theorem Ze6:Zag (1,0)=0:=by decide
theorem Ze5:Zag (2,0)=0:=by decide
theorem Zet (c:Fin 3):Zag (3,(c.val:Int))=0:=by
 have:c=0∨c=1∨c=2:=by omega
 rcases this with rfl|rfl|rfl<;>decide
theorem ZeQ:Zag (4,0)=2:=by decide
theorem Zhf:Zag (5,0)=2:=by decide
theorem ZeR:Zag (6,0)=2:=by decide
theorem Zhe:Zag (7,0)=1:=by decide
theorem ZeP:Zag (8,0)=1:=by decide
theorem Zax:∀ t:Ex,1≤t.post.length:=by intro t;cases t<;>simp[Ex.post]<;>omega
theorem Zc9 (xs ys:List (Int × Int)):∀ k,k≤xs.length→dep (xs++ys) k=dep xs k
 | 0,_=>rfl
 | k+1,h=>by
  have B:=Zc9 xs ys k (by omega);have e:(xs++ys).getD k (0,0)=xs.getD k (0,0):=by simp[List.getD_eq_getElem?_getD,List.getElem?_append_left (show k<xs.length by omega)]
  unfold dep;rw[B,e]
theorem ZhL (xs ys:List (Int × Int)):∀ k,dep (xs++ys) (xs.length+k)=dep xs xs.length+dep ys k
 | 0=>by rw[Nat.add_zero,Zc9 xs ys _ (Nat.le_refl _)];simp[dep]
 | k+1=>by
  have B:=ZhL xs ys k;have e:(xs++ys).getD (xs.length+k) (0,0)=ys.getD k (0,0):=by simp[List.getD_eq_getElem?_getD,List.getElem?_append_right (show xs.length≤xs.length+k by omega)]
  show dep (xs++ys) (xs.length+k)-Zag ((xs++ys).getD (xs.length+k) (0,0))+1=dep xs xs.length+(dep ys k-Zag (ys.getD k (0,0))+1);rw[B,e];omega
theorem ZjB {xs ys:List (Int × Int)} {k:Nat} (h:k<xs.length):(xs++ys).getD k (0,0)=xs.getD k (0,0):=by simp[List.getD_eq_getElem?_getD,List.getElem?_append_left h]
theorem Zic (xs ys:List (Int × Int)) (k:Nat):(xs++ys).getD (xs.length+k) (0,0)=ys.getD k (0,0):=by simp[List.getD_eq_getElem?_getD,List.getElem?_append_right (show xs.length≤xs.length+k by omega)]
def ZcU (m:Int) (es:List (Int × Int)):Prop:=∀ k,k<es.length→0≤Zag (es.getD k (0,0))∧Zag (es.getD k (0,0))≤m+dep es k
theorem Zlj {m B:Int} {es:List (Int × Int)} (h:ZcU m es) (hm:m≤B):ZcU B es:=fun k hk=>by have:=h k hk;omega
theorem ZfP {m:Int} {xs ys:List (Int × Int)} (h:ZcU m xs) (B:ZcU (m+dep xs xs.length) ys):ZcU m (xs++ys):=fun k hk=>by
 by_cases hx:k<xs.length
 ·rw[ZjB hx,Zc9 _ _ _ (by omega)];exact h k hx
 obtain⟨j,rfl⟩:=Nat.exists_eq_add_of_le (Nat.le_of_not_lt hx);rw[Zic,ZhL];have:=B j (by simp at hk;omega);omega
theorem ZfO {m:Int} {p:Int × Int} (h0:0≤Zag p) (h1:Zag p≤m):ZcU m [p]:=fun k hk=>by
 obtain rfl:k=0:=by simpa using hk
 simp[dep];omega
theorem Zpt (p:Int × Int):dep [p] 1=1-Zag p:=by simp[dep];omega
theorem Zmu (xs:List (Int × Int)) (p:Int × Int):dep (xs++[p]) (xs++[p]).length=dep xs xs.length+(1-Zag p):=by rw[List.length_append,ZhL];show dep xs xs.length+dep [p] 1=_;rw[Zpt]
theorem Zr8 (xs ys:List (Int × Int)):dep (xs++ys) (xs++ys).length=dep xs xs.length+dep ys ys.length:=by rw[List.length_append,ZhL]
theorem Zlf:∀ t:Ex,ZcU 0 t.post∧dep t.post t.post.length=1:=by
 intro t;have B:∀ p,Zag p=0→ZcU 0 [p]∧dep [p] [p].length=1:=fun p hp=>⟨ZfO (by omega) (by omega),by show dep [p] 1=1;rw[Zpt];omega⟩
 have C:∀ (xs ys:List (Int × Int)) p,Zag p=2→ZcU 0 xs→dep xs xs.length=1→ZcU 0 ys→dep ys ys.length=1→ZcU 0 (xs++ys++[p])∧dep (xs++ys++[p]) (xs++ys++[p]).length=1:=fun xs ys p hp h1 h2 h3 h4=>by have hc:=Zr8 xs ys;refine⟨ZfP (ZfP h1 (Zlj h3 (by omega))) (ZfO (by omega) (by omega)),?_⟩;rw[Zmu];omega
 have one:∀ (xs:List (Int × Int)) p,Zag p=1→ZcU 0 xs→dep xs xs.length=1→ZcU 0 (xs++[p])∧dep (xs++[p]) (xs++[p]).length=1:=fun xs p hp h1 h2=>by refine⟨ZfP h1 (ZfO (by omega) (by omega)),?_⟩;rw[Zmu];omega
 induction t with
 | zero=>exact B _ Ze6
 | one=>exact B _ Ze5
 | ltr c=>exact B _ (Zet c)
 | join a b ha hb=>exact C _ _ _ ZeQ ha.1 ha.2 hb.1 hb.2
 | alt a b ha hb=>exact C _ _ _ Zhf ha.1 ha.2 hb.1 hb.2
 | both a b ha hb=>exact C _ _ _ ZeR ha.1 ha.2 hb.1 hb.2
 | neg a ha=>exact one _ _ Zhe ha.1 ha.2
 | star a ha=>exact one _ _ ZeP ha.1 ha.2
theorem ZaD (t:Ex) (h:t.post.length≤60):exOk t.post=true:=by obtain⟨h1,h2⟩:=Zlf t;simp only[exOk,exAt,Bool.and_eq_true,List.all_eq_true,List.mem_range,decide_eq_true_eq];refine⟨⟨fun k hk => ?_,h2⟩,h⟩;have:=h1 k hk;omega
theorem Zg3 {α:Type}:∀ (l:List α),1≤l.length→∃ L b,l=L++[b]
 | [],h=>by simp at h
 | [a],_=>⟨[],a,rfl⟩
 | a::b::l,_=>by obtain⟨L,c,h⟩:=Zg3 (b::l) (by simp);exact⟨a::L,c,by rw[h];rfl⟩
def cat (st:List Ex):List (Int × Int):=st.flatMap Ex.post
theorem ZjO (a b:List Ex):cat (a++b)=cat a++cat b:=by simp[cat]
theorem ZhS (a:Ex):cat [a]=a.post:=by simp[cat]
theorem Zl7 {es:List (Int × Int)} (h:ZcU 0 es):∀ k,k≤es.length→∃ st:List Ex,cat st=es.take k∧(st.length:Int)=dep es k
 | 0,_=>⟨[],rfl,rfl⟩
 | k+1,hk=>by
  obtain⟨st,h1,h2⟩:=Zl7 h k (by omega);obtain⟨h3,h4⟩:=h k (by omega);have ht:es.take (k+1)=es.take k++[es.getD k (0,0)]:=by rw[List.take_succ_eq_append_getElem (by omega)];simp[show k<es.length by omega]
  have hd:dep es (k+1)=dep es k-Zag (es.getD k (0,0))+1:=rfl;obtain⟨p,hp⟩:=eI (es.getD k (0,0));rw[← hp] at h3 h4 ht hd;have hok:=Ze8 h3;obtain⟨C,B⟩:=p;rw[ht,hd,← h1];have E:∀ t:Ex,t.post=[(C,B)]→Zag (C,B)=0→∃ D:List Ex,cat D=cat st++[(C,B)]∧(D.length:Int)=dep es k-Zag (C,B)+1:=fun t G e1=>⟨st++[t],by rw[ZjO,ZhS,G],by simp;omega⟩
  have one:∀ f:Ex→Ex,(∀ a,(f a).post=a.post++[(C,B)])→Zag (C,B)=1→∃ D:List Ex,cat D=cat st++[(C,B)]∧(D.length:Int)=dep es k-Zag (C,B)+1:=fun f G e1=>by obtain⟨L,a,rfl⟩:=Zg3 st (by omega);refine⟨L++[f a],by rw[ZjO,ZjO,ZhS,ZhS,G];simp,?_⟩;simp at h2 ⊢;omega
  have F:∀ f:Ex→Ex→Ex,(∀ a b,(f a b).post=a.post++b.post++[(C,B)])→Zag (C,B)=2→∃ D:List Ex,cat D=cat st++[(C,B)]∧(D.length:Int)=dep es k-Zag (C,B)+1:=fun f G e1=>by obtain⟨L,b,rfl⟩:=Zg3 st (by omega);obtain⟨L,a,rfl⟩:=Zg3 L (by simp at h2;omega);refine⟨L++[f a b],by simp only[ZjO,ZhS,G,List.append_assoc],?_⟩;simp at h2 ⊢;omega
  simp only[pOk,inB,Bool.and_eq_true,Bool.or_eq_true,decide_eq_true_eq,Bool.not_eq_true',decide_eq_false_iff_not] at hok;obtain⟨⟨J,I⟩,H⟩:=hok;have hc:(C=1∧B=0)∨(C=2∧B=0)∨(C=3∧0≤B∧B≤2)∨(C=4∧B=0)∨(C=5∧B=0)∨(C=6∧B=0)∨(C=7∧B=0)∨(C=8∧B=0):=by omega
  rcases hc with⟨rfl,rfl⟩|⟨rfl,rfl⟩|⟨rfl,g1,g2⟩|⟨rfl,rfl⟩|⟨rfl,rfl⟩|⟨rfl,rfl⟩|⟨rfl,rfl⟩|⟨rfl,rfl⟩
  ·exact E .zero rfl Ze6
  ·exact E .one rfl Ze5
  ·obtain⟨c,rfl⟩:=Int.eq_ofNat_of_zero_le g1;exact E (.ltr ⟨c,by omega⟩) rfl (Zet ⟨c,by omega⟩)
  ·exact F .join (fun _ _=>rfl) ZeQ
  ·exact F .alt (fun _ _=>rfl) Zhf
  ·exact F .both (fun _ _=>rfl) ZeR
  ·exact one .neg (fun _=>rfl) Zhe
  exact one .star (fun _=>rfl) ZeP
theorem parse {es:List (Int × Int)} (h:exOk es=true):∃ t:Ex,t.post=es:=by
 obtain⟨h1,h2,h3,h4⟩:=Zbh h;obtain⟨st,e1,e2⟩:=Zl7 (es:=es) (fun k hk=>by have:=h1 k hk;omega) es.length (Nat.le_refl _);rw[h2] at e2;rw[List.take_length] at e1;obtain⟨L,t,rfl⟩:=Zg3 st (by omega)
 have B:L=[]:=by
  cases L with
  | nil=>rfl
  | cons=>simp at e2;omega
 subst B;exact⟨t,by simpa [ZhS] using e1⟩
theorem ZbM (xs:List (Int × Int)) (p:Int × Int):(xs++[p]).getD ((xs++[p]).length-1) (0,0)=p:=by simp[List.getD_eq_getElem?_getD]
theorem ZjR {es:List (Int × Int)} {n a b:Nat} (h:ZcH es n a) (B:ZcH es n b):a=b:=by
 obtain⟨h1,h2,h3⟩:=h;obtain⟨g1,g2,g3⟩:=B;rcases Nat.lt_trichotomy a b with hl|hl|hl
 ·exact absurd g2 (h3 b hl g1)
 ·exact hl
 exact absurd h2 (g3 a hl h1)
theorem ZmW {es:List (Int × Int)} (h:ZcU 0 es) {k:Nat} (h0:0<k) (hk:k≤es.length):1≤dep es k:=Zr7 (fun j hj=>by have:=h j hj;omega) k h0 hk
theorem Zd3 {a b:Ex} {p:Int × Int} (hp:Zag p=2) {xs ys:List (Int × Int)} (h:splits (a.post++b.post++[p]) xs ys):xs=a.post∧ys=b.post:=by
 obtain⟨-,-,h3⟩:=h;rw[ZbM] at h3;obtain⟨C,hb,rfl,rfl⟩:=h3 hp;obtain⟨a1,a2⟩:=Zlf a;obtain⟨b1,b2⟩:=Zlf b;have hl:(a.post++b.post++[p]).length-1=a.post.length+b.post.length:=by simp
 rw[hl] at hb ⊢
 have B:ZcH (a.post++b.post++[p]) (a.post.length+b.post.length) a.post.length:=by
  have hd:∀ j,j≤b.post.length→dep (a.post++b.post++[p]) (a.post.length+j)=1+dep b.post j:=fun j hj=>by rw[Zc9 _ _ _ (by simp;omega),ZhL,a2]
  have h0:=hd 0 (Nat.zero_le _);have hn:=hd b.post.length (Nat.le_refl _);rw[b2] at hn;rw[Nat.add_zero] at h0;refine⟨by have:=Zax b;omega,by rw[h0,hn];rfl,fun j h1 h2 => ?_⟩;obtain⟨i,rfl⟩:=Nat.exists_eq_add_of_le (Nat.le_of_lt h1);rw[hd i (by omega),hn];have:=ZmW b1 (show 0<i by omega) (by omega);omega
 obtain rfl:=ZjR hb B;constructor
 ·rw[List.append_assoc,List.take_left'];rfl
 rw[List.append_assoc,List.drop_left' rfl,Nat.add_sub_cancel_left,List.take_left' rfl]
theorem Zd4 {a:Ex} {p:Int × Int} (hp:Zag p=1) {xs ys:List (Int × Int)} (h:splits (a.post++[p]) xs ys):xs=a.post∧ys=[]:=by obtain⟨-,h2,-⟩:=h;rw[ZbM] at h2;obtain⟨rfl,rfl⟩:=h2 hp;simp
theorem Zes {p:Int × Int} (hp:Zag p=0) {xs ys:List (Int × Int)} (h:splits [p] xs ys):xs=[]∧ys=[]:=h.1 (by simpa using hp)
end Go.Proofs.YtncekbbhgipdlaaGreat
namespace Go.Proofs.YtncekbbhgipdlaaGreat
open Go.RowKit
def shJ (n:Nat) (m:Int × Int × Int):Int × Int × Int:=(m.1+(n:Int),m.2.1,m.2.2+(n:Int))
def ZdA (a b:DfaD):NfaD :=
 ⟨((a.next.length+b.next.length:Nat):Int),mvs a a.next.length++(mvs b b.next.length).map (shJ a.next.length)++(eds a a.next.length).map (fun e=>(e,-1,(a.next.length:Int))),[0],(eds b b.next.length).map (fun e=>e+(a.next.length:Int))⟩
def Zd0 (a:DfaD):NfaD :=
 ⟨((a.next.length+1:Nat):Int),mvs a a.next.length++[((a.next.length:Int),-1,0)]++(eds a a.next.length).map (fun e=>(e,-1,(a.next.length:Int))),[(a.next.length:Int)],[(a.next.length:Int)]⟩
def detM (M K:Nat) (n:NfaD):Option DfaD:=if (metSM M n K).length≤K then some (Zar (nxSM M n) (enS n) (metSM M n K)) else none
def ZbV (K:Nat) (f:Bool→Bool→Bool) (a b:DfaD):Option DfaD:=if (metP a b K).length≤K then some (Zar (Zan a b) (Zba f a b) (metP a b K)) else none
def Zfc:DfaD:=⟨[[0,0,0]],[false]⟩
def oneD:DfaD:=⟨[[1,1,1],[1,1,1]],[true,false]⟩
def ltrD (c:Fin 3):DfaD:=⟨[[2,2,2].set c.val 1,[2,2,2],[2,2,2]],[false,true,false]⟩
def negD (a:DfaD):DfaD:=⟨a.next,a.ends.map (fun x => !x)⟩
def Zat (K:Nat):Ex→Option DfaD
 | .zero=>some (Zao Zfc)
 | .one=>some (Zao oneD)
 | .ltr c=>some (Zao (ltrD c))
 | .join a b=>(Zat K a).bind fun x=>(Zat K b).bind fun y=>(detM 81 K (ZdA x y)).map Zao
 | .alt a b=>(Zat K a).bind fun x=>(Zat K b).bind fun y=>(ZbV K (fun p q=>p||q) x y).map Zao
 | .both a b=>(Zat K a).bind fun x=>(Zat K b).bind fun y=>(ZbV K (fun p q=>p&&q) x y).map Zao
 | .neg a=>(Zat K a).map fun x=>Zao (negD x)
 | .star a=>(Zat K a).bind fun x=>(detM 81 K (Zd0 x)).map Zao
theorem Zrs {α:Type} [DecidableEq α] {nx:α→Nat→α} {a:α} {en:α→Bool} {K:Nat} (B:K=40) (h:(bat nx a K).met.length≤K):Zac (Zar nx en (bat nx a K).met).next (Zar nx en (bat nx a K).met).ends=true:=by obtain⟨h1,h2,h3,h4⟩:=Zeu (en:=en) (nx:=nx) (a:=a) h (by omega);exact ZjH h1 (by rw[ZaW];omega) h3 fun i hi=>h4 i hi
theorem Zdl {M K:Nat} (B:K=40) {n:NfaD} {d:DfaD} (h:detM M K n=some d):Zac d.next d.ends=true:=by
 unfold detM at h
 split at h
 ·rename_i hle;simp only[w_9] at h;subst h;exact Zrs B hle
 cases h
theorem ZbP {K:Nat} (B:K=40) {f:Bool→Bool→Bool} {a b d:DfaD} (h:ZbV K f a b=some d):Zac d.next d.ends=true:=by
 unfold ZbV at h
 split at h
 ·rename_i hle;simp only[w_9] at h;subst h;exact Zrs B hle
 cases h
theorem Zcp {d:DfaD} (h:Zac d.next d.ends=true):Zac (Zao d).next (Zao d).ends=true :=
 (ZkW (Zpf (ZkW h).1)).1
theorem Zfb:Zac Zfc.next Zfc.ends=true:=by decide
theorem Zhk:Zac oneD.next oneD.ends=true:=by decide
theorem ZeT (c:Fin 3):Zac (ltrD c).next (ltrD c).ends=true:=by
 have:c=0∨c=1∨c=2:=by omega
 rcases this with rfl|rfl|rfl<;>decide
theorem Zho {d:DfaD} (h:Zac d.next d.ends=true):Zac (negD d).next (negD d).ends=true:=by simp only[Zac,Bool.and_eq_true,decide_eq_true_eq] at h ⊢;exact⟨h.1,by simpa [negD] using h.2⟩
theorem ZbS {K:Nat} (B:K=40):∀ (t:Ex) {d:DfaD},Zat K t=some d→Zac d.next d.ends=true:=by
 intro t;cases t with
 | zero=>intro d h;simp only[Zat,w_9] at h;subst h;exact Zcp Zfb
 | one=>intro d h;simp only[Zat,w_9] at h;subst h;exact Zcp Zhk
 | ltr c=>intro d h;simp only[Zat,w_9] at h;subst h;exact Zcp (ZeT c)
 | join a b =>intro d h;simp only[Zat,Option.bind_eq_some_iff,Option.map_eq_some_iff] at h;obtain⟨x,-,y,-,z,hz,rfl⟩:=h;exact Zcp (Zdl B hz)
 | alt a b =>intro d h;simp only[Zat,Option.bind_eq_some_iff,Option.map_eq_some_iff] at h;obtain⟨x,-,y,-,z,hz,rfl⟩:=h;exact Zcp (ZbP B hz)
 | both a b =>intro d h;simp only[Zat,Option.bind_eq_some_iff,Option.map_eq_some_iff] at h;obtain⟨x,-,y,-,z,hz,rfl⟩:=h;exact Zcp (ZbP B hz)
 | neg a =>intro d h;simp only[Zat,Option.map_eq_some_iff] at h;obtain⟨x,hx,rfl⟩:=h;exact Zcp (Zho (ZbS B a hx))
 | star a =>intro d h;simp only[Zat,Option.bind_eq_some_iff,Option.map_eq_some_iff] at h;obtain⟨x,-,z,hz,rfl⟩:=h;exact Zcp (Zdl B hz)
theorem ZgL {m:Nat} {xs ys:List (Int × Int × Int)} (h:mvIn m xs) (B:mvIn m ys):mvIn m (xs++ys):=fun x hx=>by
 rcases List.mem_append.1 hx with hx|hx
 ·exact h x hx
 exact B x hx
theorem ZiW {a b:DfaD} (ha:Zac a.next a.ends=true) (hb:Zac b.next b.ends=true):mvIn (a.next.length+b.next.length) (ZdA a b).moves:=by
 have h1:=Zgd ha _ (Nat.le_refl _);have h2:=Zgd hb _ (Nat.le_refl _);have B:=Zaf hb;refine ZgL (ZgL (Zhp h1 (by omega)) fun x hx => ?_) fun x hx => ?_
 ·obtain⟨y,hy,rfl⟩:=List.mem_map.1 hx;have:=h2 y hy;simp only[shJ];omega
 obtain⟨y,hy,rfl⟩:=List.mem_map.1 hx;have:=Zgl a _ y hy;simp only;omega
theorem ZfF {a b:DfaD}:inN (a.next.length+b.next.length) (ZdA a b).ends:=fun x hx=>by obtain⟨y,hy,rfl⟩:=List.mem_map.1 hx;have:=Zgl b _ y hy;omega
theorem Zd1 {a b:DfaD} (ha:Zac a.next a.ends=true):inN (a.next.length+b.next.length) [0]:=fun x hx=>by have B:=Zaf ha;simp only[List.mem_singleton] at hx;omega
theorem ZiV {a:DfaD} (ha:Zac a.next a.ends=true):mvIn (a.next.length+1) (Zd0 a).moves:=by
 have h1:=Zgd ha _ (Nat.le_refl _);refine ZgL (ZgL (Zhp h1 (by omega)) fun x hx => ?_) fun x hx => ?_
 ·simp only[List.mem_singleton] at hx;subst hx;simp only;omega
 obtain⟨y,hy,rfl⟩:=List.mem_map.1 hx;have:=Zgl a _ y hy;simp only;omega
theorem Zdm {a:DfaD}:inN (a.next.length+1) [(a.next.length:Int)]:=fun x hx=>by simp only[List.mem_singleton] at hx;omega
end Go.Proofs.YtncekbbhgipdlaaGreat
