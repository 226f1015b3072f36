/-
  The walks over the laws' functions on lists of parts: sizes, copies, comparisons, marks.
  Conditions: the lists read as such; the numbers stay below ten thousand million.
-/
import Derived.Test.YtncekbbhgipdlaaGreatPc09Ot
set_option maxHeartbeats 16000000
set_option maxRecDepth 100000
namespace Go.Proofs.YtncekbbhgipdlaaGreat
open Go.RowKit
theorem Tryz.infoPart:(Tryz.prog.info? 62).map (fun i=>(i.zero,i.size,i.bytes))=some (some (.agg #[.int .i64 0,.int .i64 0]),2,16):=by kernel_rfl
abbrev PZ:Value:=.agg #[.int .i64 0,.int .i64 0]
theorem Zpb (n:Nat) (w:World) (hn:n≤2000000) :
  Calls Tryz.prog 142 #[.slice none 0 0,.int .i64 (n:Int)] w fun e w'=>∃ a c,e = .returned (.slice a 0 c)∧St w w' [Ent.row 62 2 (.slice a 0 c) 0 []]:=by
 obtain⟨S,hj,P,U,J⟩:=info_parts Tryz.infoPart;have h1:¬ ((n:Int)<0):=by omega
 by_cases h0:n=0
 ·subst h0;have D:=(St.start w).nilRow 62 2;have C:=qh D;clear D
  go_enter Tryz.func142, Tryz.ntmps142
  go_wp2;go_ret;exact⟨none,0,rfl,C.o⟩
 have H:∀ N,(Builtin.append_ #[28,3] N #[.slice none 0 0,.int .i64 (n:Int)]).run Tryz.prog w =
   .ok (.slice (some ⟨w.heap.size,0,none⟩) n (grownCap w n 0 62)) (w.drew.alloc (.cells (Builtin.zeroCells PZ.cells n++Builtin.zeroCells PZ.cells (grownCap w n 0 62 - n)) 62)):=fun N=>by
  have h:=Lib.run_append_grow_zeros w 28 3 N 62 S PZ .i64 .i64 Tryz.underlying28 Tryz.underlying3 hj P none 0 0 [] (run_firstCells_none w.drew S.size 0 0 0) n (by omega) (by omega) (by omega) (by omega) (by rw[J];omega) (by rw[J];exact growslice_fits (by omega) (by omega));simpa using h
 have L:n≤grownCap w n 0 62:=grownCap_ge w _ _ _;have F:grownCap w n 0 62 ≤ maxLen:=grownCap_le_maxLen w n 0 62 (by unfold maxLen;omega);obtain⟨G,M⟩:=eI (grownCap w n 0 62);obtain⟨cur,B⟩:=eI (Builtin.zeroCells PZ.cells n++Builtin.zeroCells PZ.cells (G-n));have I:cur.size=G*2:=by rw[B,Array.size_append,size_zeroCells,size_zeroCells];show n*2+(G-n)*2=G*2;rw[← M] at L;omega
 rw[← M] at H L F;rw[← B] at H
 have E:(w.drew.alloc (.cells cur 62)).ownsRow w.heap.size 62 2 (.slice (some ⟨w.heap.size,0,none⟩) 0 G) 0 [] :=
  ⟨rfl,.inr ⟨w.heap.size,G,cur,rfl,Nat.le_refl _,heap_alloc_new w.drew _,Nat.zero_le _,F,I,by simp⟩⟩
 have D:=(St.start w).made ((Below.refl _ _).drew.alloc (Nat.le_refl _) (.cells cur 62)) E;have R:G≤9223372036854775807:=by unfold maxLen at F;omega
 replace M:=qh M;have Q:=qh B;clear B;have T:=qh I;clear I;have O:=qh E;clear E;have C:=qh D;clear D
 go_enter Tryz.func142, Tryz.ntmps142
 go_wp2_with (at_builtin;refine Lib.wpList_append_run _ rfl _ _ _ _ rfl _ _ rfl rfl _ _ (H _) ?_);go_ret;exact⟨_,G,rfl,C.o⟩
def sumL (ess:List (List (Int × Int))) (k:Nat):Nat:=(ess.take k).flatten.length
theorem ZeZ (ess:List (List (Int × Int))):sumL ess 0=0:=by simp[sumL]
theorem Zj0 {ess:List (List (Int × Int))} {k:Nat} (h:k<ess.length):sumL ess (k+1)=sumL ess k+(ess.getD k []).length∧(ess.take (k+1)).flatten=(ess.take k).flatten++ess.getD k []:=by
 have e:ess.take (k+1)=ess.take k++[ess.getD k []]:=by rw[List.take_succ_eq_append_getElem h];simp[h]
 have e2:(ess.take (k+1)).flatten=(ess.take k).flatten++ess.getD k []:=by rw[e];simp
 exact⟨by unfold sumL;rw[e2,List.length_append],e2⟩
theorem ZkZ {ess:List (List (Int × Int))} (hl:∀ es∈ess,es.length≤10000):∀ k,k≤ess.length→sumL ess k≤10000*k
 | 0,_=>by rw[ZeZ];omega
 | k+1,h=>by have B:=ZkZ hl k (by omega);have h1:=(Zj0 (ess:=ess) (k:=k) (by omega)).1;have h2:=hl (ess.getD k []) (by simp[List.getElem?_eq_getElem (show k<ess.length by omega)]);omega
theorem ZlG (ess:List (List (Int × Int))) (Y:List Value) (ao:Option Addr) (b cap:Nat) (w:World) (B:0<ess.length→ao=some ⟨b,0,none⟩) (hm:ess.length≤100) (hl:∀ es∈ess,es.length≤10000) (hb:0<ess.length→b<w.heap.size)
  (hc:∀ i,i<ess.length→w.cell? ⟨b,i,none⟩=some (Y.getD i undef)) (hp:∀ i,i<ess.length→Pairs 0 w (Y.getD i undef) (ess.getD i [])) :
  Calls Tryz.prog 116 #[.slice ao ess.length cap] w fun e w'=>∃ a c,e = .returned (.slice a ess.flatten.length c)∧St w w' [Ent.row 62 2 (.slice a ess.flatten.length c) ess.flatten.length (ess.flatten.flatMap Zaa)]:=by
 obtain⟨j0,hj,aE,y,aA⟩:=info_parts Tryz.infoPart;obtain⟨m,O⟩:=eI (ess.length);have F:=fun k (h:k<ess.length)=>Zj0 h
 have hle:=ZkZ hl;have R:sumL ess m=ess.flatten.length∧(ess.take m).flatten=ess.flatten:=by rw[O];unfold sumL;rw[List.take_length];exact⟨rfl,rfl⟩
 have d:∀ k,k<m→(ess.getD k []).length≤10000:=fun k hk=>hl _ (by simp[List.getElem?_eq_getElem (show k<ess.length by omega)])
 rw[← O] at hm hc hp F hle B hb ⊢;have l:=qh B;have Hb:=qh hb;have Hc:=qh hc;have Hp:=qh hp;have Q:=qh F;have V:=qh hle;have D:=qh R;have Hl:=qh d;replace O:=qh O;clear hc hp F hle R hl d B hb
 go_enter Tryz.func116, Tryz.ntmps116
 go_wp2
 go_loopw [3,11] (fun n i wr=>∃ k:Nat,i = .int .i64 (k:Int)∧n = .int .i64 ((sumL ess k:Nat):Int)∧k≤m∧w=wr) (fun _ i _=>m-(intOf i).toNat)
 case atStart=>exact⟨0,rfl,by rw[ZeZ];rfl,Nat.zero_le _,rfl⟩
 case round =>
  obtain⟨k,rfl,rfl,hk,rfl⟩:=hrel;by_cases hlt:k<m
  ·have hlt2:(k:Int)<m:=by omega
   have B:=l.o (by omega);subst B;obtain⟨I,X⟩:=Q.o k hlt;have p:=V.o k hk;have r:=Hl.o k hlt;have c0:=Hc.o k hlt;obtain⟨ax,cx,q,M,U,-⟩:=(Hp.o k hlt).form;rw[q] at c0;obtain⟨L,P⟩:=eI ((ess.getD k []).length);obtain⟨s,hs⟩:=eI (sumL ess k);rw[← P] at I r c0;rw[← hs] at I p;rw[← hs];have hw:IntKind.i64.wrap ((s:Int)+(L:Int))=(s:Int)+(L:Int):=IntWalk.i64_in _ (by omega);have aH:¬ (s:Int)+(L:Int)<0:=by omega
   have N:=qh I;clear I;replace P:=qh P;have x:=qh hs;clear hs;clear X q M U;go_wp2;go_roundw
   case rel=>exact⟨k+1,by go_num,by rw[N.o];congr 1,by omega,trivial⟩
   case measure=>simp[intOf];omega
  obtain rfl:k=m:=by omega
  obtain⟨s,hs⟩:=eI (sumL ess k);have p:=V.o k hk;rw[← hs] at p ⊢;have x:=qh hs;clear hs;clear hlt;go_wp2_with fail;refine(Zpb s _ (by omega)).mono ?_;rintro e w1 ⟨a6,z,rfl,g⟩;have aC:=qh g;clear g;go_wp2
  go_loopw [6,27] (fun vo i wr=>∃ (j:Nat) (a:Option Addr) (c:Nat),i = .int .i64 (j:Int)∧vo = .slice a (sumL ess j) c∧j≤k∧St w wr [Ent.row 62 2 (.slice a (sumL ess j) c) (sumL ess j) ((ess.take j).flatten.flatMap Zaa)]) (fun _ i _=>k-(intOf i).toNat)
  case atStart=>exact⟨0,a6,z,rfl,by rw[ZeZ],by omega,by rw[ZeZ];exact aC.o⟩
  case round =>
   obtain⟨j,a,c,rfl,rfl,aI,hS⟩:=hrel;by_cases hlt:j<k
   ·have hlt2:(j:Int)<k:=by omega
    have B:=l.o (by omega);subst B;have hb:=Hb.o (by omega);obtain⟨I,X⟩:=Q.o j hlt;have p:=V.o j (by omega);have r:=Hl.o j hlt;have m0:=(bcell hS.bel b j hb).trans (Hc.o j hlt);have H:=(Hp.o j hlt).below hS.bel;obtain⟨ax,cx,q,M,U,-⟩:=H.form;rw[q] at m0 H;obtain⟨E,hE⟩:=eI (ess.getD j []);obtain⟨Z,hZ⟩:=eI ((ess.take j).flatten);rw[← hE] at I X r m0 H M;rw[← hZ] at X hS;obtain⟨L,P⟩:=eI (E.length);obtain⟨s2,J⟩:=eI (sumL ess j);have S:Sl 0 wr (.slice ax L cx) L 2 (E.flatMap Zaa):=by rw[P];exact H
    rw[← P] at I r m0;rw[← J] at I p hS;rw[← J];have u:=qh hS;have HR:=qh (hS.row 0 rfl);have aF:=qh S;have N:=qh I;clear I;have aB:=qh X;clear X;replace P:=qh P;have aG:=qh J;clear J;replace hE:=qh hE;have aJ:=qh hZ;clear hZ;clear hS q M U H S hlt;go_wp2_with (at_builtin;refine Zak _ rfl _ _ _ rfl _ 62 j0 PZ 2 16 Tryz.underlying28 hj aE y aA rfl (by omega) _ s2 _ rfl HR.o _ L (E.flatMap Zaa) rfl aF.o ZcC (by unfold maxLen;omega) (by omega) u.o.size ?_;intro a6 z w6 G C T;have aD:=qh (u.o.appS 0 rfl G C T);clear G C T);go_roundw
    case rel=>exact⟨j+1,a6,z,by go_num,by rw[N.o],by omega,by rw[N.o,aB.o,List.flatMap_append];exact aD.o⟩
    case measure=>simp[intOf];omega
   obtain rfl:j=k:=by omega
   rw[D.o.1,D.o.2] at hS;rw[D.o.1];have u:=qh hS;clear hS hlt;go_wp2;go_ret;exact⟨a,c,rfl,u.o⟩
def RPo (es:List (Int × Int)) (w:World) (e:Ending) (w':World):Prop:=∃ a c,e = .returned (.slice a es.length c)∧St w w' [Ent.row 62 2 (.slice a es.length c) es.length (es.flatMap Zaa)]
theorem Ze9 (k:Int) (ess:List (List (Int × Int))) (I:List Value) (b cap:Nat) (w:World) (hm:ess.length≤100) (hl:∀ es∈ess,es.length≤10000) (hb:b<w.heap.size)
  (hc:∀ i,i<ess.length→w.cell? ⟨b,i,none⟩=some (I.getD i undef)) (hp:∀ i,i<ess.length→Pairs 0 w (I.getD i undef) (ess.getD i [])) :
  Calls Tryz.prog 72 #[.int .i64 k,.slice (some ⟨b,0,none⟩) ess.length cap] w fun e w'=>RPo (ess.flatten++[(k,0)]) w e w':=by
 obtain⟨Z,hj,U,S,Q⟩:=info_parts Tryz.infoPart;have B:=qh (ZlG ess I (some ⟨b,0,none⟩) b cap w (fun _=>rfl) hm hl (fun _=>hb) hc hp);have hle:=ZkZ hl ess.length (Nat.le_refl _);have N:sumL ess ess.length=ess.flatten.length:=by unfold sumL;rw[List.take_length]
 rw[N] at hle;clear hc hp hl N;obtain⟨m,H⟩:=eI (ess.length);rw[← H] at B hm hle ⊢;obtain⟨E,R⟩:=eI (ess.flatten);rw[← R] at B hle ⊢;obtain⟨L,P⟩:=eI (E.length);rw[← P] at B hle;have J:(E++[(k,0)]).length=L+1:=by rw[P];simp
 unfold RPo;rw[J];replace H:=qh H;replace R:=qh R;have c:=qh P;clear P;have V:=qh J;clear J
 go_enter Tryz.func72, Tryz.ntmps72
 go_wp2_with (first
  | (go_at_call 116;refine(B.o).mono ?_;rintro e w1 ⟨a,d,rfl,O⟩;have M:=O.alloc w1.heap.size rfl #[.int .i64 k,.int .i64 0] 62;have F:=M.boxrow 1 1 2 [.int .i64 k,.int .i64 0] rfl rfl (by unfold maxLen;omega);have X:=qh F;have HR:=qh (F.row 0 rfl);have Y:=qh ((Zab (F.row 1 rfl)).sl (by omega));clear O M F)
  | (at_builtin;refine Zak _ rfl _ _ _ rfl _ 62 Z PZ 2 16 Tryz.underlying28 hj U S Q rfl (by omega) _ L _ rfl HR.o _ 1 [.int .i64 k,.int .i64 0] rfl (Y.o.mono (Nat.zero_le _)) (by intro u hu;simp at hu;rcases hu with rfl|rfl<;>rfl) (by unfold maxLen;omega) (by omega) X.o.size ?_;intro a d g D C G;have T:=qh (X.o.appS 0 rfl D C G);clear D C G))
 go_ret;exact⟨_,_,rfl,by rw[List.flatMap_append];exact T.o.pick [0] (by decide)⟩
theorem Zme (k:Int) (w:World):Calls Tryz.prog 93 #[.int .i64 k] w fun e w'=>RPo [(k,0)] w e w':=by
 have hS:=((St.start w).alloc w.heap.size rfl #[.int .i64 k,.int .i64 0] 62).boxrow 0 1 2 [.int .i64 k,.int .i64 0] rfl rfl (by unfold maxLen;omega);replace hS:=qh hS
 go_enter Tryz.func93, Tryz.ntmps93
 go_wp2;go_ret;exact⟨_,_,rfl,hS.o⟩
def bnK (k:Int):Int:=if k=5 then 1 else if k=6 then 2 else if k=4 then 3 else if k=7 then 4 else if k=8 then 5 else 6
theorem ZaK (k:Int) (w:World) (r:Int) (hr:bnK k=r):Calls Tryz.prog 49 #[.int .i64 k] w fun e w'=>e = .returned (.int .i64 r)∧w=w':=by
 unfold bnK at hr
 go_enter Tryz.func49, Tryz.ntmps49
 by_cases h5:k=5
 ·rw[if_pos h5] at hr;subst hr;go_wp2;go_ret;exact⟨rfl,rfl⟩
 rw[if_neg h5] at hr;by_cases h6:k=6
 ·rw[if_pos h6] at hr;subst hr;go_wp2;go_ret;exact⟨rfl,rfl⟩
 rw[if_neg h6] at hr;by_cases h4:k=4
 ·rw[if_pos h4] at hr;subst hr;go_wp2;go_ret;exact⟨rfl,rfl⟩
 rw[if_neg h4] at hr;by_cases h7:k=7
 ·rw[if_pos h7] at hr;subst hr;go_wp2;go_ret;exact⟨rfl,rfl⟩
 rw[if_neg h7] at hr;by_cases h8:k=8
 ·rw[if_pos h8] at hr;subst hr;go_wp2;go_ret;exact⟨rfl,rfl⟩
 rw[if_neg h8] at hr;subst hr;go_wp2;go_ret;exact⟨rfl,rfl⟩
theorem Zoo (k:Int) (xs:List (Int × Int)) (v:Value) (b cap:Nat) (w:World) (hl:xs.length≤10000) (hb:b<w.heap.size) (h0:w.cell? ⟨b,0,none⟩=some v) (hp:Pairs 0 w v xs) :
  Calls Tryz.prog 72 #[.int .i64 k,.slice (some ⟨b,0,none⟩) 1 cap] w fun e w'=>RPo (xs++[(k,0)]) w e w':=by
 have h:=Ze9 k [xs] [v] b cap w (by simp) (by simpa using hl) hb (fun i hi=>by
  obtain rfl:i=0:=by simpa using hi
  exact h0) (fun i hi=>by
  obtain rfl:i=0:=by simpa using hi
  exact hp)
 simpa using h
theorem Zli (k:Int) (xs ys:List (Int × Int)) (v u:Value) (b cap:Nat) (w:World) (hl:xs.length≤10000) (B:ys.length≤10000) (hb:b<w.heap.size) (h0:w.cell? ⟨b,0,none⟩=some v) (h1:w.cell? ⟨b,1,none⟩=some u) (hp:Pairs 0 w v xs) (hq:Pairs 0 w u ys) :
  Calls Tryz.prog 72 #[.int .i64 k,.slice (some ⟨b,0,none⟩) 2 cap] w fun e w'=>RPo (xs++ys++[(k,0)]) w e w':=by
 have h:=Ze9 k [xs,ys] [v,u] b cap w (by simp) (by intro es he;simp at he;rcases he with rfl|rfl<;>assumption) hb (fun i hi=>by
  obtain rfl|rfl:i=0∨i=1:=by simp at hi;omega
  ·exact h0
  ·exact h1) (fun i hi=>by
  obtain rfl|rfl:i=0∨i=1:=by simp at hi;omega
  ·exact hp
  exact hq)
 have e:[xs,ys].flatten++[(k,0)]=xs++ys++[(k,0)]:=by simp
 rw[e] at h;exact h
end Go.Proofs.YtncekbbhgipdlaaGreat
namespace Go.Proofs.YtncekbbhgipdlaaGreat
def bnd:Ex→Nat
 | .alt _ _=>1
 | .both _ _=>2
 | .join _ _=>3
 | .neg _=>4
 | .star _=>5
 | _=>6
def brk (l:Nat) (a:Ex) (x:List Nat):List Nat:=if bnd a<l then 40::(x++[41]) else x
def prE:Ex→List Nat
 | .zero=>[48]
 | .one=>[49]
 | .ltr c=>[97+c.val]
 | .join a b=>brk 3 a (prE a)++brk 4 b (prE b)
 | .alt a b=>brk 1 a (prE a)++124::brk 2 b (prE b)
 | .both a b=>brk 2 a (prE a)++38::brk 3 b (prE b)
 | .neg a=>33::brk 4 a (prE a)
 | .star a=>brk 5 a (prE a)++[42]
def prB (l:Nat) (t:Ex):List Nat:=brk l t (prE t)
theorem ZlK (t:Ex):1≤bnd t∧bnd t≤6:=by cases t<;>simp[bnd]
theorem Zd8 {l:Nat} {t:Ex} (h:l≤bnd t):prB l t=prE t:=by unfold prB brk;rw[if_neg (by omega)]
theorem ZfK {l:Nat} {t:Ex} (h:bnd t<l):prB l t=40::(prE t++[41]):=by unfold prB brk;rw[if_pos h]
theorem Zhd (t:Ex):prB 1 t=prE t:=Zd8 (ZlK t).1
theorem Zoi {l:Nat} {t:Ex} (h:bnd t≠l):prB l t=prB (l+1) t:=by
 by_cases hl:bnd t<l
 ·rw[ZfK hl,ZfK (by omega)]
 rw[Zd8 (by omega),Zd8 (by omega)]
def isSt (c:Nat):Prop:=c=48∨c=49∨c=97∨c=98∨c=99∨c=40∨c=33
theorem ZkL {l:Nat} {a:Ex} {x:List Nat} (h:∃ c r,x=c::r∧isSt c):∃ c r,brk l a x=c::r∧isSt c:=by
 unfold brk
 split
 ·exact⟨40,_,rfl,by simp[isSt]⟩
 exact h
theorem Zsq:∀ t:Ex,∃ c r,prE t=c::r∧isSt c:=by
 intro t
 induction t with
 | zero=>exact⟨48,[],rfl,by simp[isSt]⟩
 | one=>exact⟨49,[],rfl,by simp[isSt]⟩
 | ltr c =>refine⟨97+c.val,[],rfl,?_⟩;have:c.val<3:=c.isLt;unfold isSt;omega
 | neg a=>exact⟨33,_,rfl,by simp[isSt]⟩
 | join a b ha hb =>obtain⟨c,r,h,hc⟩:=ZkL (l:=3) (a:=a) ha;exact⟨c,r++brk 4 b (prE b),by simp[prE,h],hc⟩
 | alt a b ha hb =>obtain⟨c,r,h,hc⟩:=ZkL (l:=1) (a:=a) ha;exact⟨c,r++124::brk 2 b (prE b),by simp[prE,h],hc⟩
 | both a b ha hb =>obtain⟨c,r,h,hc⟩:=ZkL (l:=2) (a:=a) ha;exact⟨c,r++38::brk 3 b (prE b),by simp[prE,h],hc⟩
 | star a ha =>obtain⟨c,r,h,hc⟩:=ZkL (l:=5) (a:=a) ha;exact⟨c,r++[42],by simp[prE,h],hc⟩
theorem Zl6 (l:Nat) (t:Ex):∃ c r,prB l t=c::r∧isSt c:=ZkL (Zsq t)
def isTb (c:Nat):Prop:=isSt c∨c=41∨c=42∨c=38∨c=124
theorem Zgn {l:Nat} {a:Ex} {x:List Nat} (h:∀ c∈x,isTb c):∀ c∈brk l a x,isTb c:=by
 unfold brk
 split
 ·intro c hc;rcases List.mem_cons.1 hc with rfl|hc
  ·simp[isTb,isSt]
  rcases List.mem_append.1 hc with hc|hc
  ·exact h c hc
  rw[List.mem_singleton.1 hc];simp[isTb]
 exact h
theorem Zsp:∀ t:Ex,∀ c∈prE t,isTb c:=by
 intro t
 induction t with
 | zero=>intro c hc;rw[List.mem_singleton.1 hc];simp[isTb,isSt]
 | one=>intro c hc;rw[List.mem_singleton.1 hc];simp[isTb,isSt]
 | ltr k =>intro c hc;have:k.val<3:=k.isLt;rw[List.mem_singleton.1 hc];unfold isTb isSt;omega
 | neg a ha =>
  intro c hc;rcases List.mem_cons.1 hc with rfl|hc
  ·simp[isTb,isSt]
  exact Zgn ha c hc
 | star a ha =>
  intro c hc;rcases List.mem_append.1 hc with hc|hc
  ·exact Zgn ha c hc
  rw[List.mem_singleton.1 hc];simp[isTb]
 | join a b ha hb =>
  intro c hc;rcases List.mem_append.1 hc with hc|hc
  ·exact Zgn ha c hc
  exact Zgn hb c hc
 | alt a b ha hb =>
  intro c hc;rcases List.mem_append.1 hc with hc|hc
  ·exact Zgn ha c hc
  rcases List.mem_cons.1 hc with rfl|hc
  ·simp[isTb]
  exact Zgn hb c hc
 | both a b ha hb =>
  intro c hc;rcases List.mem_append.1 hc with hc|hc
  ·exact Zgn ha c hc
  rcases List.mem_cons.1 hc with rfl|hc
  ·simp[isTb]
  exact Zgn hb c hc
theorem ZrZ {c:Nat} (h:isTb c):c<256:=by unfold isTb isSt at h;omega
theorem ZaT (l:Nat) (a:Ex) (x:List Nat):(brk l a x).length≤x.length+2:=by
 unfold brk
 split
 ·simp
 omega
theorem Zbk:∀ t:Ex,(prE t).length+1≤4*t.post.length:=by
 intro t
 induction t with
 | zero=>simp[prE,Ex.post]
 | one=>simp[prE,Ex.post]
 | ltr c=>simp[prE,Ex.post]
 | neg a ha=>have:=ZaT 4 a (prE a);simp[prE,Ex.post];omega
 | star a ha=>have:=ZaT 5 a (prE a);simp[prE,Ex.post];omega
 | join a b ha hb=>have:=ZaT 3 a (prE a);have:=ZaT 4 b (prE b);simp[prE,Ex.post];omega
 | alt a b ha hb=>have:=ZaT 1 a (prE a);have:=ZaT 2 b (prE b);simp[prE,Ex.post];omega
 | both a b ha hb=>have:=ZaT 2 a (prE a);have:=ZaT 3 b (prE b);simp[prE,Ex.post];omega
abbrev PS:Type:=List (Int × Int) × List Nat × Bool
def Zf3 (c:Nat):Option (Int × Int):=if c=48 then some (1,0) else if c=49 then some (2,0) else if 97≤c∧c≤99 then some (3,(c:Int)-97) else none
def Zbm:List (Int × Int)→List Nat→List (Int × Int) × List Nat
 | e,[]=>(e,[])
 | e,c::r=>if c=42 then Zbm (e++[(8,0)]) r else(e,c::r)
def opK (l:Nat):Int:=if l=1 then 5 else if l=2 then 6 else 4
def Zfv (jx:Nat→Bool) (l:Nat):List Nat→Option (List Nat)
 | []=>none
 | c::r=>if l=1∧c=124∨l=2∧c=38 then some r else if l=3∧jx c=true then some (c::r) else none
def ZaX (rd:List Nat→PS) (jx:Nat→Bool) (l:Nat):Nat→List (Int × Int)→List Nat→Bool→PS
 | 0,e,r,_=>(e,r,true)
 | n+1,e,r,f=>if f=true then(e,r,true) else match Zfv jx l r with
  | none=>(e,r,false)
  | some r1=>ZaX rd jx l n (e++(rd r1).1++[(opK l,0)]) (rd r1).2.1 (rd r1).2.2
def brkP (x:PS):PS:=match x with
 | (e,c::r,false)=>if c=41 then(e,r,false) else([],c::r,true)
 | (_,r,_)=>([],r,true)
def ZhY (x:PS):PS:=if x.2.2=true then(x.1,x.2.1,true) else((Zbm x.1 x.2.1).1,(Zbm x.1 x.2.1).2,false)
def rdP (jx:Nat→Bool):Nat→Nat→List Nat→PS
 | 0,_,r=>([],r,true)
 | n+1,l,r =>
  if l=6 then match r with
   | []=>([],[],true)
   | c::r1=>match Zf3 c with
    | some p=>([p],r1,false)
    | none=>if c=40 then brkP (rdP jx n 1 r1) else([],r1,true)
  else if l=5 then ZhY (rdP jx n 6 r)
  else if l=4 then match r with
   | []=>rdP jx n 5 []
   | c::r1=>if c=33 then((rdP jx n 4 r1).1++[(7,0)],(rdP jx n 4 r1).2) else rdP jx n 5 (c::r1)
  else ZaX (rdP jx n (l+1)) jx l n (rdP jx n (l+1) r).1 (rdP jx n (l+1) r).2.1 (rdP jx n (l+1) r).2.2
def stopz (l:Nat) (z:List Nat):Prop:=∀ c r,z=c::r→(l≤5→c≠42)∧(l≤3→c=124∨c=38∨c=41)∧(l≤2→c≠38)∧(l≤1→c≠124)
theorem ZnK (l:Nat):stopz l []:=fun _ _ h=>by cases h
theorem ZlS {l m:Nat} {z:List Nat} (h:stopz l z) (hm:l≤m):stopz m z:=fun c r e=>by obtain⟨h1,h2,h3,h4⟩:=h c r e;exact⟨fun x=>h1 (by omega),fun x=>h2 (by omega),fun x=>h3 (by omega),fun x=>h4 (by omega)⟩
theorem Zk0 (l:Nat) (z:List Nat):stopz l (41::z):=fun c r e=>by cases e;exact⟨fun _=>by omega,fun _=>by omega,fun _=>by omega,fun _=>by omega⟩
def fuP (l:Nat) (r:List Nat):Nat:=8*r.length+8-l
theorem Ziq:∀ (k:Nat) (e:List (Int × Int)) (z:List Nat),stopz 5 z→Zbm e (List.replicate k 42++z)=(e++List.replicate k (8,0),z)
 | 0,e,[],_=>by simp[Zbm]
 | 0,e,c::z,h=>by have:=(h c z rfl).1 (by omega);simp[Zbm,this]
 | k+1,e,z,h=>by have B:=Ziq k (e++[(8,0)]) z h;show Zbm e (42::(List.replicate k 42++z))=_;unfold Zbm;rw[if_pos rfl,B,List.append_assoc];rfl
def Ze1 (t:Ex):Nat→Ex
 | 0=>t
 | k+1 => .star (Ze1 t k)
theorem Zir:∀ t:Ex,∃ B k,t=Ze1 B k∧bnd B≠5:=by
 intro t
 induction t with
 | star a ha =>obtain⟨B,k,h,h0⟩:=ha;exact⟨B,k+1,by rw[h];rfl,h0⟩
 | _=>exact⟨_,0,rfl,by simp[bnd]⟩
theorem Zi1 (B:Ex) (h:bnd B≠5):∀ k,prB 5 (Ze1 B k)=prB 6 B++List.replicate k 42
 | 0=>by simp[Ze1,Zoi h]
 | k+1=>by have C:=Zi1 B h k;show prB 5 (.star (Ze1 B k))=_;rw[Zd8 (Nat.le_refl 5)];show prB 5 (Ze1 B k)++[42]=_;rw[C,List.append_assoc,← List.replicate_succ']
theorem Zj3 (B:Ex):∀ k,(Ze1 B k).post=B.post++List.replicate k (8,0)
 | 0=>by simp[Ze1]
 | k+1=>by have C:=Zj3 B k;show(Ze1 B k).post++[(8,0)]=_;rw[C,List.append_assoc,← List.replicate_succ']
def sepP (l:Nat):List Nat:=if l=1 then [124] else if l=2 then [38] else []
def ZbJ (l:Nat) (bs:List Ex):List Nat:=bs.flatMap fun b=>sepP l++prB (l+1) b
def ZkA (l:Nat):List (Int × Int)→List Ex→List (Int × Int)
 | e,[]=>e
 | e,b::bs=>ZkA l (e++b.post++[(opK l,0)]) bs
theorem ZiJ (l:Nat) (b:Ex):∀ (bs:List Ex) (e:List (Int × Int)),ZkA l e (bs++[b])=ZkA l e bs++b.post++[(opK l,0)]
 | [],_=>rfl
 | _::bs,_=>ZiJ l b bs _
theorem spine (l:Nat) (h1:1≤l) (h3:l≤3):∀ t:Ex,∃ C bs,prB l t=prB (l+1) C++ZbJ l bs∧t.post=ZkA l C.post bs:=by
 have B:∀ t:Ex,bnd t≠l→∃ C bs,prB l t=prB (l+1) C++ZbJ l bs∧t.post=ZkA l C.post bs:=fun t h=>⟨t,[],by simp[ZbJ,Zoi h],rfl⟩
 have step:∀ (t a b:Ex),prB l t=prB l a++(sepP l++prB (l+1) b)→t.post=a.post++b.post++[(opK l,0)]→(∃ C bs,prB l a=prB (l+1) C++ZbJ l bs∧a.post=ZkA l C.post bs)→∃ C bs,prB l t=prB (l+1) C++ZbJ l bs∧t.post=ZkA l C.post bs:=fun t a b e1 e2 ⟨C,bs,E,D⟩=>by
  refine⟨C,bs++[b],?_,?_⟩
  ·rw[e1,E];simp[ZbJ,List.flatMap_append]
  rw[e2,D,ZiJ]
 intro t
 induction t with
 | join a b ha hb =>
  by_cases h:l=3
  ·subst h;exact step _ a b (by rw[Zd8 (Nat.le_refl 3)];rfl) rfl ha
  exact B _ (by show 3≠l;omega)
 | alt a b ha hb =>
  by_cases h:l=1
  ·subst h;exact step _ a b (by rw[Zd8 (Nat.le_refl 1)];rfl) rfl ha
  exact B _ (by show 1≠l;omega)
 | both a b ha hb =>
  by_cases h:l=2
  ·subst h;exact step _ a b (by rw[Zd8 (Nat.le_refl 2)];rfl) rfl ha
  exact B _ (by show 2≠l;omega)
 | zero=>exact B _ (by show 6≠l;omega)
 | one=>exact B _ (by show 6≠l;omega)
 | ltr=>exact B _ (by show 6≠l;omega)
 | neg=>exact B _ (by show 4≠l;omega)
 | star=>exact B _ (by show 5≠l;omega)
theorem Zr0 {c:Nat} (h:isSt c):c≠42∧c≠124∧c≠38∧c≠41:=by unfold isSt at h;omega
theorem Zj1 {l:Nat} (h1:1≤l) (h3:l≤3) (bs:List Ex) {z:List Nat} (h:stopz l z):stopz (l+1) (ZbJ l bs++z):=by
 cases bs with
 | nil=>exact ZlS h (by omega)
 | cons b bs =>
  intro c r e;obtain⟨c0,r0,hb,B⟩:=Zl6 (l+1) b;obtain rfl|rfl|rfl:l=1∨l=2∨l=3:=by omega
  ·simp[ZbJ,sepP] at e;obtain⟨rfl,-⟩:=e;exact⟨fun _=>by omega,fun _=>by omega,fun _=>by omega,fun _=>by omega⟩
  ·simp[ZbJ,sepP] at e;obtain⟨rfl,-⟩:=e;exact⟨fun _=>by omega,fun _=>by omega,fun _=>by omega,fun _=>by omega⟩
  simp[ZbJ,sepP,hb] at e;obtain⟨rfl,-⟩:=e;exact⟨fun _=>(Zr0 B).1,fun _=>by omega,fun _=>by omega,fun _=>by omega⟩
theorem Zmb {rd:List Nat→PS} {jx:Nat→Bool} (D:∀ c,isSt c→jx c=true) (B:∀ c,c=124∨c=38∨c=41→jx c=false) {l:Nat} (h1:1≤l) (h3:l≤3) {M:Nat} {z:List Nat} (hz:stopz l z)
  (C:∀ (b:Ex) (E:List Nat),stopz (l+1) E→(prB (l+1) b++E).length≤M→rd (prB (l+1) b++E)=(b.post,E,false)):∀ (bs:List Ex) (e:List (Int × Int)) (k:Nat),(ZbJ l bs++z).length≤M→(ZbJ l bs++z).length+1≤k→ZaX rd jx l k e (ZbJ l bs++z) false=(ZkA l e bs,z,false)
 | _,_,0,_,hk=>absurd hk (by omega)
 | [],e,k+1,_,_=>by
  show ZaX rd jx l (k+1) e z false=_
  have hc:Zfv jx l z=none:=by
   cases z with
   | nil=>rfl
   | cons c r =>
    obtain⟨P,J,I,L⟩:=hz c r rfl
    have N:¬ (l=1∧c=124∨l=2∧c=38):=by
     rintro(⟨rfl,rfl⟩|⟨rfl,rfl⟩)
     ·exact L (by omega) rfl
     exact I (by omega) rfl
    show(if l=1∧c=124∨l=2∧c=38 then some r else if l=3∧jx c=true then some (c::r) else none)=none;rw[if_neg N,if_neg];rintro⟨rfl,h⟩;rw[B c (J (by omega))] at h;cases h
  unfold ZaX;rw[if_neg (by simp),hc];rfl
 | b::bs,e,k+1,O,hk=>by
  have G:=Zj1 h1 h3 bs hz;have hlen:(ZbJ l (b::bs)++z).length=(sepP l).length+(prB (l+1) b++(ZbJ l bs++z)).length:=by simp[ZbJ]
  obtain⟨c0,r0,hb,F⟩:=Zl6 (l+1) b;have H:(prB (l+1) b++(ZbJ l bs++z)).length=1+r0.length+(ZbJ l bs++z).length:=by rw[hb];simp;omega
  have hc:Zfv jx l (ZbJ l (b::bs)++z)=some (prB (l+1) b++(ZbJ l bs++z)):=by
   have e1:ZbJ l (b::bs)++z=sepP l++(prB (l+1) b++(ZbJ l bs++z)):=by simp[ZbJ]
   rw[e1];obtain rfl|rfl|rfl:l=1∨l=2∨l=3:=by omega
   ·rfl
   ·rfl
   rw[hb];show Zfv jx 3 (c0::(r0++(ZbJ 3 bs++z)))=_;show(if 3=1∧c0=124∨3=2∧c0=38 then some (r0++(ZbJ 3 bs++z)) else if 3=3∧jx c0=true then some (c0::(r0++(ZbJ 3 bs++z))) else none)=_;rw[if_neg (by omega),if_pos ⟨rfl,D c0 F⟩];rfl
  unfold ZaX;rw[if_neg (by simp),hc];have hr:=C b (ZbJ l bs++z) G (by omega);simp only[hr];exact Zmb D B h1 h3 hz C bs _ k (by omega) (by omega)
theorem Zrq {jx:Nat→Bool} (F:∀ c,isSt c→jx c=true) (E:∀ c,c=124∨c=38∨c=41→jx c=false):∀ (n l:Nat) (t:Ex) (z:List Nat),1≤l→l≤6→fuP l (prB l t++z)≤n→stopz l z→rdP jx n l (prB l t++z)=(t.post,z,false)
 | 0,l,t,z,_,h6,hn,_=>by unfold fuP at hn;omega
 | n+1,l,t,z,h1,h6,hn,hz=>by
  obtain⟨c0,r0,hb,N⟩:=Zl6 l t;have D:=Zrq F E n;obtain rfl|rfl|rfl|hl:l=6∨l=5∨l=4∨l≤3:=by omega
  ·have B:bnd t<6→rdP jx (n+1) 6 (prB 6 t++z)=(t.post,z,false):=fun h=>by rw[ZfK h] at hn ⊢;have h2:=D 1 t (41::z) (by omega) (by omega) (by unfold fuP at hn ⊢;rw[Zhd];simp at hn ⊢;omega) (Zk0 1 z);rw[Zhd] at h2;show rdP jx (n+1) 6 (40::(prE t++[41]++z))=_;unfold rdP;rw[if_pos rfl];simp only[List.append_assoc,List.cons_append,List.nil_append];rw[h2];rfl
   cases t with
   | zero=>rfl
   | one=>rfl
   | ltr c =>
    obtain⟨c,hc⟩:=c;obtain rfl|rfl|rfl:c=0∨c=1∨c=2:=by omega
    all_goals rfl
   | join a b=>exact B (by simp[bnd])
   | alt a b=>exact B (by simp[bnd])
   | both a b=>exact B (by simp[bnd])
   | neg a=>exact B (by simp[bnd])
   | star a=>exact B (by simp[bnd])
  ·obtain⟨C,k,ht,h0⟩:=Zir t;have hp:=Zi1 C h0 k;rw[← ht] at hp;have hq:prB 5 t++z=prB 6 C++(List.replicate k 42++z):=by rw[hp,List.append_assoc]
   have h2:=D 6 C (List.replicate k 42++z) (by omega) (by omega) (by rw[← hq];unfold fuP at hn ⊢;omega) (fun c r _=>⟨fun h=>by omega,fun h=>by omega,fun h=>by omega,fun h=>by omega⟩);rw[hq];unfold rdP;rw[if_neg (by omega),if_pos rfl,h2];show((Zbm C.post (List.replicate k 42++z)).1,(Zbm C.post (List.replicate k 42++z)).2,false)=_;rw[Ziq k C.post z hz,ht,Zj3]
  ·by_cases h4:bnd t=4
   ·cases t with
    | neg a =>
     have e1:prB 4 (.neg a)++z=33::(prB 4 a++z):=by rw[Zd8 (Nat.le_refl 4)];rfl
     rw[e1] at hn ⊢;have h2:=D 4 a z (by omega) (by omega) (by unfold fuP at hn ⊢;simp at hn ⊢;omega) hz;unfold rdP;rw[if_neg (by omega),if_neg (by omega),if_pos rfl];simp only[↓reduceIte,h2];rfl
    | _=>simp[bnd] at h4
   have e1:prB 4 t=prB 5 t:=Zoi h4
   have I:c0≠33:=fun e=>by
    subst e;by_cases hlt:bnd t<4
    ·rw[ZfK hlt] at hb;cases hb
    rw[Zd8 (by omega)] at hb;cases t with
    | zero=>cases hb
    | one=>cases hb
    | ltr c =>simp[prE] at hb;omega
    | neg a=>exact h4 rfl
    | join a b=>simp[bnd] at hlt
    | alt a b=>simp[bnd] at hlt
    | both a b=>simp[bnd] at hlt
    | star a =>
     obtain⟨C,k,ht,h0⟩:=Zir (.star a);have hp:=Zi1 C h0 k;rw[← ht,Zd8 (Nat.le_refl 5),hb] at hp
     have h5:bnd C≠4∨prB 6 C=40::(prE C++[41]):=by
      by_cases h:bnd C=4
      ·exact .inr (ZfK (by omega))
      exact .inl h
     rcases h5 with h5|h5
     ·by_cases h6':bnd C<6
      ·rw[ZfK h6'] at hp;cases hp
      rw[Zd8 (by omega)] at hp;cases C with
      | zero=>cases hp
      | one=>cases hp
      | ltr c =>simp[prE] at hp;omega
      | _=>simp[bnd] at h6'
     rw[h5] at hp;cases hp
   have h2:=D 5 t z (by omega) (by omega) (by unfold fuP at hn ⊢;rw[e1] at hn;omega) (ZlS hz (by omega));rw[← e1] at h2;rw[hb] at h2 ⊢;show rdP jx (n+1) 4 (c0::(r0++z))=_;unfold rdP;rw[if_neg (by omega),if_neg (by omega),if_pos rfl];simp only[I,↓reduceIte];exact h2
  obtain⟨C,bs,O,L⟩:=spine l h1 hl t;have hq:prB l t++z=prB (l+1) C++(ZbJ l bs++z):=by rw[O,List.append_assoc]
  have G:=Zj1 h1 hl bs hz;have h2:=D (l+1) C (ZbJ l bs++z) (by omega) (by omega) (by rw[← hq];unfold fuP at hn ⊢;omega) G;rw[hq] at hn ⊢;unfold rdP;rw[if_neg (by omega),if_neg (by omega),if_neg (by omega),h2];obtain⟨c1,r1,hb1,-⟩:=Zl6 (l+1) C;have hlt:(ZbJ l bs++z).length+1≤(prB (l+1) C++(ZbJ l bs++z)).length:=by rw[hb1];simp
  rw[L];refine Zmb F E h1 hl (M:=(prB (l+1) C++(ZbJ l bs++z)).length) hz (fun b J H P=>D (l+1) b J (by omega) (by omega) ?_ H) bs C.post n (by omega) ?_
  ·unfold fuP at hn ⊢;omega
  unfold fuP at hn;omega
theorem ZgZ:∀ (r:List Nat) (e:List (Int × Int)),(Zbm e r).2.length≤r.length
 | [],_=>Nat.le_refl _
 | c::r,e=>by
  unfold Zbm
  split
  ·have:=ZgZ r (e++[(8,0)]);simp;omega
  exact Nat.le_refl _
def ZsJ (p:Int × Int) (st:List Ex):Option (List Ex) :=
 if p.1=1 then some (.zero::st) else if p.1=2 then some (.one::st) else if p.1=3 then some (.ltr (Fin.ofNat 3 p.2.toNat)::st)
 else if p.1=7 then(match st with|a::st=>some (.neg a::st)|[]=>none)
 else if p.1=8 then(match st with|a::st=>some (.star a::st)|[]=>none)
 else match st with
  | b::a::st=>if p.1=4 then some (.join a b::st) else if p.1=5 then some (.alt a b::st) else some (.both a b::st)
  | _=>none
def ZfA:List (Int × Int)→List Ex→Option (List Ex)
 | [],st=>some st
 | p::r,st=>(ZsJ p st).bind (ZfA r)
theorem Zns:∀ (t:Ex) (r:List (Int × Int)) (st:List Ex),ZfA (t.post++r) st=ZfA r (t::st):=by
 intro t
 induction t with
 | zero=>intro r st;rfl
 | one=>intro r st;rfl
 | ltr c =>
  intro r st;obtain⟨c,hc⟩:=c;obtain rfl|rfl|rfl:c=0∨c=1∨c=2:=by omega
  all_goals rfl
 | neg a ha=>intro r st;show ZfA (a.post++[(7,0)]++r) st=_;rw[List.append_assoc,ha];rfl
 | star a ha=>intro r st;show ZfA (a.post++[(8,0)]++r) st=_;rw[List.append_assoc,ha];rfl
 | join a b ha hb=>intro r st;show ZfA (a.post++b.post++[(4,0)]++r) st=_;rw[List.append_assoc,List.append_assoc,ha,hb];rfl
 | alt a b ha hb=>intro r st;show ZfA (a.post++b.post++[(5,0)]++r) st=_;rw[List.append_assoc,List.append_assoc,ha,hb];rfl
 | both a b ha hb=>intro r st;show ZfA (a.post++b.post++[(6,0)]++r) st=_;rw[List.append_assoc,List.append_assoc,ha,hb];rfl
def ZnC (e:List (Int × Int)):Option Ex:=match ZfA e [] with
 | some [t]=>some t
 | _=>none
theorem ZeI (t:Ex):ZnC t.post=some t:=by have:=Zns t [] [];rw[List.append_nil] at this;unfold ZnC;rw[this];rfl
theorem Zjh {t u:Ex} (h:t.post=u.post):t=u:=by have h1:=ZeI t;rw[h,ZeI u] at h1;exact(Option.some.inj h1).symm
def ZeJ (e:List (Int × Int)):List Nat:=if exOk e=true then(match ZnC e with|some t=>prE t|none=>[]) else []
theorem ZgE {e:List (Int × Int)} (h:exOk e=false):ZeJ e=[]:=by unfold ZeJ;rw[if_neg (by rw[h];simp)]
theorem ZfG {t:Ex} (h:t.post.length≤60):ZeJ t.post=prE t:=by unfold ZeJ;rw[if_pos (ZaD t h),ZeI]
theorem ZgD {e:List (Int × Int)} (h:exOk e=true):∃ t:Ex,t.post=e∧e.length≤60∧ZeJ e=prE t:=by obtain⟨t,rfl⟩:=parse h;have hl:=(Zbh h).2.2.2;exact⟨t,rfl,by omega,ZfG (by omega)⟩
theorem ZlR (e:List (Int × Int)):(∀ c∈ZeJ e,isTb c)∧(ZeJ e).length≤240:=by
 cases h:exOk e
 ·rw[ZgE h];simp
 obtain⟨t,rfl,hl,ht⟩:=ZgD h;rw[ht];have:=Zbk t;exact⟨Zsp t,by omega⟩
def jI (c:Nat):Bool:=decide (c=48)||decide (c=49)||decide (c=97)||decide (c=98)||decide (c=99)||decide (c=40)||decide (c=33)
def jS (c:Nat):Bool:=!(decide (c=124)||decide (c=38)||decide (c=41)||decide (c=42))
theorem Zrt:(∀ c,isSt c→jI c=true)∧∀ c,c=124∨c=38∨c=41→jI c=false:=by
 constructor
 ·rintro c (rfl|rfl|rfl|rfl|rfl|rfl|rfl)<;>decide
 rintro c (rfl|rfl|rfl)<;>decide
theorem Zsy:(∀ c,isSt c→jS c=true)∧∀ c,c=124∨c=38∨c=41→jS c=false:=by
 constructor
 ·rintro c (rfl|rfl|rfl|rfl|rfl|rfl|rfl)<;>decide
 rintro c (rfl|rfl|rfl)<;>decide
def yesR (x:PS) (s:List Nat):Prop:=x.2.2=false∧x.2.1=[]∧ZeJ x.1=s
instance (x:PS) (s:List Nat):Decidable (yesR x s):=by unfold yesR;infer_instance
def Zbv (s:List Nat):Option (List (Int × Int)):=if s.length≤120∧yesR (rdP jI (fuP 1 s) 1 s) s then some (rdP jI (fuP 1 s) 1 s).1 else none
theorem Zob (jx:Nat→Bool):∀ (n l:Nat),1≤l→l≤6→(rdP jx n l []).2.2=true
 | 0,_,_,_=>rfl
 | n+1,l,h1,h6=>by
  have B:=Zob jx n;unfold rdP
  split
  ·rfl
  split
  ·show(ZhY (rdP jx n 6 [])).2.2=true;unfold ZhY;rw[if_pos (B 6 (by omega) (by omega))]
  split
  ·exact B 5 (by omega) (by omega)
  have:=B (l+1) (by omega) (by omega);rw[this];cases n with
  | zero=>rfl
  | succ n=>rfl
theorem ZjX {jx:Nat→Bool} {n:Nat} {s:List Nat} (h:yesR (rdP jx n 1 s) s):∃ t:Ex,(rdP jx n 1 s).1=t.post∧prE t=s∧t.post.length≤60:=by
 obtain⟨h1,-,h3⟩:=h;cases he:exOk (rdP jx n 1 s).1
 ·rw[ZgE he] at h3;subst h3;rw[Zob jx n 1 (by omega) (by omega)] at h1;cases h1
 obtain⟨t,e1,e2,e3⟩:=ZgD he;exact⟨t,e1.symm,by rw[← e3];exact h3,by rw[e1];exact e2⟩
theorem Zoa {jx:Nat→Bool} (hj:(∀ c,isSt c→jx c=true)∧∀ c,c=124∨c=38∨c=41→jx c=false) {n:Nat} {t:Ex} (hn:fuP 1 (prE t)≤n):rdP jx n 1 (prE t)=(t.post,[],false):=by
 have h:=Zrq hj.1 hj.2 n 1 t [] (by omega) (by omega) (by rw[List.append_nil,Zhd];exact hn) (ZnK 1)
 rwa [List.append_nil,Zhd] at h
theorem Zqr {t:Ex} (h:t.post.length≤60) (hl:(prE t).length≤120):Zbv (prE t)=some t.post:=by have h1:=Zoa Zrt (Nat.le_refl (fuP 1 (prE t)));unfold Zbv;rw[h1,if_pos ⟨hl,rfl,rfl,ZfG h⟩]
theorem Ziv {s:List Nat} {e:List (Int × Int)} (h:Zbv s=some e):∃ t:Ex,e=t.post∧prE t=s∧t.post.length≤60∧s.length≤120:=by
 unfold Zbv at h
 split at h
 ·rename_i hc;obtain⟨t,e1,e2,e3⟩:=ZjX hc.2;exact⟨t,by rw[← Option.some.inj h,e1],e2,e3,hc.1⟩
 cases h
theorem Zl5 {jx:Nat→Bool} (hj:(∀ c,isSt c→jx c=true)∧∀ c,c=124∨c=38∨c=41→jx c=false) {n:Nat} {s:List Nat} (hn:fuP 1 s≤n) (hl:s.length≤120):Zbv s=if yesR (rdP jx n 1 s) s then some (rdP jx n 1 s).1 else none:=by
 split
 ·rename_i h;obtain⟨t,e1,e2,e3⟩:=ZjX h;rw[e1,← e2];exact Zqr e3 (by rw[e2];exact hl)
 rename_i h;cases hr:Zbv s with
 | none=>rfl
 | some e =>obtain⟨t,e1,e2,e3,-⟩:=Ziv hr;subst e2;exact absurd (by rw[Zoa hj hn];exact⟨rfl,rfl,ZfG e3⟩) h
theorem Ziw {s:List Nat} (h:120<s.length):Zbv s=none:=by unfold Zbv;rw[if_neg (by omega)]
def meas (R:Nat) (x:PS):Prop:=x.2.1.length≤R∧x.1.length≤2*R∧(x.2.2=false→x.2.1.length<R∧x.1.length+1≤2*(R-x.2.1.length))
theorem ZfI:∀ (r:List Nat) (e:List (Int × Int)),(Zbm e r).1.length+(Zbm e r).2.length=e.length+r.length
 | [],_=>rfl
 | c::r,e=>by
  unfold Zbm
  split
  ·have:=ZfI r (e++[(8,0)]);simp at this ⊢;omega
  rfl
theorem Zrb {jx:Nat→Bool} {l:Nat} {r r1:List Nat} (h:Zfv jx l r=some r1):r1.length≤r.length:=by
 cases r with
 | nil=>cases h
 | cons c r =>
  have h2:(if l=1∧c=124∨l=2∧c=38 then some r else if l=3∧jx c=true then some (c::r) else none)=some r1:=h
  split at h2
  ·rw[← Option.some.inj h2];simp
  split at h2
  ·rw[← Option.some.inj h2];exact Nat.le_refl _
  cases h2
theorem ZoM {rd:List Nat→PS} {jx:Nat→Bool} {l R:Nat} (B:∀ r:List Nat,r.length≤R→meas r.length (rd r)):∀ (n:Nat) (e:List (Int × Int)) (r:List Nat) (f:Bool),meas R (e,r,f)→meas R (ZaX rd jx l n e r f)
 | 0,e,r,f,h=>⟨h.1,h.2.1,fun h2=>by cases h2⟩
 | n+1,e,r,f,h=>by
  unfold ZaX
  split
  ·exact⟨h.1,h.2.1,fun h2=>by cases h2⟩
  rename_i hf;have hf:f=false:=by simpa using hf
  subst hf
  split
  ·exact h
  rename_i r1 hc;have h1:=Zrb hc;obtain⟨a1,a2,a3⟩:=h;obtain⟨D,C⟩:=a3 rfl;simp only at a1 a2 D C;obtain⟨b1,b2,b3⟩:=B r1 (by omega);refine ZoM B n _ _ _ ⟨by simp only;omega,by simp only[List.length_append,List.length_singleton];omega,fun h2 => ?_⟩;obtain⟨E,F⟩:=b3 h2;simp only[List.length_append,List.length_singleton];omega
theorem ZdE (jx:Nat→Bool):∀ (n l:Nat) (r:List Nat),meas r.length (rdP jx n l r)
 | 0,l,r=>⟨Nat.le_refl _,Nat.zero_le _,fun h=>by cases h⟩
 | n+1,l,r=>by
  have C:=ZdE jx n;unfold rdP
  split
  ·cases r with
   | nil=>exact⟨Nat.le_refl _,Nat.zero_le _,fun h=>by cases h⟩
   | cons c r1 =>
    simp only;cases ha:Zf3 c with
    | some p=>exact⟨by simp,by simp;omega,fun _=>by simp⟩
    | none =>
     simp only
     split
     ·obtain⟨b1,b2,b3⟩:=C 1 r1;obtain⟨x,hx⟩:=eJ (rdP jx n 1 r1);rw[hx] at b1 b2 b3 ⊢;obtain⟨e,B,f⟩:=x;cases f with
      | true =>
       cases B with
       | nil=>exact⟨by simp[brkP],by simp[brkP],fun h=>by cases h⟩
       | cons c2 B=>exact⟨by simp[brkP] at b1 ⊢;omega,by simp[brkP],fun h=>by cases h⟩
      | false =>
       cases B with
       | nil=>exact⟨by simp[brkP],by simp[brkP],fun h=>by cases h⟩
       | cons c2 B =>
        obtain⟨D,E⟩:=b3 rfl;simp only[List.length_cons] at b1 b2 D E;show meas _ (if c2=41 then(e,B,false) else([],c2::B,true))
        split
        ·exact⟨by simp only[List.length_cons];omega,by simp only[List.length_cons];omega,fun _=>by simp only[List.length_cons];omega⟩
        exact⟨by simp only[List.length_cons];omega,by simp,fun h=>by cases h⟩
     exact⟨by simp,by simp,fun h=>by cases h⟩
  split
  ·obtain⟨b1,b2,b3⟩:=C 6 r;obtain⟨x,hx⟩:=eJ (rdP jx n 6 r);rw[hx] at b1 b2 b3 ⊢;obtain⟨e,B,f⟩:=x;unfold ZhY;cases f with
   | true=>exact⟨b1,b2,fun h=>by cases h⟩
   | false =>obtain⟨D,E⟩:=b3 rfl;have h1:=ZfI B e;have h2:=ZgZ B e;simp only at b1 b2 D E;exact⟨by simp;omega,by simp;omega,fun _=>by simp;omega⟩
  split
  ·cases r with
   | nil=>exact C 5 []
   | cons c r1 =>
    simp only
    split
    ·obtain⟨b1,b2,b3⟩:=C 4 r1;refine⟨by simp;omega,by simp;omega,fun h => ?_⟩;obtain⟨D,E⟩:=b3 h;simp;omega
    exact C 5 (c::r1)
  exact ZoM (fun r1 _=>C (l+1) r1) n _ _ _ (C (l+1) r)
theorem Zip:∀ (r:List Nat) (e:List (Int × Int)),(Zbm e r).2 <:+ r
 | [],_=>List.suffix_refl _
 | c::r,e=>by
  unfold Zbm
  split
  ·exact(Zip r _).trans (List.suffix_cons c r)
  exact List.suffix_refl _
theorem Zpv {jx:Nat→Bool} {l:Nat} {r r1:List Nat} (h:Zfv jx l r=some r1):r1 <:+ r:=by
 cases r with
 | nil=>cases h
 | cons c r =>
  have h2:(if l=1∧c=124∨l=2∧c=38 then some r else if l=3∧jx c=true then some (c::r) else none)=some r1:=h
  split at h2
  ·rw[← Option.some.inj h2];exact List.suffix_cons c r
  split at h2
  ·rw[← Option.some.inj h2];exact List.suffix_refl _
  cases h2
theorem Zma {rd:List Nat→PS} {jx:Nat→Bool} {l:Nat} (B:∀ r:List Nat,(rd r).2.1 <:+ r):∀ (n:Nat) (e:List (Int × Int)) (r:List Nat) (f:Bool),(ZaX rd jx l n e r f).2.1 <:+ r
 | 0,_,_,_=>List.suffix_refl _
 | n+1,e,r,f=>by
  unfold ZaX
  split
  ·exact List.suffix_refl _
  split
  ·exact List.suffix_refl _
  rename_i r1 hc;exact(Zma B n _ _ _).trans ((B r1).trans (Zpv hc))
theorem Zrg (x:PS):(brkP x).2.1 <:+ x.2.1:=by
 obtain⟨e,r,f⟩:=x;cases f with
 | true=>cases r<;>exact List.suffix_refl _
 | false =>
  cases r with
  | nil=>exact List.suffix_refl _
  | cons c r =>
   show(if c=41 then((e,r,false):PS) else([],c::r,true)).2.1 <:+ c::r
   split
   ·exact List.suffix_cons c r
   exact List.suffix_refl _
theorem ZeC (jx:Nat→Bool):∀ (n l:Nat) (r:List Nat),(rdP jx n l r).2.1 <:+ r
 | 0,_,_=>List.suffix_refl _
 | n+1,l,r=>by
  have B:=ZeC jx n;unfold rdP
  split
  ·cases r with
   | nil=>exact List.suffix_refl _
   | cons c r1 =>
    simp only;cases ha:Zf3 c with
    | some p=>exact List.suffix_cons c r1
    | none =>
     simp only
     split
     ·exact((Zrg _).trans (B 1 r1)).trans (List.suffix_cons c r1)
     exact List.suffix_cons c r1
  split
  ·show(ZhY (rdP jx n 6 r)).2.1 <:+ r;unfold ZhY
   split
   ·exact B 6 r
   exact(Zip _ _).trans (B 6 r)
  split
  ·cases r with
   | nil=>exact B 5 []
   | cons c r1 =>
    simp only
    split
    ·exact(B 4 r1).trans (List.suffix_cons c r1)
    exact B 5 (c::r1)
  exact(Zma (B (l+1)) n _ _ _).trans (B (l+1) r)
theorem Zqf {r s:List Nat} (h:r <:+ s):r=s.drop (s.length-r.length):=by obtain⟨t,rfl⟩:=h;rw[List.length_append,Nat.add_sub_cancel,List.drop_left]
end Go.Proofs.YtncekbbhgipdlaaGreat
namespace Go.Proofs.YtncekbbhgipdlaaGreat
open Go.RowKit
theorem ZnA (l:List Nat) (k:Nat):(txB l).extract k (txB l).size=txB (l.drop k):=by apply ByteArray.ext;rw[ZaE];simp only[txB,ByteArray.data_extract,List.map_drop,List.extract_toArray,List.extract_eq_take_drop];rw[List.take_of_length_le (by simp)]
theorem Zpu (s:List Nat) (k:Nat) (j:Int) (hj:j=(k:Int)) (hk:k≤s.length):∀ w':World,(Instr.slice 9 (.string (txB s)) (some (.int .i64 j)) none none).run Tryz.prog w' = .ok (.string (txB (s.drop k))) w':=fun w'=>by subst hj;rw[run_slice_string_l w' 9 (txB s) Tryz.underlying9 .i64 k (by omega) (by rw[ZaE];omega),Int.toNat_natCast,ZnA]
theorem Zeq (l:List Nat):(txB l).toList.isEmpty=l.isEmpty:=by rw[ByteArray.toList_eq];cases l<;>rfl
theorem Zg5 (s:ByteArray) (c:Int) (w:World) :
  Calls Tryz.prog 117 #[.string s,.int .u8 c] w fun e w'=>e = .returned (.int .i64 (Lib.indexByte s.data.toList c.toNat.toUInt8))∧w=w':=by
 go_enter Tryz.func117, Tryz.ntmps117
 go_wp2;rw[run_callFunc_extern Tryz.func143 (by kernel_rfl) (by kernel_rfl) (by kernel_rfl) (e:=Extern.BytealgIndexByte.indexByte) (by kernel_rfl),Lib.run_indexByteString];simp only[Result.andThen];rw[Oper.upon_value];go_wp2;go_ret;exact⟨rfl,rfl⟩
theorem Zfn (s:ByteArray) (c:Int) (w:World) (r:Int) (hr:Lib.indexByte s.data.toList c.toNat.toUInt8=r) :
  Calls Tryz.prog 73 #[.string s,.int .u8 c] w fun e w'=>e = .returned (.int .i64 r)∧w=w':=by
 subst hr
 go_enter Tryz.func73, Tryz.ntmps73
 go_wp2_with (go_at_call 117;refine(Zg5 _ _ _).mono ?_;rintro e w' ⟨rfl,rfl⟩);go_ret;exact⟨rfl,rfl⟩
theorem ZrY {c:Nat} (hc:c<256):(0≤Lib.indexByte [48,49,97,98,99,40,33] ((c:Int).toNat.toUInt8))↔jI c=true:=by
 have h:∀ k:Fin 256,(0≤Lib.indexByte [48,49,97,98,99,40,33] (k.val.toUInt8))↔jI k.val=true:=by decide
 simpa using h ⟨c,hc⟩
def Zst (r:List Nat) (f:Bool):Nat:=if f=true then 0 else r.headD 0
theorem ZaC (r:List Nat) (f:Bool) (b:Nat) (w:World) (ht:isT r) (h0:w.cell? ⟨b,0,none⟩=some (.string (txB r))) (h1:w.cell? ⟨b,1,none⟩=some (.bool f)) (c:Nat) (hc:Zst r f=c) :
  Calls Tryz.prog 70 #[.pointer (some ⟨b,0,none⟩)] w fun e w'=>e = .returned (.int .u8 (c:Int))∧w=w':=by
 subst hc;cases f with
 | true =>
  go_enter Tryz.func70, Tryz.ntmps70
  go_wp2;go_ret;exact⟨rfl,rfl⟩
 | false =>
  have he:=Zeq r;cases r with
  | nil =>
   simp only[List.isEmpty_nil] at he
   go_enter Tryz.func70, Tryz.ntmps70
   go_wp2;go_ret;exact⟨rfl,rfl⟩
  | cons x r =>
   simp only[List.isEmpty_cons] at he;have B:=fun u=>Zbx (l:=x::r) (i:=0) (by simp) ht u
   simp only[List.getD_cons_zero,Int.ofNat_zero] at B;obtain⟨s,hs⟩:=eJ (txB (x::r));rw[hs] at he B h0;replace hs:=qh hs
   go_enter Tryz.func70, Tryz.ntmps70
   go_wp2;go_ret;exact⟨rfl,rfl⟩
end Go.Proofs.YtncekbbhgipdlaaGreat
namespace Go.Proofs.YtncekbbhgipdlaaGreat
open Go.RowKit Go.Deep Go.ChangeShapes Go.ChangeAt
section
variable {H:Type} {enc:TypeId × Value→H} {P:Program} {w:World} {held:Bool}
theorem Znv {a:Addr} {v:Value} (h:w.cell? (a.add 0)=some v):∃ b off,a=⟨b,off,none⟩:=by
 obtain⟨b,off,C⟩:=a;have B:C=none:=by simpa [Addr.add] using World.cell?_spot h
 subst B;exact⟨b,off,rfl⟩
theorem Zk6 {a:Addr} {len cap:Nat} {cs:List Value} (hl:cs.length=len) (hle:len≤cap) (hm:cap≤maxLen) (hc:∀ i,i<len→w.cell? (a.add i)=cs[i]?):Sl 0 w (.slice (some a) len cap) len 1 cs:=by refine⟨by omega,_,cap,rfl,hle,hm,fun h0 => ?_⟩;obtain⟨u,hu⟩:∃ u,cs[0]? = some u:=⟨cs[0]'(by omega),by simp[show 0<cs.length by omega]⟩;obtain⟨b,off,rfl⟩:=Znv ((hc 0 h0).trans hu);refine⟨b,off,rfl,Nat.zero_le _,World.block_lt_of_cell? w _ ((hc 0 h0).trans hu),fun j hj => ?_⟩;rw[← hc j (by omega),← Go.WideShapes.add_plain]
end
def Bytes (B:Nat) (w:World) (v:Value) (bs:List Nat):Prop:=(∀ b∈bs,b<256)∧Sl B w v bs.length 1 (bs.map fun (b:Nat)=>Value.int .u8 (b:Int))
theorem Bytes.below {B:Nat} {w w':World} {v:Value} {bs:List Nat} (h:Bytes B w v bs) (he:Below w.heap.size w w'):Bytes B w' v bs:=⟨h.1,Sl.below h.2 he⟩
theorem Bytes.form {B:Nat} {w:World} {v:Value} {bs:List Nat} (h:Bytes B w v bs):∃ a cap,v = .slice a bs.length cap∧bs.length≤cap∧cap≤9223372036854775807 ∧
  (0<bs.length→∃ b off,a=some ⟨b,off,none⟩∧B≤b∧b<w.heap.size∧∀ j,j<bs.length→w.cell? ⟨b,off+j,none⟩=some (.int .u8 (bs.getD j 0:Nat))∧bs.getD j 0<256):=by
 obtain⟨h0,hl,a,cap,C,h1,h2,h3⟩:=h;refine⟨a,cap,C,h1,h2,fun hn => ?_⟩;obtain⟨b,off,ha,hb,hlt,hc⟩:=h3 hn;refine⟨b,off,ha,hb,hlt,fun j hj=>⟨?_,h0 _ (by rw[show bs.getD j 0=bs[j] by simp[hj]];exact List.getElem_mem hj)⟩⟩;rw[hc j (by omega)];simp[hj]
section
variable {H:Type} {enc:TypeId × Value→H} {P:Program} {w:World} {held:Bool}
theorem Zsj {n:Int} (h:(Lit.int .u8 n).wf=true):0≤n∧n≤255:=by have e1:IntKind.u8.min=0:=rfl;have e2:IntKind.u8.max=255:=rfl;simp only[Lit.wf,Bool.and_eq_true,decide_eq_true_eq,e1,e2] at h;exact h
theorem Zkc {t e:TypeId} {D:Nat} {cs:List Value} {x:DataW H × List MemPlace} (ht:P.underlying t=some (.slice e)) (he:P.underlying e=some (.int .u8)) (hc:P.cellsOf e=1)
  (h:DataW.trod enc P w 0 (fun _=>true) held D t cs=some x):∃ v bs,cs=[v]∧Bytes 0 w v bs:=by
 rcases open_ints ht he hc h with⟨B,-⟩|⟨a,len,cap,G,B,-,hl,hm,hz,-,C,F⟩
 ·exact⟨_,[],B,fun b hb=>by simp at hb,by simp,none,0,rfl,Nat.le_refl _,Nat.zero_le _,fun h=>by simp at h⟩
 simp only[if_true] at hz;refine⟨_,(G.take len).map Int.toNat,B,fun b hb => ?_,?_⟩
 ·obtain⟨z,I,rfl⟩:=List.mem_map.1 hb;have:=Zsj (F z (List.mem_of_mem_take I));omega
 have hlen:((G.take len).map Int.toNat).length=len:=by simp;omega
 rw[hlen];refine Zk6 (by simp;omega) hl hm fun i hi => ?_
 rw[C i (by omega)];have E:i<G.length:=by omega
 have:=Zsj (F _ (List.getElem_mem E));simp[hi,E];omega
end
theorem Zkd (a:Nat) (ha:a<1099511627776):(BitVec.ofInt 64 (a:Int)).toNat=a:=by rw[BitVec.ofInt_natCast,BitVec.toNat_ofNat];exact Nat.mod_eq_of_lt (by omega)
theorem ZlB (a b:Nat) (ha:a<1099511627776) (hb:b<1099511627776):bits .xor .i64 (a:Int) (b:Int)=((a ^^^ b:Nat):Int):=by have hx:a ^^^ b<2 ^ 40:=Nat.xor_lt_two_pow (by omega) (by omega);show IntKind.i64.wrap ((BitVec.ofInt 64 (a:Int) ^^^ BitVec.ofInt 64 (b:Int)).toNat:Int)=_;rw[BitVec.toNat_xor,Zkd a ha,Zkd b hb];exact IntWalk.i64_in _ (by omega)
end Go.Proofs.YtncekbbhgipdlaaGreat
namespace Go.Proofs.YtncekbbhgipdlaaGreat
open Go.RowKit
def RdE (b:Nat) (vb:Value) (p:Nat):Ent:=Ent.box b #[vb,.int .i64 ((p:Nat):Int)] 90
theorem Bytes.take {w:World} {a:Option Addr} {len cap:Nat} {bs:List Nat} (h:Bytes 0 w (.slice a len cap) bs) {n:Nat} (hn:n≤bs.length):Bytes 0 w (.slice a n cap) (bs.take n):=by
 obtain⟨h0,hl,C,cap',B,h1,h2,h3⟩:=h;simp only[Value.slice.injEq] at B;obtain⟨rfl,rfl,rfl⟩:=B;have e:(bs.take n).length=n:=by rw[List.length_take];omega
 refine⟨fun b hb=>h0 b (List.mem_of_mem_take hb),?_⟩;rw[e];refine⟨by rw[List.length_map,e];omega,a,cap,rfl,by omega,h2,fun hn0 => ?_⟩;obtain⟨b,off,ha,hb,hlt,hc⟩:=h3 (by omega);refine⟨b,off,ha,hb,hlt,fun j hj => ?_⟩;rw[hc j (by omega),List.map_take,List.getElem?_take_of_lt (by omega)]
theorem Zqs (bs:List Nat) (v:Value) (w:World) (hb:Bytes 0 w v bs) (hlen:bs.length≤100000000) :
  Calls Tryz.prog 27 #[v] w fun e w'=>∃ vb B,B.length≤2000∧Bytes 0 w vb B∧e = .returned (.pointer (some ⟨w.heap.size,0,none⟩))∧St w w' [RdE w.heap.size vb 0]:=by
 obtain⟨a,c,rfl,E,F,-⟩:=hb.form;have D:=qh hb;clear hb;by_cases h2:2000<bs.length
 ·have G:(2000:Int)<bs.length:=by omega
  have H:(2000:Int)≤c:=by omega
  have hS:=(St.start w).alloc _ rfl #[.slice a 2000 c,.int .i64 0] 90;have C:=qh hS;clear hS
  go_enter Tryz.func27, Tryz.ntmps27
  go_wp2;go_ret;exact⟨_,bs.take 2000,by rw[List.length_take];omega,D.o.take (by omega),rfl,C.o⟩
 have G:(2000<(bs.length:Int))=False:=by simp;omega
 have hS:=(St.start w).alloc _ rfl #[.slice a bs.length c,.int .i64 0] 90;have C:=qh hS;have h2:bs.length≤2000:=by omega
 clear hS
 go_enter Tryz.func27, Tryz.ntmps27
 go_wp2;go_ret;exact⟨_,bs,h2,D.o,rfl,C.o⟩
theorem Zbb (bs:List Nat) (vb:Value) (b p n:Nat) (w0 w:World) (X:Ent) (hb:Bytes 0 w0 vb bs) (hlen:bs.length≤2000) (hp:p≤1000000) (hn0:1≤n) (aA:n≤10000) (hS:St w0 w [RdE b vb p,X]) :
  Calls Tryz.prog 37 #[.pointer (some ⟨b,0,none⟩),.int .i64 ((n:Nat):Int)] w fun e w'=>∃ k:Nat,k<n∧e = .returned (.int .i64 ((k:Nat):Int))∧St w0 w' [RdE b vb (p+1),X]:=by
 obtain⟨a,c,rfl,i,l,hr⟩:=hb.form;have e0:=hS.cell (v:=.slice a bs.length c) 0 0 rfl rfl;have e1:=hS.cell (v:=.int .i64 ((p:Nat):Int)) 0 1 rfl rfl;have f1:=hS.fr 0 1 rfl;have O:=hS.set 0 rfl 1 (.int .i64 ((p:Int)+1));have C:=qh O;have Hr:=qh hr;have y:(1:Int)≤n:=by omega
 have q:((n:Int)<1)=False:=by simp;omega
 have s:(p:Int)+1-1=p:=by omega
 clear hb hS hr O;by_cases h0:bs.length=0
 ·have q1:((bs.length:Int)==0)=true:=by rw[h0];rfl
  have x:((bs.length:Int)=0)=True:=by simp[h0]
  go_enter Tryz.func37, Tryz.ntmps37
  go_wp2;go_ret;exact⟨0,by omega,rfl,C.o⟩
 have Z:(bs.length:Int)≠0:=by omega
 have q1:((bs.length:Int)==0)=false:=by rw[beq_eq_false_iff_ne];exact Z
 have x:((bs.length:Int)=0)=False:=eq_false Z;clear Z;obtain⟨b1,o1,rfl,-,hb1,B⟩:=Hr.o (by omega);by_cases hlt:p<bs.length
 ·have hlt2:(p:Int)<bs.length:=by omega
  have e3:=(bcell C.o.bel b1 _ hb1).trans (B p hlt).1;obtain⟨v,T⟩:=eI (bs.getD p 0);have L:=(B p hlt).2;rw[← T] at e3 L;replace T:=qh T;clear B h0
  go_enter Tryz.func37, Tryz.ntmps37
  go_wp2;go_ret;have U:((v:Int) % (n:Int))=((v % n:Nat):Int):=by omega
  exact⟨v % n,Nat.mod_lt _ (by omega),by rw[← U];rfl,C.o⟩
 have hlt2:((p:Int)<bs.length)=False:=by simp;omega
 have I:p % bs.length<bs.length:=Nat.mod_lt _ (by omega);have H:(p*7+3) % bs.length<bs.length:=Nat.mod_lt _ (by omega);have e3:=(bcell C.o.bel b1 _ hb1).trans (B _ I).1;have e4:=(bcell C.o.bel b1 _ hb1).trans (B _ H).1;have Q:=(B _ I).2;have L:=(B _ H).2;have j:(p:Int) % (bs.length:Int)=((p % bs.length:Nat):Int):=by omega
 have t:((p:Int)*7+3) % (bs.length:Int)=(((p*7+3) % bs.length:Nat):Int):=by rw[Int.natCast_emod];congr 1
 have i3:(p:Int) / (bs.length:Int)=((p / bs.length:Nat):Int):=by rw[Int.natCast_ediv]
 have R:p / bs.length≤1000000:=Nat.le_trans (Nat.div_le_self _ _) hp;obtain⟨P,G⟩:∃ u,u=bs.getD (p % bs.length) 0:=⟨_,rfl⟩;obtain⟨N,J⟩:∃ u,u=bs.getD ((p*7+3) % bs.length) 0:=⟨_,rfl⟩;obtain⟨r,D⟩:∃ m,m=p % bs.length:=⟨_,rfl⟩;obtain⟨z,E⟩:∃ m,m=(p*7+3) % bs.length:=⟨_,rfl⟩;obtain⟨M,F⟩:∃ m,m=p / bs.length:=⟨_,rfl⟩;rw[← G] at e3 Q;rw[← J] at e4 L;rw[← D] at e3 j I;rw[← E] at e4 t H;rw[← F] at i3 R;have j1:(r:Int)<bs.length:=by omega
 have j2:(z:Int)<bs.length:=by omega
 replace G:=qh G;have g:=qh J;clear J;replace D:=qh D;have S:=qh E;clear E;have V:=qh F;clear F;clear B h0 hlt
 go_enter Tryz.func37, Tryz.ntmps37
 go_wp2
 go_quiet (fail)
 go_wp2;have d:((P:Int)*131+(N:Int)*1117+(p:Int)*29+(M:Int)*53)=((P*131+N*1117+p*29+M*53:Nat):Int):=by omega
 obtain⟨A,hA⟩:=eI (P*131+N*1117+p*29+M*53);have Y:A<1099511627776:=by omega
 rw[← hA] at d;have hx:(bits BinOp.xor IntKind.i64 ((P:Int)*131+(N:Int)*1117+(p:Int)*29+(M:Int)*53) (((P:Int)*131+(N:Int)*1117+(p:Int)*29+(M:Int)*53) / 64)).tmod (n:Int)=(((A ^^^ (A / 64)) % n:Nat):Int):=by rw[d,show((A:Nat):Int) / 64=((A / 64:Nat):Int) by omega,ZlB A (A / 64) Y (by omega)];exact(Int.ofNat_tmod _ _).symm
 go_ret;exact⟨(A ^^^ (A / 64)) % n,Nat.mod_lt _ (by omega),by rw[← hx];rfl,C.o.drewN _⟩
theorem ZrL (bs:List Nat) (vb:Value) (b p n:Nat) (w0 w:World) (X:Ent) (hb:Bytes 0 w0 vb bs) (hlen:bs.length≤2000) (hp:p≤1000000) (D:n≤10000) (hS:St w0 w [RdE b vb p,X]) :
  Calls Tryz.prog 66 #[.pointer (some ⟨b,0,none⟩),.int .i64 ((n:Nat):Int)] w fun e w'=>∃ (q:Bool) (E:Nat),E≤p+1∧e = .returned (.bool q)∧St w0 w' [RdE b vb E,X]:=by
 have F:=qh hS;have H:=qh hb;clear hS hb;by_cases h0:n=0
 ·subst h0
  go_enter Tryz.func66, Tryz.ntmps66
  go_wp2;go_ret;exact⟨_,p,by omega,rfl,F.o⟩
 have G:(0:Int)<n:=by omega
 go_enter Tryz.func66, Tryz.ntmps66
 go_wp2_with fail;refine(Zbb bs vb b p n w0 _ X H.o hlen hp (by omega) D F.o).mono ?_;rintro e w1 ⟨k,hk,rfl,C⟩;have B:=qh C;clear C;by_cases hkn:(k:Int)=(n:Int)-1
 ·have g1:((k:Int)==(n:Int)-1)=true:=by rw[hkn];simp
  have g2:((k:Int)=(n:Int)-1)=True:=eq_true hkn;clear hkn;go_wp2;go_ret;exact⟨_,p+1,Nat.le_refl _,rfl,B.o⟩
 have g1:((k:Int)==(n:Int)-1)=false:=by rw[beq_eq_false_iff_ne];exact hkn
 have g2:((k:Int)=(n:Int)-1)=False:=eq_false hkn;clear hkn;go_wp2;go_ret;exact⟨_,p+1,Nat.le_refl _,rfl,B.o⟩
def FL:Nat→Nat
 | 0=>1
 | d+1=>2*FL d+1
def FG:Nat→Nat
 | 0=>2
 | d+1=>2*FG d+3
theorem ZiR:∀ d,1≤FL d
 | 0=>Nat.le_refl _
 | d+1=>by unfold FL;omega
theorem ZrA:∀ d,2≤FG d
 | 0=>Nat.le_refl _
 | d+1=>by unfold FG;have:=ZrA d;omega
theorem ZjV {d:Nat} (h:d≤3):FL d≤15∧FG d≤37:=by
 obtain rfl|rfl|rfl|rfl:d=0∨d=1∨d=2∨d=3:=by omega
 all_goals decide
theorem Zcd {a b:Int} (h:a=b):(a==b)=true∧(a=b)=True∧(a != b)=false:=by simp[h]
theorem Zea {x y:Int}:∀ u∈[Value.int .i64 x,Value.int .i64 y],u.oneCell'=true:=by intro u hu;simp at hu;rcases hu with rfl|rfl<;>rfl
theorem Zaj {w:World} {B e:Nat} {v:Value} {xs:List (Int × Int)} (hr:w.ownsRow B e 2 v xs.length (xs.flatMap Zaa)):Pairs 0 w v xs :=
 ((Zab hr).sl (by omega)).mono (Nat.zero_le _)
theorem Tryz.infoPt:(Tryz.prog.info? 62).map (fun i=>(i.zero,i.size,i.bytes))=some (some (.agg #[.int .i64 0,.int .i64 0]),2,16):=by kernel_rfl
def Zbw (a:Option Addr) (c:Nat) (es:List (Int × Int)):Ent:=Ent.row 62 2 (.slice a es.length c) es.length (es.flatMap Zaa)
theorem Zjl (bs:List Nat) (vb:Value) (b:Nat) (w0:World) (hb:Bytes 0 w0 vb bs) (hlen:bs.length≤2000):∀ (d:Nat),d≤3→∀ (L:Bool) (p:Nat) (w:World) (X:Ent),p+FG d≤1000000→St w0 w [RdE b vb p,X] →
  Calls Tryz.prog 36 #[.pointer (some ⟨b,0,none⟩),.int .i64 ((d:Nat):Int),.bool L] w fun e w'=>∃ (a:Option Addr) (c:Nat) (es:List (Int × Int)) (p':Nat),1≤es.length∧es.length≤FL d∧p'≤p+FG d∧e = .returned (.slice a es.length c)∧St w0 w' [RdE b vb p',X,Zbw a c es]:=by
 have Hb:=qh hb;obtain⟨i0,hi,bB,bC,bA⟩:=info_parts Tryz.infoPt;replace hi:=qh hi;have n:=qh bB;clear bB;have j:=qh bC;clear bC;have i:=qh bA;clear bA;clear hb;intro d
 induction d with
 | zero =>
  intro hd L p w X hp hS;have hp:p+2≤1000000:=hp;have HS:=qh hS;clear hS
  go_enter Tryz.func36, Tryz.ntmps36
  go_wp2_with fail;refine(Zbb bs vb b (p) 9 w0 _ X Hb.o hlen (by omega) (by omega) (by omega) HS.o).mono ?_;rintro e w2 ⟨k,hk,rfl,s⟩;by_cases hk0:(k:Int)=0
  ·obtain⟨q1,q2,q3⟩:=Zcd hk0;have l:=qh ((s.alloc _ rfl #[.int .i64 2,.int .i64 0] 62).boxrow 2 1 2 [.int .i64 2,.int .i64 0] rfl rfl (by unfold maxLen;omega));clear s HS hk0;go_wp2;go_ret;exact⟨_,_,[(2,0)],p+1,(by simp),ZiR _,by unfold FG;omega,rfl,l.o⟩
  obtain⟨q1,q2,q3,-⟩:=Zaw hk0;by_cases hk1:(k:Int)=1
  ·obtain⟨z1,z2,z3⟩:=Zcd hk1;have x:=s.alloc _ rfl #[.int .i64 1,.int .i64 2,.int .i64 3] 3;have S:=St.pack (A:=[RdE b vb (p+1)]) (R:=[X,Ent.box w2.heap.size #[.int .i64 1,.int .i64 2,.int .i64 3] 3]) x;have l:=qh x;have m:=qh S;clear s x S HS hk0 hk1;go_wp2_with fail;refine(Zbb bs vb b (p+1) 3 w0 _ _ Hb.o hlen (by omega) (by omega) (by omega) m.o).mono ?_;rintro e w3 ⟨Y,aO,rfl,O⟩;have P:=St.unpack (A:=[RdE b vb (p+1)]) (A':=[RdE b vb (p+1+1)]) (R:=[X,Ent.box w2.heap.size #[.int .i64 1,.int .i64 2,.int .i64 3] 3]) l.o O
   obtain⟨N,aE⟩:∃ N:Int,(#[.int .i64 1,.int .i64 2,.int .i64 3]:Array Value)[Y]? = some (.int .i64 N):=by
    obtain rfl|rfl|rfl:Y=0∨Y=1∨Y=2:=by omega
    all_goals exact⟨_,rfl⟩
   have e5:=P.cell (v:=.int .i64 N) 2 Y rfl aE;have aP:(Y:Int)<3:=by omega
   have Q:=qh (((P.alloc _ rfl #[.int .i64 N,.int .i64 0] 62).boxrow 3 1 2 [.int .i64 N,.int .i64 0] rfl rfl (by unfold maxLen;omega)).pick [0,1,3] (by decide));clear O P aE;go_wp2;go_ret;exact⟨_,_,[(N,0)],p+1+1,(by simp),ZiR _,by unfold FG;omega,rfl,Q.o⟩
  obtain⟨z1,z2,z3,-⟩:=Zaw hk1;have l:=qh s;clear s HS hk0 hk1;go_wp2_with fail;refine(Zbb bs vb b (p+1) 3 w0 _ X Hb.o hlen (by omega) (by omega) (by omega) l.o).mono ?_;rintro e w3 ⟨Y,aO,rfl,O⟩;have Q:=qh ((O.alloc _ rfl #[.int .i64 3,.int .i64 ((Y:Nat):Int)] 62).boxrow 2 1 2 [.int .i64 3,.int .i64 ((Y:Nat):Int)] rfl rfl (by unfold maxLen;omega));clear O;go_wp2;go_ret;exact⟨_,_,[(3,((Y:Nat):Int))],p+1+1,(by simp),ZiR _,by unfold FG;omega,rfl,Q.o⟩
 | succ d ih =>
  intro hd L p w X hp hS;have aU:=qh hS;clear hS;have bG:=ZjV (d:=d) (by omega);have hp:p+(2*FG d+3)≤1000000:=hp;have bH:=ZrA d;obtain⟨D,hD⟩:=eI (d+1);rw[← hD];have aS:(D:Int)≠0:=by omega
  obtain⟨y1,y2,y3,y4⟩:=Zaw aS;have hD1:(D:Int)-1=(d:Int):=by omega
  have aX:FL D=FL (d+1):=by rw[hD]
  have hfg:FG D=FG (d+1):=by rw[hD]
  rw[aX,hfg];replace hD:=qh hD;clear aS aX hfg
  go_enter Tryz.func36, Tryz.ntmps36
  go_wp2_with fail;refine(Zbb bs vb b p 4 w0 _ X Hb.o hlen (by omega) (by omega) (by omega) aU.o).mono ?_;rintro e w1 ⟨k0,bF,rfl,aW⟩;have HS:=qh aW;clear aW aU;by_cases hkz:(k0:Int)=0
  ·obtain⟨x1,x2,x3⟩:=Zcd hkz;clear hkz;go_wp2_with fail;refine(Zbb bs vb b (p+1) 9 w0 _ X Hb.o hlen (by omega) (by omega) (by omega) HS.o).mono ?_;rintro e w2 ⟨k,hk,rfl,s⟩;by_cases hk0:(k:Int)=0
   ·obtain⟨q1,q2,q3⟩:=Zcd hk0;have l:=qh ((s.alloc _ rfl #[.int .i64 2,.int .i64 0] 62).boxrow 2 1 2 [.int .i64 2,.int .i64 0] rfl rfl (by unfold maxLen;omega));clear s HS hk0;go_wp2;go_ret;exact⟨_,_,[(2,0)],p+1+1,(by simp),ZiR _,by unfold FG;omega,rfl,l.o⟩
   obtain⟨q1,q2,q3,-⟩:=Zaw hk0;by_cases hk1:(k:Int)=1
   ·obtain⟨z1,z2,z3⟩:=Zcd hk1;have x:=s.alloc _ rfl #[.int .i64 1,.int .i64 2,.int .i64 3] 3;have S:=St.pack (A:=[RdE b vb (p+1+1)]) (R:=[X,Ent.box w2.heap.size #[.int .i64 1,.int .i64 2,.int .i64 3] 3]) x;have l:=qh x;have m:=qh S;clear s x S HS hk0 hk1;go_wp2_with fail;refine(Zbb bs vb b (p+1+1) 3 w0 _ _ Hb.o hlen (by omega) (by omega) (by omega) m.o).mono ?_;rintro e w3 ⟨Y,aO,rfl,O⟩;have P:=St.unpack (A:=[RdE b vb (p+1+1)]) (A':=[RdE b vb (p+1+1+1)]) (R:=[X,Ent.box w2.heap.size #[.int .i64 1,.int .i64 2,.int .i64 3] 3]) l.o O
    obtain⟨N,aE⟩:∃ N:Int,(#[.int .i64 1,.int .i64 2,.int .i64 3]:Array Value)[Y]? = some (.int .i64 N):=by
     obtain rfl|rfl|rfl:Y=0∨Y=1∨Y=2:=by omega
     all_goals exact⟨_,rfl⟩
    have e5:=P.cell (v:=.int .i64 N) 2 Y rfl aE;have aP:(Y:Int)<3:=by omega
    have Q:=qh (((P.alloc _ rfl #[.int .i64 N,.int .i64 0] 62).boxrow 3 1 2 [.int .i64 N,.int .i64 0] rfl rfl (by unfold maxLen;omega)).pick [0,1,3] (by decide));clear O P aE;go_wp2;go_ret;exact⟨_,_,[(N,0)],p+1+1+1,(by simp),ZiR _,by unfold FG;omega,rfl,Q.o⟩
   obtain⟨z1,z2,z3,-⟩:=Zaw hk1;have l:=qh s;clear s HS hk0 hk1;go_wp2_with fail;refine(Zbb bs vb b (p+1+1) 3 w0 _ X Hb.o hlen (by omega) (by omega) (by omega) l.o).mono ?_;rintro e w3 ⟨Y,aO,rfl,O⟩;have Q:=qh ((O.alloc _ rfl #[.int .i64 3,.int .i64 ((Y:Nat):Int)] 62).boxrow 2 1 2 [.int .i64 3,.int .i64 ((Y:Nat):Int)] rfl rfl (by unfold maxLen;omega));clear O;go_wp2;go_ret;exact⟨_,_,[(3,((Y:Nat):Int))],p+1+1+1,(by simp),ZiR _,by unfold FG;omega,rfl,Q.o⟩
  obtain⟨x1,x2,x3,-⟩:=Zaw hkz;clear hkz;have x:=HS.o.alloc _ rfl #[.int .i64 4,.int .i64 4,.int .i64 4,.int .i64 5,.int .i64 5,.int .i64 8,.int .i64 8,.int .i64 6,.int .i64 7] 3;have S:=St.pack (A:=[RdE b vb (p+1)]) (R:=[X,Ent.box w1.heap.size #[.int .i64 4,.int .i64 4,.int .i64 4,.int .i64 5,.int .i64 5,.int .i64 8,.int .i64 8,.int .i64 6,.int .i64 7] 3]) x;have l:=qh x;have m:=qh S;clear x S HS;go_wp2_with fail;refine(Zbb bs vb b (p+1) 9 w0 _ _ Hb.o hlen (by omega) (by omega) (by omega) m.o).mono ?_;rintro e w3 ⟨Y,aO,rfl,O⟩;have P:=St.unpack (A:=[RdE b vb (p+1)]) (A':=[RdE b vb (p+1+1)]) (R:=[X,Ent.box w1.heap.size #[.int .i64 4,.int .i64 4,.int .i64 4,.int .i64 5,.int .i64 5,.int .i64 8,.int .i64 8,.int .i64 6,.int .i64 7] 3]) l.o O
  obtain⟨N,aE,aV⟩:∃ N:Int,(#[.int .i64 4,.int .i64 4,.int .i64 4,.int .i64 5,.int .i64 5,.int .i64 8,.int .i64 8,.int .i64 6,.int .i64 7]:Array Value)[Y]? = some (.int .i64 N)∧(N=4∨N=5∨N=6∨N=7∨N=8):=by
   obtain rfl|rfl|rfl|rfl|rfl|rfl|rfl|rfl|rfl:Y=0∨Y=1∨Y=2∨Y=3∨Y=4∨Y=5∨Y=6∨Y=7∨Y=8:=by omega
   all_goals exact⟨_,rfl,by decide⟩
  have e5:=P.cell (v:=.int .i64 N) 2 Y rfl aE;have aP:(Y:Int)<9:=by omega
  have aR:=qh (P.pick [0,1] (by decide));clear O P aE l m;by_cases hC:L=true∧(N=6∨N=7)
  ·obtain⟨rfl,hC⟩:=hC;rcases hC with rfl|rfl
   all_goals
    go_wp2_with fail;refine(ih (by omega) true (p+1+1) _ X (by omega) aR.o).mono ?_;rintro e w4 ⟨a,c,es,p4,-,aT,aY,rfl,S⟩;have O:=St.pack (A:=[RdE b vb p4]) (R:=[X,Zbw a c es]) S;have m:=qh S;have aG:=qh O;clear S O;go_wp2_with fail;refine(Zbb bs vb b p4 9 w0 _ _ Hb.o hlen (by omega) (by omega) (by omega) aG.o).mono ?_;rintro e w5 ⟨k3,bE,rfl,P⟩;have r:=St.unpack (A:=[RdE b vb p4]) (A':=[RdE b vb (p4+1)]) (R:=[X,Zbw a c es]) m.o P;by_cases hk0:(k3:Int)=0
    ·obtain⟨q1,q2,q3⟩:=Zcd hk0;have hR:=r.row 2 rfl;have HR:=qh hR;have aF:=qh (Zaj hR);have Q:=qh r;clear P r hR hk0 m aG
     go_wp2_with (first|(at_builtin;refine Zak _ rfl _ _ _ rfl _ 62 i0 (.agg #[.int .i64 0,.int .i64 0]) 2 16 Tryz.underlying28 hi.o n.o j.o i.o rfl (by omega) (.slice a es.length c) es.length (es.flatMap Zaa) rfl HR.o (.slice a es.length c) es.length (es.flatMap Zaa) rfl aF.o ZcC (by unfold maxLen;omega) (by omega) Q.o.size ?_;intro a6 c6 w6 H G V;have Z:=Q.o.appS 2 rfl H G V;rw[← List.flatMap_append,← List.length_append] at Z;have U:=qh Z;rw[← List.length_append];clear H G V Z;obtain⟨E,C⟩:=eI (es++es);obtain⟨pz,J⟩:=eI (p4+1);obtain⟨u,M⟩:∃ u:World,u=w6:=⟨_,rfl⟩;have aB:E.length+1≤FL (d+1):=(by rw[C,List.length_append];unfold FL;omega);have aC:pz≤p+FG (d+1):=(by rw[J];unfold FG;omega);have aQ:E.length≤100:=(by rw[C,List.length_append];omega);rw[← C,← M,← J] at U;rw[← C,← M];have T:=U.o.alloc_ (.cells #[.int .i64 4,.int .i64 0] 62);have aA:=qh (T.row 2 rfl);have q:=qh T;have aL:=qh C;clear C;have aK:=qh J;clear J;have aI:=qh M;clear M;clear T U)|(at_builtin;refine wpList_append_lies _ rfl _ _ _ rfl _ 62 i0 (.agg #[.int .i64 0,.int .i64 0]) 2 16 Tryz.underlying28 hi.o n.o j.o i.o rfl (by omega) _ E.length _ rfl aA.o ⟨u.heap.size,0,none⟩ 1 1 [.int .i64 4,.int .i64 0] rfl rfl (World.news_of_block (heap_alloc_new u _)) Zea (by omega) (by unfold maxLen;omega) (by omega) q.o.size _ rfl ?_;intro g7 c7 w7 F B I g;have aD:=qh (q.o.app 2 rfl F B I);clear F B I g))
     go_ret;refine⟨some ⟨g7,0,none⟩,c7,E++[(4,0)],pz,(by simp),by rw[List.length_append];exact aB,aC,by rw[List.length_append];rfl,?_⟩;unfold Zbw;rw[List.length_append,List.flatMap_append];exact aD.o
    obtain⟨q1,q2,q3,-⟩:=Zaw hk0;have aJ:=St.pack (A:=[RdE b vb (p4+1)]) (R:=[X,Zbw a c es]) r;have Q:=qh r;have aM:=qh aJ;clear P r aJ hk0 m aG;go_wp2_with fail;refine(ih (by omega) true (p4+1) _ _ (by omega) aM.o).mono ?_;rintro e w8 ⟨a2,c2,y,p8,-,aZ,bD,rfl,aH⟩;have z:=(St.unpack (A:=[RdE b vb (p4+1)]) (A':=[RdE b vb p8,Zbw a2 c2 y]) (R:=[X,Zbw a c es]) Q.o (aH.pick [0,2,1] (by decide))).pick [0,2,3,1] (by decide);have hR:=z.row 2 rfl;have HR:=qh hR;have aF:=qh (Zaj (z.row 3 rfl));have aN:=qh z;clear aH z hR Q aM
    go_wp2_with (first|(at_builtin;refine Zak _ rfl _ _ _ rfl _ 62 i0 (.agg #[.int .i64 0,.int .i64 0]) 2 16 Tryz.underlying28 hi.o n.o j.o i.o rfl (by omega) (.slice a es.length c) es.length (es.flatMap Zaa) rfl HR.o (.slice a2 y.length c2) y.length (y.flatMap Zaa) rfl aF.o ZcC (by unfold maxLen;omega) (by omega) aN.o.size ?_;intro a6 c6 w6 H G V;have Z:=(aN.o.appS 2 rfl H G V).pick [0,1,2] (by decide);rw[← List.flatMap_append,← List.length_append] at Z;have U:=qh Z;rw[← List.length_append];clear H G V Z;obtain⟨E,C⟩:=eI (es++y);obtain⟨pz,J⟩:=eI p8;obtain⟨u,M⟩:∃ u:World,u=w6:=⟨_,rfl⟩;have aB:E.length+1≤FL (d+1):=(by rw[C,List.length_append];unfold FL;omega);have aC:pz≤p+FG (d+1):=(by rw[J];unfold FG;omega);have aQ:E.length≤100:=(by rw[C,List.length_append];omega);rw[← C,← M,← J] at U;rw[← C,← M];have T:=U.o.alloc_ (.cells #[.int .i64 4,.int .i64 0] 62);have aA:=qh (T.row 2 rfl);have q:=qh T;have aL:=qh C;clear C;have aK:=qh J;clear J;have aI:=qh M;clear M;clear T U)|(at_builtin;refine wpList_append_lies _ rfl _ _ _ rfl _ 62 i0 (.agg #[.int .i64 0,.int .i64 0]) 2 16 Tryz.underlying28 hi.o n.o j.o i.o rfl (by omega) _ E.length _ rfl aA.o ⟨u.heap.size,0,none⟩ 1 1 [.int .i64 4,.int .i64 0] rfl rfl (World.news_of_block (heap_alloc_new u _)) Zea (by omega) (by unfold maxLen;omega) (by omega) q.o.size _ rfl ?_;intro g7 c7 w7 F B I g;have aD:=qh (q.o.app 2 rfl F B I);clear F B I g))
    go_ret;refine⟨some ⟨g7,0,none⟩,c7,E++[(4,0)],pz,(by simp),by rw[List.length_append];exact aB,aC,by rw[List.length_append];rfl,?_⟩;unfold Zbw;rw[List.length_append,List.flatMap_append];exact aD.o
  by_cases h8:N=7∨N=8
  ·obtain⟨z1,z2,z3,z4⟩:=Zaw (show N≠6 by omega);by_cases h7:N=7
   rotate_left
   obtain⟨u1,u2,u3⟩:=Zcd (show N=8 by omega);obtain⟨t1,t2,t3,t4⟩:=Zaw h7;cases L
   rotate_left 2
   obtain⟨u1,u2,u3⟩:=Zcd h7;obtain⟨t1,t2,t3,t4⟩:=Zaw (show N≠8 by omega)
   obtain rfl:L=false:=by
    cases L with
    | false=>rfl
    | true=>exact absurd ⟨rfl,.inr h7⟩ hC
   all_goals
    clear aV hC h8 h7;go_wp2_with fail;refine(ih (by omega) _ (p+1+1) _ X (by omega) aR.o).mono ?_;rintro e w4 ⟨a,c,es,p4,-,aT,aY,rfl,S⟩;obtain⟨E,C⟩:=eI es;obtain⟨pz,J⟩:=eI p4;obtain⟨u,M⟩:∃ u:World,u=w4:=⟨_,rfl⟩;subst C;subst J;subst M;have aB:E.length+1≤FL (d+1):=by unfold FL;omega
    have aC:pz≤p+FG (d+1):=by unfold FG;omega
    have U:=qh S;clear S;have T:=U.o.alloc_ (.cells #[.int .i64 N,.int .i64 0] 62);have aA:=qh (T.row 2 rfl);have q:=qh T;clear T U;go_wp2_with (at_builtin;refine wpList_append_lies _ rfl _ _ _ rfl _ 62 i0 (.agg #[.int .i64 0,.int .i64 0]) 2 16 Tryz.underlying28 hi.o n.o j.o i.o rfl (by omega) _ E.length _ rfl aA.o ⟨u.heap.size,0,none⟩ 1 1 [.int .i64 N,.int .i64 0] rfl rfl (World.news_of_block (heap_alloc_new u _)) Zea (by omega) (by unfold maxLen;omega) (by omega) q.o.size _ rfl ?_;intro g7 c7 w7 F B I g;have aD:=qh (q.o.app 2 rfl F B I);clear F B I g);go_ret;refine⟨some ⟨g7,0,none⟩,c7,E++[(N,0)],pz,(by simp),by rw[List.length_append];exact aB,aC,by rw[List.length_append];rfl,?_⟩;unfold Zbw;rw[List.length_append,List.flatMap_append];exact aD.o
  obtain⟨u1,u2,u3,u4⟩:=Zaw (show N≠8 from fun h=>h8 (.inr h));obtain⟨t1,t2,t3,t4⟩:=Zaw (show N≠7 from fun h=>h8 (.inl h))
  have h6:L=false∨N≠6:=by
   cases L with
   | false=>exact .inl rfl
   | true=>exact .inr fun h=>hC ⟨rfl,.inl h⟩
  rcases h6 with rfl|n6
  rotate_left
  obtain⟨z1,z2,z3,z4⟩:=Zaw n6;cases L
  all_goals
   clear aV hC h8;go_wp2_with fail;refine(ih (by omega) _ (p+1+1) _ X (by omega) aR.o).mono ?_;rintro e w4 ⟨a,c,es,p4,-,aT,aY,rfl,S⟩;have O:=St.pack (A:=[RdE b vb p4]) (R:=[X,Zbw a c es]) S;have m:=qh S;have aG:=qh O;clear S O;go_wp2_with fail;refine(Zbb bs vb b p4 9 w0 _ _ Hb.o hlen (by omega) (by omega) (by omega) aG.o).mono ?_;rintro e w5 ⟨k3,bE,rfl,P⟩;have r:=St.unpack (A:=[RdE b vb p4]) (A':=[RdE b vb (p4+1)]) (R:=[X,Zbw a c es]) m.o P;by_cases hk0:(k3:Int)=0
   ·obtain⟨q1,q2,q3⟩:=Zcd hk0;have hR:=r.row 2 rfl;have HR:=qh hR;have aF:=qh (Zaj hR);have Q:=qh r;clear P r hR hk0 m aG
    go_wp2_with (first|(at_builtin;refine Zak _ rfl _ _ _ rfl _ 62 i0 (.agg #[.int .i64 0,.int .i64 0]) 2 16 Tryz.underlying28 hi.o n.o j.o i.o rfl (by omega) (.slice a es.length c) es.length (es.flatMap Zaa) rfl HR.o (.slice a es.length c) es.length (es.flatMap Zaa) rfl aF.o ZcC (by unfold maxLen;omega) (by omega) Q.o.size ?_;intro a6 c6 w6 H G V;have Z:=Q.o.appS 2 rfl H G V;rw[← List.flatMap_append,← List.length_append] at Z;have U:=qh Z;rw[← List.length_append];clear H G V Z;obtain⟨E,C⟩:=eI (es++es);obtain⟨pz,J⟩:=eI (p4+1);obtain⟨u,M⟩:∃ u:World,u=w6:=⟨_,rfl⟩;have aB:E.length+1≤FL (d+1):=(by rw[C,List.length_append];unfold FL;omega);have aC:pz≤p+FG (d+1):=(by rw[J];unfold FG;omega);have aQ:E.length≤100:=(by rw[C,List.length_append];omega);rw[← C,← M,← J] at U;rw[← C,← M];have T:=U.o.alloc_ (.cells #[.int .i64 N,.int .i64 0] 62);have aA:=qh (T.row 2 rfl);have q:=qh T;have aL:=qh C;clear C;have aK:=qh J;clear J;have aI:=qh M;clear M;clear T U)|(at_builtin;refine wpList_append_lies _ rfl _ _ _ rfl _ 62 i0 (.agg #[.int .i64 0,.int .i64 0]) 2 16 Tryz.underlying28 hi.o n.o j.o i.o rfl (by omega) _ E.length _ rfl aA.o ⟨u.heap.size,0,none⟩ 1 1 [.int .i64 N,.int .i64 0] rfl rfl (World.news_of_block (heap_alloc_new u _)) Zea (by omega) (by unfold maxLen;omega) (by omega) q.o.size _ rfl ?_;intro g7 c7 w7 F B I g;have aD:=qh (q.o.app 2 rfl F B I);clear F B I g))
    go_ret;refine⟨some ⟨g7,0,none⟩,c7,E++[(N,0)],pz,(by simp),by rw[List.length_append];exact aB,aC,by rw[List.length_append];rfl,?_⟩;unfold Zbw;rw[List.length_append,List.flatMap_append];exact aD.o
   obtain⟨q1,q2,q3,-⟩:=Zaw hk0;have aJ:=St.pack (A:=[RdE b vb (p4+1)]) (R:=[X,Zbw a c es]) r;have Q:=qh r;have aM:=qh aJ;clear P r aJ hk0 m aG;go_wp2_with fail;refine(ih (by omega) _ (p4+1) _ _ (by omega) aM.o).mono ?_;rintro e w8 ⟨a2,c2,y,p8,-,aZ,bD,rfl,aH⟩;have z:=(St.unpack (A:=[RdE b vb (p4+1)]) (A':=[RdE b vb p8,Zbw a2 c2 y]) (R:=[X,Zbw a c es]) Q.o (aH.pick [0,2,1] (by decide))).pick [0,2,3,1] (by decide);have hR:=z.row 2 rfl;have HR:=qh hR;have aF:=qh (Zaj (z.row 3 rfl));have aN:=qh z;clear aH z hR Q aM
   go_wp2_with (first|(at_builtin;refine Zak _ rfl _ _ _ rfl _ 62 i0 (.agg #[.int .i64 0,.int .i64 0]) 2 16 Tryz.underlying28 hi.o n.o j.o i.o rfl (by omega) (.slice a es.length c) es.length (es.flatMap Zaa) rfl HR.o (.slice a2 y.length c2) y.length (y.flatMap Zaa) rfl aF.o ZcC (by unfold maxLen;omega) (by omega) aN.o.size ?_;intro a6 c6 w6 H G V;have Z:=(aN.o.appS 2 rfl H G V).pick [0,1,2] (by decide);rw[← List.flatMap_append,← List.length_append] at Z;have U:=qh Z;rw[← List.length_append];clear H G V Z;obtain⟨E,C⟩:=eI (es++y);obtain⟨pz,J⟩:=eI p8;obtain⟨u,M⟩:∃ u:World,u=w6:=⟨_,rfl⟩;have aB:E.length+1≤FL (d+1):=(by rw[C,List.length_append];unfold FL;omega);have aC:pz≤p+FG (d+1):=(by rw[J];unfold FG;omega);have aQ:E.length≤100:=(by rw[C,List.length_append];omega);rw[← C,← M,← J] at U;rw[← C,← M];have T:=U.o.alloc_ (.cells #[.int .i64 N,.int .i64 0] 62);have aA:=qh (T.row 2 rfl);have q:=qh T;have aL:=qh C;clear C;have aK:=qh J;clear J;have aI:=qh M;clear M;clear T U)|(at_builtin;refine wpList_append_lies _ rfl _ _ _ rfl _ 62 i0 (.agg #[.int .i64 0,.int .i64 0]) 2 16 Tryz.underlying28 hi.o n.o j.o i.o rfl (by omega) _ E.length _ rfl aA.o ⟨u.heap.size,0,none⟩ 1 1 [.int .i64 N,.int .i64 0] rfl rfl (World.news_of_block (heap_alloc_new u _)) Zea (by omega) (by unfold maxLen;omega) (by omega) q.o.size _ rfl ?_;intro g7 c7 w7 F B I g;have aD:=qh (q.o.app 2 rfl F B I);clear F B I g))
   go_ret;refine⟨some ⟨g7,0,none⟩,c7,E++[(N,0)],pz,(by simp),by rw[List.length_append];exact aB,aC,by rw[List.length_append];rfl,?_⟩;unfold Zbw;rw[List.length_append,List.flatMap_append];exact aD.o
def RRd (x:PS) (r:List Nat) (b:Nat) (X:Ent) (w0:World) (e:Ending) (w':World):Prop :=
 ∃ a c r',e = .returned (.slice a x.1.length c)∧(x.2.2=false→r'=x.2.1)∧r'.length≤r.length∧isT r'∧St w0 w' [Ent.box b #[.string (txB r'),.bool x.2.2] 54,X,Ent.row 62 2 (.slice a x.1.length c) x.1.length (x.1.flatMap Zaa)]
def Zsi (n:Nat):Prop:=∀ (r:List Nat) (b:Nat) (w0 w:World) (X:Ent),fuP 6 r≤n→r.length≤120→isT r→St w0 w [Ent.box b #[.string (txB r),.bool false] 54,X]→Calls Tryz.prog 115 #[.pointer (some ⟨b,0,none⟩)] w (RRd (rdP jI n 6 r) r b X w0)
def Zsg (n:Nat):Prop:=∀ (r:List Nat) (b:Nat) (w0 w:World) (X:Ent),fuP 5 r≤n→r.length≤120→isT r→St w0 w [Ent.box b #[.string (txB r),.bool false] 54,X]→Calls Tryz.prog 71 #[.pointer (some ⟨b,0,none⟩)] w (RRd (rdP jI n 5 r) r b X w0)
def ZiQ (n:Nat):Prop:=∀ (l:Nat) (r:List Nat) (b:Nat) (w0 w:World) (X:Ent),1≤l→l≤4→fuP l r≤n→r.length≤120→isT r→St w0 w [Ent.box b #[.string (txB r),.bool false] 54,X]→Calls Tryz.prog 30 #[.pointer (some ⟨b,0,none⟩),.int .i64 (l:Int)] w (RRd (rdP jI n l r) r b X w0)
theorem ZcG {c:Nat} {r:List Nat} (h:isT (c::r)):isT r∧c<256:=⟨fun x hx=>h x (List.mem_cons_of_mem _ hx),h c (by simp)⟩
theorem Zev (c:Nat) (r:List Nat):∀ w':World,(Instr.slice 9 (.string (txB (c::r))) (some (.int .i64 1)) none none).run Tryz.prog w' = .ok (.string (txB r)) w':=Zpu (c::r) 1 1 rfl (by simp)
theorem RRd.nil {r r':List Nat} {b:Nat} {X:Ent} {w0 w:World} (r1:List Nat) (hl:r'.length≤r.length) (ht:isT r') (hS:St w0 w [Ent.box b #[.string (txB r'),.bool true] 54,X]):RRd ([],r1,true) r b X w0 (.returned (.slice none 0 0)) w :=
 ⟨none,0,r',rfl,(fun h=>by cases h),hl,ht,hS.nilRow 62 2⟩
theorem ZpT (n:Nat) (hL:ZiQ n):Zsi (n+1):=by
 intro r b w0 w X hn hl ht hS;have F:=qh hS;have f1:=hS.fr 0 1 rfl;have k1:=hS.cell (v:=.bool false) 0 1 rfl rfl;clear hS;cases r with
 | nil =>
  have D:=qh (F.o.set 0 rfl 1 (.bool true));have j:=qh (RRd.nil (r:=[]) (b:=b) [] (Nat.le_refl _) ht D.o);replace ht:=qh ht
  go_enter Tryz.func115, Tryz.ntmps115
  go_wp2_with (go_at_call 70;refine(ZaC [] false b _ ht.o (F.o.cell (v:=.string (txB [])) 0 0 rfl rfl) (F.o.cell (v:=.bool false) 0 1 rfl rfl) (0) rfl).mono ?_;rintro e w' ⟨rfl,rfl⟩);go_ret;exact j.o
 | cons c r1 =>
  obtain⟨R,hc⟩:=ZcG ht;have z:r1.length≤119:=by simp at hl;omega
  have J:r1.length≤(c::r1).length:=by simp
  have aD:(0:Int)≤(c:Int)∧(c:Int)<256:=by omega
  by_cases c0:c=0
  ·subst c0;have D:=qh (F.o.set 0 rfl 1 (.bool true));have j:=qh (RRd.nil (r:=0::r1) (b:=b) r1 (Nat.le_refl _) ht D.o);have B:rdP jI (n+1) 6 (0::r1)=([],r1,true):=rfl;rw[B];replace ht:=qh ht;have G:=qh B;clear B
   go_enter Tryz.func115, Tryz.ntmps115
   go_wp2_with (go_at_call 70;refine(ZaC (0::r1) false b _ ht.o (F.o.cell (v:=.string (txB (0::r1))) 0 0 rfl rfl) (F.o.cell (v:=.bool false) 0 1 rfl rfl) (0) rfl).mono ?_;rintro e w' ⟨rfl,rfl⟩);go_ret;exact j.o
  have f0:=F.o.fr 0 0 rfl;have k0:=F.o.cell (v:=.string (txB (c::r1))) 0 0 rfl rfl;have hcut:=Zev c r1;have H:=qh (show St w0 _ [Ent.box b #[.string (txB r1),.bool false] 54,X] from F.o.set 0 rfl 0 (.string (txB r1)));have B:rdP jI (n+1) 6 (c::r1)=match Zf3 c with|some p=>([p],r1,false)|none=>if c=40 then brkP (rdP jI n 1 r1) else([],r1,true):=rfl
  have aC:=H.o.cell (v:=.bool false) 0 1 rfl rfl;have f1':=H.o.fr 0 1 rfl;replace ht:=qh ht;by_cases c48:c=48
  ·subst c48;rw[show rdP jI (n+1) 6 (48::r1)=([(1,0)],r1,false) from B];have G:=qh B;clear B
   go_enter Tryz.func115, Tryz.ntmps115
   go_wp2_with (first
    | (go_at_call 70;refine(ZaC (48::r1) false b _ ht.o (F.o.cell (v:=.string (txB (48::r1))) 0 0 rfl rfl) (F.o.cell (v:=.bool false) 0 1 rfl rfl) (48) rfl).mono ?_;rintro e w' ⟨rfl,rfl⟩)
    | (go_at_call 93;refine(Zme 1 _).mono ?_;rintro e w2 ⟨a2,c2,rfl,P⟩;have O:=qh (H.o.cat P);clear P))
   go_ret;exact⟨a2,c2,r1,rfl,fun _=>rfl,J,R,O.o⟩
  by_cases c49:c=49
  ·subst c49;rw[show rdP jI (n+1) 6 (49::r1)=([(2,0)],r1,false) from B];have G:=qh B;clear B
   go_enter Tryz.func115, Tryz.ntmps115
   go_wp2_with (first
    | (go_at_call 70;refine(ZaC (49::r1) false b _ ht.o (F.o.cell (v:=.string (txB (49::r1))) 0 0 rfl rfl) (F.o.cell (v:=.bool false) 0 1 rfl rfl) (49) rfl).mono ?_;rintro e w' ⟨rfl,rfl⟩)
    | (go_at_call 93;refine(Zme 2 _).mono ?_;rintro e w2 ⟨a2,c2,rfl,P⟩;have O:=qh (H.o.cat P);clear P))
   go_ret;exact⟨a2,c2,r1,rfl,fun _=>rfl,J,R,O.o⟩
  by_cases cl:97≤c∧c≤99
  ·have hp:Zf3 c=some (3,(c:Int)-97):=by unfold Zf3;rw[if_neg c48,if_neg c49,if_pos cl]
   rw[hp] at B;rw[B];have hin:inB (c:Int) 97 99=true:=by unfold inB;simp;omega
   have aA:IntKind.u8.wrap ((c:Int)-97)=(c:Int)-97:=IntWalk.u8_in _ (by omega);have aB:IntKind.i64.wrap ((c:Int)-97)=(c:Int)-97:=IntWalk.i64_in _ (by omega);have U:IntKind.i64.wrap (c:Int)=(c:Int):=IntWalk.i64_in _ (by omega);have l:((c:Int)=0)=False:=by simp;omega
   have m:((c:Int)=48)=False:=by simp;omega
   have k:((c:Int)=49)=False:=by simp;omega
   have O:=qh (((H.o.alloc (w.heap.size) (by simp) #[.int .i64 3,.int .i64 ((c:Int)-97)] 62).boxrow 2 1 2 [.int .i64 3,.int .i64 ((c:Int)-97)] rfl rfl (by unfold maxLen;omega)));have G:=qh B;clear B;replace hin:=qh hin;have Y:=qh hp;clear hp
   go_enter Tryz.func115, Tryz.ntmps115
   go_wp2_with (first
    | (go_at_call 70;refine(ZaC (c::r1) false b _ ht.o (F.o.cell (v:=.string (txB (c::r1))) 0 0 rfl rfl) (F.o.cell (v:=.bool false) 0 1 rfl rfl) (c) rfl).mono ?_;rintro e w' ⟨rfl,rfl⟩)
    | (go_at_call 110;refine(Zbd _ _ _ _ _ hin.o).mono ?_;rintro e w' ⟨rfl,rfl⟩))
   go_ret;exact⟨_,_,r1,rfl,fun _=>rfl,J,R,O.o⟩
  have hp:Zf3 c=none:=by unfold Zf3;rw[if_neg c48,if_neg c49,if_neg cl]
  rw[hp] at B;have hin:inB (c:Int) 97 99=false:=by unfold inB;simp;omega
  have U:IntKind.i64.wrap (c:Int)=(c:Int):=IntWalk.i64_in _ (by omega);have l:((c:Int)=0)=False:=by simp;omega
  have m:((c:Int)=48)=False:=by simp;omega
  have k:((c:Int)=49)=False:=by simp;omega
  have Y:=qh hp;clear hp;replace hin:=qh hin;by_cases c40:c=40
  ·subst c40;rw[show rdP jI (n+1) 6 (40::r1)=brkP (rdP jI n 1 r1) from B];obtain⟨x,hx⟩:=eJ (rdP jI n 1 r1);have S:=fun u (hu:St w0 u [Ent.box b #[.string (txB r1),.bool false] 54,X])=>hL 1 r1 b w0 u X (by omega) (by omega) (by unfold fuP at hn ⊢;simp at hn;omega) (by omega) R hu
   rw[hx] at S ⊢;obtain⟨es,q,fl⟩:=x;have a:=qh S;have G:=qh B;clear B;have s:=qh hx;clear hx;clear l m k U cl c48 c49 c0 S
   go_enter Tryz.func115, Tryz.ntmps115
   go_wp2_with (first
    | (go_at_call 70;refine(ZaC (40::r1) false b _ ht.o (F.o.cell (v:=.string (txB (40::r1))) 0 0 rfl rfl) (F.o.cell (v:=.bool false) 0 1 rfl rfl) (40) rfl).mono ?_;rintro e w' ⟨rfl,rfl⟩)
    | (go_at_call 110;refine(Zbd _ _ _ _ _ hin.o).mono ?_;rintro e w' ⟨rfl,rfl⟩)
    | (go_at_call 30;refine(a.o _ H.o).mono ?_;rintro e w2 ⟨a3,c3,V,rfl,Q,y,E,M⟩))
   have C:=qh M;have I:V.length≤(40::r1).length:=by simp;omega
   have k3:=M.cell (v:=.bool fl) 0 1 rfl rfl;have f3:=M.fr 0 1 rfl;have Z:=M.cell (v:=.string (txB V)) 0 0 rfl rfl;have f4:=M.fr 0 0 rfl;clear M;have L:=qh E;cases fl with
   | true =>
    have hb:brkP (es,q,true)=([],q,true):=by cases q<;>rfl
    have D:=qh (RRd.nil (r:=40::r1) (b:=b) q I E ((C.o.pick [0,1] (by decide)).set 0 rfl 1 (.bool true)));replace hb:=qh hb;clear Q Z f4 E;go_wp2_with (go_at_call 70;refine(ZaC V true b _ L.o (C.o.cell (v:=.string (txB V)) 0 0 rfl rfl) (C.o.cell (v:=.bool true) 0 1 rfl rfl) (0) rfl).mono ?_;rintro e w' ⟨rfl,rfl⟩);go_ret;rw[hb.o];exact D.o
   | false =>
    obtain rfl:=Q rfl;cases V with
    | nil =>have D:=qh (RRd.nil (r:=40::r1) (b:=b) [] I E ((C.o.pick [0,1] (by decide)).set 0 rfl 1 (.bool true)));clear Q Z f4 E;go_wp2_with (go_at_call 70;refine(ZaC [] false b _ L.o (C.o.cell (v:=.string (txB [])) 0 0 rfl rfl) (C.o.cell (v:=.bool false) 0 1 rfl rfl) (0) rfl).mono ?_;rintro e w' ⟨rfl,rfl⟩);go_ret;exact D.o
    | cons d N =>
     obtain⟨i,hd⟩:=ZcG E;by_cases h41:d=41
     ·subst h41;have f:=Zev 41 N;have g:=qh (show St w0 _ [Ent.box b #[.string (txB N),.bool false] 54,X,Ent.row 62 2 (.slice a3 es.length c3) es.length (es.flatMap Zaa)] from C.o.set 0 rfl 0 (.string (txB N)));have T:N.length≤(40::r1).length:=by simp at I ⊢;omega
      clear Q E;go_wp2_with (go_at_call 70;refine(ZaC (41::N) false b _ L.o (C.o.cell (v:=.string (txB (41::N))) 0 0 rfl rfl) (C.o.cell (v:=.bool false) 0 1 rfl rfl) (41) rfl).mono ?_;rintro e w' ⟨rfl,rfl⟩);go_ret;exact⟨a3,c3,N,rfl,fun _=>rfl,T,i,g.o⟩
     have hb:brkP (es,d::N,false)=([],d::N,true):=if_neg h41;have D:=qh (RRd.nil (r:=40::r1) (b:=b) (d::N) I E ((C.o.pick [0,1] (by decide)).set 0 rfl 1 (.bool true)));have n4:((d:Int)=41)=False:=by simp;omega
     replace hb:=qh hb;clear Q Z f4 E;go_wp2_with (go_at_call 70;refine(ZaC (d::N) false b _ L.o (C.o.cell (v:=.string (txB (d::N))) 0 0 rfl rfl) (C.o.cell (v:=.bool false) 0 1 rfl rfl) (d) rfl).mono ?_;rintro e w' ⟨rfl,rfl⟩);go_ret;rw[hb.o];exact D.o
  rw[if_neg c40] at B;rw[B];have n3:((c:Int)=40)=False:=by simp;omega
  have D:=qh (RRd.nil (r:=c::r1) (b:=b) r1 J R (H.o.set 0 rfl 1 (.bool true)));have G:=qh B;clear B
  go_enter Tryz.func115, Tryz.ntmps115
  go_wp2_with (first
   | (go_at_call 70;refine(ZaC (c::r1) false b _ ht.o (F.o.cell (v:=.string (txB (c::r1))) 0 0 rfl rfl) (F.o.cell (v:=.bool false) 0 1 rfl rfl) (c) rfl).mono ?_;rintro e w' ⟨rfl,rfl⟩)
   | (go_at_call 110;refine(Zbd _ _ _ _ _ hin.o).mono ?_;rintro e w' ⟨rfl,rfl⟩))
  go_ret;exact D.o
theorem ZnO (n:Nat) (hA:Zsi n):Zsg (n+1):=by
 intro r b w0 w X hn hl ht hS;have Z:rdP jI (n+1) 5 r=ZhY (rdP jI n 6 r):=rfl;rw[Z];have hm:=ZdE jI n 6 r;obtain⟨x,hx⟩:=eJ (rdP jI n 6 r);have hA1:=hA r b w0 w X (by unfold fuP at hn ⊢;omega) hl ht hS;rw[hx] at hA1 hm ⊢;obtain⟨es,q,fl⟩:=x;obtain⟨m1,m2,m3⟩:=hm;simp only at m1 m2 m3;have aD:=qh hA1;have HS:=qh hS;replace Z:=qh Z;have aG:=qh hx;clear hx;clear hA1 hS
 go_enter Tryz.func71, Tryz.ntmps71
 go_wp2_with (go_at_call 115;refine(aD.o).mono ?_;rintro e w2 ⟨a3,c3,I,rfl,f,u,V,l⟩);have p:=qh l;have F:=qh V;clear l;cases fl with
 | true =>
  clear f V;go_wp2
  go_loopw [3] (fun v wr=>∃ (a:Option Addr) (c:Nat),v = .slice a es.length c∧St w0 wr [Ent.box b #[.string (txB I),.bool true] 54,X,Ent.row 62 2 (.slice a es.length c) es.length (es.flatMap Zaa)]) (fun _ _=>0)
  case atStart=>exact⟨a3,c3,rfl,p.o⟩
  case round =>obtain⟨a,c,rfl,hS⟩:=hrel;have B:=qh hS;clear hS;go_wp2_with (go_at_call 70;refine(ZaC I true b _ F.o (B.o.cell (v:=.string (txB I)) 0 0 rfl rfl) (B.o.cell (v:=.bool true) 0 1 rfl rfl) (0) rfl).mono ?_;rintro e w' ⟨rfl,rfl⟩);go_ret;exact⟨a,c,I,rfl,(fun h=>by cases h),u,F.o,B.o⟩
 | false =>
  obtain rfl:=f rfl;obtain⟨m4,m5⟩:=m3 rfl;obtain⟨y,hy⟩:=eJ (Zbm es I);have Y:ZhY (es,I,false)=(y.1,y.2,false):=by rw[← hy];rfl
  rw[Y];have aC:=ZfI I es;have aA:=ZgZ I es;rw[hy] at aC aA;have P:=qh Y;clear Y;clear f V;go_wp2
  go_loopw [3] (fun v wr=>∃ (a:Option Addr) (c:Nat) (e4:List (Int × Int)) (S:List Nat),v = .slice a e4.length c∧Zbm e4 S=y∧e4.length+S.length=es.length+I.length∧S.length≤I.length∧isT S∧St w0 wr [Ent.box b #[.string (txB S),.bool false] 54,X,Ent.row 62 2 (.slice a e4.length c) e4.length (e4.flatMap Zaa)]) (fun v _=>es.length+I.length-(match v with | .slice _ m _=>m|_=>0))
  case atStart=>exact⟨a3,c3,es,I,rfl,hy,rfl,Nat.le_refl _,F.o,p.o⟩
  case round =>
   obtain⟨a,c,e4,S,rfl,D,M,Q,N,hS⟩:=hrel;have B:=qh hS;have k1:=hS.cell (v:=.bool false) 0 1 rfl rfl;clear hS;cases S with
   | nil =>have C:y=(e4,[]):=D.symm;subst C;have F:=qh N;have k:=qh D;clear D;go_wp2_with (go_at_call 70;refine(ZaC [] false b _ F.o (B.o.cell (v:=.string (txB [])) 0 0 rfl rfl) (B.o.cell (v:=.bool false) 0 1 rfl rfl) (0) rfl).mono ?_;rintro e w' ⟨rfl,rfl⟩);go_ret;rw[P.o];exact⟨a,c,[],rfl,fun _=>rfl,Nat.zero_le _,N,B.o⟩
   | cons d G =>
    obtain⟨z,hd⟩:=ZcG N;have F:=qh N;by_cases hd42:d=42
    ·subst hd42;have f0:=B.o.fr 0 0 rfl;have k0:=B.o.cell (v:=.string (txB (42::G))) 0 0 rfl rfl;have hcut:=Zev 42 G;have aF:=qh (show St w0 _ [Ent.box b #[.string (txB G),.bool false] 54,X,Ent.row 62 2 (.slice a e4.length c) e4.length (e4.flatMap Zaa)] from B.o.set 0 rfl 0 (.string (txB G)));have C:Zbm (e4++[(8,0)]) G=y:=D;have hlen:(e4++[(8,0)]).length=e4.length+1:=by simp
     obtain⟨e5,O⟩:=eJ (e4++[(8,0)]);rw[O] at C hlen;replace O:=qh O;have J:=qh hlen;clear hlen;have L:e4.length+1+G.length=es.length+I.length:=by simp at M;omega
     have g:G.length≤I.length:=by simp at Q;omega
     have U:e4.length≤10000:=by simp at M;omega
     clear M Q D;have T:=qh C;clear C;have H:=qh L;clear L
     go_wp2_with (first
      | (go_at_call 70;refine(ZaC (42::G) false b _ F.o (B.o.cell (v:=.string (txB (42::G))) 0 0 rfl rfl) (B.o.cell (v:=.bool false) 0 1 rfl rfl) (42) rfl).mono ?_;rintro e w' ⟨rfl,rfl⟩)
      | (go_at_call 72;have E:St w0 _ [Ent.box b #[.string (txB G),.bool false] 54,X,Ent.row 62 2 (.slice a e4.length c) e4.length (e4.flatMap Zaa),Ent.box wr.heap.size #[.slice a e4.length c] 28]:=aF.o.alloc wr.heap.size (by simp) #[.slice a e4.length c] 28;have aB:=qh E;have s:=(E.boxlt 3 rfl).2;have j:=E.cell (v:=.slice a e4.length c) 3 0 rfl rfl;have i:=Zaj (E.row 2 rfl);clear E;have R:=Zoo 8 e4 (.slice a e4.length c) wr.heap.size 1 _ U s j i;rw[O.o] at R;refine R.mono ?_;clear s j i R;rintro e w5 ⟨a6,c6,rfl,E⟩;have aE:=qh ((aB.o.cat E).pick [0,1,4] (by decide));clear E))
     go_roundw
     case rel=>exact⟨a6,c6,e5,G,rfl,T.o,by rw[J.o];exact H.o,g,z,aE.o⟩
     case measure =>have:=J.o;have:=H.o;simp;omega
    have C:y=(e4,d::G):=by rw[← D];exact if_neg hd42
    subst C;have n4:((d:Int)=42)=False:=by simp;omega
    have k:=qh D;clear D;go_wp2_with (go_at_call 70;refine(ZaC (d::G) false b _ F.o (B.o.cell (v:=.string (txB (d::G))) 0 0 rfl rfl) (B.o.cell (v:=.bool false) 0 1 rfl rfl) (d) rfl).mono ?_;rintro e w' ⟨rfl,rfl⟩);go_ret;rw[P.o];exact⟨a,c,d::G,rfl,fun _=>rfl,by omega,N,B.o⟩
theorem Zlo (n:Nat) (y:ZiQ n) (T:Zsg n) (r:List Nat) (b:Nat) (w0 w:World) (X:Ent) (hn:fuP 4 r≤n+1) (hl:r.length≤120) (ht:isT r) (hS:St w0 w [Ent.box b #[.string (txB r),.bool false] 54,X]) :
  Calls Tryz.prog 30 #[.pointer (some ⟨b,0,none⟩),.int .i64 4] w (RRd (rdP jI (n+1) 4 r) r b X w0):=by
 have L:=qh hS;have P:=qh ht
 have H:∀ c,Zst r false=c→c≠33→rdP jI (n+1) 4 r=rdP jI n 5 r→Calls Tryz.prog 30 #[.pointer (some ⟨b,0,none⟩),.int .i64 4] w (RRd (rdP jI (n+1) 4 r) r b X w0):=by
  intro c hc D C;rw[C];have hA1:=T r b w0 w X (by unfold fuP at hn ⊢;omega) hl ht hS;obtain⟨x,hx⟩:=eJ (rdP jI n 5 r);rw[hx] at hA1 ⊢;have Y:=qh hA1;have n4:((c:Int)=33)=False:=by simp;omega
  have Q:=qh C;clear C;have Z:=qh hx;clear hx;replace hc:=qh hc;clear hA1 hS
  go_enter Tryz.func30, Tryz.ntmps30
  go_wp2_with (first
   | (go_at_call 49;refine(ZaK 7 _ 4 rfl).mono ?_;rintro e w' ⟨rfl,rfl⟩)
   | (go_at_call 70;refine(ZaC r false b _ P.o (L.o.cell (v:=.string (txB r)) 0 0 rfl rfl) (L.o.cell (v:=.bool false) 0 1 rfl rfl) (c) hc.o).mono ?_;rintro e w' ⟨rfl,rfl⟩)
   | (go_at_call 71;refine(Y.o).mono ?_;rintro e w2 ⟨a3,c3,S,rfl,hR⟩))
  go_ret;exact⟨a3,c3,S,rfl,hR⟩
 cases r with
 | nil=>exact H 0 rfl (by omega) rfl
 | cons c r1 =>
  by_cases D:c=33
  ·subst D;have C:rdP jI (n+1) 4 (33::r1)=((rdP jI n 4 r1).1++[(7,0)],(rdP jI n 4 r1).2):=rfl;rw[C];clear H;obtain⟨a,-⟩:=ZcG ht;have hcut:=Zev 33 r1;have f0:=L.o.fr 0 0 rfl;have k0:=L.o.cell (v:=.string (txB (33::r1))) 0 0 rfl rfl;have d:=qh (show St w0 _ [Ent.box b #[.string (txB r1),.bool false] 54,X] from L.o.set 0 rfl 0 (.string (txB r1)));have u:r1.length≤119:=by simp at hl;omega
   have hm:=ZdE jI n 4 r1;have J:=y 4 r1 b w0 _ X (by omega) (by omega) (by unfold fuP at hn ⊢;simp at hn;omega) (by omega) a d.o;obtain⟨x,hx⟩:=eJ (rdP jI n 4 r1);rw[hx] at J hm ⊢;obtain⟨es,q,fl⟩:=x;have j:es.length≤1000:=by have:=hm.2.1;simp only at this;omega
   have U:=qh J;obtain⟨m,G⟩:=eJ (es++[(7,0)]);have E:(es,q,fl).1++[(7,0)]=m:=G;rw[E];have Q:=qh C;clear C;have Z:=qh hx;clear hx;have O:=qh G;clear G;have l:=qh E;clear E;clear J hm hS
   go_enter Tryz.func30, Tryz.ntmps30
   go_wp2_with (first
    | (go_at_call 49;refine(ZaK 7 _ 4 rfl).mono ?_;rintro e w' ⟨rfl,rfl⟩)
    | (go_at_call 70;refine(ZaC (33::r1) false b _ P.o (L.o.cell (v:=.string (txB (33::r1))) 0 0 rfl rfl) (L.o.cell (v:=.bool false) 0 1 rfl rfl) (33) rfl).mono ?_;rintro e w' ⟨rfl,rfl⟩)
    | (go_at_call 30;refine(U.o).mono ?_;rintro e w2 ⟨a3,c3,S,rfl,k,s,V,I⟩;replace I:=qh I)
    | (go_at_call 72;have B:St w0 _ [Ent.box b #[.string (txB S),.bool fl] 54,X,Ent.row 62 2 (.slice a3 es.length c3) es.length (es.flatMap Zaa),Ent.box w2.heap.size #[.slice a3 es.length c3] 28]:=I.o.alloc w2.heap.size rfl #[.slice a3 es.length c3] 28;have i:=qh B;have R:=(B.boxlt 3 rfl).2;have N:=B.cell (v:=.slice a3 es.length c3) 3 0 rfl rfl;have M:=Zaj (B.row 2 rfl);clear B;have F:=Zoo 7 es (.slice a3 es.length c3) w2.heap.size 1 _ (Nat.le_trans j (by decide)) R N M;rw[O.o] at F;refine F.mono ?_;clear R N M F;rintro e w5 ⟨p,z,rfl,B⟩;have g:=qh ((i.o.cat B).pick [0,1,4] (by decide));clear B))
   go_ret;exact⟨p,z,S,rfl,k,by simp;omega,V,g.o⟩
  exact H c rfl D (if_neg D)
theorem Zjx (w:World):(Instr.index 96 (.agg #[.int .i64 0,.int .i64 5,.int .i64 6,.int .i64 4]) (.int .i64 1)).run Tryz.prog w = .ok (.int .i64 5) w∧(Instr.index 96 (.agg #[.int .i64 0,.int .i64 5,.int .i64 6,.int .i64 4]) (.int .i64 2)).run Tryz.prog w = .ok (.int .i64 6) w∧(Instr.index 96 (.agg #[.int .i64 0,.int .i64 5,.int .i64 6,.int .i64 4]) (.int .i64 3)).run Tryz.prog w = .ok (.int .i64 4) w:=by
 have h1:(sizeOf 3).run Tryz.prog w = .ok 1 w:=by obtain⟨C,hi,-,B,-⟩:=info_parts Tryz.infoInt;simp[sizeOf,typeInfo,hi,B]
 refine⟨?_,?_,?_⟩<;>simp[Instr.index,run_underlying Tryz.underlying96,asIntOf,Sem.run_bind,Sem.run_pure,Result.andThen,part,isAgg,run_underlying Tryz.underlying3,h1]
def stFl (w:World) (b:Nat):Nat:=match w.cell? ⟨b,1,none⟩,w.cell? ⟨b,0,none⟩ with
 | some (.bool false),some (.string s)=>s.size+1
 | _,_=>0
theorem Zlr (n:Nat) (hL:ZiQ n) (r:List Nat) (b:Nat) (w0 w:World) (X:Ent) (hn:fuP 1 r≤n+1) (hl:r.length≤120) (ht:isT r) (hS:St w0 w [Ent.box b #[.string (txB r),.bool false] 54,X]) :
  Calls Tryz.prog 30 #[.pointer (some ⟨b,0,none⟩),.int .i64 1] w (RRd (rdP jI (n+1) 1 r) r b X w0):=by
 have z:rdP jI (n+1) 1 r=ZaX (rdP jI n 2) jI 1 n (rdP jI n 2 r).1 (rdP jI n 2 r).2.1 (rdP jI n 2 r).2.2:=rfl;rw[z];have hm:=ZdE jI n 2 r;have l:=hL 2 r b w0 w X (by omega) (by omega) (by unfold fuP at hn ⊢;omega) hl ht hS;obtain⟨x,hx⟩:=eJ (rdP jI n 2 r);rw[hx] at l hm ⊢;obtain⟨L,q0,T⟩:=x;obtain⟨y,hy⟩:=eJ (ZaX (rdP jI n 2) jI 1 n L q0 T);have Q:ZaX (rdP jI n 2) jI 1 n (L,q0,T).1 (L,q0,T).2.1 (L,q0,T).2.2=y:=hy;rw[Q];have aV:=qh l;have aX:=qh hm;replace z:=qh z;have bF:=qh hx;clear hx;have bB:=qh Q;clear Q;have aD:=qh hy;clear hy;clear l hS hm
 go_enter Tryz.func30, Tryz.ntmps30
 go_wp2_with (first
  | (go_at_call 49;refine(ZaK 7 _ 4 rfl).mono ?_;rintro e w' ⟨rfl,rfl⟩)
  | (go_at_call 30;refine(aV.o).mono ?_;rintro e w2 ⟨a3,c3,r3,rfl,bC,aR,aL,V⟩;replace V:=qh V))
 go_loopw [5] (fun v wr=>(∃ (a:Option Addr) (c:Nat) (es:List (Int × Int)) (r':List Nat),v = .slice a es.length c∧y.1=es∧y.2.2=true∧isT r'∧r'.length≤r.length∧St w0 wr [Ent.box b #[.string (txB r'),.bool true] 54,X,Ent.row 62 2 (.slice a es.length c) es.length (es.flatMap Zaa)]) ∨
   (∃ (a:Option Addr) (c:Nat) (es:List (Int × Int)) (r':List Nat) (i:Nat),v = .slice a es.length c∧ZaX (rdP jI n 2) jI 1 i es r' false=y∧r'.length<i∧meas r.length (es,r',false)∧isT r'∧St w0 wr [Ent.box b #[.string (txB r'),.bool false] 54,X,Ent.row 62 2 (.slice a es.length c) es.length (es.flatMap Zaa)])) (fun _ wr=>stFl wr b)
 case atStart =>
  cases T with
  | true =>
   have G:y=(L,q0,true):=by rw[← aD.o];cases n<;>rfl
   exact .inl ⟨a3,c3,L,r3,rfl,by rw[G],by rw[G],aL,aR,V.o⟩
  | false =>obtain rfl:=bC rfl;obtain⟨m1,m2,m3⟩:=aX.o;obtain⟨m4,m5⟩:=m3 rfl;simp only at m1 m2 m4 m5;exact .inr ⟨a3,c3,L,r3,n,rfl,aD.o,by unfold fuP at hn;omega,⟨m1,m2,fun _=>⟨m4,m5⟩⟩,aL,V.o⟩
 case round =>
  rcases hrel with⟨a,c,es,r',rfl,aS,G,M,P,hS⟩|⟨a,c,es,r',k1,rfl,C,bG,H,M,hS⟩
  ·have B:=qh hS;have k1:=hS.cell (v:=.bool true) 0 1 rfl rfl;clear hS;go_wp2;go_ret;subst aS;exact⟨a,c,r',rfl,(fun h=>by rw[G] at h;cases h),P,M,by rw[G];exact B.o⟩
  have B:=qh hS;have bH:=hS.cell (v:=.bool false) 0 1 rfl rfl;obtain⟨i,rfl⟩:∃ i,k1=i+1:=⟨k1-1,by omega⟩;have P:r'.length≤r.length:=H.1;have aU:es.length≤1000:=by have:=H.2.1;simp only at this;omega
  have p:=qh M;clear hS;cases r' with
  | nil =>have I:y=(es,[],false):=C.symm;have F:=qh I;clear C I H;go_wp2_with (go_at_call 70;refine(ZaC [] false b _ p.o (B.o.cell (v:=.string (txB [])) 0 0 rfl rfl) (B.o.cell (v:=.bool false) 0 1 rfl rfl) (0) rfl).mono ?_;rintro e w' ⟨rfl,rfl⟩);go_ret;rw[F.o];exact⟨a,c,[],rfl,fun _=>rfl,by omega,M,B.o⟩
  | cons d D =>
   obtain⟨aW,hd⟩:=ZcG M;by_cases hds:d=124
   ·subst hds;have C:ZaX (rdP jI n 2) jI 1 i (es++(rdP jI n 2 D).1++[(opK 1,0)]) (rdP jI n 2 D).2.1 (rdP jI n 2 D).2.2=y:=C;have hcut:=Zev 124 D;have f0:=B.o.fr 0 0 rfl;have k0:=B.o.cell (v:=.string (txB (124::D))) 0 0 rfl rfl;have aN:=qh (show St w0 _ [Ent.box b #[.string (txB D),.bool false] 54,X,Ent.row 62 2 (.slice a es.length c) es.length (es.flatMap Zaa)] from B.o.set 0 rfl 0 (.string (txB D)));have bJ:=fun u=>(Zjx u).1
    have O:=ZdE jI n 2 D;obtain⟨x9,m⟩:=eJ (rdP jI n 2 D);have bE:(D).length≤r.length:=by simp at P;omega
    have aZ:isT (D):=aW;have q:=fun u (hu:St w0 u [Ent.box b #[.string (txB D),.bool false] 54,Ent.all [X,Ent.row 62 2 (.slice a es.length c) es.length (es.flatMap Zaa)]])=>hL 2 (D) b w0 u _ (by omega) (by omega) (by unfold fuP at hn ⊢;omega) (by omega) aZ hu
    rw[m] at q O C;obtain⟨J,q9,U⟩:=x9;have aG:J.length≤1000:=by have:=O.2.1;simp only at this;omega
    have aQ:=qh q;obtain⟨e5,Y⟩:=eJ (es++J++[(5,0)]);simp only at C;rw[show opK 1=5 from rfl,Y] at C;have N:e5.length=es.length+J.length+1:=by rw[← Y];simp;omega
    have aF:=qh O;have aA:=qh H;have Z:=qh N;clear N;have bD:=qh m;clear m;have aK:=qh Y;clear Y;have F:=qh C;clear C;clear q O H M
    go_wp2_with (first
     | (go_at_call 70;refine(ZaC (124::D) false b _ p.o (B.o.cell (v:=.string (txB (124::D))) 0 0 rfl rfl) (B.o.cell (v:=.bool false) 0 1 rfl rfl) (124) rfl).mono ?_;rintro e w' ⟨rfl,rfl⟩)
     | (go_at_call 30;have aJ:=St.pack (A:=[Ent.box b #[.string (txB D),.bool false] 54]) (R:=[X,Ent.row 62 2 (.slice a es.length c) es.length (es.flatMap Zaa)]) aN.o;refine(aQ.o _ aJ).mono ?_;clear aJ;rintro e w2 ⟨s,c9,g,rfl,aT,bI,aP,aC⟩;have bA:=qh (show St w0 w2 [Ent.box b #[.string (txB g),.bool U] 54,Ent.row 62 2 (.slice s J.length c9) J.length (J.flatMap Zaa),X,Ent.row 62 2 (.slice a es.length c) es.length (es.flatMap Zaa)] from St.unpack (A:=[Ent.box b #[.string (txB D),.bool false] 54]) (A':=[Ent.box b #[.string (txB g),.bool U] 54,Ent.row 62 2 (.slice s J.length c9) J.length (J.flatMap Zaa)]) (R:=[X,Ent.row 62 2 (.slice a es.length c) es.length (es.flatMap Zaa)]) aN.o (aC.pick [0,2,1] (by decide)));clear aC)
     | (go_at_call 72;have E:St w0 _ [Ent.box b #[.string (txB g),.bool U] 54,Ent.row 62 2 (.slice s J.length c9) J.length (J.flatMap Zaa),X,Ent.row 62 2 (.slice a es.length c) es.length (es.flatMap Zaa),Ent.box w2.heap.size #[.slice a es.length c,.slice s J.length c9] 28]:=bA.o.alloc w2.heap.size rfl #[.slice a es.length c,.slice s J.length c9] 28;have aY:=qh E;have aO:=(E.boxlt 4 rfl).2;have aH:=E.cell (v:=.slice a es.length c) 4 0 rfl rfl;have aI:=E.cell (v:=.slice s J.length c9) 4 1 rfl rfl;have aB:=Zaj (E.row 3 rfl);have aE:=Zaj (E.row 1 rfl);clear E;have j:=Zli 5 es J (.slice a es.length c) (.slice s J.length c9) w2.heap.size 2 _ (Nat.le_trans aU (by decide)) (Nat.le_trans aG (by decide)) aO aH aI aB aE;rw[aK.o] at j;refine j.mono ?_;clear aO aH aB aI aE j;rintro e w5 ⟨a6,c6,rfl,E⟩;have S:=qh ((aY.o.cat E).pick [0,2,5] (by decide));clear E))
    have O:=aF.o;have H:=aA.o;have N:=Z.o;have C:=F.o;have aM:g.length≤r.length:=by omega
    have hlc:((124::D)).length=D.length+1:=rfl;have z1:=B.o.cell (v:=.bool false) 0 1 rfl rfl;have z2:=B.o.cell (v:=.string (txB (124::D))) 0 0 rfl rfl;have z3:=S.o.cell (v:=.string (txB g)) 0 0 rfl rfl;cases U with
    | true =>
     have G:y=(e5,q9,true):=by rw[← C];cases i<;>rfl
     go_roundw
     case rel=>exact .inl ⟨a6,c6,e5,g,rfl,by rw[G],by rw[G],aP,aM,S.o⟩
     case measure=>simp[stFl,S.o.cell (v:=.bool true) 0 1 rfl rfl,z1,z2]
    | false =>
     obtain rfl:=aT rfl;obtain⟨-,-,b3⟩:=O;obtain⟨b4,b5⟩:=b3 rfl;obtain⟨a1,a2,a3⟩:=H;obtain⟨a4,a5⟩:=a3 rfl;simp only at b4 b5 a1 a2 a4 a5;have k:meas r.length (e5,g,false):=⟨by simp only;omega,by simp only;omega,fun _=>by simp only;omega⟩;go_roundw
     case rel=>exact .inr ⟨a6,c6,e5,g,i,rfl,C,by omega,k,aP,S.o⟩
     case measure =>simp only[stFl,S.o.cell (v:=.bool false) 0 1 rfl rfl,z1,z2,z3,ZaE];omega
   have I:y=(es,d::D,false):=by
    rw[← C];unfold ZaX;rw[if_neg (by simp)];have hc:Zfv jI 1 (d::D)=none:=by show(if 1=1∧d=124∨1=2∧d=38 then some D else if 1=3∧jI d=true then some (d::D) else none)=none;rw[if_neg (by omega),if_neg (by omega)]
    rw[hc]
   have n4:((d:Int)=124)=False:=by simp;omega
   have F:=qh I;clear C I H;go_wp2_with (go_at_call 70;refine(ZaC (d::D) false b _ p.o (B.o.cell (v:=.string (txB (d::D))) 0 0 rfl rfl) (B.o.cell (v:=.bool false) 0 1 rfl rfl) (d) rfl).mono ?_;rintro e w' ⟨rfl,rfl⟩);go_ret;rw[F.o];exact⟨a,c,(d::D),rfl,fun _=>rfl,by omega,M,B.o⟩
theorem Zlq (n:Nat) (hL:ZiQ n) (r:List Nat) (b:Nat) (w0 w:World) (X:Ent) (hn:fuP 2 r≤n+1) (hl:r.length≤120) (ht:isT r) (hS:St w0 w [Ent.box b #[.string (txB r),.bool false] 54,X]) :
  Calls Tryz.prog 30 #[.pointer (some ⟨b,0,none⟩),.int .i64 2] w (RRd (rdP jI (n+1) 2 r) r b X w0):=by
 have z:rdP jI (n+1) 2 r=ZaX (rdP jI n 3) jI 2 n (rdP jI n 3 r).1 (rdP jI n 3 r).2.1 (rdP jI n 3 r).2.2:=rfl;rw[z];have hm:=ZdE jI n 3 r;have l:=hL 3 r b w0 w X (by omega) (by omega) (by unfold fuP at hn ⊢;omega) hl ht hS;obtain⟨x,hx⟩:=eJ (rdP jI n 3 r);rw[hx] at l hm ⊢;obtain⟨L,q0,T⟩:=x;obtain⟨y,hy⟩:=eJ (ZaX (rdP jI n 3) jI 2 n L q0 T);have Q:ZaX (rdP jI n 3) jI 2 n (L,q0,T).1 (L,q0,T).2.1 (L,q0,T).2.2=y:=hy;rw[Q];have aV:=qh l;have aX:=qh hm;replace z:=qh z;have bF:=qh hx;clear hx;have bB:=qh Q;clear Q;have aD:=qh hy;clear hy;clear l hS hm
 go_enter Tryz.func30, Tryz.ntmps30
 go_wp2_with (first
  | (go_at_call 49;refine(ZaK 7 _ 4 rfl).mono ?_;rintro e w' ⟨rfl,rfl⟩)
  | (go_at_call 30;refine(aV.o).mono ?_;rintro e w2 ⟨a3,c3,r3,rfl,bC,aR,aL,V⟩;replace V:=qh V))
 go_loopw [5] (fun v wr=>(∃ (a:Option Addr) (c:Nat) (es:List (Int × Int)) (r':List Nat),v = .slice a es.length c∧y.1=es∧y.2.2=true∧isT r'∧r'.length≤r.length∧St w0 wr [Ent.box b #[.string (txB r'),.bool true] 54,X,Ent.row 62 2 (.slice a es.length c) es.length (es.flatMap Zaa)]) ∨
   (∃ (a:Option Addr) (c:Nat) (es:List (Int × Int)) (r':List Nat) (i:Nat),v = .slice a es.length c∧ZaX (rdP jI n 3) jI 2 i es r' false=y∧r'.length<i∧meas r.length (es,r',false)∧isT r'∧St w0 wr [Ent.box b #[.string (txB r'),.bool false] 54,X,Ent.row 62 2 (.slice a es.length c) es.length (es.flatMap Zaa)])) (fun _ wr=>stFl wr b)
 case atStart =>
  cases T with
  | true =>
   have G:y=(L,q0,true):=by rw[← aD.o];cases n<;>rfl
   exact .inl ⟨a3,c3,L,r3,rfl,by rw[G],by rw[G],aL,aR,V.o⟩
  | false =>obtain rfl:=bC rfl;obtain⟨m1,m2,m3⟩:=aX.o;obtain⟨m4,m5⟩:=m3 rfl;simp only at m1 m2 m4 m5;exact .inr ⟨a3,c3,L,r3,n,rfl,aD.o,by unfold fuP at hn;omega,⟨m1,m2,fun _=>⟨m4,m5⟩⟩,aL,V.o⟩
 case round =>
  rcases hrel with⟨a,c,es,r',rfl,aS,G,M,P,hS⟩|⟨a,c,es,r',k1,rfl,C,bG,H,M,hS⟩
  ·have B:=qh hS;have k1:=hS.cell (v:=.bool true) 0 1 rfl rfl;clear hS;go_wp2;go_ret;subst aS;exact⟨a,c,r',rfl,(fun h=>by rw[G] at h;cases h),P,M,by rw[G];exact B.o⟩
  have B:=qh hS;have bH:=hS.cell (v:=.bool false) 0 1 rfl rfl;obtain⟨i,rfl⟩:∃ i,k1=i+1:=⟨k1-1,by omega⟩;have P:r'.length≤r.length:=H.1;have aU:es.length≤1000:=by have:=H.2.1;simp only at this;omega
  have p:=qh M;clear hS;cases r' with
  | nil =>have I:y=(es,[],false):=C.symm;have F:=qh I;clear C I H;go_wp2_with (go_at_call 70;refine(ZaC [] false b _ p.o (B.o.cell (v:=.string (txB [])) 0 0 rfl rfl) (B.o.cell (v:=.bool false) 0 1 rfl rfl) (0) rfl).mono ?_;rintro e w' ⟨rfl,rfl⟩);go_ret;rw[F.o];exact⟨a,c,[],rfl,fun _=>rfl,by omega,M,B.o⟩
  | cons d D =>
   obtain⟨aW,hd⟩:=ZcG M;by_cases hds:d=38
   ·subst hds;have C:ZaX (rdP jI n 3) jI 2 i (es++(rdP jI n 3 D).1++[(opK 2,0)]) (rdP jI n 3 D).2.1 (rdP jI n 3 D).2.2=y:=C;have hcut:=Zev 38 D;have f0:=B.o.fr 0 0 rfl;have k0:=B.o.cell (v:=.string (txB (38::D))) 0 0 rfl rfl;have aN:=qh (show St w0 _ [Ent.box b #[.string (txB D),.bool false] 54,X,Ent.row 62 2 (.slice a es.length c) es.length (es.flatMap Zaa)] from B.o.set 0 rfl 0 (.string (txB D)));have bJ:=fun u=>(Zjx u).2.1
    have O:=ZdE jI n 3 D;obtain⟨x9,m⟩:=eJ (rdP jI n 3 D);have bE:(D).length≤r.length:=by simp at P;omega
    have aZ:isT (D):=aW;have q:=fun u (hu:St w0 u [Ent.box b #[.string (txB D),.bool false] 54,Ent.all [X,Ent.row 62 2 (.slice a es.length c) es.length (es.flatMap Zaa)]])=>hL 3 (D) b w0 u _ (by omega) (by omega) (by unfold fuP at hn ⊢;omega) (by omega) aZ hu
    rw[m] at q O C;obtain⟨J,q9,U⟩:=x9;have aG:J.length≤1000:=by have:=O.2.1;simp only at this;omega
    have aQ:=qh q;obtain⟨e5,Y⟩:=eJ (es++J++[(6,0)]);simp only at C;rw[show opK 2=6 from rfl,Y] at C;have N:e5.length=es.length+J.length+1:=by rw[← Y];simp;omega
    have aF:=qh O;have aA:=qh H;have Z:=qh N;clear N;have bD:=qh m;clear m;have aK:=qh Y;clear Y;have F:=qh C;clear C;clear q O H M
    go_wp2_with (first
     | (go_at_call 70;refine(ZaC (38::D) false b _ p.o (B.o.cell (v:=.string (txB (38::D))) 0 0 rfl rfl) (B.o.cell (v:=.bool false) 0 1 rfl rfl) (38) rfl).mono ?_;rintro e w' ⟨rfl,rfl⟩)
     | (go_at_call 30;have aJ:=St.pack (A:=[Ent.box b #[.string (txB D),.bool false] 54]) (R:=[X,Ent.row 62 2 (.slice a es.length c) es.length (es.flatMap Zaa)]) aN.o;refine(aQ.o _ aJ).mono ?_;clear aJ;rintro e w2 ⟨s,c9,g,rfl,aT,bI,aP,aC⟩;have bA:=qh (show St w0 w2 [Ent.box b #[.string (txB g),.bool U] 54,Ent.row 62 2 (.slice s J.length c9) J.length (J.flatMap Zaa),X,Ent.row 62 2 (.slice a es.length c) es.length (es.flatMap Zaa)] from St.unpack (A:=[Ent.box b #[.string (txB D),.bool false] 54]) (A':=[Ent.box b #[.string (txB g),.bool U] 54,Ent.row 62 2 (.slice s J.length c9) J.length (J.flatMap Zaa)]) (R:=[X,Ent.row 62 2 (.slice a es.length c) es.length (es.flatMap Zaa)]) aN.o (aC.pick [0,2,1] (by decide)));clear aC)
     | (go_at_call 72;have E:St w0 _ [Ent.box b #[.string (txB g),.bool U] 54,Ent.row 62 2 (.slice s J.length c9) J.length (J.flatMap Zaa),X,Ent.row 62 2 (.slice a es.length c) es.length (es.flatMap Zaa),Ent.box w2.heap.size #[.slice a es.length c,.slice s J.length c9] 28]:=bA.o.alloc w2.heap.size rfl #[.slice a es.length c,.slice s J.length c9] 28;have aY:=qh E;have aO:=(E.boxlt 4 rfl).2;have aH:=E.cell (v:=.slice a es.length c) 4 0 rfl rfl;have aI:=E.cell (v:=.slice s J.length c9) 4 1 rfl rfl;have aB:=Zaj (E.row 3 rfl);have aE:=Zaj (E.row 1 rfl);clear E;have j:=Zli 6 es J (.slice a es.length c) (.slice s J.length c9) w2.heap.size 2 _ (Nat.le_trans aU (by decide)) (Nat.le_trans aG (by decide)) aO aH aI aB aE;rw[aK.o] at j;refine j.mono ?_;clear aO aH aB aI aE j;rintro e w5 ⟨a6,c6,rfl,E⟩;have S:=qh ((aY.o.cat E).pick [0,2,5] (by decide));clear E))
    have O:=aF.o;have H:=aA.o;have N:=Z.o;have C:=F.o;have aM:g.length≤r.length:=by omega
    have hlc:((38::D)).length=D.length+1:=rfl;have z1:=B.o.cell (v:=.bool false) 0 1 rfl rfl;have z2:=B.o.cell (v:=.string (txB (38::D))) 0 0 rfl rfl;have z3:=S.o.cell (v:=.string (txB g)) 0 0 rfl rfl;cases U with
    | true =>
     have G:y=(e5,q9,true):=by rw[← C];cases i<;>rfl
     go_roundw
     case rel=>exact .inl ⟨a6,c6,e5,g,rfl,by rw[G],by rw[G],aP,aM,S.o⟩
     case measure=>simp[stFl,S.o.cell (v:=.bool true) 0 1 rfl rfl,z1,z2]
    | false =>
     obtain rfl:=aT rfl;obtain⟨-,-,b3⟩:=O;obtain⟨b4,b5⟩:=b3 rfl;obtain⟨a1,a2,a3⟩:=H;obtain⟨a4,a5⟩:=a3 rfl;simp only at b4 b5 a1 a2 a4 a5;have k:meas r.length (e5,g,false):=⟨by simp only;omega,by simp only;omega,fun _=>by simp only;omega⟩;go_roundw
     case rel=>exact .inr ⟨a6,c6,e5,g,i,rfl,C,by omega,k,aP,S.o⟩
     case measure =>simp only[stFl,S.o.cell (v:=.bool false) 0 1 rfl rfl,z1,z2,z3,ZaE];omega
   have I:y=(es,d::D,false):=by
    rw[← C];unfold ZaX;rw[if_neg (by simp)];have hc:Zfv jI 2 (d::D)=none:=by show(if 2=1∧d=124∨2=2∧d=38 then some D else if 2=3∧jI d=true then some (d::D) else none)=none;rw[if_neg (by omega),if_neg (by omega)]
    rw[hc]
   have n4:((d:Int)=38)=False:=by simp;omega
   have F:=qh I;clear C I H;go_wp2_with (go_at_call 70;refine(ZaC (d::D) false b _ p.o (B.o.cell (v:=.string (txB (d::D))) 0 0 rfl rfl) (B.o.cell (v:=.bool false) 0 1 rfl rfl) (d) rfl).mono ?_;rintro e w' ⟨rfl,rfl⟩);go_ret;rw[F.o];exact⟨a,c,(d::D),rfl,fun _=>rfl,by omega,M,B.o⟩
theorem Zlp (n:Nat) (hL:ZiQ n) (r:List Nat) (b:Nat) (w0 w:World) (X:Ent) (hn:fuP 3 r≤n+1) (hl:r.length≤120) (ht:isT r) (hS:St w0 w [Ent.box b #[.string (txB r),.bool false] 54,X]) :
  Calls Tryz.prog 30 #[.pointer (some ⟨b,0,none⟩),.int .i64 3] w (RRd (rdP jI (n+1) 3 r) r b X w0):=by
 have aB:rdP jI (n+1) 3 r=ZaX (rdP jI n 4) jI 3 n (rdP jI n 4 r).1 (rdP jI n 4 r).2.1 (rdP jI n 4 r).2.2:=rfl;rw[aB];have hm:=ZdE jI n 4 r;have s:=hL 4 r b w0 w X (by omega) (by omega) (by unfold fuP at hn ⊢;omega) hl ht hS;obtain⟨x,hx⟩:=eJ (rdP jI n 4 r);rw[hx] at s hm ⊢;obtain⟨M,q0,U⟩:=x;obtain⟨y,hy⟩:=eJ (ZaX (rdP jI n 4) jI 3 n M q0 U);have Q:ZaX (rdP jI n 4) jI 3 n (M,q0,U).1 (M,q0,U).2.1 (M,q0,U).2.2=y:=hy;rw[Q];have bB:=qh s;have bC:=qh hm;replace aB:=qh aB;have bN:=qh hx;clear hx;have bG:=qh Q;clear Q;have aF:=qh hy;clear hy;clear s hS hm
 go_enter Tryz.func30, Tryz.ntmps30
 go_wp2_with (first
  | (go_at_call 49;refine(ZaK 7 _ 4 rfl).mono ?_;rintro e w' ⟨rfl,rfl⟩)
  | (go_at_call 30;refine(bB.o).mono ?_;rintro e w2 ⟨a3,c3,r3,rfl,bI,aX,aN,Y⟩;replace Y:=qh Y))
 go_loopw [5] (fun v wr=>(∃ (a:Option Addr) (c:Nat) (es:List (Int × Int)) (r':List Nat),v = .slice a es.length c∧y.1=es∧y.2.2=true∧isT r'∧r'.length≤r.length∧St w0 wr [Ent.box b #[.string (txB r'),.bool true] 54,X,Ent.row 62 2 (.slice a es.length c) es.length (es.flatMap Zaa)]) ∨
   (∃ (a:Option Addr) (c:Nat) (es:List (Int × Int)) (r':List Nat) (k:Nat),v = .slice a es.length c∧ZaX (rdP jI n 4) jI 3 k es r' false=y∧r'.length<k∧meas r.length (es,r',false)∧isT r'∧St w0 wr [Ent.box b #[.string (txB r'),.bool false] 54,X,Ent.row 62 2 (.slice a es.length c) es.length (es.flatMap Zaa)])) (fun _ wr=>stFl wr b)
 case atStart =>
  cases U with
  | true =>
   have G:y=(M,q0,true):=by rw[← aF.o];cases n<;>rfl
   exact .inl ⟨a3,c3,M,r3,rfl,by rw[G],by rw[G],aN,aX,Y.o⟩
  | false =>obtain rfl:=bI rfl;obtain⟨m1,m2,m3⟩:=bC.o;obtain⟨m4,m5⟩:=m3 rfl;simp only at m1 m2 m4 m5;exact .inr ⟨a3,c3,M,r3,n,rfl,aF.o,by unfold fuP at hn;omega,⟨m1,m2,fun _=>⟨m4,m5⟩⟩,aN,Y.o⟩
 case round =>
  rcases hrel with⟨a,c,es,r',rfl,aY,G,L,P,hS⟩|⟨a,c,es,r',k1,rfl,D,bP,H,L,hS⟩
  ·have B:=qh hS;have k1:=hS.cell (v:=.bool true) 0 1 rfl rfl;clear hS;go_wp2;go_ret;subst aY;exact⟨a,c,r',rfl,(fun h=>by rw[G] at h;cases h),P,L,by rw[G];exact B.o⟩
  have B:=qh hS;have bQ:=hS.cell (v:=.bool false) 0 1 rfl rfl;obtain⟨k,rfl⟩:∃ k,k1=k+1:=⟨k1-1,by omega⟩;have P:r'.length≤r.length:=H.1;have bA:es.length≤1000:=by have:=H.2.1;simp only at this;omega
  have g:=qh L;clear hS;cases r' with
  | nil =>have I:y=(es,[],false):=D.symm;have F:=qh I;clear D I H;go_wp2_with (go_at_call 70;refine(ZaC [] false b _ g.o (B.o.cell (v:=.string (txB [])) 0 0 rfl rfl) (B.o.cell (v:=.bool false) 0 1 rfl rfl) (0) rfl).mono ?_;rintro e w' ⟨rfl,rfl⟩);go_ret;rw[F.o];exact⟨a,c,[],rfl,fun _=>rfl,by omega,L,B.o⟩
  | cons d C =>
   obtain⟨bO,hd⟩:=ZcG L;obtain⟨ri,p⟩:=eJ (Lib.indexByte [48,49,97,98,99,40,33] ((d:Int).toNat.toUInt8));have S:=ZrY hd;rw[p] at S;have aR:=qh p;clear p;cases hj:jI d with
   | true =>
    have aP:0≤ri:=S.2 hj;have bJ:(0≤ri)=True:=by simp;omega
    have bK:(ri<0)=False:=by simp;omega
    have q:((d:Int)=0)=False:=by simp;rintro rfl;simp[jI] at hj
    have aV:(d=0)=False:=by simpa using q
    have aU:((d:Int) != 0)=true:=by simpa using q
    have D:ZaX (rdP jI n 4) jI 3 k (es++(rdP jI n 4 (d::C)).1++[(opK 3,0)]) (rdP jI n 4 (d::C)).2.1 (rdP jI n 4 (d::C)).2.2=y:=by
     rw[← D];have hc:Zfv jI 3 (d::C)=some (d::C):=by show(if 3=1∧d=124∨3=2∧d=38 then some C else if 3=3∧jI d=true then some (d::C) else none)=_;rw[if_neg (by omega),if_pos ⟨rfl,hj⟩]
     conv=>rhs;unfold ZaX
     rw[if_neg (by simp),hc]
    have bH:=qh hj;clear hj;clear S;have aQ:=B;have bS:=fun u=>(Zjx u).2.2
    have O:=ZdE jI n 4 (d::C);obtain⟨x9,z⟩:=eJ (rdP jI n 4 (d::C));have bM:((d::C)).length≤r.length:=by exact P
    have bE:isT ((d::C)):=L;have aA:=fun u (hu:St w0 u [Ent.box b #[.string (txB (d::C)),.bool false] 54,Ent.all [X,Ent.row 62 2 (.slice a es.length c) es.length (es.flatMap Zaa)]])=>hL 4 ((d::C)) b w0 u _ (by omega) (by omega) (by unfold fuP at hn ⊢;omega) (by omega) bE hu
    rw[z] at aA O D;obtain⟨J,q9,V⟩:=x9;have aI:J.length≤1000:=by have:=O.2.1;simp only at this;omega
    have aW:=qh aA;obtain⟨e5,Z⟩:=eJ (es++J++[(4,0)]);simp only at D;rw[show opK 3=4 from rfl,Z] at D;have N:e5.length=es.length+J.length+1:=by rw[← Z];simp;omega
    have aH:=qh O;have aC:=qh H;have i:=qh N;clear N;have bL:=qh z;clear z;have aM:=qh Z;clear Z;have F:=qh D;clear D;clear aA O H 
    go_wp2_with (first
     | (go_at_call 70;refine(ZaC (d::C) false b _ g.o (B.o.cell (v:=.string (txB (d::C))) 0 0 rfl rfl) (B.o.cell (v:=.bool false) 0 1 rfl rfl) (d) rfl).mono ?_;rintro e w' ⟨rfl,rfl⟩)
     | (go_at_call 73;refine(Zfn _ _ _ ri aR.o).mono ?_;rintro e w' ⟨rfl,rfl⟩)
     | (go_at_call 30;have aL:=St.pack (A:=[Ent.box b #[.string (txB (d::C)),.bool false] 54]) (R:=[X,Ent.row 62 2 (.slice a es.length c) es.length (es.flatMap Zaa)]) aQ.o;refine(aW.o _ aL).mono ?_;clear aL;rintro e w2 ⟨a9,c9,j,rfl,aZ,bR,aT,aE⟩;have bF:=qh (show St w0 w2 [Ent.box b #[.string (txB j),.bool V] 54,Ent.row 62 2 (.slice a9 J.length c9) J.length (J.flatMap Zaa),X,Ent.row 62 2 (.slice a es.length c) es.length (es.flatMap Zaa)] from St.unpack (A:=[Ent.box b #[.string (txB (d::C)),.bool false] 54]) (A':=[Ent.box b #[.string (txB j),.bool V] 54,Ent.row 62 2 (.slice a9 J.length c9) J.length (J.flatMap Zaa)]) (R:=[X,Ent.row 62 2 (.slice a es.length c) es.length (es.flatMap Zaa)]) aQ.o (aE.pick [0,2,1] (by decide)));clear aE)
     | (go_at_call 72;have E:St w0 _ [Ent.box b #[.string (txB j),.bool V] 54,Ent.row 62 2 (.slice a9 J.length c9) J.length (J.flatMap Zaa),X,Ent.row 62 2 (.slice a es.length c) es.length (es.flatMap Zaa),Ent.box w2.heap.size #[.slice a es.length c,.slice a9 J.length c9] 28]:=bF.o.alloc w2.heap.size rfl #[.slice a es.length c,.slice a9 J.length c9] 28;have bD:=qh E;have aS:=(E.boxlt 4 rfl).2;have aJ:=E.cell (v:=.slice a es.length c) 4 0 rfl rfl;have aK:=E.cell (v:=.slice a9 J.length c9) 4 1 rfl rfl;have aD:=Zaj (E.row 3 rfl);have aG:=Zaj (E.row 1 rfl);clear E;have l:=Zli 4 es J (.slice a es.length c) (.slice a9 J.length c9) w2.heap.size 2 _ (Nat.le_trans bA (by decide)) (Nat.le_trans aI (by decide)) aS aJ aK aD aG;rw[aM.o] at l;refine l.mono ?_;clear aS aJ aD aK aG l;rintro e w5 ⟨a6,c6,rfl,E⟩;have T:=qh ((bD.o.cat E).pick [0,2,5] (by decide));clear E))
    have O:=aH.o;have H:=aC.o;have N:=i.o;have D:=F.o;have aO:j.length≤r.length:=by omega
    have hlc:((d::C)).length=C.length+1:=rfl;have z1:=B.o.cell (v:=.bool false) 0 1 rfl rfl;have z2:=B.o.cell (v:=.string (txB (d::C))) 0 0 rfl rfl;have z3:=T.o.cell (v:=.string (txB j)) 0 0 rfl rfl;cases V with
    | true =>
     have G:y=(e5,q9,true):=by rw[← D];cases k<;>rfl
     go_roundw
     case rel=>exact .inl ⟨a6,c6,e5,j,rfl,by rw[G],by rw[G],aT,aO,T.o⟩
     case measure=>simp[stFl,T.o.cell (v:=.bool true) 0 1 rfl rfl,z1,z2]
    | false =>
     obtain rfl:=aZ rfl;obtain⟨-,-,b3⟩:=O;obtain⟨b4,b5⟩:=b3 rfl;obtain⟨a1,a2,a3⟩:=H;obtain⟨a4,a5⟩:=a3 rfl;simp only at b4 b5 a1 a2 a4 a5;have m:meas r.length (e5,j,false):=⟨by simp only;omega,by simp only;omega,fun _=>by simp only;omega⟩;go_roundw
     case rel=>exact .inr ⟨a6,c6,e5,j,k,rfl,D,by omega,m,aT,T.o⟩
     case measure =>simp only[stFl,T.o.cell (v:=.bool false) 0 1 rfl rfl,z1,z2,z3,ZaE];omega
   | false =>
    have aP:ri<0:=by
     by_cases h:0≤ri
     ·rw[S.1 h] at hj;cases hj
     omega
    have I:y=(es,d::C,false):=by
     rw[← D];unfold ZaX;rw[if_neg (by simp)];have hc:Zfv jI 3 (d::C)=none:=by show(if 3=1∧d=124∨3=2∧d=38 then some C else if 3=3∧jI d=true then some (d::C) else none)=none;rw[if_neg (by omega),if_neg (by rw[hj];simp)]
     rw[hc]
    have F:=qh I;have bH:=qh hj;clear hj;clear D I H S;by_cases hd0:d=0
    ·subst hd0;go_wp2_with (go_at_call 70;refine(ZaC (0::C) false b _ g.o (B.o.cell (v:=.string (txB (0::C))) 0 0 rfl rfl) (B.o.cell (v:=.bool false) 0 1 rfl rfl) (0) rfl).mono ?_;rintro e w' ⟨rfl,rfl⟩);go_ret;rw[F.o];exact⟨a,c,(0::C),rfl,fun _=>rfl,by omega,L,B.o⟩
    have q:((d:Int)=0)=False:=by simp;omega
    have aV:(d=0)=False:=by simp;omega
    have aU:((d:Int) != 0)=true:=by simp;omega
    go_wp2_with (first|(go_at_call 70;refine(ZaC (d::C) false b _ g.o (B.o.cell (v:=.string (txB (d::C))) 0 0 rfl rfl) (B.o.cell (v:=.bool false) 0 1 rfl rfl) (d) rfl).mono ?_;rintro e w' ⟨rfl,rfl⟩)|(go_at_call 73;refine(Zfn _ _ _ ri aR.o).mono ?_;rintro e w' ⟨rfl,rfl⟩));go_ret;rw[F.o];exact⟨a,c,(d::C),rfl,fun _=>rfl,by omega,L,B.o⟩
theorem Ziu:∀ n,Zsi n∧Zsg n∧ZiQ n
 | 0=>⟨fun r b w0 w X hn=>by unfold fuP at hn;omega,fun r b w0 w X hn=>by unfold fuP at hn;omega,fun l r b w0 w X _ h4 hn=>by unfold fuP at hn;omega⟩
 | n+1=>by
  obtain⟨D,hS,C⟩:=Ziu n;refine⟨ZpT n C,ZnO n D,fun l r b w0 w X h1 h4 hn hl ht B => ?_⟩;obtain rfl|rfl|rfl|rfl:l=1∨l=2∨l=3∨l=4:=by omega
  ·exact Zlr n C r b w0 w X hn hl ht B
  ·exact Zlq n C r b w0 w X hn hl ht B
  ·exact Zlp n C r b w0 w X hn hl ht B
  exact Zlo n C hS r b w0 w X hn hl ht B
end Go.Proofs.YtncekbbhgipdlaaGreat
namespace Go.Proofs.YtncekbbhgipdlaaGreat
theorem ZgP {xs ys:List (Int × Int)} {p:Int × Int}:(xs++p::ys).getD xs.length (0,0)=p:=by simp
theorem ZiZ {es pre suf:List (Int × Int)} {p:Int × Int} (he:es=pre++p::suf) (hp:Zag p=0):stkB es (pre.length+1)=stkB es pre.length++[pre.length]:=by
 have h:es.getD pre.length (0,0)=p:=by rw[he];exact ZgP
 rw[Zdn];unfold begB;rw[h,hp];simp
theorem ZnL {es pre xs suf:List (Int × Int)} {p:Int × Int} (he:es=pre++xs++p::suf) (hp:Zag p=1) (hx:stkB es (pre.length+xs.length)=stkB es pre.length++[pre.length]):stkB es (pre.length+(xs.length+1))=stkB es pre.length++[pre.length]:=by
 have h:es.getD (pre.length+xs.length) (0,0)=p:=by rw[he,← List.length_append];exact ZgP
 rw[← Nat.add_assoc,Zdn];unfold begB;rw[h,hp,hx];simp
theorem Zk1 {es pre xs ys suf:List (Int × Int)} {p:Int × Int} (he:es=pre++xs++ys++p::suf) (hp:Zag p=2) (hx:stkB es (pre.length+xs.length)=stkB es pre.length++[pre.length]) (hy:stkB es (pre.length+xs.length+ys.length)=stkB es (pre.length+xs.length)++[pre.length+xs.length]) :
  stkB es (pre.length+(xs.length+(ys.length+1)))=stkB es pre.length++[pre.length]:=by
 have h:es.getD (pre.length+xs.length+ys.length) (0,0)=p:=by rw[he,← List.length_append,← List.length_append];exact ZgP
 rw[show pre.length+(xs.length+(ys.length+1))=pre.length+xs.length+ys.length+1 by omega,Zdn];unfold begB;rw[h,hp,hy,hx];simp
theorem Zqh:∀ (t:Ex) (es pre suf:List (Int × Int)),es=pre++t.post++suf→stkB es (pre.length+t.post.length)=stkB es pre.length++[pre.length]:=by
 intro t
 induction t with
 | zero=>intro es pre suf he;exact ZiZ (p:=(1,0)) (suf:=suf) (by rw[he];simp[Ex.post]) Ze6
 | one=>intro es pre suf he;exact ZiZ (p:=(2,0)) (suf:=suf) (by rw[he];simp[Ex.post]) Ze5
 | ltr c=>intro es pre suf he;exact ZiZ (p:=(3,(c.val:Int))) (suf:=suf) (by rw[he];simp[Ex.post]) (Zet c)
 | neg a ha =>intro es pre suf he;have h1:=ha es pre ((7,0)::suf) (by rw[he];simp[Ex.post]);have h2:=ZnL (xs:=a.post) (p:=(7,0)) (suf:=suf) (by rw[he];simp[Ex.post]) Zhe h1;simpa [Ex.post] using h2
 | star a ha =>intro es pre suf he;have h1:=ha es pre ((8,0)::suf) (by rw[he];simp[Ex.post]);have h2:=ZnL (xs:=a.post) (p:=(8,0)) (suf:=suf) (by rw[he];simp[Ex.post]) ZeP h1;simpa [Ex.post] using h2
 | join a b ha hb =>intro es pre suf he;have h1:=ha es pre (b.post++(4,0)::suf) (by rw[he];simp[Ex.post]);have h2:=hb es (pre++a.post) ((4,0)::suf) (by rw[he];simp[Ex.post]);rw[List.length_append] at h2;have h3:=Zk1 (xs:=a.post) (ys:=b.post) (p:=(4,0)) (suf:=suf) (by rw[he];simp[Ex.post]) ZeQ h1 h2;simpa [Ex.post] using h3
 | alt a b ha hb =>intro es pre suf he;have h1:=ha es pre (b.post++(5,0)::suf) (by rw[he];simp[Ex.post]);have h2:=hb es (pre++a.post) ((5,0)::suf) (by rw[he];simp[Ex.post]);rw[List.length_append] at h2;have h3:=Zk1 (xs:=a.post) (ys:=b.post) (p:=(5,0)) (suf:=suf) (by rw[he];simp[Ex.post]) Zhf h1 h2;simpa [Ex.post] using h3
 | both a b ha hb =>intro es pre suf he;have h1:=ha es pre (b.post++(6,0)::suf) (by rw[he];simp[Ex.post]);have h2:=hb es (pre++a.post) ((6,0)::suf) (by rw[he];simp[Ex.post]);rw[List.length_append] at h2;have h3:=Zk1 (xs:=a.post) (ys:=b.post) (p:=(6,0)) (suf:=suf) (by rw[he];simp[Ex.post]) ZeR h1 h2;simpa [Ex.post] using h3
theorem Zsc (a b:Ex) (p:Int × Int):begB (a.post++b.post++[p]) (a.post.length+b.post.length-1)=a.post.length:=by have h2:=Zqh b (a.post++b.post++[p]) a.post [p] rfl;have hb:=Zax b;rw[show a.post.length+b.post.length=(a.post.length+b.post.length-1)+1 by omega,Zdn] at h2;have:=List.append_inj_right' h2 rfl;simpa using this
end Go.Proofs.YtncekbbhgipdlaaGreat
