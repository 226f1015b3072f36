/-
  Plain: simplified expressions and derivatives; their languages.
  No condition.
-/
import Derived.Test.YtncekbbhgipdlaaGreatRows
import Derived.Test.YtncekbbhgipdlaaGreatPc21Jt
set_option maxHeartbeats 16000000
set_option maxRecDepth 100000
namespace Go.Proofs.YtncekbbhgipdlaaGreat
open Go.RowKit
def Zna (x y:Ex):Ex:=if x = .zero∨y = .zero then .zero else if x = .one then y else if y = .one then x else .join x y
def Znm (x y:Ex):Ex:=if x = .zero∨x=y then y else if y = .zero then x else .alt x y
def Znt (x y:Ex):Ex:=if x = .zero∨y = .zero then .zero else if x=y then x else .both x y
def negS (x:Ex):Ex:=match x with
 | .neg a=>a
 | x => .neg x
def ZmJ (x:Ex):Ex:=if x = .zero∨x = .one then .one else match x with
 | .star a => .star a
 | x => .star x
def simE:Ex→Ex
 | .join a b=>Zna (simE a) (simE b)
 | .alt a b=>Znm (simE a) (simE b)
 | .both a b=>Znt (simE a) (simE b)
 | .neg a=>negS (simE a)
 | .star a=>ZmJ (simE a)
 | t=>t
def isK (es:List (Int × Int)) (k:Int):Bool:=decide (es.length=1)&&decide ((es.getD 0 (0,0)).1=k)
theorem Zo1 (t:Ex) (k:Int) (hk:k=1∨k=2):isK t.post k=true↔(k=1∧t = .zero)∨(k=2∧t = .one):=by
 have B:∀ (a b:List (Int × Int)) (p:Int × Int),1≤a.length→1≤b.length→isK (a++b++[p]) k=false:=fun a b p h1 h2=>by unfold isK;rw[decide_eq_false (by rw[List.length_append,List.length_append,List.length_singleton];omega),Bool.false_and]
 have one:∀ (a:List (Int × Int)) (p:Int × Int),1≤a.length→isK (a++[p]) k=false:=fun a p h1=>by unfold isK;rw[decide_eq_false (by rw[List.length_append,List.length_singleton];omega),Bool.false_and]
 have no:∀ t:Ex,t ≠ .zero→t ≠ .one→isK t.post k=false→(isK t.post k=true↔(k=1∧t = .zero)∨(k=2∧t = .one)):=fun t h1 h2 h3=>by rw[h3];exact⟨fun h=>(by cases h),fun h=>h.elim (fun h=>absurd h.2 h1) fun h=>absurd h.2 h2⟩
 cases t with
 | zero =>
  rcases hk with rfl|rfl
  ·exact⟨fun _ => .inl ⟨rfl,rfl⟩,fun _=>rfl⟩
  exact⟨fun h=>absurd h (by decide),fun h=>h.elim (fun h=>absurd h.1 (by decide)) fun h=>(by cases h.2)⟩
 | one =>
  rcases hk with rfl|rfl
  ·exact⟨fun h=>absurd h (by decide),fun h=>h.elim (fun h=>(by cases h.2)) fun h=>absurd h.1 (by decide)⟩
  exact⟨fun _ => .inr ⟨rfl,rfl⟩,fun _=>rfl⟩
 | ltr c =>refine no _ (by simp) (by simp) ?_;unfold isK;rw[decide_eq_false (p:=(((Ex.ltr c).post).getD 0 (0,0)).1=k) (by show ¬ (3:Int)=k;omega),Bool.and_false]
 | join a b=>exact no _ (by simp) (by simp) (B _ _ _ (Zax a) (Zax b))
 | alt a b=>exact no _ (by simp) (by simp) (B _ _ _ (Zax a) (Zax b))
 | both a b=>exact no _ (by simp) (by simp) (B _ _ _ (Zax a) (Zax b))
 | neg a=>exact no _ (by simp) (by simp) (one _ _ (Zax a))
 | star a=>exact no _ (by simp) (by simp) (one _ _ (Zax a))
theorem Zfi (es:List (Int × Int)) (k:Int) (v:Value) (w:World) (h:Pairs 0 w v es) (r:Bool) (hr:isK es k=r) :
  Calls Tryz.prog 123 #[v,.int .i64 k] w fun e w'=>e = .returned (.bool r)∧w=w':=by
 obtain⟨a,c,rfl,D,H,B⟩:=h.form;clear h;unfold isK at hr;by_cases h1:es.length=1
 ·rw[decide_eq_true h1,Bool.true_and] at hr;obtain⟨b,o,rfl,-,M,C⟩:=B (by omega);have g1:=(C 0 (by omega)).1;obtain⟨p,hp⟩:=eI ((es.getD 0 (0,0)).1);rw[← hp] at g1 hr;have g1':w.cell? ⟨b,o,none⟩=some (.int .i64 p):=g1;obtain⟨n,hn⟩:=eI (es.length);rw[← hn] at h1 D;rw[← hn];subst h1;replace hn:=qh hn;have F:=qh hp;clear hp;clear C B g1;by_cases hpk:p=k
  ·rw[decide_eq_true hpk] at hr;subst hr hpk
   go_enter Tryz.func123, Tryz.ntmps123
   go_wp2;go_ret;exact⟨Zb5 (by simp),rfl⟩
  rw[decide_eq_false hpk] at hr;subst hr;obtain⟨L,I,G,J⟩:=Zaw hpk
  go_enter Tryz.func123, Tryz.ntmps123
  go_wp2;go_ret;exact⟨rfl,rfl⟩
 rw[decide_eq_false h1,Bool.false_and] at hr;subst hr;have E:¬ (es.length:Int)=1:=by omega
 obtain⟨L,I,G,J⟩:=Zaw E;clear B
 go_enter Tryz.func123, Tryz.ntmps123
 go_wp2;go_ret;exact⟨rfl,rfl⟩
theorem Zm6 (xs ys:List (Int × Int)) (v1 v2:Value) (w:World) (hl:xs.length≤100000) (h1:Pairs 0 w v1 xs) (h2:Pairs 0 w v2 ys) :
  Calls Tryz.prog 124 #[v1,v2] w fun e w'=>e = .returned (.bool (decide (xs=ys)))∧Below w.heap.size w w':=by
 obtain⟨a1,c1,rfl,T,m,N⟩:=h1.form;obtain⟨a2,c2,rfl,Z,s,Q⟩:=h2.form;have J:=qh N;have G:=qh Q;clear h1 h2 N Q;by_cases hln:xs.length=ys.length
 ·obtain⟨n,hn⟩:=eI (xs.length);have E:n=ys.length:=hn.trans hln;rw[← hn] at T J hl ⊢;rw[← E] at Z G ⊢;replace hn:=qh hn;have P:=qh E;clear E;clear hln
  go_enter Tryz.func124, Tryz.ntmps124
  go_wp2
  go_loopw [5] (fun V wr=>∃ i:Nat,V = .int .i64 (i:Int)∧i≤n∧(∀ j,j<i→xs.getD j (0,0)=ys.getD j (0,0))∧Below w.heap.size w wr) (fun V _=>n-(intOf V).toNat)
  case atStart=>exact⟨0,rfl,Nat.zero_le _,fun j hj=>by omega,Below.refl _ _⟩
  case round =>
   obtain⟨i,rfl,hi,F,hb⟩:=hrel;have D:=qh hb;have H:=qh F;clear hb F;by_cases hlt:i<n
   ·have a:(i:Int)<(n:Int):=by omega
    have t:IntKind.i64.wrap ((i:Int)+1)=(i:Int)+1:=IntWalk.i64_in _ (by omega);obtain⟨b1,o1,rfl,-,M,g1⟩:=J.o (by omega);obtain⟨b2,o2,rfl,-,O,g2⟩:=G.o (by omega);have S:=(bcell D.o b1 _ M).trans (g1 i hlt).1;have R:=(bcell D.o b1 _ M).trans (g1 i hlt).2;have L:=(bcell D.o b2 _ O).trans (g2 i hlt).1;have I:=(bcell D.o b2 _ O).trans (g2 i hlt).2;by_cases he:xs.getD i (0,0)=ys.getD i (0,0)
    ·rw[← he] at L I;obtain⟨p,hp⟩:=eI (xs.getD i (0,0));rw[← hp] at S R L I;obtain⟨x,y⟩:=p;simp only at S R L I;have U:=qh hp;clear hp;replace he:=qh he;clear g1 g2;go_wp2
     go_region
     go_wp2;go_roundw
     case rel =>
      refine⟨i+1,by simp,by omega,fun j hj => ?_,D.o.drew⟩;by_cases hji:j<i
      ·exact H.o j hji
      obtain rfl:j=i:=by omega
      exact he.o
     case measure=>simp[intOf];omega
    have C:decide (xs=ys)=false:=decide_eq_false fun h=>he (by rw[h])
    obtain⟨p,hp⟩:=eI (xs.getD i (0,0));obtain⟨q,hq⟩:=eI (ys.getD i (0,0));rw[← hp] at S R he;rw[← hq] at L I he;obtain⟨x,y⟩:=p;obtain⟨r,k⟩:=q;simp only at S R L I;have B:=qh C;clear C;have U:=qh hp;clear hp;have l:=qh hq;clear hq;clear g1 g2;by_cases hx:x=r
    ·have hy:y≠k:=fun h=>he (by rw[hx,h])
     subst hx;obtain⟨g,c,b,d⟩:=Zaw hy;replace he:=qh he;go_wp2
     go_region
     go_wp2;go_ret;exact⟨Zb5 B.o.symm,D.o.drew⟩
    obtain⟨g,c,b,d⟩:=Zaw hx;replace he:=qh he;go_wp2
    go_region
    go_wp2;go_ret;exact⟨Zb5 B.o.symm,D.o.drew⟩
   obtain rfl:i=n:=by omega
   have a:¬ (i:Int)<(i:Int):=by omega
   have hy:decide (xs=ys)=true:=decide_eq_true (List.ext_getElem (by rw[← hn.o,← P.o]) fun j h1 h2=>by
    have:=H.o j (by rw[hn.o];exact h1)
    rwa [List.getD_eq_getElem?_getD,List.getElem?_eq_getElem h1,List.getD_eq_getElem?_getD,List.getElem?_eq_getElem h2] at this)
   have Y:=qh hy;clear hy;go_wp2;go_ret;exact⟨Zb5 Y.o.symm,D.o⟩
 have C:decide (xs=ys)=false:=decide_eq_false fun h=>hln (by rw[h])
 have X:¬ (xs.length:Int)=(ys.length:Int):=by omega
 obtain⟨g,c,b,d⟩:=Zaw X;have B:=qh C;clear C
 go_enter Tryz.func124, Tryz.ntmps124
 go_wp2;go_ret;exact⟨Zb5 B.o.symm,Below.refl _ _⟩
def Zgu (es:List (Int × Int)):Int:=(es.getD (es.length-1) (0,0)).1
def mkL (k z:Int) (xs ys:List (Int × Int)):List (Int × Int) :=
 if k=4 then(if isK xs 1=true∨isK ys 1=true then [(1,0)] else if isK xs 2=true then ys else if isK ys 2=true then xs else xs++ys++[(k,z)])
 else if k=5 then(if isK xs 1=true∨xs=ys then ys else if isK ys 1=true then xs else xs++ys++[(k,z)])
 else if k=6 then(if isK xs 1=true∨isK ys 1=true then [(1,0)] else if xs=ys then xs else xs++ys++[(k,z)])
 else if k=7 then(if Zgu xs=7 then xs.take (xs.length-1) else xs++ys++[(k,z)])
 else if k=8 then(if isK xs 1=true∨isK xs 2=true then [(2,0)] else if Zgu xs=8 then xs else xs++ys++[(k,z)])
 else xs++ys++[(k,z)]
def RPr (es:List (Int × Int)) (w:World) (e:Ending) (w':World):Prop:=∃ v,e = .returned v∧Pairs 0 w' v es∧Below w.heap.size w w'
def RPm (M xs ys:List (Int × Int)) (v1 v2:Value) (w:World) (e:Ending) (w':World):Prop:=∃ v F,e = .returned v∧St w w' [F]∧∀ u,Pairs 0 u v1 xs→Pairs 0 u v2 ys→F.holds u→Pairs 0 u v M
theorem Zf8 {M xs ys:List (Int × Int)} {v1 v2 v:Value} {w w':World} {L:List Ent} (hS:St w w' L) (h:∀ u,Pairs 0 u v1 xs→Pairs 0 u v2 ys→Pairs 0 u v M):RPm M xs ys v1 v2 w (.returned v) w' :=
 ⟨v,Ent.nil,rfl,(hS.pick [] (by decide)).add (Below.refl _ _) Ent.nil trivial fun k hk=>hk.elim,fun u h1 h2 _=>h u h1 h2⟩
theorem ZeN {M xs ys:List (Int × Int)} {v1 v2 v:Value} {w w':World} {X:Ent} (hS:St w w' [X]) (h:∀ u,X.holds u→Pairs 0 u v M):RPm M xs ys v1 v2 w (.returned v) w':=⟨v,X,rfl,hS,fun u _ _ h3=>h u h3⟩
theorem Zlu (k z:Int) (xs ys:List (Int × Int)) (v1 v2:Value) (w:World) (bM:xs.length≤10000) (bR:ys.length≤10000) (aW:k=7∨k=8→1≤xs.length) (h1:Pairs 0 w v1 xs) (h2:Pairs 0 w v2 ys) :
  Calls Tryz.prog 83 #[.agg #[.int .i64 k,.int .i64 z],v1,v2] w fun e w'=>RPm (mkL k z xs ys) xs ys v1 v2 w e w':=by
 obtain⟨xa,xc,rfl,bW,cA,aV⟩:=h1.form;obtain⟨ya,yc,rfl,bL,bZ,bC⟩:=h2.form;obtain⟨i0,hi,aS,bI,bG⟩:=info_parts Tryz.infoPt;obtain⟨nx,R⟩:∃ n,n=xs.length:=⟨_,rfl⟩;obtain⟨U,aA⟩:∃ n,n=ys.length:=⟨_,rfl⟩;have aU:nx+U+1=(xs++ys++[(k,z)]).length:=by rw[List.length_append,List.length_append,R,aA];rfl
 rw[← R] at bW bM h1 aV;rw[← aA] at bL bR h2 bC;rw[← R,← aA];rw[← R] at aW;have D:=qh ((((St.start w).alloc w.heap.size rfl #[.int .i64 k,.int .i64 z] 62).alloc (w.heap.size+1) (by simp) #[.int .i64 1,.int .i64 0] 62).alloc (w.heap.size+1+1) (by simp) #[.int .i64 2,.int .i64 0] 62);have HX:QH (Sl 0 w (.slice xa nx xc) nx 2 (xs.flatMap Zaa)):=qh (by have:=h1;unfold Pairs at this;rw[← R] at this;exact this);have HY:QH (Sl 0 w (.slice ya U yc) U 2 (ys.flatMap Zaa)):=qh (by have:=h2;unfold Pairs at this;rw[← aA] at this;exact this);have H1:=qh h1;have H2:=qh h2;have bJ:=qh aV;have aT:=qh aW;have bB:=qh hi;clear hi;replace aS:=qh aS;have aD:=qh bI;clear bI;have aC:=qh bG;clear bG;replace R:=qh R;have bY:=qh aA;clear aA;replace aU:=qh aU;clear h1 h2 aV bC aW
 go_enter Tryz.func83, Tryz.ntmps83
 go_upto_region 3 with fail
 obtain⟨W,hW⟩:=eI (((w.alloc (.cells #[.int .i64 k,.int .i64 z] 62)).alloc (.cells #[.int .i64 1,.int .i64 0] 62)).alloc (.cells #[.int .i64 2,.int .i64 0] 62));rw[← hW] at D ⊢;clear hW;have e0:=D.o.cell (v:=.int .i64 k) 0 0 rfl rfl;have e1:=D.o.cell (v:=.int .i64 z) 0 1 rfl rfl
 go_upto_block 0 with fail
 go_cut [] from 15 to 97 (fun wc=>mkL k z xs ys=xs++ys++[(k,z)]∧St w wc [Ent.box w.heap.size #[.int .i64 k,.int .i64 z] 62,Ent.box (w.heap.size+1) #[.int .i64 1,.int .i64 0] 62,Ent.box (w.heap.size+1+1) #[.int .i64 2,.int .i64 0] 62])
 case first =>
  obtain⟨aR,aJ⟩:∃ r,isK xs 1=r:=⟨_,rfl⟩;obtain⟨aZ,aM⟩:∃ r,isK xs 2=r:=⟨_,rfl⟩;obtain⟨aE,x⟩:∃ r,isK ys 1=r:=⟨_,rfl⟩;obtain⟨bE,aB⟩:∃ r,isK ys 2=r:=⟨_,rfl⟩;obtain⟨rs,aY⟩:∃ r,decide (xs=ys)=r:=⟨_,rfl⟩;have H:=qh (Zfi xs 1 (.slice xa nx xc) W (H1.o.below D.o.bel) aR aJ);have G:=qh (Zfi xs 2 (.slice xa nx xc) W (H1.o.below D.o.bel) aZ aM);have I:=qh (Zfi ys 1 (.slice ya U yc) W (H2.o.below D.o.bel) aE x);have F:=qh (Zfi ys 2 (.slice ya U yc) W (H2.o.below D.o.bel) bE aB);have bA:=Zm6 xs ys (.slice xa nx xc) (.slice ya U yc) W (by rw[← R.o];omega) (H1.o.below D.o.bel) (H2.o.below D.o.bel);rw[aY] at bA;have aO:=qh bA;have aQ:=qh (fun (u:World) (hb:Below w.heap.size w u)=>Zfi ys 1 (.slice ya U yc) u (H2.o.below hb) aE x);have C:=qh aJ;have P:=qh aM;have J:=qh x;have aN:=qh aB;have j:QH ((xs=ys)=(rs=true)):=qh (by rw[← aY,decide_eq_true_eq]);clear aJ aM x aB aY bA;by_cases h4:k=4
  ·subst h4;cases aR with
   | true =>
    have hm:mkL 4 z xs ys=[(1,0)]:=by simp[mkL,C.o]
    have B:=qh hm;clear hm
    as_aux_lemma =>
    go_wp2_with (first|(go_at_call 123;with_reducible refine(H.o).mono ?_;rintro e w' ⟨rfl,rfl⟩)|(go_at_call 123;with_reducible refine(G.o).mono ?_;rintro e w' ⟨rfl,rfl⟩)|(go_at_call 123;with_reducible refine(I.o).mono ?_;rintro e w' ⟨rfl,rfl⟩)|(go_at_call 123;with_reducible refine(F.o).mono ?_;rintro e w' ⟨rfl,rfl⟩));go_ret;rw[B.o];exact ZeN ((D.o.boxrow 1 1 2 [.int .i64 1,.int .i64 0] rfl rfl (by unfold maxLen;omega)).pick [1] (by decide)) fun u h=>Zaj (xs:=[(1,0)]) h
   | false =>
    cases aE with
    | true =>
     have hm:mkL 4 z xs ys=[(1,0)]:=by simp[mkL,C.o,J.o]
     have B:=qh hm;clear hm
     as_aux_lemma =>
     go_wp2_with (first|(go_at_call 123;with_reducible refine(H.o).mono ?_;rintro e w' ⟨rfl,rfl⟩)|(go_at_call 123;with_reducible refine(G.o).mono ?_;rintro e w' ⟨rfl,rfl⟩)|(go_at_call 123;with_reducible refine(I.o).mono ?_;rintro e w' ⟨rfl,rfl⟩)|(go_at_call 123;with_reducible refine(F.o).mono ?_;rintro e w' ⟨rfl,rfl⟩));go_ret;rw[B.o];exact ZeN ((D.o.boxrow 1 1 2 [.int .i64 1,.int .i64 0] rfl rfl (by unfold maxLen;omega)).pick [1] (by decide)) fun u h=>Zaj (xs:=[(1,0)]) h
    | false =>
     cases aZ with
     | true =>
      have hm:mkL 4 z xs ys=ys:=by simp[mkL,C.o,J.o,P.o]
      have B:=qh hm;clear hm
      as_aux_lemma =>
      go_wp2_with (first|(go_at_call 123;with_reducible refine(H.o).mono ?_;rintro e w' ⟨rfl,rfl⟩)|(go_at_call 123;with_reducible refine(G.o).mono ?_;rintro e w' ⟨rfl,rfl⟩)|(go_at_call 123;with_reducible refine(I.o).mono ?_;rintro e w' ⟨rfl,rfl⟩)|(go_at_call 123;with_reducible refine(F.o).mono ?_;rintro e w' ⟨rfl,rfl⟩));go_ret;rw[B.o];exact Zf8 D.o fun u _ h=>h
     | false =>
      cases bE with
      | true =>
       have hm:mkL 4 z xs ys=xs:=by simp[mkL,C.o,J.o,P.o,aN.o]
       have B:=qh hm;clear hm
       as_aux_lemma =>
       go_wp2_with (first|(go_at_call 123;with_reducible refine(H.o).mono ?_;rintro e w' ⟨rfl,rfl⟩)|(go_at_call 123;with_reducible refine(G.o).mono ?_;rintro e w' ⟨rfl,rfl⟩)|(go_at_call 123;with_reducible refine(I.o).mono ?_;rintro e w' ⟨rfl,rfl⟩)|(go_at_call 123;with_reducible refine(F.o).mono ?_;rintro e w' ⟨rfl,rfl⟩));go_ret;rw[B.o];exact Zf8 D.o fun u h _=>h
      | false =>
       have hm:mkL 4 z xs ys=xs++ys++[(4,z)]:=by simp[mkL,C.o,J.o,P.o,aN.o]
       have B:=qh hm;clear hm
       as_aux_lemma =>
       go_wp2_with (first|(go_at_call 123;with_reducible refine(H.o).mono ?_;rintro e w' ⟨rfl,rfl⟩)|(go_at_call 123;with_reducible refine(G.o).mono ?_;rintro e w' ⟨rfl,rfl⟩)|(go_at_call 123;with_reducible refine(I.o).mono ?_;rintro e w' ⟨rfl,rfl⟩)|(go_at_call 123;with_reducible refine(F.o).mono ?_;rintro e w' ⟨rfl,rfl⟩));go_meet;exact⟨B.o,D.o⟩
  by_cases h5:k=5
  ·subst h5;cases aR with
   | true =>
    have hm:mkL 5 z xs ys=ys:=by simp[mkL,C.o]
    have B:=qh hm;clear hm
    as_aux_lemma =>
    go_wp2_with (first|(go_at_call 123;with_reducible refine(H.o).mono ?_;rintro e w' ⟨rfl,rfl⟩)|(go_at_call 123;with_reducible refine(G.o).mono ?_;rintro e w' ⟨rfl,rfl⟩)|(go_at_call 123;with_reducible refine(I.o).mono ?_;rintro e w' ⟨rfl,rfl⟩)|(go_at_call 123;with_reducible refine(F.o).mono ?_;rintro e w' ⟨rfl,rfl⟩));go_ret;rw[B.o];exact Zf8 D.o fun u _ h=>h
   | false =>
    cases rs with
    | true =>
     have hm:mkL 5 z xs ys=ys:=by simp[mkL,C.o,j.o]
     have B:=qh hm;clear hm
     as_aux_lemma =>
     go_wp2_with (first|(go_at_call 123;with_reducible refine(H.o).mono ?_;rintro e w' ⟨rfl,rfl⟩)|(go_at_call 123;with_reducible refine(G.o).mono ?_;rintro e w' ⟨rfl,rfl⟩)|(go_at_call 123;with_reducible refine(I.o).mono ?_;rintro e w' ⟨rfl,rfl⟩)|(go_at_call 123;with_reducible refine(F.o).mono ?_;rintro e w' ⟨rfl,rfl⟩)|(go_at_call 124;refine(aO.o).mono ?_;rintro e w3 ⟨rfl,O⟩;have N:=qh (D.o.call O);clear O)|(go_at_call 123;refine(aQ.o _ N.o.bel).mono ?_;rintro e w' ⟨rfl,rfl⟩));go_ret;rw[B.o];exact Zf8 N.o fun u _ h=>h
    | false =>
     cases aE with
     | true =>
      have hm:mkL 5 z xs ys=xs:=by simp[mkL,C.o,j.o,J.o]
      have B:=qh hm;clear hm
      as_aux_lemma =>
      go_wp2_with (first|(go_at_call 123;with_reducible refine(H.o).mono ?_;rintro e w' ⟨rfl,rfl⟩)|(go_at_call 123;with_reducible refine(G.o).mono ?_;rintro e w' ⟨rfl,rfl⟩)|(go_at_call 123;with_reducible refine(I.o).mono ?_;rintro e w' ⟨rfl,rfl⟩)|(go_at_call 123;with_reducible refine(F.o).mono ?_;rintro e w' ⟨rfl,rfl⟩)|(go_at_call 124;refine(aO.o).mono ?_;rintro e w3 ⟨rfl,O⟩;have N:=qh (D.o.call O);clear O)|(go_at_call 123;refine(aQ.o _ N.o.bel).mono ?_;rintro e w' ⟨rfl,rfl⟩));go_ret;rw[B.o];exact Zf8 N.o fun u h _=>h
     | false =>
      have hm:mkL 5 z xs ys=xs++ys++[(5,z)]:=by simp[mkL,C.o,j.o,J.o]
      have B:=qh hm;clear hm
      as_aux_lemma =>
      go_wp2_with (first|(go_at_call 123;with_reducible refine(H.o).mono ?_;rintro e w' ⟨rfl,rfl⟩)|(go_at_call 123;with_reducible refine(G.o).mono ?_;rintro e w' ⟨rfl,rfl⟩)|(go_at_call 123;with_reducible refine(I.o).mono ?_;rintro e w' ⟨rfl,rfl⟩)|(go_at_call 123;with_reducible refine(F.o).mono ?_;rintro e w' ⟨rfl,rfl⟩)|(go_at_call 124;refine(aO.o).mono ?_;rintro e w3 ⟨rfl,O⟩;have N:=qh (D.o.call O);clear O)|(go_at_call 123;refine(aQ.o _ N.o.bel).mono ?_;rintro e w' ⟨rfl,rfl⟩));go_meet;exact⟨B.o,N.o⟩
  by_cases h6:k=6
  ·subst h6;cases aR with
   | true =>
    have hm:mkL 6 z xs ys=[(1,0)]:=by simp[mkL,C.o]
    have B:=qh hm;clear hm
    as_aux_lemma =>
    go_wp2_with (first|(go_at_call 123;with_reducible refine(H.o).mono ?_;rintro e w' ⟨rfl,rfl⟩)|(go_at_call 123;with_reducible refine(G.o).mono ?_;rintro e w' ⟨rfl,rfl⟩)|(go_at_call 123;with_reducible refine(I.o).mono ?_;rintro e w' ⟨rfl,rfl⟩)|(go_at_call 123;with_reducible refine(F.o).mono ?_;rintro e w' ⟨rfl,rfl⟩));go_ret;rw[B.o];exact ZeN ((D.o.boxrow 1 1 2 [.int .i64 1,.int .i64 0] rfl rfl (by unfold maxLen;omega)).pick [1] (by decide)) fun u h=>Zaj (xs:=[(1,0)]) h
   | false =>
    cases aE with
    | true =>
     have hm:mkL 6 z xs ys=[(1,0)]:=by simp[mkL,C.o,J.o]
     have B:=qh hm;clear hm
     as_aux_lemma =>
     go_wp2_with (first|(go_at_call 123;with_reducible refine(H.o).mono ?_;rintro e w' ⟨rfl,rfl⟩)|(go_at_call 123;with_reducible refine(G.o).mono ?_;rintro e w' ⟨rfl,rfl⟩)|(go_at_call 123;with_reducible refine(I.o).mono ?_;rintro e w' ⟨rfl,rfl⟩)|(go_at_call 123;with_reducible refine(F.o).mono ?_;rintro e w' ⟨rfl,rfl⟩));go_ret;rw[B.o];exact ZeN ((D.o.boxrow 1 1 2 [.int .i64 1,.int .i64 0] rfl rfl (by unfold maxLen;omega)).pick [1] (by decide)) fun u h=>Zaj (xs:=[(1,0)]) h
    | false =>
     cases rs with
     | true =>
      have hm:mkL 6 z xs ys=xs:=by simp[mkL,C.o,J.o,j.o]
      have B:=qh hm;clear hm
      as_aux_lemma =>
      go_wp2_with (first|(go_at_call 123;with_reducible refine(H.o).mono ?_;rintro e w' ⟨rfl,rfl⟩)|(go_at_call 123;with_reducible refine(G.o).mono ?_;rintro e w' ⟨rfl,rfl⟩)|(go_at_call 123;with_reducible refine(I.o).mono ?_;rintro e w' ⟨rfl,rfl⟩)|(go_at_call 123;with_reducible refine(F.o).mono ?_;rintro e w' ⟨rfl,rfl⟩)|(go_at_call 124;refine(aO.o).mono ?_;rintro e w3 ⟨rfl,O⟩;have N:=qh (D.o.call O);clear O)|(go_at_call 123;refine(aQ.o _ N.o.bel).mono ?_;rintro e w' ⟨rfl,rfl⟩));go_ret;rw[B.o];exact Zf8 N.o fun u h _=>h
     | false =>
      have hm:mkL 6 z xs ys=xs++ys++[(6,z)]:=by simp[mkL,C.o,J.o,j.o]
      have B:=qh hm;clear hm
      as_aux_lemma =>
      go_wp2_with (first|(go_at_call 123;with_reducible refine(H.o).mono ?_;rintro e w' ⟨rfl,rfl⟩)|(go_at_call 123;with_reducible refine(G.o).mono ?_;rintro e w' ⟨rfl,rfl⟩)|(go_at_call 123;with_reducible refine(I.o).mono ?_;rintro e w' ⟨rfl,rfl⟩)|(go_at_call 123;with_reducible refine(F.o).mono ?_;rintro e w' ⟨rfl,rfl⟩)|(go_at_call 124;refine(aO.o).mono ?_;rintro e w3 ⟨rfl,O⟩;have N:=qh (D.o.call O);clear O)|(go_at_call 123;refine(aQ.o _ N.o.bel).mono ?_;rintro e w' ⟨rfl,rfl⟩));go_meet;exact⟨B.o,N.o⟩
  by_cases h7:k=7
  ·subst h7;obtain⟨b,o,rfl,-,aX,aI⟩:=bJ.o (by have:=aT.o (by omega);omega);have bN:1≤nx:=aT.o (by omega);have g:=(aI (nx-1) (by omega)).1;obtain⟨m,aG⟩:∃ m,nx=m+1:=⟨nx-1,by omega⟩;have hL:(xs.getD (nx-1) (0,0)).1=Zgu xs:=by rw[R.o];rfl
   rw[hL] at g;obtain⟨L,p⟩:=eJ (Zgu xs);rw[p] at g;rw[show nx-1=m by omega] at g;have g':=(bcell D.o.bel b _ aX).trans g;have bQ:(nx:Int)-1=(m:Int):=by omega
   have bK:IntKind.i64.wrap (m:Int)=(m:Int):=IntWalk.i64_in _ (by omega);have bV:(m:Int)<(nx:Int):=by omega
   have l:=qh p;clear p;have aH:=qh aG;clear aG;replace hL:=qh hL;clear g aI;by_cases hLk:L=7
   ·subst hLk;have hm:mkL 7 z xs ys=xs.take (xs.length-1):=by simp[mkL,l.o]
    have B:=qh hm;clear hm
    as_aux_lemma =>
    go_wp2_with (first|(go_at_call 123;with_reducible refine(H.o).mono ?_;rintro e w' ⟨rfl,rfl⟩)|(go_at_call 123;with_reducible refine(G.o).mono ?_;rintro e w' ⟨rfl,rfl⟩)|(go_at_call 123;with_reducible refine(I.o).mono ?_;rintro e w' ⟨rfl,rfl⟩)|(go_at_call 123;with_reducible refine(F.o).mono ?_;rintro e w' ⟨rfl,rfl⟩));go_ret;rw[B.o];exact Zf8 D.o fun u h1 _=>by have h:=h1.take (n:=m) (by have h1:=R.o;have h2:=aH.o;omega);rw[← R.o,aH.o];exact h
   obtain⟨q1,q2,q3,q4⟩:=Zaw hLk;have aL:=qh hLk;clear hLk;have hm:mkL 7 z xs ys=xs++ys++[(7,z)]:=by simp[mkL,l.o,aL.o]
   have B:=qh hm;clear hm
   as_aux_lemma =>
   go_wp2_with (first|(go_at_call 123;with_reducible refine(H.o).mono ?_;rintro e w' ⟨rfl,rfl⟩)|(go_at_call 123;with_reducible refine(G.o).mono ?_;rintro e w' ⟨rfl,rfl⟩)|(go_at_call 123;with_reducible refine(I.o).mono ?_;rintro e w' ⟨rfl,rfl⟩)|(go_at_call 123;with_reducible refine(F.o).mono ?_;rintro e w' ⟨rfl,rfl⟩));go_meet;exact⟨B.o,D.o⟩
  by_cases h8:k=8
  ·subst h8;cases aR with
   | true =>
    have hm:mkL 8 z xs ys=[(2,0)]:=by simp[mkL,C.o]
    have B:=qh hm;clear hm
    as_aux_lemma =>
    go_wp2_with (first|(go_at_call 123;with_reducible refine(H.o).mono ?_;rintro e w' ⟨rfl,rfl⟩)|(go_at_call 123;with_reducible refine(G.o).mono ?_;rintro e w' ⟨rfl,rfl⟩)|(go_at_call 123;with_reducible refine(I.o).mono ?_;rintro e w' ⟨rfl,rfl⟩)|(go_at_call 123;with_reducible refine(F.o).mono ?_;rintro e w' ⟨rfl,rfl⟩));go_ret;rw[B.o];exact ZeN ((D.o.boxrow 2 1 2 [.int .i64 2,.int .i64 0] rfl rfl (by unfold maxLen;omega)).pick [2] (by decide)) fun u h=>Zaj (xs:=[(2,0)]) h
   | false =>
    cases aZ with
    | true =>
     have hm:mkL 8 z xs ys=[(2,0)]:=by simp[mkL,C.o,P.o]
     have B:=qh hm;clear hm
     as_aux_lemma =>
     go_wp2_with (first|(go_at_call 123;with_reducible refine(H.o).mono ?_;rintro e w' ⟨rfl,rfl⟩)|(go_at_call 123;with_reducible refine(G.o).mono ?_;rintro e w' ⟨rfl,rfl⟩)|(go_at_call 123;with_reducible refine(I.o).mono ?_;rintro e w' ⟨rfl,rfl⟩)|(go_at_call 123;with_reducible refine(F.o).mono ?_;rintro e w' ⟨rfl,rfl⟩));go_ret;rw[B.o];exact ZeN ((D.o.boxrow 2 1 2 [.int .i64 2,.int .i64 0] rfl rfl (by unfold maxLen;omega)).pick [2] (by decide)) fun u h=>Zaj (xs:=[(2,0)]) h
    | false =>
     obtain⟨b,o,rfl,-,aX,aI⟩:=bJ.o (by have:=aT.o (by omega);omega);have bN:1≤nx:=aT.o (by omega);have g:=(aI (nx-1) (by omega)).1;obtain⟨m,aG⟩:∃ m,nx=m+1:=⟨nx-1,by omega⟩;have hL:(xs.getD (nx-1) (0,0)).1=Zgu xs:=by rw[R.o];rfl
     rw[hL] at g;obtain⟨L,p⟩:=eJ (Zgu xs);rw[p] at g;rw[show nx-1=m by omega] at g;have g':=(bcell D.o.bel b _ aX).trans g;have bQ:(nx:Int)-1=(m:Int):=by omega
     have bK:IntKind.i64.wrap (m:Int)=(m:Int):=IntWalk.i64_in _ (by omega);have bV:(m:Int)<(nx:Int):=by omega
     have l:=qh p;clear p;have aH:=qh aG;clear aG;replace hL:=qh hL;clear g aI;by_cases hLk:L=8
     ·subst hLk;have hm:mkL 8 z xs ys=xs:=by simp[mkL,C.o,P.o,l.o]
      have B:=qh hm;clear hm
      as_aux_lemma =>
      go_wp2_with (first|(go_at_call 123;with_reducible refine(H.o).mono ?_;rintro e w' ⟨rfl,rfl⟩)|(go_at_call 123;with_reducible refine(G.o).mono ?_;rintro e w' ⟨rfl,rfl⟩)|(go_at_call 123;with_reducible refine(I.o).mono ?_;rintro e w' ⟨rfl,rfl⟩)|(go_at_call 123;with_reducible refine(F.o).mono ?_;rintro e w' ⟨rfl,rfl⟩));go_ret;rw[B.o];exact Zf8 D.o fun u h _=>h
     obtain⟨q1,q2,q3,q4⟩:=Zaw hLk;have aL:=qh hLk;clear hLk;have hm:mkL 8 z xs ys=xs++ys++[(8,z)]:=by simp[mkL,C.o,P.o,l.o,aL.o]
     have B:=qh hm;clear hm
     as_aux_lemma =>
     go_wp2_with (first|(go_at_call 123;with_reducible refine(H.o).mono ?_;rintro e w' ⟨rfl,rfl⟩)|(go_at_call 123;with_reducible refine(G.o).mono ?_;rintro e w' ⟨rfl,rfl⟩)|(go_at_call 123;with_reducible refine(I.o).mono ?_;rintro e w' ⟨rfl,rfl⟩)|(go_at_call 123;with_reducible refine(F.o).mono ?_;rintro e w' ⟨rfl,rfl⟩));go_meet;exact⟨B.o,D.o⟩
  obtain⟨a4,b4,c4,d4⟩:=Zaw h4;obtain⟨a5,b5,c5,d5⟩:=Zaw h5;obtain⟨a6,b6,c6,d6⟩:=Zaw h6;obtain⟨a7,b7,c7,d7⟩:=Zaw h7;obtain⟨a8,s,c8,d8⟩:=Zaw h8;replace h4:=qh h4;have bO:=qh h5;clear h5;have bP:=qh h6;clear h6;have bS:=qh h7;clear h7;have bU:=qh h8;clear h8;have hm:mkL k z xs ys=xs++ys++[(k,z)]:=by simp[mkL,h4.o,bO.o,bP.o,bS.o,bU.o]
  have B:=qh hm;clear hm
  as_aux_lemma =>
  go_wp2_with (first|(go_at_call 123;with_reducible refine(H.o).mono ?_;rintro e w' ⟨rfl,rfl⟩)|(go_at_call 123;with_reducible refine(G.o).mono ?_;rintro e w' ⟨rfl,rfl⟩)|(go_at_call 123;with_reducible refine(I.o).mono ?_;rintro e w' ⟨rfl,rfl⟩)|(go_at_call 123;with_reducible refine(F.o).mono ?_;rintro e w' ⟨rfl,rfl⟩));go_meet;exact⟨B.o,D.o⟩
 case rest =>
  obtain⟨bF,bD⟩:=hcut;have bX:=qh bD;have bH:=qh bF;clear bF;clear bD D;go_wp2;refine wp_region_any (by kernel_rfl) ?_
  refine Zay (fun A listed a w'=>∃ (l0 l1 l2 l3 l4 l5 l6 q X:Bool) (b7:Nat) (g1:Option Addr) (d1:Nat) (g2:Option Addr) (d2:Nat) (s:Nat) (g3:Option Addr) (y:Nat),listed=#[l0,l1,l2,l3,l4,l5,l6,q,X]∧(l2=true→l0=true∧l1=true)∧(l4=true→l2=true∧l3=true)∧(l6=true→l5=true)∧(q=true→l4=true∧l6=true)∧(X=true→q=true) ∧
    a=⟨(((((((((A.tmps.setIfInBounds 98 (if l0=true then .slice (some ⟨b7,0,none⟩) 0 0 else A.tmps.getD 98 undef)).setIfInBounds 99 (if l1=true then .slice xa nx xc else A.tmps.getD 99 undef)).setIfInBounds 100 (if l2=true then .slice g1 nx d1 else A.tmps.getD 100 undef)).setIfInBounds 101 (if l3=true then .slice ya U yc else A.tmps.getD 101 undef)).setIfInBounds 102 (if l4=true then .slice g2 (nx+U) d2 else A.tmps.getD 102 undef)).setIfInBounds 103 (if l5=true then .agg #[.int .i64 k,.int .i64 z] else A.tmps.getD 103 undef)).setIfInBounds 104 (if l6=true then .slice (some ⟨s,0,none⟩) 1 1 else A.tmps.getD 104 undef)).setIfInBounds 105 (if q=true then .slice g3 (nx+U+1) y else A.tmps.getD 105 undef)).setIfInBounds 6 (if X=true then .slice g3 (nx+U+1) y else A.tmps.getD 6 undef)),A.defers⟩ ∧
    St w w' [Ent.box w.heap.size #[.int .i64 k,.int .i64 z] 62,(if l0=true then(if l2=true then(if l4=true then(if q=true then Ent.row 62 2 (.slice g3 (nx+U+1) y) (nx+U+1) ((xs.flatMap Zaa)++(ys.flatMap Zaa)++[.int .i64 k,.int .i64 z]) else Ent.row 62 2 (.slice g2 (nx+U) d2) (nx+U) ((xs.flatMap Zaa)++(ys.flatMap Zaa))) else Ent.row 62 2 (.slice g1 nx d1) nx (xs.flatMap Zaa)) else Ent.row 62 2 (.slice (some ⟨b7,0,none⟩) 0 0) 0 []) else Ent.nil),(if l6=true then Ent.row 62 2 (.slice (some ⟨s,0,none⟩) 1 1) 1 [.int .i64 k,.int .i64 z] else Ent.nil)]) ?_ ?_ ?_
  ·rintro listed a w' ⟨l0,l1,l2,l3,l4,l5,l6,q,X,b7,g1,d1,g2,d2,s,g3,y,rfl,c,Z,Y,d,T,rfl,hS⟩ i hi;obtain⟨V,o,ho,hall⟩:=mem_ready.1 hi;have hlt:=(Array.getElem?_eq_some_iff.1 ho).1;refine wpOp_step ho (fun K hK => ?_);clear hi;have D:=qh hS;clear hS;simp only[w_1,w_2,w_3,w_4,w_5,w_6,w_7,w_8];obtain h|h|h|h|h|h|h|h|h:i=0∨i=1∨i=2∨i=3∨i=4∨i=5∨i=6∨i=7∨i=8:=by simp at hlt;omega
   all_goals subst h
   all_goals simp only[w_5,w_6,w_7,w_9] at ho
   all_goals subst ho
   all_goals simp[Region.binds] at V hall
   ·subst V;obtain rfl:l2=false:=offL c rfl;obtain rfl:l4=false:=offL Z rfl;obtain rfl:q=false:=offL d rfl;obtain rfl:X=false:=by cases X with|false=>rfl|true=>simpa using T rfl
    have aP:=((D.o.alloc _ rfl #[] 62).boxrow 3 0 2 [] rfl rfl (Nat.zero_le _)).pick [0,3,2] (by decide);have aF:=qh aP;clear aP;go_simp;exact hK _ _ ⟨_,_,_,_,_,_,_,_,_,_,g1,d1,g2,d2,s,g3,y,rfl,by simp,by simp,Y,by simp,by simp,(by simp),aF.o⟩
   ·subst V;obtain rfl:l2=false:=offR c rfl;obtain rfl:l4=false:=offL Z rfl;obtain rfl:q=false:=offL d rfl;obtain rfl:X=false:=by cases X with|false=>rfl|true=>simpa using T rfl
    go_simp;exact hK _ _ ⟨_,_,_,_,_,_,_,_,_,b7,g1,d1,g2,d2,s,g3,y,rfl,by simp,by simp,Y,by simp,by simp,(by simp),D.o⟩
   ·obtain⟨rfl,rfl⟩:=hall;subst V;obtain rfl:l4=false:=offL Z rfl;obtain rfl:q=false:=offL d rfl;obtain rfl:X=false:=by cases X with|false=>rfl|true=>simpa using T rfl
    refine Zdd (a:=⟨_,_⟩) _ (by rfl) _ _ _ (by rfl) w.heap.size 62 i0 (.agg #[.int .i64 0,.int .i64 0]) 2 16 Tryz.underlying28 bB.o aS.o aD.o aC.o (by rfl) (by omega) (.slice (some ⟨b7,0,none⟩) 0 0) (0) ([]) (by rfl) (D.o.row 1 rfl) (.slice xa nx xc) (nx) ((xs.flatMap Zaa)) (by rfl) (HX.o.below D.o.bel) ZcC (by unfold maxLen;omega) (by omega) D.o.size ?_;intro a9 c9 w6 M E Q;have S:=D.o.appS 1 rfl M E Q
    (try simp only[Nat.zero_add,List.nil_append] at S)
    (try simp only[Nat.zero_add])
    have aK:=qh S;clear M E Q S;go_simp;exact hK _ _ ⟨_,_,_,_,_,_,_,_,_,b7,a9,c9,g2,d2,s,g3,y,rfl,by simp,by simp,Y,by simp,by simp,(by simp),aK.o⟩
   ·subst V;obtain rfl:l4=false:=offR Z rfl;obtain rfl:q=false:=offL d rfl;obtain rfl:X=false:=by cases X with|false=>rfl|true=>simpa using T rfl
    go_simp;exact hK _ _ ⟨_,_,_,_,_,_,_,_,_,b7,g1,d1,g2,d2,s,g3,y,rfl,c,by simp,Y,by simp,by simp,(by simp),D.o⟩
   ·obtain⟨rfl,rfl,-⟩:=hall;subst V;obtain⟨rfl,rfl⟩:=c rfl;obtain rfl:q=false:=offL d rfl;obtain rfl:X=false:=by cases X with|false=>rfl|true=>simpa using T rfl
    refine Zdd (a:=⟨_,_⟩) _ (by rfl) _ _ _ (by rfl) w.heap.size 62 i0 (.agg #[.int .i64 0,.int .i64 0]) 2 16 Tryz.underlying28 bB.o aS.o aD.o aC.o (by rfl) (by omega) (.slice g1 nx d1) (nx) ((xs.flatMap Zaa)) (by rfl) (D.o.row 1 rfl) (.slice ya U yc) (U) ((ys.flatMap Zaa)) (by rfl) (HY.o.below D.o.bel) ZcC (by unfold maxLen;omega) (by omega) D.o.size ?_;intro a9 c9 w6 M E Q;have S:=D.o.appS 1 rfl M E Q
    (try simp only[] at S)
    (try simp only[])
    have aK:=qh S;clear M E Q S;go_simp;exact hK _ _ ⟨_,_,_,_,_,_,_,_,_,b7,g1,d1,a9,c9,s,g3,y,rfl,by simp,by simp,Y,by simp,by simp,(by simp),aK.o⟩
   ·subst V;obtain rfl:l6=false:=by cases l6 with|false=>rfl|true=>simpa using Y rfl
    obtain rfl:q=false:=offR d rfl;obtain rfl:X=false:=by cases X with|false=>rfl|true=>simpa using T rfl
    have e0:=D.o.cell (v:=.int .i64 k) 0 0 rfl rfl;have e1:=D.o.cell (v:=.int .i64 z) 0 1 rfl rfl;go_simp;exact hK _ _ ⟨_,_,_,_,_,_,_,_,_,b7,g1,d1,g2,d2,s,g3,y,rfl,c,Z,by simp,by simp,by simp,(by simp),D.o⟩
   ·obtain rfl:=hall;subst V;obtain rfl:q=false:=offR d rfl;obtain rfl:X=false:=by cases X with|false=>rfl|true=>simpa using T rfl
    have aP:=((D.o.alloc _ rfl #[.int .i64 k,.int .i64 z] 62).boxrow 3 1 2 [.int .i64 k,.int .i64 z] rfl rfl (by unfold maxLen;omega)).pick [0,1,3] (by decide);have aF:=qh aP;clear aP;go_simp;exact hK _ _ ⟨_,_,_,_,_,_,_,_,_,b7,g1,d1,g2,d2,_,g3,y,rfl,c,Z,by simp,by simp,by simp,(by simp),aF.o⟩
   ·obtain⟨rfl,rfl,-⟩:=hall;subst V;obtain⟨rfl,rfl⟩:=Z rfl;obtain rfl:=Y rfl;obtain⟨rfl,rfl⟩:=c rfl;obtain rfl:X=false:=by cases X with|false=>rfl|true=>simpa using T rfl
    refine Zdd (a:=⟨_,_⟩) _ (by rfl) _ _ _ (by rfl) w.heap.size 62 i0 (.agg #[.int .i64 0,.int .i64 0]) 2 16 Tryz.underlying28 bB.o aS.o aD.o aC.o (by rfl) (by omega) (.slice g2 (nx+U) d2) (nx+U) ((xs.flatMap Zaa)++(ys.flatMap Zaa)) (by rfl) (D.o.row 1 rfl) (.slice (some ⟨s,0,none⟩) 1 1) (1) ([.int .i64 k,.int .i64 z]) (by rfl) ((Zab (D.o.row 2 rfl)).sl (by omega) |>.mono (Nat.zero_le _)) Zea (by unfold maxLen;omega) (by omega) D.o.size ?_;intro a9 c9 w6 M E Q;have S:=D.o.appS 1 rfl M E Q
    (try simp only[] at S)
    (try simp only[])
    have aK:=qh S;clear M E Q S;go_simp;exact hK _ _ ⟨_,_,_,_,_,_,_,_,_,b7,g1,d1,g2,d2,s,a9,c9,rfl,by simp,by simp,by simp,by simp,by simp,(by simp),aK.o⟩
   obtain⟨rfl,rfl,rfl,rfl,rfl,rfl,rfl,rfl,-⟩:=hall;subst V;go_simp;exact hK _ _ ⟨_,_,_,_,_,_,_,_,_,b7,g1,d1,g2,d2,s,g3,y,rfl,by simp,by simp,by simp,by simp,by simp,(by simp),D.o⟩
  ·rintro listed a w' ⟨l0,l1,l2,l3,l4,l5,l6,q,X,b7,g1,d1,g2,d2,s,g3,y,rfl,c,Z,Y,d,T,rfl,hS⟩ hr;obtain⟨rfl,rfl,rfl,rfl,rfl,rfl,rfl,rfl,rfl,-⟩:=zA (Za1 (by kernel_rfl) rfl hr) rfl;clear hr c Z Y d T;simp only[↓reduceIte] at hS ⊢;simp only[w_1,w_2,w_3];have bT:=qh hS;clear hS;go_wp2;go_ret;rw[bH.o];refine ZeN (bT.o.pick [1] (by decide)) fun u hr => ?_
   have hr:u.ownsRow 0 62 2 (.slice g3 (nx+U+1) y) (nx+U+1) ((xs.flatMap Zaa)++(ys.flatMap Zaa)++[.int .i64 k,.int .i64 z]):=hr;rw[← List.flatMap_append,show([.int .i64 k,.int .i64 z]:List Value)=[(k,z)].flatMap Zaa from rfl,← List.flatMap_append,aU.o] at hr;rw[aU.o];exact Zaj hr
  refine⟨false,false,false,false,false,false,false,false,false,0,none,0,none,0,0,none,0,rfl,by simp,by simp,by simp,by simp,by simp,(by simp),?_⟩;exact bX.o.drew.pick [0,3,4] (by decide)
theorem ZfS (k z:Int) (xs ys:List (Int × Int)) (v1 v2:Value) (w:World) (D:xs.length≤10000) (B:ys.length≤10000) (C:k=7∨k=8→1≤xs.length) (h1:Pairs 0 w v1 xs) (h2:Pairs 0 w v2 ys) :
  Calls Tryz.prog 83 #[.agg #[.int .i64 k,.int .i64 z],v1,v2] w fun e w'=>RPr (mkL k z xs ys) w e w':=by
 refine(Zlu k z xs ys v1 v2 w D B C h1 h2).mono ?_;rintro e w' ⟨v,F,rfl,hS,E⟩;exact⟨v,rfl,E w' (h1.below hS.bel) (h2.below hS.bel) (hS.has 0 F rfl).1,hS.bel⟩
theorem ZgN (t:Ex):isK t.post 1=true↔t = .zero:=(Zo1 t 1 (.inl rfl)).trans ⟨fun h=>h.elim (fun h=>h.2) fun h=>absurd h.1 (by decide),fun h => .inl ⟨rfl,h⟩⟩
theorem Zmi (t:Ex):isK t.post 2=true↔t = .one:=(Zo1 t 2 (.inr rfl)).trans ⟨fun h=>h.elim (fun h=>absurd h.1 (by decide)) fun h=>h.2,fun h => .inr ⟨rfl,h⟩⟩
theorem Zok {t u:Ex}:t.post=u.post↔t=u:=⟨Zjh,fun h=>by rw[h]⟩
theorem Zbq (l:List (Int × Int)) (p:Int × Int):Zgu (l++[p])=p.1:=by unfold Zgu;rw[List.length_append,List.length_singleton,Nat.add_sub_cancel,List.getD_eq_getElem?_getD,List.getElem?_append_right (Nat.le_refl _),Nat.sub_self];rfl
theorem ZqC (x y:Ex):mkL 4 0 x.post y.post=(Zna x y).post:=by
 unfold mkL Zna;rw[if_pos rfl];simp only[ZgN,Zmi]
 split
 ·rfl
 split
 ·rfl
 split<;>rfl
theorem ZrQ (x y:Ex):mkL 5 0 x.post y.post=(Znm x y).post:=by
 unfold mkL Znm;rw[if_neg (by decide),if_pos rfl];simp only[ZgN,Zok]
 split
 ·rfl
 split<;>rfl
theorem ZqD (x y:Ex):mkL 6 0 x.post y.post=(Znt x y).post:=by
 unfold mkL Znt;rw[if_neg (by decide),if_neg (by decide),if_pos rfl];simp only[ZgN,Zok]
 split
 ·rfl
 split<;>rfl
theorem Zmf (t:Ex):Zgu t.post=7↔∃ a,t = .neg a:=by
 cases t with
 | neg a=>exact⟨fun _=>⟨a,rfl⟩,fun _=>Zbq _ _⟩
 | zero=>exact⟨fun h=>absurd h (by decide),fun ⟨a,h⟩=>(by cases h)⟩
 | one=>exact⟨fun h=>absurd h (by decide),fun ⟨a,h⟩=>(by cases h)⟩
 | ltr c=>exact⟨fun h=>absurd (show(3:Int)=7 from h) (by decide),fun ⟨a,h⟩=>(by cases h)⟩
 | join a b=>exact⟨fun h=>absurd ((Zbq _ _).symm.trans h) (by decide),fun ⟨a,h⟩=>(by cases h)⟩
 | alt a b=>exact⟨fun h=>absurd ((Zbq _ _).symm.trans h) (by decide),fun ⟨a,h⟩=>(by cases h)⟩
 | both a b=>exact⟨fun h=>absurd ((Zbq _ _).symm.trans h) (by decide),fun ⟨a,h⟩=>(by cases h)⟩
 | star a=>exact⟨fun h=>absurd ((Zbq _ _).symm.trans h) (by decide),fun ⟨a,h⟩=>(by cases h)⟩
theorem Zko (t:Ex):Zgu t.post=8↔∃ a,t = .star a:=by
 cases t with
 | star a=>exact⟨fun _=>⟨a,rfl⟩,fun _=>Zbq _ _⟩
 | zero=>exact⟨fun h=>absurd h (by decide),fun ⟨a,h⟩=>(by cases h)⟩
 | one=>exact⟨fun h=>absurd h (by decide),fun ⟨a,h⟩=>(by cases h)⟩
 | ltr c=>exact⟨fun h=>absurd (show(3:Int)=8 from h) (by decide),fun ⟨a,h⟩=>(by cases h)⟩
 | join a b=>exact⟨fun h=>absurd ((Zbq _ _).symm.trans h) (by decide),fun ⟨a,h⟩=>(by cases h)⟩
 | alt a b=>exact⟨fun h=>absurd ((Zbq _ _).symm.trans h) (by decide),fun ⟨a,h⟩=>(by cases h)⟩
 | both a b=>exact⟨fun h=>absurd ((Zbq _ _).symm.trans h) (by decide),fun ⟨a,h⟩=>(by cases h)⟩
 | neg a=>exact⟨fun h=>absurd ((Zbq _ _).symm.trans h) (by decide),fun ⟨a,h⟩=>(by cases h)⟩
theorem ZrO (x:Ex):mkL 7 0 x.post []=(negS x).post:=by
 unfold mkL;rw[if_neg (by decide),if_neg (by decide),if_neg (by decide),if_pos rfl];by_cases h:Zgu x.post=7
 ·rw[if_pos h];obtain⟨a,rfl⟩:=(Zmf x).1 h;show(a.post++[(7,0)]).take ((a.post++[(7,0)]).length-1)=a.post;rw[List.length_append,List.length_singleton,Nat.add_sub_cancel,List.take_left'];rfl
 rw[if_neg h,List.append_nil];unfold negS
 split
 ·exact absurd ((Zmf _).2 ⟨_,rfl⟩) h
 rfl
theorem ZqB (x:Ex):mkL 8 0 x.post []=(ZmJ x).post:=by
 unfold mkL ZmJ;rw[if_neg (by decide),if_neg (by decide),if_neg (by decide),if_neg (by decide),if_pos rfl];simp only[ZgN,Zmi]
 split
 ·rfl
 by_cases h:Zgu x.post=8
 ·rw[if_pos h];obtain⟨a,rfl⟩:=(Zko x).1 h;rfl
 rw[if_neg h,List.append_nil]
 split
 ·exact absurd ((Zko _).2 ⟨_,rfl⟩) h
 rfl
theorem ZdN (x y:Ex) (p:Int × Int):(x.post++y.post++[p]).length=x.post.length+y.post.length+1:=by rw[List.length_append,List.length_append,List.length_singleton]
theorem ZoX (x y:Ex):(Zna x y).post.length≤x.post.length+y.post.length+1:=by
 have h1:=Zax x;have h2:=Zax y;unfold Zna
 split
 ·show 1≤_;omega
 split
 ·omega
 split
 ·omega
 exact Nat.le_of_eq (ZdN x y _)
theorem Zpp (x y:Ex):(Znm x y).post.length≤x.post.length+y.post.length+1:=by
 unfold Znm
 split
 ·omega
 split
 ·omega
 exact Nat.le_of_eq (ZdN x y _)
theorem ZpN (x y:Ex):(Znt x y).post.length≤x.post.length+y.post.length+1:=by
 unfold Znt
 split
 ·show 1≤_;omega
 split
 ·omega
 exact Nat.le_of_eq (ZdN x y _)
theorem Zqx (x:Ex):(negS x).post.length≤x.post.length+1:=by
 unfold negS
 split
 ·rename_i a;have:(Ex.neg a).post.length=a.post.length+1:=by show(a.post++[(7,0)]).length=_;rw[List.length_append];rfl
  omega
 show(x.post++[(7,0)]).length≤_;rw[List.length_append];exact Nat.le_refl _
theorem ZnQ (x:Ex):(ZmJ x).post.length≤x.post.length+1:=by
 unfold ZmJ
 split
 ·show 1≤_;omega
 split
 ·omega
 show(x.post++[(8,0)]).length≤_;rw[List.length_append];exact Nat.le_refl _
theorem ZgF:∀ t:Ex,(simE t).post.length≤t.post.length:=by
 intro t
 induction t with
 | zero=>exact Nat.le_refl _
 | one=>exact Nat.le_refl _
 | ltr c=>exact Nat.le_refl _
 | join a b ha hb =>have h1:=ZoX (simE a) (simE b);have h2:=ZdN a b (4,0);show(Zna (simE a) (simE b)).post.length≤(a.post++b.post++[(4,0)]).length;omega
 | alt a b ha hb =>have h1:=Zpp (simE a) (simE b);have h2:=ZdN a b (5,0);show(Znm (simE a) (simE b)).post.length≤(a.post++b.post++[(5,0)]).length;omega
 | both a b ha hb =>have h1:=ZpN (simE a) (simE b);have h2:=ZdN a b (6,0);show(Znt (simE a) (simE b)).post.length≤(a.post++b.post++[(6,0)]).length;omega
 | neg a ha =>have h1:=Zqx (simE a);show(negS (simE a)).post.length≤(a.post++[(7,0)]).length;rw[List.length_append,List.length_singleton];omega
 | star a ha =>have h1:=ZnQ (simE a);show(ZmJ (simE a)).post.length≤(a.post++[(8,0)]).length;rw[List.length_append,List.length_singleton];omega
theorem St.newRow0 {w0 w:World} {L:List Ent} (h:St w0 w L) (T size:Nat):St w0 (w.alloc (.cells #[] T)) (L++[Ent.row T size (.slice (some ⟨w.heap.size,0,none⟩) 0 0) 0 []]):=by have h1:=(h.alloc w.heap.size rfl #[] T).boxrow (b:=w.heap.size) (T:=T) L.length 0 size [] (by simp) (by simp) (by unfold maxLen;omega);simpa using h1
theorem ZrH {es:List (Int × Int)} {w w':World} {e:Ending} (h:RPo es w e w'):RPr es w e w':=by obtain⟨a,c,rfl,hS⟩:=h;exact⟨_,rfl,Zaj (hS.row 0 rfl),hS.bel⟩
theorem ZrP (k z:Int) (xs ys:List (Int × Int)):(mkL k z xs ys).length≤xs.length+ys.length+1:=by
 have h1:(xs++ys++[(k,z)]).length=xs.length+ys.length+1:=by rw[List.length_append,List.length_append];rfl
 have h2:(xs.take (xs.length-1)).length≤xs.length:=by rw[List.length_take];omega
 unfold mkL
 repeat' split
 all_goals first|omega|(show 1≤_;omega)
theorem ZdO (es A B A' V:List (Int × Int)) (k z:Int) (hok:exOk es=true) (aG:∀ xs ys,splits es xs ys→xs=A∧ys=B) (hl:es.getD (es.length-1) (0,0)=(k,z))
  (hA:1≤A.length→∀ (v:Value) (w:World),Pairs 0 w v A→Calls Tryz.prog 44 #[v] w fun e w'=>RPr A' w e w') (aN:A=[]→A'=[])
  (hB:1≤B.length→∀ (v:Value) (w:World),Pairs 0 w v B→Calls Tryz.prog 44 #[v] w fun e w'=>RPr V w e w') (aB:B=[]→V=[]) (aM:A=[]→B=[])
  (l:k=7∨k=8→1≤A'.length) (aZ:A'.length≤1000) (aU:V.length≤1000) (v:Value) (w:World) (h:Pairs 0 w v es) :
  Calls Tryz.prog 44 #[v] w fun e w'=>RPo (mkL k z A' V) w e w':=by
 obtain⟨-,-,aX,aO⟩:=Zbh hok;obtain⟨a,c,rfl,aR,aT,aI⟩:=h.form;obtain⟨b,o,rfl,-,O,aD⟩:=aI (by omega);obtain⟨m,hm⟩:∃ m,es.length=m+1:=⟨es.length-1,by omega⟩;obtain⟨g1,g2⟩:=aD m (by omega);rw[show es.length-1=m by omega] at hl;rw[hl] at g1 g2;simp only at g1 g2;have bB:(es.length:Int)-1=(m:Int):=by omega
 have bA:(m:Int)<es.length:=by omega
 have aQ:IntKind.i64.wrap (m:Int)=(m:Int):=IntWalk.i64_in _ (by omega);obtain⟨i0,hi,aK,aL,aJ⟩:=info_parts Tryz.infoPt;have aH:=ZrP k z A' V;obtain⟨M,r⟩:=eJ (mkL k z A' V);rw[r] at aH;rw[r];have aP:M.length≤10000:=by omega
 clear aH;replace r:=qh r;have HP:=qh h;have G1:=qh g1;have G2:=qh g2;have HA:=qh hA;have HB:=qh hB;have aA:=qh hi;clear hi;have S:=qh aK;clear aK;have R:=qh aL;clear aL;have P:=qh aJ;clear aJ;have aC:=qh hok;clear hok;have aV:=qh hm;clear hm;have aY:=qh hl;clear hl;clear h aI aD g1 g2 hA hB
 go_enter Tryz.func44, Tryz.ntmps44
 go_wp2_with fail;refine(ZaJ es _ _ aC.o HP.o).mono ?_;rintro e w2 ⟨vx,vy,xs,ys,Z,rfl,hpx,u,hb2⟩;obtain⟨rfl,rfl⟩:=aG xs ys Z;have y:=qh hpx;have s:=qh u;have x:=qh ((St.start w).call hb2);obtain⟨ax,cx,rfl,-⟩:=hpx.form;obtain⟨ay,cy,rfl,-⟩:=u.form;clear aG Z hpx u hb2;obtain⟨nx,p⟩:∃ n,n=xs.length:=⟨_,rfl⟩;obtain⟨ny,j⟩:∃ n,n=ys.length:=⟨_,rfl⟩;rw[← p] at y ⊢;rw[← j] at s ⊢;have N:=qh p;clear p;have H:=qh j;clear j;by_cases hA1:nx=0
 ·have i:ny=0:=by have h1:=aM (List.eq_nil_of_length_eq_zero (by have:=N.o;omega));rw[H.o,h1];rfl
  subst hA1;subst i;have g:xs=[]:=List.eq_nil_of_length_eq_zero (by have:=N.o;omega);have Y:QH (Pairs 0 w2 (.slice ax 0 cx) A'):=qh (by rw[aN g,← g];exact y.o);clear g;have L:ys=[]:=List.eq_nil_of_length_eq_zero (by have:=H.o;omega)
  have X:QH (Pairs 0 w2 (.slice ay 0 cy) V):=qh (by rw[aB L,← L];exact s.o);clear L;have D:=qh (x.o.newRow0 62 2);have k1:=(bcell D.o.bel b _ O).trans G1.o;have k2:=(bcell D.o.bel b _ O).trans G2.o;have hmk:=ZfS k z A' V (.slice ax 0 cx) (.slice ay 0 cy) _ (by omega) (by omega) l (Y.o.below ((Below.refl w2.heap.size w2).alloc (Nat.le_refl _) (.cells #[] 62))) (X.o.below ((Below.refl w2.heap.size w2).alloc (Nat.le_refl _) (.cells #[] 62)));rw[r.o] at hmk;have U:=qh hmk;clear hmk;go_wp2_with fail;refine(U.o).mono ?_;rintro e w8 ⟨v8,rfl,F,J⟩;obtain⟨a8,c8,rfl,-⟩:=F.form;have G:=qh (D.o.call J);have Q:QH (Sl 0 w8 (.slice a8 M.length c8) M.length 2 (M.flatMap Zaa)):=qh F;clear J F D x k1 k2;go_wp2_with (at_builtin;refine Zak _ rfl _ _ _ rfl _ 62 i0 (.agg #[.int .i64 0,.int .i64 0]) 2 16 Tryz.underlying28 aA.o S.o R.o P.o rfl (by omega) _ 0 _ rfl (G.o.row 0 rfl) _ M.length (M.flatMap Zaa) rfl Q.o ZcC (by unfold maxLen;omega) (by omega) G.o.size ?_;intro a9 c9 w9 E C I;have hS:=(G.o.appS 0 rfl E C I).pick [0] (by decide);simp only[Nat.zero_add,List.nil_append] at hS;(try simp only[Nat.zero_add]);have T:=qh hS;clear E C I hS);go_ret;exact⟨_,_,rfl,T.o⟩
 have aS:(0:Int)<(nx:Int):=by omega
 go_wp2_with fail;refine(HA.o (by have:=N.o;have:=H.o;omega) _ _ y.o).mono ?_;rintro e w3 ⟨va,rfl,hp,hb⟩;have q:=qh (x.o.call hb);have Y:=qh hp;have d:=qh (s.o.below hb);clear hp hb;by_cases i:ny=0
 ·subst i;have L:ys=[]:=List.eq_nil_of_length_eq_zero (by have:=H.o;omega);have X:QH (Pairs 0 w3 (.slice ay 0 cy) V):=qh (by rw[aB L,← L];exact d.o);clear L;have D:=qh (q.o.newRow0 62 2);have k1:=(bcell D.o.bel b _ O).trans G1.o;have k2:=(bcell D.o.bel b _ O).trans G2.o;have hmk:=ZfS k z A' V va (.slice ay 0 cy) _ (by omega) (by omega) l (Y.o.below ((Below.refl w3.heap.size w3).alloc (Nat.le_refl _) (.cells #[] 62))) (X.o.below ((Below.refl w3.heap.size w3).alloc (Nat.le_refl _) (.cells #[] 62)));rw[r.o] at hmk;have U:=qh hmk;clear hmk;go_wp2_with fail;refine(U.o).mono ?_;rintro e w8 ⟨v8,rfl,F,J⟩;obtain⟨a8,c8,rfl,-⟩:=F.form;have G:=qh (D.o.call J);have Q:QH (Sl 0 w8 (.slice a8 M.length c8) M.length 2 (M.flatMap Zaa)):=qh F;clear J F D q k1 k2;go_wp2_with (at_builtin;refine Zak _ rfl _ _ _ rfl _ 62 i0 (.agg #[.int .i64 0,.int .i64 0]) 2 16 Tryz.underlying28 aA.o S.o R.o P.o rfl (by omega) _ 0 _ rfl (G.o.row 0 rfl) _ M.length (M.flatMap Zaa) rfl Q.o ZcC (by unfold maxLen;omega) (by omega) G.o.size ?_;intro a9 c9 w9 E C I;have hS:=(G.o.appS 0 rfl E C I).pick [0] (by decide);simp only[Nat.zero_add,List.nil_append] at hS;(try simp only[Nat.zero_add]);have T:=qh hS;clear E C I hS);go_ret;exact⟨_,_,rfl,T.o⟩
 have aW:(0:Int)<(ny:Int):=by omega
 go_wp2_with fail;refine(HB.o (by have:=N.o;have:=H.o;omega) _ _ d.o).mono ?_;rintro e w4 ⟨vb,rfl,hp,hb⟩;have aF:=qh (q.o.call hb);have X:=qh hp;have aE:=qh (Y.o.below hb);clear hp hb;have D:=qh (aF.o.newRow0 62 2);have k1:=(bcell D.o.bel b _ O).trans G1.o;have k2:=(bcell D.o.bel b _ O).trans G2.o;have hmk:=ZfS k z A' V va vb _ (by omega) (by omega) l (aE.o.below ((Below.refl w4.heap.size w4).alloc (Nat.le_refl _) (.cells #[] 62))) (X.o.below ((Below.refl w4.heap.size w4).alloc (Nat.le_refl _) (.cells #[] 62)));rw[r.o] at hmk;have U:=qh hmk;clear hmk;go_wp2_with fail;refine(U.o).mono ?_;rintro e w8 ⟨v8,rfl,F,J⟩;obtain⟨a8,c8,rfl,-⟩:=F.form;have G:=qh (D.o.call J);have Q:QH (Sl 0 w8 (.slice a8 M.length c8) M.length 2 (M.flatMap Zaa)):=qh F;clear J F D aF k1 k2;go_wp2_with (at_builtin;refine Zak _ rfl _ _ _ rfl _ 62 i0 (.agg #[.int .i64 0,.int .i64 0]) 2 16 Tryz.underlying28 aA.o S.o R.o P.o rfl (by omega) _ 0 _ rfl (G.o.row 0 rfl) _ M.length (M.flatMap Zaa) rfl Q.o ZcC (by unfold maxLen;omega) (by omega) G.o.size ?_;intro a9 c9 w9 E C I;have hS:=(G.o.appS 0 rfl E C I).pick [0] (by decide);simp only[Nat.zero_add,List.nil_append] at hS;(try simp only[Nat.zero_add]);have T:=qh hS;clear E C I hS);go_ret;exact⟨_,_,rfl,T.o⟩
theorem Zff {l:List (Int × Int)} (h:1≤l.length):l≠[]:=fun h0=>by rw[h0] at h;exact absurd h (by decide)
def SimS (t:Ex):Prop:=∀ (v:Value) (w:World),Pairs 0 w v t.post→Calls Tryz.prog 44 #[v] w fun e w'=>RPo (simE t).post w e w'
theorem Zi6 {a b t:Ex} {k:Int} (hp:Zag (k,0)=2) (ht:t.post=a.post++b.post++[(k,0)]) (h60:t.post.length≤60) (hm:mkL k 0 (simE a).post (simE b).post=(simE t).post) (hk:¬ (k=7∨k=8)) (ha:SimS a) (hb:SimS b):SimS t:=by
 intro v w h;have hok:=ZaD t h60;have h1:=ZgF a;have h2:=ZgF b;have h3:t.post.length=a.post.length+b.post.length+1:=by rw[ht];exact ZdN a b _
 rw[← hm];refine ZdO t.post a.post b.post (simE a).post (simE b).post k 0 hok (fun xs ys hs => ?_) ?_ (fun _ v w hp=>(ha v w hp).mono fun _ _ h=>ZrH h) (fun h=>absurd h (Zff (Zax a))) (fun _ v w hp=>(hb v w hp).mono fun _ _ h=>ZrH h) (fun h=>absurd h (Zff (Zax b))) (fun h=>absurd h (Zff (Zax a))) (fun h=>absurd h hk) (by omega) (by omega) v w h
 ·rw[ht] at hs;exact Zd3 hp hs
 rw[ht];exact ZbM _ _
theorem ZlV {a t:Ex} {k:Int} (hp:Zag (k,0)=1) (ht:t.post=a.post++[(k,0)]) (h60:t.post.length≤60) (hm:mkL k 0 (simE a).post []=(simE t).post) (ha:SimS a):SimS t:=by
 intro v w h;have hok:=ZaD t h60;have h1:=ZgF a;have h3:t.post.length=a.post.length+1:=by rw[ht,List.length_append];rfl
 rw[← hm];refine ZdO t.post a.post [] (simE a).post [] k 0 hok (fun xs ys hs => ?_) ?_ (fun _ v w hp=>(ha v w hp).mono fun _ _ h=>ZrH h) (fun h=>absurd h (Zff (Zax a))) (fun h=>absurd h (by decide)) (fun _=>rfl) (fun _=>rfl) (fun _=>Zax _) (by omega) (by decide) v w h
 ·rw[ht] at hs;exact Zd4 hp hs
 rw[ht];exact ZbM _ _
theorem Zg6 {t:Ex} {k z:Int} (hp:Zag (k,z)=0) (ht:t.post=[(k,z)]) (hk:k≤3) (hs:simE t=t):SimS t:=by
 intro v w h;have hok:=ZaD t (by rw[ht];show 1≤60;decide);have hm:mkL k z [] []=t.post:=by rw[ht];unfold mkL;rw[if_neg (by omega),if_neg (by omega),if_neg (by omega),if_neg (by omega),if_neg (by omega)];rfl
 rw[hs,← hm];refine ZdO t.post [] [] [] [] k z hok (fun xs ys hs => ?_) ?_ (fun h=>absurd h (by decide)) (fun _=>rfl) (fun h=>absurd h (by decide)) (fun _=>rfl) (fun _=>rfl) (fun h=>by omega) (by decide) (by decide) v w h
 ·rw[ht] at hs;exact Zes hp hs
 rw[ht];rfl
theorem Zqm:∀ t:Ex,t.post.length≤60→SimS t:=by
 intro t
 induction t with
 | zero=>exact fun _=>Zg6 Ze6 rfl (by decide) rfl
 | one=>exact fun _=>Zg6 Ze5 rfl (by decide) rfl
 | ltr c=>exact fun _=>Zg6 (Zet c) rfl (by decide) rfl
 | join a b ha hb=>exact fun h=>Zi6 ZeQ rfl h (ZqC _ _) (by decide) (ha (by simp[Ex.post] at h;omega)) (hb (by simp[Ex.post] at h;omega))
 | alt a b ha hb=>exact fun h=>Zi6 Zhf rfl h (ZrQ _ _) (by decide) (ha (by simp[Ex.post] at h;omega)) (hb (by simp[Ex.post] at h;omega))
 | both a b ha hb=>exact fun h=>Zi6 ZeR rfl h (ZqD _ _) (by decide) (ha (by simp[Ex.post] at h;omega)) (hb (by simp[Ex.post] at h;omega))
 | neg a ha=>exact fun h=>ZlV Zhe rfl h (ZrO _) (ha (by simp[Ex.post] at h;omega))
 | star a ha=>exact fun h=>ZlV ZeP rfl h (ZqB _) (ha (by simp[Ex.post] at h;omega))
noncomputable def simL (es:List (Int × Int)):List (Int × Int):=if h:exOk es=true then(simE (parse h).choose).post else []
theorem Zj4 {t:Ex} (h:t.post.length≤60):simL t.post=(simE t).post:=by have hok:=ZaD t h;unfold simL;rw[dif_pos hok,Zjh (parse hok).choose_spec]
theorem ZlW {es:List (Int × Int)} (h:exOk es=false):simL es=[]:=by unfold simL;rw[dif_neg (by simp[h])]
theorem Zey (es:List (Int × Int)) (v:Value) (w:World) (hlen:es.length≤2000000) (h:Pairs 0 w v es):Calls Tryz.prog 19 #[v] w fun e w'=>RPo (simL es) w e w':=by
 cases hr:exOk es with
 | true =>
  obtain⟨t,rfl⟩:=parse hr;have h60:t.post.length≤60:=(Zbh hr).2.2.2;rw[Zj4 h60];have F:=qh (Zqm t h60);have C:=qh h;replace hr:=qh hr;clear h
  go_enter Tryz.func19, Tryz.ntmps19
  go_wp2_with fail;refine(ZbE _ _ _ hlen C.o true hr.o).mono ?_;rintro e w1 ⟨rfl,hb1⟩;have D:=qh hb1;have HP:=qh (C.o.below hb1);clear hb1;go_wp2_with fail;refine(F.o _ _ HP.o).mono ?_;rintro e w2 ⟨a2,c2,rfl,B⟩;have E:=qh (((St.start w).call D.o).cat B);clear B;go_wp2;go_ret;exact⟨_,_,rfl,E.o⟩
 | false =>
  rw[ZlW hr];have C:=qh h;replace hr:=qh hr;clear h
  go_enter Tryz.func19, Tryz.ntmps19
  go_wp2_with fail;refine(ZbE _ _ _ hlen C.o false hr.o).mono ?_;rintro e w1 ⟨rfl,hb1⟩;have E:=qh ((St.start w).call hb1);clear hb1;go_wp2;go_ret;exact⟨_,_,rfl,E.o.newRow0 62 2⟩
theorem Zqn (es:List (Int × Int)):(simL es).length≤es.length:=by
 cases hok:exOk es with
 | true =>obtain⟨t,rfl⟩:=parse hok;rw[Zj4 (Zbh hok).2.2.2];exact ZgF t
 | false =>rw[ZlW hok];exact Nat.zero_le _
def DctR (w:World) (e:Ending) (w':World):Prop:=∃ s t:List Nat,isT s∧isT t∧e = .returned (.tuple #[.string (txB s),.string (txB t)])∧Below w.heap.size w w'
theorem ZeA (bs:List Nat) (v:Value) (w:World) (hb:Bytes 0 w v bs) (hlen:bs.length≤100000000) :
  Calls Tryz.prog 15 #[v] w fun e w'=>DctR w e w':=by
 have Hb:=qh hb;obtain⟨i0,hi,aX,aY,aW⟩:=info_parts Tryz.infoPt;replace hi:=qh hi;have Q:=qh aX;clear aX;have N:=qh aY;clear aY;have M:=qh aW;clear aW;clear hb
 go_enter Tryz.func15, Tryz.ntmps15
 go_wp2_with fail;refine(Zqs bs v _ Hb.o hlen).mono ?_;rintro e w1 ⟨vb,g,c,hB,rfl,aT⟩;have HB:=qh hB;have aF:=qh (aT.add (Below.refl _ _) Ent.nil trivial fun _ hk=>hk.elim);obtain⟨b,aD⟩:=eI (w.heap.size);rw[← aD] at aF;rw[← aD];clear hB aT aD;go_wp2_with fail;refine(Zbb g vb b 0 2 w _ _ HB.o c (by omega) (by omega) (by omega) aF.o).mono ?_;rintro e w2 ⟨k3,bN,rfl,aV⟩;obtain⟨d,hd⟩:∃ d:Nat,(1:Int)+(k3:Int)=((d:Nat):Int):=⟨k3+1,by omega⟩;have bC:IntKind.i64.wrap ((d:Nat):Int)=((d:Nat):Int):=IntWalk.i64_in _ (by omega);have aU:=qh aV;obtain⟨aN,hfg⟩:=ZjV (d:=d) (by omega);clear aV aF;go_wp2_with fail;refine(Zjl g vb b w HB.o c d (by omega) false (0+1) _ Ent.nil (by omega) aU.o).mono ?_;rintro e w3 ⟨y,x,es,a,aR,aM,bH,rfl,aE⟩;have HP:=qh ((Zoc y x es).r aE 2 rfl);have aP:=qh aE;have bK:es.length≤15:=by omega
 have bI:a≤100:=by omega
 clear aE aU bC aN hfg aR aM bH hd;go_wp2_with fail;refine(ZaR es _ _ (by omega) HP.o).mono ?_;rintro e w4 ⟨rfl,aO⟩;obtain⟨s,hs⟩:=eJ (ZeJ es);have aK:=ZcO es;rw[hs] at aK ⊢;have aI:=qh (aP.o.call aO);have u:=qh aK;clear aO aP aK hs HP;go_wp2_with fail;refine(Zbb g vb b a 5 w _ _ HB.o c (by omega) (by omega) (by omega) (St.pack (A:=[RdE b vb a]) (R:=[Ent.nil,Zbw y x es]) aI.o)).mono ?_;rintro e w5 ⟨V,bJ,rfl,m⟩;have I:QH (St w w5 [RdE b vb (a+1),Ent.nil,Zbw y x es]):=qh (St.unpack (A:=[RdE b vb a]) (A':=[RdE b vb (a+1)]) (R:=[Ent.nil,Zbw y x es]) aI.o m);have aG:=qh (Zaj (I.o.row 2 rfl));clear m aI;obtain h0|h1|h2|h3|h4:(V:Int)=0∨(V:Int)=1∨(V:Int)=2∨(V:Int)=3∨(V:Int)=4:=by omega
 ·obtain⟨x0,x1,x2⟩:=Zcd h0;clear h0;go_wp2_with fail;refine(Zhx g vb b (a+1) 12 w _ _ HB.o c (by omega) (by omega) (St.pack (A:=[RdE b vb (a+1)]) (R:=[Ent.nil,Zbw y x es]) I.o)).mono ?_;rintro e w6 ⟨t,p',ht,-,-,rfl,J⟩;have i:=qh J;have aH:=qh ht;clear ht;clear J I;go_wp2
  go_ret2
  exact⟨s,t,u.o,aH.o,rfl,i.o.bel⟩
 ·obtain⟨x0,x1,x2,-⟩:=Zaw (show(V:Int)≠0 by omega);obtain⟨z0,z1,z2⟩:=Zcd h1;clear h1;go_wp2_with fail;refine(Zey es _ _ (by omega) aG.o).mono ?_;rintro e w6 ⟨g6,k6,rfl,J⟩;have bL:=Zqn es;have i:=qh (I.o.cat J);have bD:=qh (Zaj (J.row 0 rfl));clear J I;go_wp2_with fail;refine(ZaR (simL es) _ _ (by omega) bD.o).mono ?_;rintro e w7 ⟨rfl,aQ⟩;have O:=ZcO (simL es);have bF:=qh (i.o.call aQ);have P:=qh O;clear O;clear aQ i;go_wp2
  go_ret2
  exact⟨s,_,u.o,P.o,rfl,bF.o.bel⟩
 ·obtain⟨x0,x1,x2,-⟩:=Zaw (show(V:Int)≠0 by omega);obtain⟨z0,z1,z2,-⟩:=Zaw (show(V:Int)≠1 by omega);obtain⟨y0,y1,y2⟩:=Zcd h2;clear h2;have L:=(I.o.alloc w5.heap.size rfl #[] 62).boxrow 3 0 2 [] rfl rfl (Nat.zero_le _);have aB:=qh (L.row 3 rfl);have z:=qh (Zaj (L.row 2 rfl));have j:=qh L;clear L I aG
  go_wp2_with (first
   | (at_builtin;refine Zak _ rfl _ _ _ rfl _ 62 i0 (.agg #[.int .i64 0,.int .i64 0]) 2 16 Tryz.underlying28 hi.o Q.o N.o M.o rfl (by omega) (.slice (some ⟨w5.heap.size,0,none⟩) 0 0) 0 [] rfl aB.o (.slice y es.length x) es.length (es.flatMap Zaa) rfl z.o ZcC (by unfold maxLen;omega) (by omega) j.o.size ?_;intro a6 c6 w6 H C T;have D:=j.o.appS 3 rfl H C T;rw[List.nil_append,Nat.zero_add] at D;rw[Nat.zero_add];have n:=qh D;clear H C T D)
   | fail)
  refine(Zjl g vb b w HB.o c 1 (by omega) false (a+1) _ _ (by unfold FG FG;omega) (St.pack (A:=[RdE b vb (a+1)]) (R:=[Ent.nil,Zbw y x es,Zbw a6 c6 es]) n.o)).mono ?_;rintro e w8 ⟨qa,qc,fs,p8,bA,aZ,bB,rfl,m⟩;have aN:fs.length≤3:=aZ;have aA:=(St.unpack (A:=[RdE b vb (a+1)]) (A':=[RdE b vb p8,Zbw qa qc fs]) (R:=[Ent.nil,Zbw y x es,Zbw a6 c6 es]) n.o (m.pick [0,2,1] (by decide))).pick [0,2,3,4,1] (by decide);have bE:=qh (aA.row 3 rfl);have bG:=qh (Zaj (aA.row 4 rfl));have aS:=qh aA;clear m aA n j aB z bA aZ bB
  go_wp2_with (first
   | (at_builtin;refine Zak _ rfl _ _ _ rfl _ 62 i0 (.agg #[.int .i64 0,.int .i64 0]) 2 16 Tryz.underlying28 hi.o Q.o N.o M.o rfl (by omega) (.slice a6 es.length c6) es.length (es.flatMap Zaa) rfl bE.o (.slice qa fs.length qc) fs.length (fs.flatMap Zaa) rfl bG.o ZcC (by unfold maxLen;omega) (by omega) aS.o.size ?_;intro a9 c9 w9 q Z aC;have D:=aS.o.appS 3 rfl q Z aC;rw[← List.flatMap_append,← List.length_append] at D;rw[← List.length_append];obtain⟨E,hE⟩:=eI (es++fs);have bM:E.length≤20:=(by rw[hE,List.length_append];omega);rw[← hE] at D;rw[← hE];have X:=qh (D.alloc_ (.cells #[.int .i64 5,.int .i64 0] 62));have aL:=qh (X.o.row 3 rfl);clear q Z aC D hE)
   | (at_builtin;refine wpList_append_lies _ rfl _ _ _ rfl _ 62 i0 (.agg #[.int .i64 0,.int .i64 0]) 2 16 Tryz.underlying28 hi.o Q.o N.o M.o rfl (by omega) _ E.length _ rfl aL.o ⟨w9.heap.size,0,none⟩ 1 1 [.int .i64 5,.int .i64 0] rfl rfl (World.news_of_block (heap_alloc_new w9 _)) Zea (by omega) (by unfold maxLen;omega) (by omega) X.o.size _ rfl ?_;intro g7 c7 w7 G B S k;have Y:=qh (X.o.app 3 rfl G B S);clear G B S k))
  have F:(E++[(5,0)]).length=E.length+1:=by rw[List.length_append];rfl
  have U:(E++[((5:Int),(0:Int))]).flatMap Zaa=E.flatMap Zaa++[.int .i64 5,.int .i64 0]:=by rw[List.flatMap_append];rfl
  have l:QH (Pairs 0 w7 (.slice (some ⟨g7,0,none⟩) (E.length+1) c7) (E++[(5,0)])):=qh (by
   have h:=Y.o.row 3 rfl;rw[← U,← F] at h;have h2:=Zaj h
   rwa [F] at h2)
  refine(ZaR (E++[(5,0)]) _ _ (by omega) l.o).mono ?_;rintro e wf ⟨rfl,p⟩;have O:=ZcO (E++[(5,0)]);have aJ:=qh (Y.o.call p);have P:=qh O;clear O;clear p Y l F U;go_wp2
  go_ret2
  exact⟨s,_,u.o,P.o,rfl,aJ.o.bel⟩
 ·obtain⟨x0,x1,x2,-⟩:=Zaw (show(V:Int)≠0 by omega);obtain⟨z0,z1,z2,-⟩:=Zaw (show(V:Int)≠1 by omega);obtain⟨y0,y1,y2,-⟩:=Zaw (show(V:Int)≠2 by omega);obtain⟨u0,u1,u2⟩:=Zcd h3;clear h3;have L:=(I.o.alloc w5.heap.size rfl #[] 62).boxrow 3 0 2 [] rfl rfl (Nat.zero_le _);have aB:=qh (L.row 3 rfl);have z:=qh (Zaj (L.row 2 rfl));have j:=qh L;clear L I aG
  go_wp2_with (first
   | (at_builtin;refine Zak _ rfl _ _ _ rfl _ 62 i0 (.agg #[.int .i64 0,.int .i64 0]) 2 16 Tryz.underlying28 hi.o Q.o N.o M.o rfl (by omega) (.slice (some ⟨w5.heap.size,0,none⟩) 0 0) 0 [] rfl aB.o (.slice y es.length x) es.length (es.flatMap Zaa) rfl z.o ZcC (by unfold maxLen;omega) (by omega) j.o.size ?_;intro a6 c6 w6 H C T;have D:=j.o.appS 3 rfl H C T;rw[List.nil_append,Nat.zero_add] at D;rw[Nat.zero_add];have n:=qh D;clear H C T D;have X:=qh (n.o.alloc_ (.cells #[.int .i64 8,.int .i64 0] 62));have aL:=qh (X.o.row 3 rfl))
   | (at_builtin;refine wpList_append_lies _ rfl _ _ _ rfl _ 62 i0 (.agg #[.int .i64 0,.int .i64 0]) 2 16 Tryz.underlying28 hi.o Q.o N.o M.o rfl (by omega) _ es.length _ rfl aL.o ⟨w6.heap.size,0,none⟩ 1 1 [.int .i64 8,.int .i64 0] rfl rfl (World.news_of_block (heap_alloc_new w6 _)) Zea (by omega) (by unfold maxLen;omega) (by omega) X.o.size _ rfl ?_;intro g7 c7 w7 G B S k;have Y:=qh (X.o.app 3 rfl G B S);clear G B S k))
  have F:(es++[(8,0)]).length=es.length+1:=by rw[List.length_append];rfl
  have U:(es++[((8:Int),(0:Int))]).flatMap Zaa=es.flatMap Zaa++[.int .i64 8,.int .i64 0]:=by rw[List.flatMap_append];rfl
  have l:QH (Pairs 0 w7 (.slice (some ⟨g7,0,none⟩) (es.length+1) c7) (es++[(8,0)])):=qh (by
   have h:=Y.o.row 3 rfl;rw[← U,← F] at h;have h2:=Zaj h
   rwa [F] at h2)
  refine(ZaR (es++[(8,0)]) _ _ (by omega) l.o).mono ?_;rintro e w9 ⟨rfl,p⟩;have O:=ZcO (es++[(8,0)]);have aJ:=qh (Y.o.call p);have P:=qh O;clear O;clear p Y l F U;go_wp2
  go_ret2
  exact⟨_,s,P.o,u.o,rfl,aJ.o.bel⟩
 obtain⟨x0,x1,x2,-⟩:=Zaw (show(V:Int)≠0 by omega);obtain⟨z0,z1,z2,-⟩:=Zaw (show(V:Int)≠1 by omega);obtain⟨y0,y1,y2,-⟩:=Zaw (show(V:Int)≠2 by omega);obtain⟨u0,u1,u2,-⟩:=Zaw (show(V:Int)≠3 by omega);clear h4;go_wp2_with fail;refine(Zhx g vb b (a+1) 6 w _ _ HB.o c (by omega) (by omega) (St.pack (A:=[RdE b vb (a+1)]) (R:=[Ent.nil,Zbw y x es]) I.o)).mono ?_;rintro e w6 ⟨t,p',ht,-,-,rfl,J⟩;have i:=qh J;have aH:=qh ht;clear ht;clear J I;go_wp2
 go_ret2
 exact⟨t,s,aH.o,u.o,rfl,i.o.bel⟩
theorem Bx.only {lo hi b:Nat} {w w':World} {cs:Array Value} {T:TypeId} (h:Bx w b cs T) (B:Only lo hi w w') (hd:b<lo∨hi≤b):Bx w' b cs T:=(B.block b h.lt hd).trans h
theorem DfaO.only {tS tI tB lo hi B hi':Nat} {w w':World} {v:Value} {d:DfaD} (h:DfaO tS tI tB lo hi w v d) (C:Only B hi' w w') (hd:hi≤B∨hi'≤lo):DfaO tS tI tB lo hi w' v d:=by obtain⟨v1,v2,D,h1,h2⟩:=h;exact⟨v1,v2,D,h1.only C hd,h2.only C hd⟩
theorem ZjL (bs:List Nat) (v:Value) (w:World) (hb:Bytes 0 w v bs) :
  Calls Tryz.prog 6 #[v] w fun e w'=>e = .returned (.bool true)∧Below w.heap.size w w':=by
 have HB:=qh hb;obtain⟨av,cv,rfl,aH,aI,-⟩:=hb.form;clear hb;by_cases hlen:1048576<bs.length
 ·have aG:(1048576:Int)<bs.length:=by omega
  go_enter Tryz.func6, Tryz.ntmps6
  go_wp2;go_ret;exact⟨rfl,Below.refl _ _⟩
 have aG:¬ (1048576:Int)<bs.length:=by omega
 go_enter Tryz.func6, Tryz.ntmps6
 go_wp2_with fail;refine(ZeA bs _ _ HB.o (by omega)).mono ?_;rintro e w1 ⟨s,t,hs,ht,rfl,hb1⟩;have E:=qh hb1;obtain⟨K,J⟩:∃ K,K=40:=⟨40,rfl⟩;obtain⟨a,hoa⟩:=Zmv K s;obtain⟨ob,hob⟩:=Zmv K t;have hi:=fun (r:Int × ByteArray) hr (u:World)=>ZbI K J s t a ob hoa hob r hr u hs ht
 have hj:=fun (r:Int × ByteArray) hr (u:World)=>Zez K J s t a ob hoa hob r hr u hs ht
 have hk:=fun (r:Int × ByteArray) hr (u:World)=>ZbI K J t s ob a hob hoa r hr u ht hs
 have hl:=fun (r:Int × ByteArray) hr (u:World)=>ZbI K J s s a a hoa hoa r hr u hs hs
 obtain⟨A,j⟩:=eJ (a.getD Za2);obtain⟨B,hB⟩:=eJ (ob.getD Za2);obtain⟨fa,G⟩:∃ f,a.isSome=f:=⟨_,rfl⟩;obtain⟨fb,I⟩:∃ f,ob.isSome=f:=⟨_,rfl⟩;have Q:=(Zdv J hoa j G).2;have N:=(Zdv J hob hB I).2;rw[j,hB,G,I] at hi hj;rw[j,hB,G,I] at hk;rw[j,G] at hl;by_cases hff:fa=true∧fb=true
 ·obtain⟨rfl,rfl⟩:=hff;obtain⟨rfl,c,-⟩:=Q rfl;obtain⟨rfl,Y,-⟩:=N rfl;have hL:=fun u=>hl _ (Zre rfl) u
  have HL:=qh hL;rcases Zr9 c Y with⟨h1,h2⟩|⟨l,n,m,x,y,hw,aJ,h1,h2,hx,hy,hn⟩
  ·have U:=qh (fun u=>hi _ h1 u);have V:=qh (fun u=>hj _ h1 u);have X:=qh (fun u=>hk _ h2 u);clear hi hj hk hl hL Q N hoa hob j hB G I h1 h2 c Y J hb1 hs ht;go_wp2_with fail;refine(U.o _).mono ?_;rintro e w2 ⟨rfl,hb⟩;have C:=qh (E.o.trans (hb.mono E.o.size));clear hb;go_wp2_with fail;refine(V.o _).mono ?_;rintro e w3 ⟨rfl,hb⟩;have D:=qh (C.o.trans (hb.mono C.o.size));clear hb;go_wp2_with fail;refine(X.o _).mono ?_;rintro e w4 ⟨rfl,hb⟩;have F:=qh (D.o.trans (hb.mono D.o.size));clear hb;go_wp2_with fail;refine(HL.o _).mono ?_;rintro e w5 ⟨rfl,hb⟩;have M:=qh (F.o.trans (hb.mono F.o.size));clear hb E C D F U V X HL;go_wp2;go_ret;exact⟨rfl,M.o⟩
  obtain⟨hq,P,O⟩:=Zp2 hw;have g:=fun h=>Zny hw h
  obtain⟨L,i⟩:=eI (l.map (·+97));have aL:L.length=l.length:=by rw[i,List.length_map]
  rw[← i] at hq P O g;rw[hq] at h1 h2;obtain⟨r1,k⟩:=ZpX s L;obtain⟨r2,p⟩:=ZpX t L;have T:=ZmH J hoa k;have S:=ZmH J hob p;rw[O,hx] at T;rw[O,hy] at S;have z:=fun (u:World)=>ZcW s L u r1 k hs P (by omega)
  have b:=fun (u:World)=>ZcW t L u r2 p ht P (by omega)
  have aD:=ZaE L;obtain⟨q,aA⟩:=eJ (txB L);rw[aA] at h1 h2 z b aD;have U:=qh (fun u=>hi _ h1 u);have V:=qh (fun u=>hj _ h1 u);have X:=qh (fun u=>hk _ h2 u);have aC:=qh z;have aB:=qh b;have Hz:=qh (show L.length≤8→r1=x∧r2=y from fun h=>by have h3:=g (by omega);rw[h3,Bool.true_and] at T S;exact⟨T.symm,S.symm⟩);have aN:(n != n)=false:=by simp
  have aM:(q.toList==q.toList)=true:=by simp
  have aK:(q.toList != q.toList)=false:=by simp
  clear hi hj hk hl hL Q N hoa hob j hB G I h1 h2 c Y J hb1 hs ht z b k p T S g hq P O aA hx hy hw i;rcases hn with⟨rfl,rfl,rfl,rfl⟩|⟨rfl,rfl,rfl,rfl⟩|⟨rfl,rfl,rfl,rfl⟩|⟨rfl,rfl,rfl,rfl⟩
  all_goals
   go_wp2_with fail;refine(U.o _).mono ?_;rintro e w2 ⟨rfl,hb⟩;have C:=qh (E.o.trans (hb.mono E.o.size));clear hb;go_wp2_with fail;refine(V.o _).mono ?_;rintro e w3 ⟨rfl,hb⟩;have D:=qh (C.o.trans (hb.mono C.o.size));clear hb;go_wp2_with fail;refine(X.o _).mono ?_;rintro e w4 ⟨rfl,hb⟩;have F:=qh (D.o.trans (hb.mono D.o.size));clear hb;go_wp2_with fail;refine(HL.o _).mono ?_;rintro e w5 ⟨rfl,hb⟩;have M:=qh (F.o.trans (hb.mono F.o.size));clear hb E C D F U V X HL;go_wp2_with fail;refine(aC.o _).mono ?_;rintro e w6 ⟨rfl,hb⟩;have d:=qh (M.o.trans (hb.mono M.o.size));clear hb;go_wp2_with fail;refine(aB.o _).mono ?_;rintro e w7 ⟨rfl,hb⟩;have R:=qh (d.o.trans (hb.mono d.o.size));clear hb M d aC aB;have H:=qh ((St.start w7).alloc w7.heap.size rfl #[.int .i64 0,.int .i64 2,.int .i64 1,.int .i64 3] 3);have e0:=H.o.cell (v:=.int .i64 0) 0 0 rfl rfl;have e1:=H.o.cell (v:=.int .i64 2) 0 1 rfl rfl;have e2:=H.o.cell (v:=.int .i64 1) 0 2 rfl rfl;have e3:=H.o.cell (v:=.int .i64 3) 0 3 rfl rfl;by_cases h8:8<L.length
   ·have aF:(8:Int)<(L.length:Int):=by omega
    clear Hz;go_wp2;go_ret;exact⟨rfl,R.o.trans (H.o.bel.mono R.o.size)⟩
   have aF:¬ (8:Int)<(L.length:Int):=by omega
   obtain⟨rfl,rfl⟩:=Hz.o (by omega);clear Hz;go_wp2;go_ret;exact⟨rfl,R.o.trans (H.o.bel.mono R.o.size)⟩
 have Z:(fa&&fb)=false:=by cases fa<;>cases fb<;>simp at hff ⊢
 have aE:(fb&&fa)=false:=by cases fa<;>cases fb<;>simp at hff ⊢
 have U:=qh (fun u=>hi _ (ZlH Z) u);have V:=qh (fun u=>hj _ (ZlH Z) u);have X:=qh (fun u=>hk _ (ZlH aE) u);clear hi hj hk hl Q N hoa hob j hB G I Z aE hff J hb1 hs ht;go_wp2_with fail;refine(U.o _).mono ?_;rintro e w2 ⟨rfl,hb⟩;have C:=qh (E.o.trans (hb.mono E.o.size));clear hb;go_wp2_with fail;refine(V.o _).mono ?_;rintro e w3 ⟨rfl,hb⟩;have D:=qh (C.o.trans (hb.mono C.o.size));clear hb;go_wp2_with fail;refine(X.o _).mono ?_;rintro e w4 ⟨rfl,hb⟩;have F:=qh (D.o.trans (hb.mono D.o.size));clear hb E C D U V X;go_wp2_with (go_at_call 10;refine(ZpV _).mono ?_;rintro e w' ⟨rfl,rfl⟩);go_ret;exact⟨rfl,F.o⟩
end Go.Proofs.YtncekbbhgipdlaaGreat
namespace Go.Proofs.YtncekbbhgipdlaaGreat
open Go.ChangeShapes Go.WideShapes Go.ChangeAt Go.RowKit Go.Joins
theorem Tryz.own:ownKnob Tryz.prog.godebug=none:=by kernel_rfl
section
variable {H:Type} {enc:TypeId × Value→H} {W:World}
end
theorem Tryz.cellsByte:Tryz.prog.cellsOf 5 = 1:=by kernel_rfl
theorem Tryz.recLBytes:Tryz.prog.readableRec 25 = true:=by kernel_rfl
theorem Tryz.rowLBytes:(25:TypeId)<Tryz.prog.types.size:=of_decide_eq_true (by kernel_rfl)
section
variable {H:Type} {enc:TypeId × Value→H} {W:World}
theorem Zlh {held:Bool} {v:Value} {d:DataW H} {p:List MemPlace} (h:DataW.Trod enc Tryz.prog W 0 (fun _=>true) held 25 v d p) (C:v.cells.toList=[v]):∃ bs,Bytes 0 W v bs:=by obtain⟨B,hf⟩:=h;obtain⟨u,bs,hu,hx⟩:=Zkc Tryz.underlying25 Tryz.underlying5 Tryz.cellsByte hf;rw[C] at hu;simp only[List.cons.injEq,and_true] at hu;subst hu;exact⟨bs,hx⟩
end
end Go.Proofs.YtncekbbhgipdlaaGreat
