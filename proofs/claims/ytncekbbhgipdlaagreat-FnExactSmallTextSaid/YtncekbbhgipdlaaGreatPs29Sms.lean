/-
  The walks over the reference's l5Is and l5Same.
  Conditions: the lists of parts read as such.
-/
import Derived.Test.YtncekbbhgipdlaaGreatPs28Sim
set_option maxHeartbeats 16000000
set_option maxRecDepth 100000
namespace Go.Proofs.YtncekbbhgipdlaaGreat
open Go.RowKit
def isK (es:List (Int × Int)) (k:Int):Bool:=decide (es.length=1)&&decide ((es.getD 0 (0,0)).1=k)
theorem Zm8 (t:Ex) (k:Int) (hk:k=1∨k=2):isK t.post k=true↔(k=1∧t = .zero)∨(k=2∧t = .one):=by
 have two:∀ (a b:List (Int × Int)) (p:Int × Int),1≤a.length→1≤b.length→isK (a++b++[p]) k=false:=fun a b p h1 h2=>by unfold isK;rw[decide_eq_false (by rw[List.length_append,List.length_append,List.length_singleton];omega),Bool.false_and]
 have one:∀ (a:List (Int × Int)) (p:Int × Int),1≤a.length→isK (a++[p]) k=false:=fun a p h1=>by unfold isK;rw[decide_eq_false (by rw[List.length_append,List.length_singleton];omega),Bool.false_and]
 have no:∀ t:Ex,t ≠ .zero→t ≠ .one→isK t.post k=false→(isK t.post k=true↔(k=1∧t = .zero)∨(k=2∧t = .one)):=fun t h1 h2 h3=>by rw[h3];exact⟨fun h=>(by cases h),fun h=>h.elim (fun h=>absurd h.2 h1) fun h=>absurd h.2 h2⟩
 cases t with
 | zero =>
  rcases hk with rfl|rfl
  ·exact⟨fun _ => .inl ⟨rfl,rfl⟩,fun _=>rfl⟩
  exact⟨fun h=>absurd h (by decide),fun h=>h.elim (fun h=>absurd h.1 (by decide)) fun h=>(by cases h.2)⟩
 | one =>
  rcases hk with rfl|rfl
  ·exact⟨fun h=>absurd h (by decide),fun h=>h.elim (fun h=>(by cases h.2)) fun h=>absurd h.1 (by decide)⟩
  exact⟨fun _ => .inr ⟨rfl,rfl⟩,fun _=>rfl⟩
 | ltr c =>refine no _ (by simp) (by simp) ?_;unfold isK;rw[decide_eq_false (p:=(((Ex.ltr c).post).getD 0 (0,0)).1=k) (by show ¬ (3:Int)=k;omega),Bool.and_false]
 | join a b=>exact no _ (by simp) (by simp) (two _ _ _ (Zao a) (Zao b))
 | alt a b=>exact no _ (by simp) (by simp) (two _ _ _ (Zao a) (Zao b))
 | both a b=>exact no _ (by simp) (by simp) (two _ _ _ (Zao a) (Zao b))
 | neg a=>exact no _ (by simp) (by simp) (one _ _ (Zao a))
 | star a=>exact no _ (by simp) (by simp) (one _ _ (Zao a))
theorem Zeo (es:List (Int × Int)) (k:Int) (v:Value) (w:World) (h:Pairs 0 w v es) (r:Bool) (hr:isK es k=r) :
  Calls Tryz.prog 123 #[v,.int .i64 k] w fun e w'=>e = .returned (.bool r)∧w=w':=by
 obtain⟨a,c,rfl,hc1,hc2,hrd⟩:=h.form;clear h;unfold isK at hr;by_cases h1:es.length=1
 ·rw[decide_eq_true h1,Bool.true_and] at hr;obtain⟨b,o,rfl,-,hbl,hcs⟩:=hrd (by omega);have g1:=(hcs 0 (by omega)).1;obtain⟨p,hp⟩:=eI ((es.getD 0 (0,0)).1);rw[← hp] at g1 hr;have g1':w.cell? ⟨b,o,none⟩=some (.int .i64 p):=g1;obtain⟨n,hn⟩:=eI (es.length);rw[← hn] at h1 hc1;rw[← hn];subst h1;replace hn:=qh hn;have Hhp:=qh hp;clear hp;clear hcs hrd g1;by_cases hpk:p=k
  ·rw[decide_eq_true hpk] at hr;subst hr hpk
   go_enter Tryz.func123, Tryz.ntmps123
   go_wp2;go_ret;exact⟨ZaT (by simp),rfl⟩
  rw[decide_eq_false hpk] at hr;subst hr;obtain⟨q1,q2,q3,q4⟩:=ZaH hpk
  go_enter Tryz.func123, Tryz.ntmps123
  go_wp2;go_ret;exact⟨rfl,rfl⟩
 rw[decide_eq_false h1,Bool.false_and] at hr;subst hr;have h1I:¬ (es.length:Int)=1:=by omega
 obtain⟨q1,q2,q3,q4⟩:=ZaH h1I;clear hrd
 go_enter Tryz.func123, Tryz.ntmps123
 go_wp2;go_ret;exact⟨rfl,rfl⟩
theorem ZlC (xs ys:List (Int × Int)) (v1 v2:Value) (w:World) (hl:xs.length≤100000) (h1:Pairs 0 w v1 xs) (h2:Pairs 0 w v2 ys) :
  Calls Tryz.prog 124 #[v1,v2] w fun e w'=>e = .returned (.bool (decide (xs=ys)))∧Below w.heap.size w w':=by
 obtain⟨a1,c1,rfl,hc1,hc2,hr1⟩:=h1.form;obtain⟨a2,c2,rfl,hd1,hd2,hr2⟩:=h2.form;have Hr1:=qh hr1;have Hr2:=qh hr2;clear h1 h2 hr1 hr2;by_cases hln:xs.length=ys.length
 ·obtain⟨n,hn⟩:=eI (xs.length);have hn2:n=ys.length:=hn.trans hln;rw[← hn] at hc1 Hr1 hl ⊢;rw[← hn2] at hd1 Hr2 ⊢;replace hn:=qh hn;have Hhn2:=qh hn2;clear hn2;clear hln
  go_enter Tryz.func124, Tryz.ntmps124
  go_wp2
  go_loopw [5] (fun vi wr=>∃ i:Nat,vi = .int .i64 (i:Int)∧i≤n∧(∀ j,j<i→xs.getD j (0,0)=ys.getD j (0,0))∧Below w.heap.size w wr) (fun vi _=>n-(intOf vi).toNat)
  case atStart=>exact⟨0,rfl,Nat.zero_le _,fun j hj=>by omega,Below.refl _ _⟩
  case round =>
   obtain⟨i,rfl,hi,hsm,hb⟩:=hrel;have Hb:=qh hb;have Hsm:=qh hsm;clear hb hsm;by_cases hlt:i<n
   ·have hi1:(i:Int)<(n:Int):=by omega
    have hw1:IntKind.i64.wrap ((i:Int)+1)=(i:Int)+1:=IntWalk.i64_in _ (by omega);obtain⟨b1,o1,rfl,-,hl1,g1⟩:=Hr1.out (by omega);obtain⟨b2,o2,rfl,-,hl2,g2⟩:=Hr2.out (by omega);have k1:=(bcell Hb.out b1 _ hl1).trans (g1 i hlt).1;have k2:=(bcell Hb.out b1 _ hl1).trans (g1 i hlt).2;have k3:=(bcell Hb.out b2 _ hl2).trans (g2 i hlt).1;have k4:=(bcell Hb.out b2 _ hl2).trans (g2 i hlt).2;by_cases he:xs.getD i (0,0)=ys.getD i (0,0)
    ·rw[← he] at k3 k4;obtain⟨p,hp⟩:=eI (xs.getD i (0,0));rw[← hp] at k1 k2 k3 k4;obtain⟨x,y⟩:=p;simp only at k1 k2 k3 k4;have Hhp:=qh hp;clear hp;replace he:=qh he;clear g1 g2;go_wp2
     go_region
     go_wp2;go_roundw
     case rel =>
      refine⟨i+1,by simp,by omega,fun j hj => ?_,Hb.out.drew⟩;by_cases hji:j<i
      ·exact Hsm.out j hji
      obtain rfl:j=i:=by omega
      exact he.out
     case measure=>simp[intOf];omega
    have hne:decide (xs=ys)=false:=decide_eq_false fun h=>he (by rw[h])
    obtain⟨p,hp⟩:=eI (xs.getD i (0,0));obtain⟨q,hq⟩:=eI (ys.getD i (0,0));rw[← hp] at k1 k2 he;rw[← hq] at k3 k4 he;obtain⟨x,y⟩:=p;obtain⟨x',y'⟩:=q;simp only at k1 k2 k3 k4;have Hhne:=qh hne;clear hne;have Hhp:=qh hp;clear hp;have Hhq:=qh hq;clear hq;clear g1 g2;by_cases hx:x=x'
    ·have hy:y≠y':=fun h=>he (by rw[hx,h])
     subst hx;obtain⟨q1,q2,q3,q4⟩:=ZaH hy;replace he:=qh he;go_wp2
     go_region
     go_wp2;go_ret;exact⟨ZaT Hhne.out.symm,Hb.out.drew⟩
    obtain⟨q1,q2,q3,q4⟩:=ZaH hx;replace he:=qh he;go_wp2
    go_region
    go_wp2;go_ret;exact⟨ZaT Hhne.out.symm,Hb.out.drew⟩
   obtain rfl:i=n:=by omega
   have hi1:¬ (i:Int)<(i:Int):=by omega
   have hy:decide (xs=ys)=true:=decide_eq_true (List.ext_getElem (by rw[← hn.out,← Hhn2.out]) fun j h1 h2=>by
    have:=Hsm.out j (by rw[hn.out];exact h1)
    rwa [List.getD_eq_getElem?_getD,List.getElem?_eq_getElem h1,List.getD_eq_getElem?_getD,List.getElem?_eq_getElem h2] at this)
   have Hhy:=qh hy;clear hy;go_wp2;go_ret;exact⟨ZaT Hhy.out.symm,Hb.out⟩
 have hne:decide (xs=ys)=false:=decide_eq_false fun h=>hln (by rw[h])
 have hnI:¬ (xs.length:Int)=(ys.length:Int):=by omega
 obtain⟨q1,q2,q3,q4⟩:=ZaH hnI;have Hhne:=qh hne;clear hne
 go_enter Tryz.func124, Tryz.ntmps124
 go_wp2;go_ret;exact⟨ZaT Hhne.out.symm,Below.refl _ _⟩
def PtH (E:Ent) (v:Value) (es:List (Int × Int)):Prop:=∀ w,E.holds w→(∀ k,E.foot k→k<w.heap.size)→Pairs 0 w v es
theorem PtH.r {w0 w:World} {L:List Ent} {E:Ent} {v:Value} {es:List (Int × Int)} (h:PtH E v es) (hS:St w0 w L) (i:Nat) (hx:L[i]? = some E):Pairs 0 w v es :=
 h w (hS.has i _ hx).1 fun k hk=>((hS.has i _ hx).2 k hk).2
def ZcT (es:List (Int × Int)):Int:=(es.getD (es.length-1) (0,0)).1
def mkL (k z:Int) (xs ys:List (Int × Int)):List (Int × Int) :=
 if k=4 then(if isK xs 1=true∨isK ys 1=true then [(1,0)] else if isK xs 2=true then ys else if isK ys 2=true then xs else xs++ys++[(k,z)])
 else if k=5 then(if isK xs 1=true∨xs=ys then ys else if isK ys 1=true then xs else xs++ys++[(k,z)])
 else if k=6 then(if isK xs 1=true∨isK ys 1=true then [(1,0)] else if xs=ys then xs else xs++ys++[(k,z)])
 else if k=7 then(if ZcT xs=7 then xs.take (xs.length-1) else xs++ys++[(k,z)])
 else if k=8 then(if isK xs 1=true∨isK xs 2=true then [(2,0)] else if ZcT xs=8 then xs else xs++ys++[(k,z)])
 else xs++ys++[(k,z)]
def RPr (es:List (Int × Int)) (w:World) (e:Ending) (w':World):Prop:=∃ v,e = .returned v∧Pairs 0 w' v es∧Below w.heap.size w w'
def RPm (M xs ys:List (Int × Int)) (v1 v2:Value) (w:World) (e:Ending) (w':World):Prop:=∃ v F,e = .returned v∧St w w' [F]∧∀ u,Pairs 0 u v1 xs→Pairs 0 u v2 ys→F.holds u→Pairs 0 u v M
theorem Zcf {M xs ys:List (Int × Int)} {v1 v2 v:Value} {w w':World} {L:List Ent} (hS:St w w' L) (h:∀ u,Pairs 0 u v1 xs→Pairs 0 u v2 ys→Pairs 0 u v M):RPm M xs ys v1 v2 w (.returned v) w' :=
 ⟨v,Ent.nil,rfl,(hS.pick [] (by decide)).add (Below.refl _ _) Ent.nil trivial fun k hk=>hk.elim,fun u h1 h2 _=>h u h1 h2⟩
theorem ZbW {M xs ys:List (Int × Int)} {v1 v2 v:Value} {w w':World} {X:Ent} (hS:St w w' [X]) (h:∀ u,X.holds u→Pairs 0 u v M):RPm M xs ys v1 v2 w (.returned v) w':=⟨v,X,rfl,hS,fun u _ _ h3=>h u h3⟩
theorem Zj6 (k z:Int) (xs ys:List (Int × Int)) (v1 v2:Value) (w:World) (hl1:xs.length≤10000) (hl2:ys.length≤10000) (hne:k=7∨k=8→1≤xs.length) (h1:Pairs 0 w v1 xs) (h2:Pairs 0 w v2 ys) :
  Calls Tryz.prog 83 #[.agg #[.int .i64 k,.int .i64 z],v1,v2] w fun e w'=>RPm (mkL k z xs ys) xs ys v1 v2 w e w':=by
 obtain⟨xa,xc,rfl,hx1,hx2,hxr⟩:=h1.form;obtain⟨ya,yc,rfl,hy1,hy2,hyr⟩:=h2.form;obtain⟨i0,hi,hz0,hz1,hz2⟩:=info_parts Tryz.infoPt;obtain⟨nx,hnx⟩:∃ n,n=xs.length:=⟨_,rfl⟩;obtain⟨ny,hny⟩:∃ n,n=ys.length:=⟨_,rfl⟩;have hnl:nx+ny+1=(xs++ys++[(k,z)]).length:=by rw[List.length_append,List.length_append,hnx,hny];rfl
 rw[← hnx] at hx1 hl1 h1 hxr;rw[← hny] at hy1 hl2 h2 hyr;rw[← hnx,← hny];rw[← hnx] at hne;have HS:=qh ((((St.start w).alloc w.heap.size rfl #[.int .i64 k,.int .i64 z] 62).alloc (w.heap.size+1) (by simp) #[.int .i64 1,.int .i64 0] 62).alloc (w.heap.size+1+1) (by simp) #[.int .i64 2,.int .i64 0] 62);have HX:Hid (Sl 0 w (.slice xa nx xc) nx 2 (xs.flatMap Zaa)):=qh (by have:=h1;unfold Pairs at this;rw[← hnx] at this;exact this);have HY:Hid (Sl 0 w (.slice ya ny yc) ny 2 (ys.flatMap Zaa)):=qh (by have:=h2;unfold Pairs at this;rw[← hny] at this;exact this);have H1:=qh h1;have H2:=qh h2;have Hxr:=qh hxr;have Hne:=qh hne;have Hhi:=qh hi;clear hi;replace hz0:=qh hz0;have Hhz1:=qh hz1;clear hz1;have Hhz2:=qh hz2;clear hz2;replace hnx:=qh hnx;have Hhny:=qh hny;clear hny;replace hnl:=qh hnl;clear h1 h2 hxr hyr hne
 go_enter Tryz.func83, Tryz.ntmps83
 go_upto_region 3 with fail
 obtain⟨W,hW⟩:=eI (((w.alloc (.cells #[.int .i64 k,.int .i64 z] 62)).alloc (.cells #[.int .i64 1,.int .i64 0] 62)).alloc (.cells #[.int .i64 2,.int .i64 0] 62));rw[← hW] at HS ⊢;clear hW;have e0:=HS.out.cell (v:=.int .i64 k) 0 0 rfl rfl;have e1:=HS.out.cell (v:=.int .i64 z) 0 1 rfl rfl
 go_upto_block 0 with fail
 go_cut [] from 15 to 97 (fun wc=>mkL k z xs ys=xs++ys++[(k,z)]∧St w wc [Ent.box w.heap.size #[.int .i64 k,.int .i64 z] 62,Ent.box (w.heap.size+1) #[.int .i64 1,.int .i64 0] 62,Ent.box (w.heap.size+1+1) #[.int .i64 2,.int .i64 0] 62])
 case first =>
  obtain⟨rx1,rx1'⟩:∃ r,isK xs 1=r:=⟨_,rfl⟩;obtain⟨rx2,rx2'⟩:∃ r,isK xs 2=r:=⟨_,rfl⟩;obtain⟨ry1,ry1'⟩:∃ r,isK ys 1=r:=⟨_,rfl⟩;obtain⟨ry2,ry2'⟩:∃ r,isK ys 2=r:=⟨_,rfl⟩;obtain⟨rs,rs'⟩:∃ r,decide (xs=ys)=r:=⟨_,rfl⟩;have Hx1:=qh (Zeo xs 1 (.slice xa nx xc) W (H1.out.below HS.out.bel) rx1 rx1');have Hx2:=qh (Zeo xs 2 (.slice xa nx xc) W (H1.out.below HS.out.bel) rx2 rx2');have Hy1:=qh (Zeo ys 1 (.slice ya ny yc) W (H2.out.below HS.out.bel) ry1 ry1');have Hy2:=qh (Zeo ys 2 (.slice ya ny yc) W (H2.out.below HS.out.bel) ry2 ry2');have hsm:=ZlC xs ys (.slice xa nx xc) (.slice ya ny yc) W (by rw[← hnx.out];omega) (H1.out.below HS.out.bel) (H2.out.below HS.out.bel);rw[rs'] at hsm;have Hsm:=qh hsm;have Hyw:=qh (fun (u:World) (hb:Below w.heap.size w u)=>Zeo ys 1 (.slice ya ny yc) u (H2.out.below hb) ry1 ry1');have Hhrx1:=qh rx1';have Hhrx2:=qh rx2';have Hhry1:=qh ry1';have Hhry2:=qh ry2';have Hhrs:Hid ((xs=ys)=(rs=true)):=qh (by rw[← rs',decide_eq_true_eq]);clear rx1' rx2' ry1' ry2' rs' hsm;by_cases h4:k=4
  ·subst h4;cases rx1 with
   | true =>
    have hm:mkL 4 z xs ys=[(1,0)]:=by simp[mkL,Hhrx1.out]
    have Hhm:=qh hm;clear hm
    as_aux_lemma =>
    go_wp2_with (first|(go_at_call 123;with_reducible refine(Hx1.out).mono ?_;rintro e w' ⟨rfl,rfl⟩)|(go_at_call 123;with_reducible refine(Hx2.out).mono ?_;rintro e w' ⟨rfl,rfl⟩)|(go_at_call 123;with_reducible refine(Hy1.out).mono ?_;rintro e w' ⟨rfl,rfl⟩)|(go_at_call 123;with_reducible refine(Hy2.out).mono ?_;rintro e w' ⟨rfl,rfl⟩));go_ret;rw[Hhm.out];exact ZbW ((HS.out.boxrow 1 1 2 [.int .i64 1,.int .i64 0] rfl rfl (by unfold maxLen;omega)).pick [1] (by decide)) fun u h=>Zad (xs:=[(1,0)]) h
   | false =>
    cases ry1 with
    | true =>
     have hm:mkL 4 z xs ys=[(1,0)]:=by simp[mkL,Hhrx1.out,Hhry1.out]
     have Hhm:=qh hm;clear hm
     as_aux_lemma =>
     go_wp2_with (first|(go_at_call 123;with_reducible refine(Hx1.out).mono ?_;rintro e w' ⟨rfl,rfl⟩)|(go_at_call 123;with_reducible refine(Hx2.out).mono ?_;rintro e w' ⟨rfl,rfl⟩)|(go_at_call 123;with_reducible refine(Hy1.out).mono ?_;rintro e w' ⟨rfl,rfl⟩)|(go_at_call 123;with_reducible refine(Hy2.out).mono ?_;rintro e w' ⟨rfl,rfl⟩));go_ret;rw[Hhm.out];exact ZbW ((HS.out.boxrow 1 1 2 [.int .i64 1,.int .i64 0] rfl rfl (by unfold maxLen;omega)).pick [1] (by decide)) fun u h=>Zad (xs:=[(1,0)]) h
    | false =>
     cases rx2 with
     | true =>
      have hm:mkL 4 z xs ys=ys:=by simp[mkL,Hhrx1.out,Hhry1.out,Hhrx2.out]
      have Hhm:=qh hm;clear hm
      as_aux_lemma =>
      go_wp2_with (first|(go_at_call 123;with_reducible refine(Hx1.out).mono ?_;rintro e w' ⟨rfl,rfl⟩)|(go_at_call 123;with_reducible refine(Hx2.out).mono ?_;rintro e w' ⟨rfl,rfl⟩)|(go_at_call 123;with_reducible refine(Hy1.out).mono ?_;rintro e w' ⟨rfl,rfl⟩)|(go_at_call 123;with_reducible refine(Hy2.out).mono ?_;rintro e w' ⟨rfl,rfl⟩));go_ret;rw[Hhm.out];exact Zcf HS.out fun u _ h=>h
     | false =>
      cases ry2 with
      | true =>
       have hm:mkL 4 z xs ys=xs:=by simp[mkL,Hhrx1.out,Hhry1.out,Hhrx2.out,Hhry2.out]
       have Hhm:=qh hm;clear hm
       as_aux_lemma =>
       go_wp2_with (first|(go_at_call 123;with_reducible refine(Hx1.out).mono ?_;rintro e w' ⟨rfl,rfl⟩)|(go_at_call 123;with_reducible refine(Hx2.out).mono ?_;rintro e w' ⟨rfl,rfl⟩)|(go_at_call 123;with_reducible refine(Hy1.out).mono ?_;rintro e w' ⟨rfl,rfl⟩)|(go_at_call 123;with_reducible refine(Hy2.out).mono ?_;rintro e w' ⟨rfl,rfl⟩));go_ret;rw[Hhm.out];exact Zcf HS.out fun u h _=>h
      | false =>
       have hm:mkL 4 z xs ys=xs++ys++[(4,z)]:=by simp[mkL,Hhrx1.out,Hhry1.out,Hhrx2.out,Hhry2.out]
       have Hhm:=qh hm;clear hm
       as_aux_lemma =>
       go_wp2_with (first|(go_at_call 123;with_reducible refine(Hx1.out).mono ?_;rintro e w' ⟨rfl,rfl⟩)|(go_at_call 123;with_reducible refine(Hx2.out).mono ?_;rintro e w' ⟨rfl,rfl⟩)|(go_at_call 123;with_reducible refine(Hy1.out).mono ?_;rintro e w' ⟨rfl,rfl⟩)|(go_at_call 123;with_reducible refine(Hy2.out).mono ?_;rintro e w' ⟨rfl,rfl⟩));go_meet;exact⟨Hhm.out,HS.out⟩
  by_cases h5:k=5
  ·subst h5;cases rx1 with
   | true =>
    have hm:mkL 5 z xs ys=ys:=by simp[mkL,Hhrx1.out]
    have Hhm:=qh hm;clear hm
    as_aux_lemma =>
    go_wp2_with (first|(go_at_call 123;with_reducible refine(Hx1.out).mono ?_;rintro e w' ⟨rfl,rfl⟩)|(go_at_call 123;with_reducible refine(Hx2.out).mono ?_;rintro e w' ⟨rfl,rfl⟩)|(go_at_call 123;with_reducible refine(Hy1.out).mono ?_;rintro e w' ⟨rfl,rfl⟩)|(go_at_call 123;with_reducible refine(Hy2.out).mono ?_;rintro e w' ⟨rfl,rfl⟩));go_ret;rw[Hhm.out];exact Zcf HS.out fun u _ h=>h
   | false =>
    cases rs with
    | true =>
     have hm:mkL 5 z xs ys=ys:=by simp[mkL,Hhrx1.out,Hhrs.out]
     have Hhm:=qh hm;clear hm
     as_aux_lemma =>
     go_wp2_with (first|(go_at_call 123;with_reducible refine(Hx1.out).mono ?_;rintro e w' ⟨rfl,rfl⟩)|(go_at_call 123;with_reducible refine(Hx2.out).mono ?_;rintro e w' ⟨rfl,rfl⟩)|(go_at_call 123;with_reducible refine(Hy1.out).mono ?_;rintro e w' ⟨rfl,rfl⟩)|(go_at_call 123;with_reducible refine(Hy2.out).mono ?_;rintro e w' ⟨rfl,rfl⟩)|(go_at_call 124;refine(Hsm.out).mono ?_;rintro e w3 ⟨rfl,hb3⟩;have HS3:=qh (HS.out.call hb3);clear hb3)|(go_at_call 123;refine(Hyw.out _ HS3.out.bel).mono ?_;rintro e w' ⟨rfl,rfl⟩));go_ret;rw[Hhm.out];exact Zcf HS3.out fun u _ h=>h
    | false =>
     cases ry1 with
     | true =>
      have hm:mkL 5 z xs ys=xs:=by simp[mkL,Hhrx1.out,Hhrs.out,Hhry1.out]
      have Hhm:=qh hm;clear hm
      as_aux_lemma =>
      go_wp2_with (first|(go_at_call 123;with_reducible refine(Hx1.out).mono ?_;rintro e w' ⟨rfl,rfl⟩)|(go_at_call 123;with_reducible refine(Hx2.out).mono ?_;rintro e w' ⟨rfl,rfl⟩)|(go_at_call 123;with_reducible refine(Hy1.out).mono ?_;rintro e w' ⟨rfl,rfl⟩)|(go_at_call 123;with_reducible refine(Hy2.out).mono ?_;rintro e w' ⟨rfl,rfl⟩)|(go_at_call 124;refine(Hsm.out).mono ?_;rintro e w3 ⟨rfl,hb3⟩;have HS3:=qh (HS.out.call hb3);clear hb3)|(go_at_call 123;refine(Hyw.out _ HS3.out.bel).mono ?_;rintro e w' ⟨rfl,rfl⟩));go_ret;rw[Hhm.out];exact Zcf HS3.out fun u h _=>h
     | false =>
      have hm:mkL 5 z xs ys=xs++ys++[(5,z)]:=by simp[mkL,Hhrx1.out,Hhrs.out,Hhry1.out]
      have Hhm:=qh hm;clear hm
      as_aux_lemma =>
      go_wp2_with (first|(go_at_call 123;with_reducible refine(Hx1.out).mono ?_;rintro e w' ⟨rfl,rfl⟩)|(go_at_call 123;with_reducible refine(Hx2.out).mono ?_;rintro e w' ⟨rfl,rfl⟩)|(go_at_call 123;with_reducible refine(Hy1.out).mono ?_;rintro e w' ⟨rfl,rfl⟩)|(go_at_call 123;with_reducible refine(Hy2.out).mono ?_;rintro e w' ⟨rfl,rfl⟩)|(go_at_call 124;refine(Hsm.out).mono ?_;rintro e w3 ⟨rfl,hb3⟩;have HS3:=qh (HS.out.call hb3);clear hb3)|(go_at_call 123;refine(Hyw.out _ HS3.out.bel).mono ?_;rintro e w' ⟨rfl,rfl⟩));go_meet;exact⟨Hhm.out,HS3.out⟩
  by_cases h6:k=6
  ·subst h6;cases rx1 with
   | true =>
    have hm:mkL 6 z xs ys=[(1,0)]:=by simp[mkL,Hhrx1.out]
    have Hhm:=qh hm;clear hm
    as_aux_lemma =>
    go_wp2_with (first|(go_at_call 123;with_reducible refine(Hx1.out).mono ?_;rintro e w' ⟨rfl,rfl⟩)|(go_at_call 123;with_reducible refine(Hx2.out).mono ?_;rintro e w' ⟨rfl,rfl⟩)|(go_at_call 123;with_reducible refine(Hy1.out).mono ?_;rintro e w' ⟨rfl,rfl⟩)|(go_at_call 123;with_reducible refine(Hy2.out).mono ?_;rintro e w' ⟨rfl,rfl⟩));go_ret;rw[Hhm.out];exact ZbW ((HS.out.boxrow 1 1 2 [.int .i64 1,.int .i64 0] rfl rfl (by unfold maxLen;omega)).pick [1] (by decide)) fun u h=>Zad (xs:=[(1,0)]) h
   | false =>
    cases ry1 with
    | true =>
     have hm:mkL 6 z xs ys=[(1,0)]:=by simp[mkL,Hhrx1.out,Hhry1.out]
     have Hhm:=qh hm;clear hm
     as_aux_lemma =>
     go_wp2_with (first|(go_at_call 123;with_reducible refine(Hx1.out).mono ?_;rintro e w' ⟨rfl,rfl⟩)|(go_at_call 123;with_reducible refine(Hx2.out).mono ?_;rintro e w' ⟨rfl,rfl⟩)|(go_at_call 123;with_reducible refine(Hy1.out).mono ?_;rintro e w' ⟨rfl,rfl⟩)|(go_at_call 123;with_reducible refine(Hy2.out).mono ?_;rintro e w' ⟨rfl,rfl⟩));go_ret;rw[Hhm.out];exact ZbW ((HS.out.boxrow 1 1 2 [.int .i64 1,.int .i64 0] rfl rfl (by unfold maxLen;omega)).pick [1] (by decide)) fun u h=>Zad (xs:=[(1,0)]) h
    | false =>
     cases rs with
     | true =>
      have hm:mkL 6 z xs ys=xs:=by simp[mkL,Hhrx1.out,Hhry1.out,Hhrs.out]
      have Hhm:=qh hm;clear hm
      as_aux_lemma =>
      go_wp2_with (first|(go_at_call 123;with_reducible refine(Hx1.out).mono ?_;rintro e w' ⟨rfl,rfl⟩)|(go_at_call 123;with_reducible refine(Hx2.out).mono ?_;rintro e w' ⟨rfl,rfl⟩)|(go_at_call 123;with_reducible refine(Hy1.out).mono ?_;rintro e w' ⟨rfl,rfl⟩)|(go_at_call 123;with_reducible refine(Hy2.out).mono ?_;rintro e w' ⟨rfl,rfl⟩)|(go_at_call 124;refine(Hsm.out).mono ?_;rintro e w3 ⟨rfl,hb3⟩;have HS3:=qh (HS.out.call hb3);clear hb3)|(go_at_call 123;refine(Hyw.out _ HS3.out.bel).mono ?_;rintro e w' ⟨rfl,rfl⟩));go_ret;rw[Hhm.out];exact Zcf HS3.out fun u h _=>h
     | false =>
      have hm:mkL 6 z xs ys=xs++ys++[(6,z)]:=by simp[mkL,Hhrx1.out,Hhry1.out,Hhrs.out]
      have Hhm:=qh hm;clear hm
      as_aux_lemma =>
      go_wp2_with (first|(go_at_call 123;with_reducible refine(Hx1.out).mono ?_;rintro e w' ⟨rfl,rfl⟩)|(go_at_call 123;with_reducible refine(Hx2.out).mono ?_;rintro e w' ⟨rfl,rfl⟩)|(go_at_call 123;with_reducible refine(Hy1.out).mono ?_;rintro e w' ⟨rfl,rfl⟩)|(go_at_call 123;with_reducible refine(Hy2.out).mono ?_;rintro e w' ⟨rfl,rfl⟩)|(go_at_call 124;refine(Hsm.out).mono ?_;rintro e w3 ⟨rfl,hb3⟩;have HS3:=qh (HS.out.call hb3);clear hb3)|(go_at_call 123;refine(Hyw.out _ HS3.out.bel).mono ?_;rintro e w' ⟨rfl,rfl⟩));go_meet;exact⟨Hhm.out,HS3.out⟩
  by_cases h7:k=7
  ·subst h7;obtain⟨b,o,rfl,-,hbl,hcs⟩:=Hxr.out (by have:=Hne.out (by omega);omega);have hnp:1≤nx:=Hne.out (by omega);have g:=(hcs (nx-1) (by omega)).1;obtain⟨m,hm'⟩:∃ m,nx=m+1:=⟨nx-1,by omega⟩;have hL:(xs.getD (nx-1) (0,0)).1=ZcT xs:=by rw[hnx.out];rfl
   rw[hL] at g;obtain⟨L,hLL⟩:=eJ (ZcT xs);rw[hLL] at g;rw[show nx-1=m by omega] at g;have g':=(bcell HS.out.bel b _ hbl).trans g;have hmI:(nx:Int)-1=(m:Int):=by omega
   have hmw:IntKind.i64.wrap (m:Int)=(m:Int):=IntWalk.i64_in _ (by omega);have hm2:(m:Int)<(nx:Int):=by omega
   have HhLL:=qh hLL;clear hLL;have Hhm':=qh hm';clear hm';replace hL:=qh hL;clear g hcs;by_cases hLk:L=7
   ·subst hLk;have hm:mkL 7 z xs ys=xs.take (xs.length-1):=by simp[mkL,HhLL.out]
    have Hhm:=qh hm;clear hm
    as_aux_lemma =>
    go_wp2_with (first|(go_at_call 123;with_reducible refine(Hx1.out).mono ?_;rintro e w' ⟨rfl,rfl⟩)|(go_at_call 123;with_reducible refine(Hx2.out).mono ?_;rintro e w' ⟨rfl,rfl⟩)|(go_at_call 123;with_reducible refine(Hy1.out).mono ?_;rintro e w' ⟨rfl,rfl⟩)|(go_at_call 123;with_reducible refine(Hy2.out).mono ?_;rintro e w' ⟨rfl,rfl⟩));go_ret;rw[Hhm.out];exact Zcf HS.out fun u h1 _=>by have h:=h1.take (n:=m) (by have h1:=hnx.out;have h2:=Hhm'.out;omega);rw[← hnx.out,Hhm'.out];exact h
   obtain⟨q1,q2,q3,q4⟩:=ZaH hLk;have HhLk:=qh hLk;clear hLk;have hm:mkL 7 z xs ys=xs++ys++[(7,z)]:=by simp[mkL,HhLL.out,HhLk.out]
   have Hhm:=qh hm;clear hm
   as_aux_lemma =>
   go_wp2_with (first|(go_at_call 123;with_reducible refine(Hx1.out).mono ?_;rintro e w' ⟨rfl,rfl⟩)|(go_at_call 123;with_reducible refine(Hx2.out).mono ?_;rintro e w' ⟨rfl,rfl⟩)|(go_at_call 123;with_reducible refine(Hy1.out).mono ?_;rintro e w' ⟨rfl,rfl⟩)|(go_at_call 123;with_reducible refine(Hy2.out).mono ?_;rintro e w' ⟨rfl,rfl⟩));go_meet;exact⟨Hhm.out,HS.out⟩
  by_cases h8:k=8
  ·subst h8;cases rx1 with
   | true =>
    have hm:mkL 8 z xs ys=[(2,0)]:=by simp[mkL,Hhrx1.out]
    have Hhm:=qh hm;clear hm
    as_aux_lemma =>
    go_wp2_with (first|(go_at_call 123;with_reducible refine(Hx1.out).mono ?_;rintro e w' ⟨rfl,rfl⟩)|(go_at_call 123;with_reducible refine(Hx2.out).mono ?_;rintro e w' ⟨rfl,rfl⟩)|(go_at_call 123;with_reducible refine(Hy1.out).mono ?_;rintro e w' ⟨rfl,rfl⟩)|(go_at_call 123;with_reducible refine(Hy2.out).mono ?_;rintro e w' ⟨rfl,rfl⟩));go_ret;rw[Hhm.out];exact ZbW ((HS.out.boxrow 2 1 2 [.int .i64 2,.int .i64 0] rfl rfl (by unfold maxLen;omega)).pick [2] (by decide)) fun u h=>Zad (xs:=[(2,0)]) h
   | false =>
    cases rx2 with
    | true =>
     have hm:mkL 8 z xs ys=[(2,0)]:=by simp[mkL,Hhrx1.out,Hhrx2.out]
     have Hhm:=qh hm;clear hm
     as_aux_lemma =>
     go_wp2_with (first|(go_at_call 123;with_reducible refine(Hx1.out).mono ?_;rintro e w' ⟨rfl,rfl⟩)|(go_at_call 123;with_reducible refine(Hx2.out).mono ?_;rintro e w' ⟨rfl,rfl⟩)|(go_at_call 123;with_reducible refine(Hy1.out).mono ?_;rintro e w' ⟨rfl,rfl⟩)|(go_at_call 123;with_reducible refine(Hy2.out).mono ?_;rintro e w' ⟨rfl,rfl⟩));go_ret;rw[Hhm.out];exact ZbW ((HS.out.boxrow 2 1 2 [.int .i64 2,.int .i64 0] rfl rfl (by unfold maxLen;omega)).pick [2] (by decide)) fun u h=>Zad (xs:=[(2,0)]) h
    | false =>
     obtain⟨b,o,rfl,-,hbl,hcs⟩:=Hxr.out (by have:=Hne.out (by omega);omega);have hnp:1≤nx:=Hne.out (by omega);have g:=(hcs (nx-1) (by omega)).1;obtain⟨m,hm'⟩:∃ m,nx=m+1:=⟨nx-1,by omega⟩;have hL:(xs.getD (nx-1) (0,0)).1=ZcT xs:=by rw[hnx.out];rfl
     rw[hL] at g;obtain⟨L,hLL⟩:=eJ (ZcT xs);rw[hLL] at g;rw[show nx-1=m by omega] at g;have g':=(bcell HS.out.bel b _ hbl).trans g;have hmI:(nx:Int)-1=(m:Int):=by omega
     have hmw:IntKind.i64.wrap (m:Int)=(m:Int):=IntWalk.i64_in _ (by omega);have hm2:(m:Int)<(nx:Int):=by omega
     have HhLL:=qh hLL;clear hLL;have Hhm':=qh hm';clear hm';replace hL:=qh hL;clear g hcs;by_cases hLk:L=8
     ·subst hLk;have hm:mkL 8 z xs ys=xs:=by simp[mkL,Hhrx1.out,Hhrx2.out,HhLL.out]
      have Hhm:=qh hm;clear hm
      as_aux_lemma =>
      go_wp2_with (first|(go_at_call 123;with_reducible refine(Hx1.out).mono ?_;rintro e w' ⟨rfl,rfl⟩)|(go_at_call 123;with_reducible refine(Hx2.out).mono ?_;rintro e w' ⟨rfl,rfl⟩)|(go_at_call 123;with_reducible refine(Hy1.out).mono ?_;rintro e w' ⟨rfl,rfl⟩)|(go_at_call 123;with_reducible refine(Hy2.out).mono ?_;rintro e w' ⟨rfl,rfl⟩));go_ret;rw[Hhm.out];exact Zcf HS.out fun u h _=>h
     obtain⟨q1,q2,q3,q4⟩:=ZaH hLk;have HhLk:=qh hLk;clear hLk;have hm:mkL 8 z xs ys=xs++ys++[(8,z)]:=by simp[mkL,Hhrx1.out,Hhrx2.out,HhLL.out,HhLk.out]
     have Hhm:=qh hm;clear hm
     as_aux_lemma =>
     go_wp2_with (first|(go_at_call 123;with_reducible refine(Hx1.out).mono ?_;rintro e w' ⟨rfl,rfl⟩)|(go_at_call 123;with_reducible refine(Hx2.out).mono ?_;rintro e w' ⟨rfl,rfl⟩)|(go_at_call 123;with_reducible refine(Hy1.out).mono ?_;rintro e w' ⟨rfl,rfl⟩)|(go_at_call 123;with_reducible refine(Hy2.out).mono ?_;rintro e w' ⟨rfl,rfl⟩));go_meet;exact⟨Hhm.out,HS.out⟩
  obtain⟨a4,b4,c4,d4⟩:=ZaH h4;obtain⟨a5,b5,c5,d5⟩:=ZaH h5;obtain⟨a6,b6,c6,d6⟩:=ZaH h6;obtain⟨a7,b7,c7,d7⟩:=ZaH h7;obtain⟨a8,b8,c8,d8⟩:=ZaH h8;replace h4:=qh h4;have Hh5:=qh h5;clear h5;have Hh6:=qh h6;clear h6;have Hh7:=qh h7;clear h7;have Hh8:=qh h8;clear h8;have hm:mkL k z xs ys=xs++ys++[(k,z)]:=by simp[mkL,h4.out,Hh5.out,Hh6.out,Hh7.out,Hh8.out]
  have Hhm:=qh hm;clear hm
  as_aux_lemma =>
  go_wp2_with (first|(go_at_call 123;with_reducible refine(Hx1.out).mono ?_;rintro e w' ⟨rfl,rfl⟩)|(go_at_call 123;with_reducible refine(Hx2.out).mono ?_;rintro e w' ⟨rfl,rfl⟩)|(go_at_call 123;with_reducible refine(Hy1.out).mono ?_;rintro e w' ⟨rfl,rfl⟩)|(go_at_call 123;with_reducible refine(Hy2.out).mono ?_;rintro e w' ⟨rfl,rfl⟩));go_meet;exact⟨Hhm.out,HS.out⟩
 case rest =>
  obtain⟨hdf,hSc⟩:=hcut;have HSc:=qh hSc;have Hhdf:=qh hdf;clear hdf;clear hSc HS;go_wp2;refine wp_region_any (by kernel_rfl) ?_
  refine Zar (fun A listed a w'=>∃ (l0 l1 l2 l3 l4 l5 l6 l7 l8:Bool) (b7:Nat) (g1:Option Addr) (d1:Nat) (g2:Option Addr) (d2:Nat) (b8:Nat) (g3:Option Addr) (d3:Nat),listed=#[l0,l1,l2,l3,l4,l5,l6,l7,l8]∧(l2=true→l0=true∧l1=true)∧(l4=true→l2=true∧l3=true)∧(l6=true→l5=true)∧(l7=true→l4=true∧l6=true)∧(l8=true→l7=true) ∧
    a=⟨(((((((((A.tmps.setIfInBounds 98 (if l0=true then .slice (some ⟨b7,0,none⟩) 0 0 else A.tmps.getD 98 undef)).setIfInBounds 99 (if l1=true then .slice xa nx xc else A.tmps.getD 99 undef)).setIfInBounds 100 (if l2=true then .slice g1 nx d1 else A.tmps.getD 100 undef)).setIfInBounds 101 (if l3=true then .slice ya ny yc else A.tmps.getD 101 undef)).setIfInBounds 102 (if l4=true then .slice g2 (nx+ny) d2 else A.tmps.getD 102 undef)).setIfInBounds 103 (if l5=true then .agg #[.int .i64 k,.int .i64 z] else A.tmps.getD 103 undef)).setIfInBounds 104 (if l6=true then .slice (some ⟨b8,0,none⟩) 1 1 else A.tmps.getD 104 undef)).setIfInBounds 105 (if l7=true then .slice g3 (nx+ny+1) d3 else A.tmps.getD 105 undef)).setIfInBounds 6 (if l8=true then .slice g3 (nx+ny+1) d3 else A.tmps.getD 6 undef)),A.defers⟩ ∧
    St w w' [Ent.box w.heap.size #[.int .i64 k,.int .i64 z] 62,(if l0=true then(if l2=true then(if l4=true then(if l7=true then Ent.row 62 2 (.slice g3 (nx+ny+1) d3) (nx+ny+1) ((xs.flatMap Zaa)++(ys.flatMap Zaa)++[.int .i64 k,.int .i64 z]) else Ent.row 62 2 (.slice g2 (nx+ny) d2) (nx+ny) ((xs.flatMap Zaa)++(ys.flatMap Zaa))) else Ent.row 62 2 (.slice g1 nx d1) nx (xs.flatMap Zaa)) else Ent.row 62 2 (.slice (some ⟨b7,0,none⟩) 0 0) 0 []) else Ent.nil),(if l6=true then Ent.row 62 2 (.slice (some ⟨b8,0,none⟩) 1 1) 1 [.int .i64 k,.int .i64 z] else Ent.nil)]) ?_ ?_ ?_
  ·rintro listed a w' ⟨l0,l1,l2,l3,l4,l5,l6,l7,l8,b7,g1,d1,g2,d2,b8,g3,d3,rfl,hd2,hd4,hd6,hd7,hd8,rfl,hS⟩ i hi;obtain⟨hun,o,ho,hall⟩:=mem_ready.1 hi;have hlt:=(Array.getElem?_eq_some_iff.1 ho).1;refine wpOp_step ho (fun K hK => ?_);clear hi;have HS:=qh hS;clear hS;simp only[w_1,w_2,w_3,w_4,w_5,w_6,w_7,w_8];obtain h|h|h|h|h|h|h|h|h:i=0∨i=1∨i=2∨i=3∨i=4∨i=5∨i=6∨i=7∨i=8:=by simp at hlt;omega
   all_goals subst h
   all_goals simp only[w_5,w_6,w_7,w_9] at ho
   all_goals subst ho
   all_goals simp[Region.binds] at hun hall
   ·subst hun;obtain rfl:l2=false:=offL hd2 rfl;obtain rfl:l4=false:=offL hd4 rfl;obtain rfl:l7=false:=offL hd7 rfl;obtain rfl:l8=false:=by cases l8 with|false=>rfl|true=>simpa using hd8 rfl
    have hS2:=((HS.out.alloc _ rfl #[] 62).boxrow 3 0 2 [] rfl rfl (Nat.zero_le _)).pick [0,3,2] (by decide);have HhS2:=qh hS2;clear hS2;go_simp;exact hK _ _ ⟨_,_,_,_,_,_,_,_,_,_,g1,d1,g2,d2,b8,g3,d3,rfl,by simp,by simp,hd6,by simp,by simp,(by simp),HhS2.out⟩
   ·subst hun;obtain rfl:l2=false:=offR hd2 rfl;obtain rfl:l4=false:=offL hd4 rfl;obtain rfl:l7=false:=offL hd7 rfl;obtain rfl:l8=false:=by cases l8 with|false=>rfl|true=>simpa using hd8 rfl
    go_simp;exact hK _ _ ⟨_,_,_,_,_,_,_,_,_,b7,g1,d1,g2,d2,b8,g3,d3,rfl,by simp,by simp,hd6,by simp,by simp,(by simp),HS.out⟩
   ·obtain⟨rfl,rfl⟩:=hall;subst hun;obtain rfl:l4=false:=offL hd4 rfl;obtain rfl:l7=false:=offL hd7 rfl;obtain rfl:l8=false:=by cases l8 with|false=>rfl|true=>simpa using hd8 rfl
    refine ZcJ (a:=⟨_,_⟩) _ (by rfl) _ _ _ (by rfl) w.heap.size 62 i0 (.agg #[.int .i64 0,.int .i64 0]) 2 16 Tryz.underlying28 Hhi.out hz0.out Hhz1.out Hhz2.out (by rfl) (by omega) (.slice (some ⟨b7,0,none⟩) 0 0) (0) ([]) (by rfl) (HS.out.row 1 rfl) (.slice xa nx xc) (nx) ((xs.flatMap Zaa)) (by rfl) (HX.out.below HS.out.bel) Zds (by unfold maxLen;omega) (by omega) HS.out.size ?_;intro a9 c9 w6 hown6 hgrow6 hat6;have hS6:=HS.out.appS 1 rfl hown6 hgrow6 hat6
    (try simp only[Nat.zero_add,List.nil_append] at hS6)
    (try simp only[Nat.zero_add])
    have HS6:=qh hS6;clear hown6 hgrow6 hat6 hS6;go_simp;exact hK _ _ ⟨_,_,_,_,_,_,_,_,_,b7,a9,c9,g2,d2,b8,g3,d3,rfl,by simp,by simp,hd6,by simp,by simp,(by simp),HS6.out⟩
   ·subst hun;obtain rfl:l4=false:=offR hd4 rfl;obtain rfl:l7=false:=offL hd7 rfl;obtain rfl:l8=false:=by cases l8 with|false=>rfl|true=>simpa using hd8 rfl
    go_simp;exact hK _ _ ⟨_,_,_,_,_,_,_,_,_,b7,g1,d1,g2,d2,b8,g3,d3,rfl,hd2,by simp,hd6,by simp,by simp,(by simp),HS.out⟩
   ·obtain⟨rfl,rfl,-⟩:=hall;subst hun;obtain⟨rfl,rfl⟩:=hd2 rfl;obtain rfl:l7=false:=offL hd7 rfl;obtain rfl:l8=false:=by cases l8 with|false=>rfl|true=>simpa using hd8 rfl
    refine ZcJ (a:=⟨_,_⟩) _ (by rfl) _ _ _ (by rfl) w.heap.size 62 i0 (.agg #[.int .i64 0,.int .i64 0]) 2 16 Tryz.underlying28 Hhi.out hz0.out Hhz1.out Hhz2.out (by rfl) (by omega) (.slice g1 nx d1) (nx) ((xs.flatMap Zaa)) (by rfl) (HS.out.row 1 rfl) (.slice ya ny yc) (ny) ((ys.flatMap Zaa)) (by rfl) (HY.out.below HS.out.bel) Zds (by unfold maxLen;omega) (by omega) HS.out.size ?_;intro a9 c9 w6 hown6 hgrow6 hat6;have hS6:=HS.out.appS 1 rfl hown6 hgrow6 hat6
    (try simp only[] at hS6)
    (try simp only[])
    have HS6:=qh hS6;clear hown6 hgrow6 hat6 hS6;go_simp;exact hK _ _ ⟨_,_,_,_,_,_,_,_,_,b7,g1,d1,a9,c9,b8,g3,d3,rfl,by simp,by simp,hd6,by simp,by simp,(by simp),HS6.out⟩
   ·subst hun;obtain rfl:l6=false:=by cases l6 with|false=>rfl|true=>simpa using hd6 rfl
    obtain rfl:l7=false:=offR hd7 rfl;obtain rfl:l8=false:=by cases l8 with|false=>rfl|true=>simpa using hd8 rfl
    have e0:=HS.out.cell (v:=.int .i64 k) 0 0 rfl rfl;have e1:=HS.out.cell (v:=.int .i64 z) 0 1 rfl rfl;go_simp;exact hK _ _ ⟨_,_,_,_,_,_,_,_,_,b7,g1,d1,g2,d2,b8,g3,d3,rfl,hd2,hd4,by simp,by simp,by simp,(by simp),HS.out⟩
   ·obtain rfl:=hall;subst hun;obtain rfl:l7=false:=offR hd7 rfl;obtain rfl:l8=false:=by cases l8 with|false=>rfl|true=>simpa using hd8 rfl
    have hS2:=((HS.out.alloc _ rfl #[.int .i64 k,.int .i64 z] 62).boxrow 3 1 2 [.int .i64 k,.int .i64 z] rfl rfl (by unfold maxLen;omega)).pick [0,1,3] (by decide);have HhS2:=qh hS2;clear hS2;go_simp;exact hK _ _ ⟨_,_,_,_,_,_,_,_,_,b7,g1,d1,g2,d2,_,g3,d3,rfl,hd2,hd4,by simp,by simp,by simp,(by simp),HhS2.out⟩
   ·obtain⟨rfl,rfl,-⟩:=hall;subst hun;obtain⟨rfl,rfl⟩:=hd4 rfl;obtain rfl:=hd6 rfl;obtain⟨rfl,rfl⟩:=hd2 rfl;obtain rfl:l8=false:=by cases l8 with|false=>rfl|true=>simpa using hd8 rfl
    refine ZcJ (a:=⟨_,_⟩) _ (by rfl) _ _ _ (by rfl) w.heap.size 62 i0 (.agg #[.int .i64 0,.int .i64 0]) 2 16 Tryz.underlying28 Hhi.out hz0.out Hhz1.out Hhz2.out (by rfl) (by omega) (.slice g2 (nx+ny) d2) (nx+ny) ((xs.flatMap Zaa)++(ys.flatMap Zaa)) (by rfl) (HS.out.row 1 rfl) (.slice (some ⟨b8,0,none⟩) 1 1) (1) ([.int .i64 k,.int .i64 z]) (by rfl) ((Zab (HS.out.row 2 rfl)).sl (by omega) |>.mono (Nat.zero_le _)) Zpi (by unfold maxLen;omega) (by omega) HS.out.size ?_;intro a9 c9 w6 hown6 hgrow6 hat6;have hS6:=HS.out.appS 1 rfl hown6 hgrow6 hat6
    (try simp only[] at hS6)
    (try simp only[])
    have HS6:=qh hS6;clear hown6 hgrow6 hat6 hS6;go_simp;exact hK _ _ ⟨_,_,_,_,_,_,_,_,_,b7,g1,d1,g2,d2,b8,a9,c9,rfl,by simp,by simp,by simp,by simp,by simp,(by simp),HS6.out⟩
   obtain⟨rfl,rfl,rfl,rfl,rfl,rfl,rfl,rfl,-⟩:=hall;subst hun;go_simp;exact hK _ _ ⟨_,_,_,_,_,_,_,_,_,b7,g1,d1,g2,d2,b8,g3,d3,rfl,by simp,by simp,by simp,by simp,by simp,(by simp),HS.out⟩
  ·rintro listed a w' ⟨l0,l1,l2,l3,l4,l5,l6,l7,l8,b7,g1,d1,g2,d2,b8,g3,d3,rfl,hd2,hd4,hd6,hd7,hd8,rfl,hS⟩ hr;obtain⟨rfl,rfl,rfl,rfl,rfl,rfl,rfl,rfl,rfl,-⟩:=zA (ZaK (by kernel_rfl) rfl hr) rfl;clear hr hd2 hd4 hd6 hd7 hd8;simp only[↓reduceIte] at hS ⊢;simp only[w_1,w_2,w_3];have HSf:=qh hS;clear hS;go_wp2;go_ret;rw[Hhdf.out];refine ZbW (HSf.out.pick [1] (by decide)) fun u hr => ?_
   have hr:u.ownsRow 0 62 2 (.slice g3 (nx+ny+1) d3) (nx+ny+1) ((xs.flatMap Zaa)++(ys.flatMap Zaa)++[.int .i64 k,.int .i64 z]):=hr;rw[← List.flatMap_append,show([.int .i64 k,.int .i64 z]:List Value)=[(k,z)].flatMap Zaa from rfl,← List.flatMap_append,hnl.out] at hr;rw[hnl.out];exact Zad hr
  refine⟨false,false,false,false,false,false,false,false,false,0,none,0,none,0,0,none,0,rfl,by simp,by simp,by simp,by simp,by simp,(by simp),?_⟩;exact HSc.out.drew.pick [0,3,4] (by decide)
theorem ZdK (k z:Int) (xs ys:List (Int × Int)) (v1 v2:Value) (w:World) (hl1:xs.length≤10000) (hl2:ys.length≤10000) (hne:k=7∨k=8→1≤xs.length) (h1:Pairs 0 w v1 xs) (h2:Pairs 0 w v2 ys) :
  Calls Tryz.prog 83 #[.agg #[.int .i64 k,.int .i64 z],v1,v2] w fun e w'=>RPr (mkL k z xs ys) w e w':=by
 refine(Zj6 k z xs ys v1 v2 w hl1 hl2 hne h1 h2).mono ?_;rintro e w' ⟨v,F,rfl,hS,hF⟩;exact⟨v,rfl,hF w' (h1.below hS.bel) (h2.below hS.bel) (hS.has 0 F rfl).1,hS.bel⟩
theorem ZfP (t:Ex):isK t.post 1=true↔t = .zero:=(Zm8 t 1 (.inl rfl)).trans ⟨fun h=>h.elim (fun h=>h.2) fun h=>absurd h.1 (by decide),fun h => .inl ⟨rfl,h⟩⟩
theorem ZkO (t:Ex):isK t.post 2=true↔t = .one:=(Zm8 t 2 (.inr rfl)).trans ⟨fun h=>h.elim (fun h=>absurd h.1 (by decide)) fun h=>h.2,fun h => .inr ⟨rfl,h⟩⟩
theorem ZmD {t u:Ex}:t.post=u.post↔t=u:=⟨ZkA,fun h=>by rw[h]⟩
theorem Za9 (l:List (Int × Int)) (p:Int × Int):ZcT (l++[p])=p.1:=by unfold ZcT;rw[List.length_append,List.length_singleton,Nat.add_sub_cancel,List.getD_eq_getElem?_getD,List.getElem?_append_right (Nat.le_refl _),Nat.sub_self];rfl
theorem ZfM (x y:Ex):mkL 4 0 x.post y.post=(Zer x y).post:=by
 unfold mkL Zer;rw[if_pos rfl];simp only[ZfP,ZkO]
 split
 ·rfl
 split
 ·rfl
 split<;>rfl
theorem Zd6 (x y:Ex):mkL 5 0 x.post y.post=(Zfw x y).post:=by
 unfold mkL Zfw;rw[if_neg (by decide),if_pos rfl];simp only[ZfP,ZmD]
 split
 ·rfl
 split<;>rfl
theorem ZkD (x y:Ex):mkL 6 0 x.post y.post=(ZlV x y).post:=by
 unfold mkL ZlV;rw[if_neg (by decide),if_neg (by decide),if_pos rfl];simp only[ZfP,ZmD]
 split
 ·rfl
 split<;>rfl
theorem ZkJ (t:Ex):ZcT t.post=7↔∃ a,t = .neg a:=by
 cases t with
 | neg a=>exact⟨fun _=>⟨a,rfl⟩,fun _=>Za9 _ _⟩
 | zero=>exact⟨fun h=>absurd h (by decide),fun ⟨a,h⟩=>(by cases h)⟩
 | one=>exact⟨fun h=>absurd h (by decide),fun ⟨a,h⟩=>(by cases h)⟩
 | ltr c=>exact⟨fun h=>absurd (show(3:Int)=7 from h) (by decide),fun ⟨a,h⟩=>(by cases h)⟩
 | join a b=>exact⟨fun h=>absurd ((Za9 _ _).symm.trans h) (by decide),fun ⟨a,h⟩=>(by cases h)⟩
 | alt a b=>exact⟨fun h=>absurd ((Za9 _ _).symm.trans h) (by decide),fun ⟨a,h⟩=>(by cases h)⟩
 | both a b=>exact⟨fun h=>absurd ((Za9 _ _).symm.trans h) (by decide),fun ⟨a,h⟩=>(by cases h)⟩
 | star a=>exact⟨fun h=>absurd ((Za9 _ _).symm.trans h) (by decide),fun ⟨a,h⟩=>(by cases h)⟩
theorem Zi9 (t:Ex):ZcT t.post=8↔∃ a,t = .star a:=by
 cases t with
 | star a=>exact⟨fun _=>⟨a,rfl⟩,fun _=>Za9 _ _⟩
 | zero=>exact⟨fun h=>absurd h (by decide),fun ⟨a,h⟩=>(by cases h)⟩
 | one=>exact⟨fun h=>absurd h (by decide),fun ⟨a,h⟩=>(by cases h)⟩
 | ltr c=>exact⟨fun h=>absurd (show(3:Int)=8 from h) (by decide),fun ⟨a,h⟩=>(by cases h)⟩
 | join a b=>exact⟨fun h=>absurd ((Za9 _ _).symm.trans h) (by decide),fun ⟨a,h⟩=>(by cases h)⟩
 | alt a b=>exact⟨fun h=>absurd ((Za9 _ _).symm.trans h) (by decide),fun ⟨a,h⟩=>(by cases h)⟩
 | both a b=>exact⟨fun h=>absurd ((Za9 _ _).symm.trans h) (by decide),fun ⟨a,h⟩=>(by cases h)⟩
 | neg a=>exact⟨fun h=>absurd ((Za9 _ _).symm.trans h) (by decide),fun ⟨a,h⟩=>(by cases h)⟩
theorem ZmP (x:Ex):mkL 7 0 x.post []=(negS x).post:=by
 unfold mkL;rw[if_neg (by decide),if_neg (by decide),if_neg (by decide),if_pos rfl];by_cases h:ZcT x.post=7
 ·rw[if_pos h];obtain⟨a,rfl⟩:=(ZkJ x).1 h;show(a.post++[(7,0)]).take ((a.post++[(7,0)]).length-1)=a.post;rw[List.length_append,List.length_singleton,Nat.add_sub_cancel,List.take_left'];rfl
 rw[if_neg h,List.append_nil];unfold negS
 split
 ·exact absurd ((ZkJ _).2 ⟨_,rfl⟩) h
 rfl
theorem Zh9 (x:Ex):mkL 8 0 x.post []=(Zed x).post:=by
 unfold mkL Zed;rw[if_neg (by decide),if_neg (by decide),if_neg (by decide),if_neg (by decide),if_pos rfl];simp only[ZfP,ZkO]
 split
 ·rfl
 by_cases h:ZcT x.post=8
 ·rw[if_pos h];obtain⟨a,rfl⟩:=(Zi9 x).1 h;rfl
 rw[if_neg h,List.append_nil]
 split
 ·exact absurd ((Zi9 _).2 ⟨_,rfl⟩) h
 rfl
theorem Zdb (x y:Ex) (p:Int × Int):(x.post++y.post++[p]).length=x.post.length+y.post.length+1:=by rw[List.length_append,List.length_append,List.length_singleton]
theorem ZgA (x y:Ex):(Zer x y).post.length≤x.post.length+y.post.length+1:=by
 have h1:=Zao x;have h2:=Zao y;unfold Zer
 split
 ·show 1≤_;omega
 split
 ·omega
 split
 ·omega
 exact Nat.le_of_eq (Zdb x y _)
theorem Zdy (x y:Ex):(Zfw x y).post.length≤x.post.length+y.post.length+1:=by
 unfold Zfw
 split
 ·omega
 split
 ·omega
 exact Nat.le_of_eq (Zdb x y _)
theorem ZnE (x y:Ex):(ZlV x y).post.length≤x.post.length+y.post.length+1:=by
 unfold ZlV
 split
 ·show 1≤_;omega
 split
 ·omega
 exact Nat.le_of_eq (Zdb x y _)
theorem Zoc (x:Ex):(negS x).post.length≤x.post.length+1:=by
 unfold negS
 split
 ·rename_i a;have:(Ex.neg a).post.length=a.post.length+1:=by show(a.post++[(7,0)]).length=_;rw[List.length_append];rfl
  omega
 show(x.post++[(7,0)]).length≤_;rw[List.length_append];exact Nat.le_refl _
theorem ZiM (x:Ex):(Zed x).post.length≤x.post.length+1:=by
 unfold Zed
 split
 ·show 1≤_;omega
 split
 ·omega
 show(x.post++[(8,0)]).length≤_;rw[List.length_append];exact Nat.le_refl _
theorem Zbg:∀ t:Ex,(simE t).post.length≤t.post.length:=by
 intro t
 induction t with
 | zero=>exact Nat.le_refl _
 | one=>exact Nat.le_refl _
 | ltr c=>exact Nat.le_refl _
 | join a b ha hb =>have h1:=ZgA (simE a) (simE b);have h2:=Zdb a b (4,0);show(Zer (simE a) (simE b)).post.length≤(a.post++b.post++[(4,0)]).length;omega
 | alt a b ha hb =>have h1:=Zdy (simE a) (simE b);have h2:=Zdb a b (5,0);show(Zfw (simE a) (simE b)).post.length≤(a.post++b.post++[(5,0)]).length;omega
 | both a b ha hb =>have h1:=ZnE (simE a) (simE b);have h2:=Zdb a b (6,0);show(ZlV (simE a) (simE b)).post.length≤(a.post++b.post++[(6,0)]).length;omega
 | neg a ha =>have h1:=Zoc (simE a);show(negS (simE a)).post.length≤(a.post++[(7,0)]).length;rw[List.length_append,List.length_singleton];omega
 | star a ha =>have h1:=ZiM (simE a);show(Zed (simE a)).post.length≤(a.post++[(8,0)]).length;rw[List.length_append,List.length_singleton];omega
end Go.Proofs.YtncekbbhgipdlaaGreat
