/-
  The walk over the reference's l5Make.
  Conditions: the lists of parts read as such; the operand of KindNot and KindStar is not empty.
-/
import Derived.Test.YtehmjmjedopkkaaGreatPn42Smk
import Derived.Test.YtehmjmjedopkkaaGreatPn43Jy
set_option maxHeartbeats 16000000
set_option maxRecDepth 100000
namespace Go.Proofs.YtehmjmjedopkkaaGreat
open Go.RowKit
def ZdB (es:List (Int × Int)):Int:=(es.getD (es.length-1) (0,0)).1
def mkL (k z:Int) (xs ys:List (Int × Int)):List (Int × Int) :=
 if k=4 then(if isK xs 1=true∨isK ys 1=true then [(1,0)] else if isK xs 2=true then ys else if isK ys 2=true then xs else xs++ys++[(k,z)])
 else if k=5 then(if isK xs 1=true∨xs=ys then ys else if isK ys 1=true then xs else xs++ys++[(k,z)])
 else if k=6 then(if isK xs 1=true∨isK ys 1=true then [(1,0)] else if xs=ys then xs else xs++ys++[(k,z)])
 else if k=7 then(if ZdB xs=7 then xs.take (xs.length-1) else xs++ys++[(k,z)])
 else if k=8 then(if isK xs 1=true∨isK xs 2=true then [(2,0)] else if ZdB xs=8 then xs else xs++ys++[(k,z)])
 else xs++ys++[(k,z)]
def RPr (es:List (Int × Int)) (w:World) (e:Ending) (w':World):Prop:=∃ v,e = .returned v∧Pairs 0 w' v es∧Below w.heap.size w w'
def RPm (M xs ys:List (Int × Int)) (v1 v2:Value) (w:World) (e:Ending) (w':World):Prop:=∃ v F,e = .returned v∧St w w' [F]∧∀ u,Pairs 0 u v1 xs→Pairs 0 u v2 ys→F.holds u→Pairs 0 u v M
theorem Zcp {M xs ys:List (Int × Int)} {v1 v2 v:Value} {w w':World} {L:List Ent} (hS:St w w' L) (h:∀ u,Pairs 0 u v1 xs→Pairs 0 u v2 ys→Pairs 0 u v M):RPm M xs ys v1 v2 w (.returned v) w' :=
 ⟨v,Ent.nil,rfl,(hS.pick [] (by decide)).add (Below.refl _ _) Ent.nil trivial fun k hk=>hk.elim,fun u h1 h2 _=>h u h1 h2⟩
theorem Zck {M xs ys:List (Int × Int)} {v1 v2 v:Value} {w w':World} {X:Ent} (hS:St w w' [X]) (h:∀ u,X.holds u→Pairs 0 u v M):RPm M xs ys v1 v2 w (.returned v) w':=⟨v,X,rfl,hS,fun u _ _ h3=>h u h3⟩
theorem ZjF (k z:Int) (xs ys:List (Int × Int)) (v1 v2:Value) (w:World) (hl1:xs.length≤10000) (hl2:ys.length≤10000) (hne:k=7∨k=8→1≤xs.length) (h1:Pairs 0 w v1 xs) (h2:Pairs 0 w v2 ys) :
  Calls Tryz.prog 91 #[.agg #[.int .i64 k,.int .i64 z],v1,v2] w fun e w'=>RPm (mkL k z xs ys) xs ys v1 v2 w e w':=by
 obtain⟨xa,xc,rfl,hx1,hx2,hxr⟩:=h1.form;obtain⟨ya,yc,rfl,hy1,hy2,hyr⟩:=h2.form;obtain⟨i0,hi,hz0,hz1,hz2⟩:=info_parts Tryz.infoPt;obtain⟨nx,hnx⟩:∃ n,n=xs.length:=⟨_,rfl⟩;obtain⟨ny,hny⟩:∃ n,n=ys.length:=⟨_,rfl⟩;have hnl:nx+ny+1=(xs++ys++[(k,z)]).length:=by rw[List.length_append,List.length_append,hnx,hny];rfl
 rw[← hnx] at hx1 hl1 h1 hxr;rw[← hny] at hy1 hl2 h2 hyr;rw[← hnx,← hny];rw[← hnx] at hne;have HS:=qh ((((St.start w).alloc w.heap.size rfl #[.int .i64 k,.int .i64 z] 55).alloc (w.heap.size+1) (by simp) #[.int .i64 1,.int .i64 0] 55).alloc (w.heap.size+1+1) (by simp) #[.int .i64 2,.int .i64 0] 55);have HX:Hid (Sl 0 w (.slice xa nx xc) nx 2 (xs.flatMap Zab)):=qh (by have:=h1;unfold Pairs at this;rw[← hnx] at this;exact this);have HY:Hid (Sl 0 w (.slice ya ny yc) ny 2 (ys.flatMap Zab)):=qh (by have:=h2;unfold Pairs at this;rw[← hny] at this;exact this);have H1:=qh h1;have H2:=qh h2;have Hxr:=qh hxr;have Hne:=qh hne;have Hhi:=qh hi;clear hi;replace hz0:=qh hz0;have Hhz1:=qh hz1;clear hz1;have Hhz2:=qh hz2;clear hz2;replace hnx:=qh hnx;have Hhny:=qh hny;clear hny;replace hnl:=qh hnl;clear h1 h2 hxr hyr hne
 go_enter Tryz.func91, Tryz.ntmps91
 go_upto_region 3 with fail
 obtain⟨W,hW⟩:=eI (((w.alloc (.cells #[.int .i64 k,.int .i64 z] 55)).alloc (.cells #[.int .i64 1,.int .i64 0] 55)).alloc (.cells #[.int .i64 2,.int .i64 0] 55));rw[← hW] at HS ⊢;clear hW;have e0:=HS.out.cell (v:=.int .i64 k) 0 0 rfl rfl;have e1:=HS.out.cell (v:=.int .i64 z) 0 1 rfl rfl
 go_upto_block 0 with fail
 go_cut [] from 15 to 97 (fun wc=>mkL k z xs ys=xs++ys++[(k,z)]∧St w wc [Ent.box w.heap.size #[.int .i64 k,.int .i64 z] 55,Ent.box (w.heap.size+1) #[.int .i64 1,.int .i64 0] 55,Ent.box (w.heap.size+1+1) #[.int .i64 2,.int .i64 0] 55])
 case first =>
  obtain⟨rx1,rx1'⟩:∃ r,isK xs 1=r:=⟨_,rfl⟩;obtain⟨rx2,rx2'⟩:∃ r,isK xs 2=r:=⟨_,rfl⟩;obtain⟨ry1,ry1'⟩:∃ r,isK ys 1=r:=⟨_,rfl⟩;obtain⟨ry2,ry2'⟩:∃ r,isK ys 2=r:=⟨_,rfl⟩;obtain⟨rs,rs'⟩:∃ r,decide (xs=ys)=r:=⟨_,rfl⟩;have Hx1:=qh (Zd0 xs 1 (.slice xa nx xc) W (H1.out.below HS.out.bel) rx1 rx1');have Hx2:=qh (Zd0 xs 2 (.slice xa nx xc) W (H1.out.below HS.out.bel) rx2 rx2');have Hy1:=qh (Zd0 ys 1 (.slice ya ny yc) W (H2.out.below HS.out.bel) ry1 ry1');have Hy2:=qh (Zd0 ys 2 (.slice ya ny yc) W (H2.out.below HS.out.bel) ry2 ry2');have hsm:=Zle xs ys (.slice xa nx xc) (.slice ya ny yc) W (by rw[← hnx.out];omega) (H1.out.below HS.out.bel) (H2.out.below HS.out.bel);rw[rs'] at hsm;have Hsm:=qh hsm;have Hyw:=qh (fun (u:World) (hb:Below w.heap.size w u)=>Zd0 ys 1 (.slice ya ny yc) u (H2.out.below hb) ry1 ry1');have Hhrx1:=qh rx1';have Hhrx2:=qh rx2';have Hhry1:=qh ry1';have Hhry2:=qh ry2';have Hhrs:Hid ((xs=ys)=(rs=true)):=qh (by rw[← rs',decide_eq_true_eq]);clear rx1' rx2' ry1' ry2' rs' hsm;by_cases h4:k=4
  ·subst h4;cases rx1 with
   | true =>
    have hm:mkL 4 z xs ys=[(1,0)]:=by simp[mkL,Hhrx1.out]
    have Hhm:=qh hm;clear hm
    as_aux_lemma =>
    go_wp2_with (first|(go_at_call 126;with_reducible refine(Hx1.out).mono ?_;rintro e w' ⟨rfl,rfl⟩)|(go_at_call 126;with_reducible refine(Hx2.out).mono ?_;rintro e w' ⟨rfl,rfl⟩)|(go_at_call 126;with_reducible refine(Hy1.out).mono ?_;rintro e w' ⟨rfl,rfl⟩)|(go_at_call 126;with_reducible refine(Hy2.out).mono ?_;rintro e w' ⟨rfl,rfl⟩));go_ret;rw[Hhm.out];exact Zck ((HS.out.boxrow 1 1 2 [.int .i64 1,.int .i64 0] rfl rfl (by unfold maxLen;omega)).pick [1] (by decide)) fun u h=>Zam (xs:=[(1,0)]) h
   | false =>
    cases ry1 with
    | true =>
     have hm:mkL 4 z xs ys=[(1,0)]:=by simp[mkL,Hhrx1.out,Hhry1.out]
     have Hhm:=qh hm;clear hm
     as_aux_lemma =>
     go_wp2_with (first|(go_at_call 126;with_reducible refine(Hx1.out).mono ?_;rintro e w' ⟨rfl,rfl⟩)|(go_at_call 126;with_reducible refine(Hx2.out).mono ?_;rintro e w' ⟨rfl,rfl⟩)|(go_at_call 126;with_reducible refine(Hy1.out).mono ?_;rintro e w' ⟨rfl,rfl⟩)|(go_at_call 126;with_reducible refine(Hy2.out).mono ?_;rintro e w' ⟨rfl,rfl⟩));go_ret;rw[Hhm.out];exact Zck ((HS.out.boxrow 1 1 2 [.int .i64 1,.int .i64 0] rfl rfl (by unfold maxLen;omega)).pick [1] (by decide)) fun u h=>Zam (xs:=[(1,0)]) h
    | false =>
     cases rx2 with
     | true =>
      have hm:mkL 4 z xs ys=ys:=by simp[mkL,Hhrx1.out,Hhry1.out,Hhrx2.out]
      have Hhm:=qh hm;clear hm
      as_aux_lemma =>
      go_wp2_with (first|(go_at_call 126;with_reducible refine(Hx1.out).mono ?_;rintro e w' ⟨rfl,rfl⟩)|(go_at_call 126;with_reducible refine(Hx2.out).mono ?_;rintro e w' ⟨rfl,rfl⟩)|(go_at_call 126;with_reducible refine(Hy1.out).mono ?_;rintro e w' ⟨rfl,rfl⟩)|(go_at_call 126;with_reducible refine(Hy2.out).mono ?_;rintro e w' ⟨rfl,rfl⟩));go_ret;rw[Hhm.out];exact Zcp HS.out fun u _ h=>h
     | false =>
      cases ry2 with
      | true =>
       have hm:mkL 4 z xs ys=xs:=by simp[mkL,Hhrx1.out,Hhry1.out,Hhrx2.out,Hhry2.out]
       have Hhm:=qh hm;clear hm
       as_aux_lemma =>
       go_wp2_with (first|(go_at_call 126;with_reducible refine(Hx1.out).mono ?_;rintro e w' ⟨rfl,rfl⟩)|(go_at_call 126;with_reducible refine(Hx2.out).mono ?_;rintro e w' ⟨rfl,rfl⟩)|(go_at_call 126;with_reducible refine(Hy1.out).mono ?_;rintro e w' ⟨rfl,rfl⟩)|(go_at_call 126;with_reducible refine(Hy2.out).mono ?_;rintro e w' ⟨rfl,rfl⟩));go_ret;rw[Hhm.out];exact Zcp HS.out fun u h _=>h
      | false =>
       have hm:mkL 4 z xs ys=xs++ys++[(4,z)]:=by simp[mkL,Hhrx1.out,Hhry1.out,Hhrx2.out,Hhry2.out]
       have Hhm:=qh hm;clear hm
       as_aux_lemma =>
       go_wp2_with (first|(go_at_call 126;with_reducible refine(Hx1.out).mono ?_;rintro e w' ⟨rfl,rfl⟩)|(go_at_call 126;with_reducible refine(Hx2.out).mono ?_;rintro e w' ⟨rfl,rfl⟩)|(go_at_call 126;with_reducible refine(Hy1.out).mono ?_;rintro e w' ⟨rfl,rfl⟩)|(go_at_call 126;with_reducible refine(Hy2.out).mono ?_;rintro e w' ⟨rfl,rfl⟩));go_meet;exact⟨Hhm.out,HS.out⟩
  by_cases h5:k=5
  ·subst h5;cases rx1 with
   | true =>
    have hm:mkL 5 z xs ys=ys:=by simp[mkL,Hhrx1.out]
    have Hhm:=qh hm;clear hm
    as_aux_lemma =>
    go_wp2_with (first|(go_at_call 126;with_reducible refine(Hx1.out).mono ?_;rintro e w' ⟨rfl,rfl⟩)|(go_at_call 126;with_reducible refine(Hx2.out).mono ?_;rintro e w' ⟨rfl,rfl⟩)|(go_at_call 126;with_reducible refine(Hy1.out).mono ?_;rintro e w' ⟨rfl,rfl⟩)|(go_at_call 126;with_reducible refine(Hy2.out).mono ?_;rintro e w' ⟨rfl,rfl⟩));go_ret;rw[Hhm.out];exact Zcp HS.out fun u _ h=>h
   | false =>
    cases rs with
    | true =>
     have hm:mkL 5 z xs ys=ys:=by simp[mkL,Hhrx1.out,Hhrs.out]
     have Hhm:=qh hm;clear hm
     as_aux_lemma =>
     go_wp2_with (first|(go_at_call 126;with_reducible refine(Hx1.out).mono ?_;rintro e w' ⟨rfl,rfl⟩)|(go_at_call 126;with_reducible refine(Hx2.out).mono ?_;rintro e w' ⟨rfl,rfl⟩)|(go_at_call 126;with_reducible refine(Hy1.out).mono ?_;rintro e w' ⟨rfl,rfl⟩)|(go_at_call 126;with_reducible refine(Hy2.out).mono ?_;rintro e w' ⟨rfl,rfl⟩)|(go_at_call 127;refine(Hsm.out).mono ?_;rintro e w3 ⟨rfl,hb3⟩;have HS3:=qh (HS.out.call hb3);clear hb3)|(go_at_call 126;refine(Hyw.out _ HS3.out.bel).mono ?_;rintro e w' ⟨rfl,rfl⟩));go_ret;rw[Hhm.out];exact Zcp HS3.out fun u _ h=>h
    | false =>
     cases ry1 with
     | true =>
      have hm:mkL 5 z xs ys=xs:=by simp[mkL,Hhrx1.out,Hhrs.out,Hhry1.out]
      have Hhm:=qh hm;clear hm
      as_aux_lemma =>
      go_wp2_with (first|(go_at_call 126;with_reducible refine(Hx1.out).mono ?_;rintro e w' ⟨rfl,rfl⟩)|(go_at_call 126;with_reducible refine(Hx2.out).mono ?_;rintro e w' ⟨rfl,rfl⟩)|(go_at_call 126;with_reducible refine(Hy1.out).mono ?_;rintro e w' ⟨rfl,rfl⟩)|(go_at_call 126;with_reducible refine(Hy2.out).mono ?_;rintro e w' ⟨rfl,rfl⟩)|(go_at_call 127;refine(Hsm.out).mono ?_;rintro e w3 ⟨rfl,hb3⟩;have HS3:=qh (HS.out.call hb3);clear hb3)|(go_at_call 126;refine(Hyw.out _ HS3.out.bel).mono ?_;rintro e w' ⟨rfl,rfl⟩));go_ret;rw[Hhm.out];exact Zcp HS3.out fun u h _=>h
     | false =>
      have hm:mkL 5 z xs ys=xs++ys++[(5,z)]:=by simp[mkL,Hhrx1.out,Hhrs.out,Hhry1.out]
      have Hhm:=qh hm;clear hm
      as_aux_lemma =>
      go_wp2_with (first|(go_at_call 126;with_reducible refine(Hx1.out).mono ?_;rintro e w' ⟨rfl,rfl⟩)|(go_at_call 126;with_reducible refine(Hx2.out).mono ?_;rintro e w' ⟨rfl,rfl⟩)|(go_at_call 126;with_reducible refine(Hy1.out).mono ?_;rintro e w' ⟨rfl,rfl⟩)|(go_at_call 126;with_reducible refine(Hy2.out).mono ?_;rintro e w' ⟨rfl,rfl⟩)|(go_at_call 127;refine(Hsm.out).mono ?_;rintro e w3 ⟨rfl,hb3⟩;have HS3:=qh (HS.out.call hb3);clear hb3)|(go_at_call 126;refine(Hyw.out _ HS3.out.bel).mono ?_;rintro e w' ⟨rfl,rfl⟩));go_meet;exact⟨Hhm.out,HS3.out⟩
  by_cases h6:k=6
  ·subst h6;cases rx1 with
   | true =>
    have hm:mkL 6 z xs ys=[(1,0)]:=by simp[mkL,Hhrx1.out]
    have Hhm:=qh hm;clear hm
    as_aux_lemma =>
    go_wp2_with (first|(go_at_call 126;with_reducible refine(Hx1.out).mono ?_;rintro e w' ⟨rfl,rfl⟩)|(go_at_call 126;with_reducible refine(Hx2.out).mono ?_;rintro e w' ⟨rfl,rfl⟩)|(go_at_call 126;with_reducible refine(Hy1.out).mono ?_;rintro e w' ⟨rfl,rfl⟩)|(go_at_call 126;with_reducible refine(Hy2.out).mono ?_;rintro e w' ⟨rfl,rfl⟩));go_ret;rw[Hhm.out];exact Zck ((HS.out.boxrow 1 1 2 [.int .i64 1,.int .i64 0] rfl rfl (by unfold maxLen;omega)).pick [1] (by decide)) fun u h=>Zam (xs:=[(1,0)]) h
   | false =>
    cases ry1 with
    | true =>
     have hm:mkL 6 z xs ys=[(1,0)]:=by simp[mkL,Hhrx1.out,Hhry1.out]
     have Hhm:=qh hm;clear hm
     as_aux_lemma =>
     go_wp2_with (first|(go_at_call 126;with_reducible refine(Hx1.out).mono ?_;rintro e w' ⟨rfl,rfl⟩)|(go_at_call 126;with_reducible refine(Hx2.out).mono ?_;rintro e w' ⟨rfl,rfl⟩)|(go_at_call 126;with_reducible refine(Hy1.out).mono ?_;rintro e w' ⟨rfl,rfl⟩)|(go_at_call 126;with_reducible refine(Hy2.out).mono ?_;rintro e w' ⟨rfl,rfl⟩));go_ret;rw[Hhm.out];exact Zck ((HS.out.boxrow 1 1 2 [.int .i64 1,.int .i64 0] rfl rfl (by unfold maxLen;omega)).pick [1] (by decide)) fun u h=>Zam (xs:=[(1,0)]) h
    | false =>
     cases rs with
     | true =>
      have hm:mkL 6 z xs ys=xs:=by simp[mkL,Hhrx1.out,Hhry1.out,Hhrs.out]
      have Hhm:=qh hm;clear hm
      as_aux_lemma =>
      go_wp2_with (first|(go_at_call 126;with_reducible refine(Hx1.out).mono ?_;rintro e w' ⟨rfl,rfl⟩)|(go_at_call 126;with_reducible refine(Hx2.out).mono ?_;rintro e w' ⟨rfl,rfl⟩)|(go_at_call 126;with_reducible refine(Hy1.out).mono ?_;rintro e w' ⟨rfl,rfl⟩)|(go_at_call 126;with_reducible refine(Hy2.out).mono ?_;rintro e w' ⟨rfl,rfl⟩)|(go_at_call 127;refine(Hsm.out).mono ?_;rintro e w3 ⟨rfl,hb3⟩;have HS3:=qh (HS.out.call hb3);clear hb3)|(go_at_call 126;refine(Hyw.out _ HS3.out.bel).mono ?_;rintro e w' ⟨rfl,rfl⟩));go_ret;rw[Hhm.out];exact Zcp HS3.out fun u h _=>h
     | false =>
      have hm:mkL 6 z xs ys=xs++ys++[(6,z)]:=by simp[mkL,Hhrx1.out,Hhry1.out,Hhrs.out]
      have Hhm:=qh hm;clear hm
      as_aux_lemma =>
      go_wp2_with (first|(go_at_call 126;with_reducible refine(Hx1.out).mono ?_;rintro e w' ⟨rfl,rfl⟩)|(go_at_call 126;with_reducible refine(Hx2.out).mono ?_;rintro e w' ⟨rfl,rfl⟩)|(go_at_call 126;with_reducible refine(Hy1.out).mono ?_;rintro e w' ⟨rfl,rfl⟩)|(go_at_call 126;with_reducible refine(Hy2.out).mono ?_;rintro e w' ⟨rfl,rfl⟩)|(go_at_call 127;refine(Hsm.out).mono ?_;rintro e w3 ⟨rfl,hb3⟩;have HS3:=qh (HS.out.call hb3);clear hb3)|(go_at_call 126;refine(Hyw.out _ HS3.out.bel).mono ?_;rintro e w' ⟨rfl,rfl⟩));go_meet;exact⟨Hhm.out,HS3.out⟩
  by_cases h7:k=7
  ·subst h7;obtain⟨b,o,rfl,-,hbl,hcs⟩:=Hxr.out (by have:=Hne.out (by omega);omega);have hnp:1≤nx:=Hne.out (by omega);have g:=(hcs (nx-1) (by omega)).1;obtain⟨m,hm'⟩:∃ m,nx=m+1:=⟨nx-1,by omega⟩;have hL:(xs.getD (nx-1) (0,0)).1=ZdB xs:=by rw[hnx.out];rfl
   rw[hL] at g;obtain⟨L,hLL⟩:=eJ (ZdB xs);rw[hLL] at g;rw[show nx-1=m by omega] at g;have g':=(bcell HS.out.bel b _ hbl).trans g;have hmI:(nx:Int)-1=(m:Int):=by omega
   have hmw:IntKind.i64.wrap (m:Int)=(m:Int):=IntWalk.i64_in _ (by omega);have hm2:(m:Int)<(nx:Int):=by omega
   have HhLL:=qh hLL;clear hLL;have Hhm':=qh hm';clear hm';replace hL:=qh hL;clear g hcs;by_cases hLk:L=7
   ·subst hLk;have hm:mkL 7 z xs ys=xs.take (xs.length-1):=by simp[mkL,HhLL.out]
    have Hhm:=qh hm;clear hm
    as_aux_lemma =>
    go_wp2_with (first|(go_at_call 126;with_reducible refine(Hx1.out).mono ?_;rintro e w' ⟨rfl,rfl⟩)|(go_at_call 126;with_reducible refine(Hx2.out).mono ?_;rintro e w' ⟨rfl,rfl⟩)|(go_at_call 126;with_reducible refine(Hy1.out).mono ?_;rintro e w' ⟨rfl,rfl⟩)|(go_at_call 126;with_reducible refine(Hy2.out).mono ?_;rintro e w' ⟨rfl,rfl⟩));go_ret;rw[Hhm.out];exact Zcp HS.out fun u h1 _=>by have h:=h1.take (n:=m) (by have h1:=hnx.out;have h2:=Hhm'.out;omega);rw[← hnx.out,Hhm'.out];exact h
   obtain⟨q1,q2,q3,q4⟩:=Zan hLk;have HhLk:=qh hLk;clear hLk;have hm:mkL 7 z xs ys=xs++ys++[(7,z)]:=by simp[mkL,HhLL.out,HhLk.out]
   have Hhm:=qh hm;clear hm
   as_aux_lemma =>
   go_wp2_with (first|(go_at_call 126;with_reducible refine(Hx1.out).mono ?_;rintro e w' ⟨rfl,rfl⟩)|(go_at_call 126;with_reducible refine(Hx2.out).mono ?_;rintro e w' ⟨rfl,rfl⟩)|(go_at_call 126;with_reducible refine(Hy1.out).mono ?_;rintro e w' ⟨rfl,rfl⟩)|(go_at_call 126;with_reducible refine(Hy2.out).mono ?_;rintro e w' ⟨rfl,rfl⟩));go_meet;exact⟨Hhm.out,HS.out⟩
  by_cases h8:k=8
  ·subst h8;cases rx1 with
   | true =>
    have hm:mkL 8 z xs ys=[(2,0)]:=by simp[mkL,Hhrx1.out]
    have Hhm:=qh hm;clear hm
    as_aux_lemma =>
    go_wp2_with (first|(go_at_call 126;with_reducible refine(Hx1.out).mono ?_;rintro e w' ⟨rfl,rfl⟩)|(go_at_call 126;with_reducible refine(Hx2.out).mono ?_;rintro e w' ⟨rfl,rfl⟩)|(go_at_call 126;with_reducible refine(Hy1.out).mono ?_;rintro e w' ⟨rfl,rfl⟩)|(go_at_call 126;with_reducible refine(Hy2.out).mono ?_;rintro e w' ⟨rfl,rfl⟩));go_ret;rw[Hhm.out];exact Zck ((HS.out.boxrow 2 1 2 [.int .i64 2,.int .i64 0] rfl rfl (by unfold maxLen;omega)).pick [2] (by decide)) fun u h=>Zam (xs:=[(2,0)]) h
   | false =>
    cases rx2 with
    | true =>
     have hm:mkL 8 z xs ys=[(2,0)]:=by simp[mkL,Hhrx1.out,Hhrx2.out]
     have Hhm:=qh hm;clear hm
     as_aux_lemma =>
     go_wp2_with (first|(go_at_call 126;with_reducible refine(Hx1.out).mono ?_;rintro e w' ⟨rfl,rfl⟩)|(go_at_call 126;with_reducible refine(Hx2.out).mono ?_;rintro e w' ⟨rfl,rfl⟩)|(go_at_call 126;with_reducible refine(Hy1.out).mono ?_;rintro e w' ⟨rfl,rfl⟩)|(go_at_call 126;with_reducible refine(Hy2.out).mono ?_;rintro e w' ⟨rfl,rfl⟩));go_ret;rw[Hhm.out];exact Zck ((HS.out.boxrow 2 1 2 [.int .i64 2,.int .i64 0] rfl rfl (by unfold maxLen;omega)).pick [2] (by decide)) fun u h=>Zam (xs:=[(2,0)]) h
    | false =>
     obtain⟨b,o,rfl,-,hbl,hcs⟩:=Hxr.out (by have:=Hne.out (by omega);omega);have hnp:1≤nx:=Hne.out (by omega);have g:=(hcs (nx-1) (by omega)).1;obtain⟨m,hm'⟩:∃ m,nx=m+1:=⟨nx-1,by omega⟩;have hL:(xs.getD (nx-1) (0,0)).1=ZdB xs:=by rw[hnx.out];rfl
     rw[hL] at g;obtain⟨L,hLL⟩:=eJ (ZdB xs);rw[hLL] at g;rw[show nx-1=m by omega] at g;have g':=(bcell HS.out.bel b _ hbl).trans g;have hmI:(nx:Int)-1=(m:Int):=by omega
     have hmw:IntKind.i64.wrap (m:Int)=(m:Int):=IntWalk.i64_in _ (by omega);have hm2:(m:Int)<(nx:Int):=by omega
     have HhLL:=qh hLL;clear hLL;have Hhm':=qh hm';clear hm';replace hL:=qh hL;clear g hcs;by_cases hLk:L=8
     ·subst hLk;have hm:mkL 8 z xs ys=xs:=by simp[mkL,Hhrx1.out,Hhrx2.out,HhLL.out]
      have Hhm:=qh hm;clear hm
      as_aux_lemma =>
      go_wp2_with (first|(go_at_call 126;with_reducible refine(Hx1.out).mono ?_;rintro e w' ⟨rfl,rfl⟩)|(go_at_call 126;with_reducible refine(Hx2.out).mono ?_;rintro e w' ⟨rfl,rfl⟩)|(go_at_call 126;with_reducible refine(Hy1.out).mono ?_;rintro e w' ⟨rfl,rfl⟩)|(go_at_call 126;with_reducible refine(Hy2.out).mono ?_;rintro e w' ⟨rfl,rfl⟩));go_ret;rw[Hhm.out];exact Zcp HS.out fun u h _=>h
     obtain⟨q1,q2,q3,q4⟩:=Zan hLk;have HhLk:=qh hLk;clear hLk;have hm:mkL 8 z xs ys=xs++ys++[(8,z)]:=by simp[mkL,Hhrx1.out,Hhrx2.out,HhLL.out,HhLk.out]
     have Hhm:=qh hm;clear hm
     as_aux_lemma =>
     go_wp2_with (first|(go_at_call 126;with_reducible refine(Hx1.out).mono ?_;rintro e w' ⟨rfl,rfl⟩)|(go_at_call 126;with_reducible refine(Hx2.out).mono ?_;rintro e w' ⟨rfl,rfl⟩)|(go_at_call 126;with_reducible refine(Hy1.out).mono ?_;rintro e w' ⟨rfl,rfl⟩)|(go_at_call 126;with_reducible refine(Hy2.out).mono ?_;rintro e w' ⟨rfl,rfl⟩));go_meet;exact⟨Hhm.out,HS.out⟩
  obtain⟨a4,b4,c4,d4⟩:=Zan h4;obtain⟨a5,b5,c5,d5⟩:=Zan h5;obtain⟨a6,b6,c6,d6⟩:=Zan h6;obtain⟨a7,b7,c7,d7⟩:=Zan h7;obtain⟨a8,b8,c8,d8⟩:=Zan h8;replace h4:=qh h4;have Hh5:=qh h5;clear h5;have Hh6:=qh h6;clear h6;have Hh7:=qh h7;clear h7;have Hh8:=qh h8;clear h8;have hm:mkL k z xs ys=xs++ys++[(k,z)]:=by simp[mkL,h4.out,Hh5.out,Hh6.out,Hh7.out,Hh8.out]
  have Hhm:=qh hm;clear hm
  as_aux_lemma =>
  go_wp2_with (first|(go_at_call 126;with_reducible refine(Hx1.out).mono ?_;rintro e w' ⟨rfl,rfl⟩)|(go_at_call 126;with_reducible refine(Hx2.out).mono ?_;rintro e w' ⟨rfl,rfl⟩)|(go_at_call 126;with_reducible refine(Hy1.out).mono ?_;rintro e w' ⟨rfl,rfl⟩)|(go_at_call 126;with_reducible refine(Hy2.out).mono ?_;rintro e w' ⟨rfl,rfl⟩));go_meet;exact⟨Hhm.out,HS.out⟩
 case rest =>
  obtain⟨hdf,hSc⟩:=hcut;have HSc:=qh hSc;have Hhdf:=qh hdf;clear hdf;clear hSc HS;go_wp2;refine wp_region_any (by kernel_rfl) ?_
  refine Zap (fun A listed a w'=>∃ (l0 l1 l2 l3 l4 l5 l6 l7 l8:Bool) (b7:Nat) (g1:Option Addr) (d1:Nat) (g2:Option Addr) (d2:Nat) (b8:Nat) (g3:Option Addr) (d3:Nat),listed=#[l0,l1,l2,l3,l4,l5,l6,l7,l8]∧(l2=true→l0=true∧l1=true)∧(l4=true→l2=true∧l3=true)∧(l6=true→l5=true)∧(l7=true→l4=true∧l6=true)∧(l8=true→l7=true) ∧
    a=⟨(((((((((A.tmps.setIfInBounds 98 (if l0=true then .slice (some ⟨b7,0,none⟩) 0 0 else A.tmps.getD 98 undef)).setIfInBounds 99 (if l1=true then .slice xa nx xc else A.tmps.getD 99 undef)).setIfInBounds 100 (if l2=true then .slice g1 nx d1 else A.tmps.getD 100 undef)).setIfInBounds 101 (if l3=true then .slice ya ny yc else A.tmps.getD 101 undef)).setIfInBounds 102 (if l4=true then .slice g2 (nx+ny) d2 else A.tmps.getD 102 undef)).setIfInBounds 103 (if l5=true then .agg #[.int .i64 k,.int .i64 z] else A.tmps.getD 103 undef)).setIfInBounds 104 (if l6=true then .slice (some ⟨b8,0,none⟩) 1 1 else A.tmps.getD 104 undef)).setIfInBounds 105 (if l7=true then .slice g3 (nx+ny+1) d3 else A.tmps.getD 105 undef)).setIfInBounds 6 (if l8=true then .slice g3 (nx+ny+1) d3 else A.tmps.getD 6 undef)),A.defers⟩ ∧
    St w w' [Ent.box w.heap.size #[.int .i64 k,.int .i64 z] 55,(if l0=true then(if l2=true then(if l4=true then(if l7=true then Ent.row 55 2 (.slice g3 (nx+ny+1) d3) (nx+ny+1) ((xs.flatMap Zab)++(ys.flatMap Zab)++[.int .i64 k,.int .i64 z]) else Ent.row 55 2 (.slice g2 (nx+ny) d2) (nx+ny) ((xs.flatMap Zab)++(ys.flatMap Zab))) else Ent.row 55 2 (.slice g1 nx d1) nx (xs.flatMap Zab)) else Ent.row 55 2 (.slice (some ⟨b7,0,none⟩) 0 0) 0 []) else Ent.nil),(if l6=true then Ent.row 55 2 (.slice (some ⟨b8,0,none⟩) 1 1) 1 [.int .i64 k,.int .i64 z] else Ent.nil)]) ?_ ?_ ?_
  ·rintro listed a w' ⟨l0,l1,l2,l3,l4,l5,l6,l7,l8,b7,g1,d1,g2,d2,b8,g3,d3,rfl,hd2,hd4,hd6,hd7,hd8,rfl,hS⟩ i hi;obtain⟨hun,o,ho,hall⟩:=mem_ready.1 hi;have hlt:=(Array.getElem?_eq_some_iff.1 ho).1;refine wpOp_step ho (fun K hK => ?_);clear hi;have HS:=qh hS;clear hS;simp only[List.setIfInBounds_toArray,List.set_cons_zero,List.set_cons_succ,Array.getD_eq_getD_getElem?,List.getElem?_toArray,List.getElem?_cons_zero,List.getElem?_cons_succ,Option.getD_some];obtain h|h|h|h|h|h|h|h|h:i=0∨i=1∨i=2∨i=3∨i=4∨i=5∨i=6∨i=7∨i=8:=by simp at hlt;omega
   all_goals subst h
   all_goals simp only[List.getElem?_toArray,List.getElem?_cons_zero,List.getElem?_cons_succ,Option.some.injEq] at ho
   all_goals subst ho
   all_goals simp[Region.binds] at hun hall
   ·subst hun;obtain rfl:l2=false:=offL hd2 rfl;obtain rfl:l4=false:=offL hd4 rfl;obtain rfl:l7=false:=offL hd7 rfl;obtain rfl:l8=false:=by cases l8 with|false=>rfl|true=>simpa using hd8 rfl
    have hS2:=((HS.out.alloc _ rfl #[] 55).boxrow 3 0 2 [] rfl rfl (Nat.zero_le _)).pick [0,3,2] (by decide);have HhS2:=qh hS2;clear hS2;go_simp;exact hK _ _ ⟨true,l1,false,l3,false,l5,l6,false,false,_,g1,d1,g2,d2,b8,g3,d3,rfl,by simp,by simp,hd6,by simp,by simp,(by simp),HhS2.out⟩
   ·subst hun;obtain rfl:l2=false:=offR hd2 rfl;obtain rfl:l4=false:=offL hd4 rfl;obtain rfl:l7=false:=offL hd7 rfl;obtain rfl:l8=false:=by cases l8 with|false=>rfl|true=>simpa using hd8 rfl
    go_simp;exact hK _ _ ⟨l0,true,false,l3,false,l5,l6,false,false,b7,g1,d1,g2,d2,b8,g3,d3,rfl,by simp,by simp,hd6,by simp,by simp,(by simp),HS.out⟩
   ·obtain⟨rfl,rfl⟩:=hall;subst hun;obtain rfl:l4=false:=offL hd4 rfl;obtain rfl:l7=false:=offL hd7 rfl;obtain rfl:l8=false:=by cases l8 with|false=>rfl|true=>simpa using hd8 rfl
    refine Zbg (a:=⟨_,_⟩) _ (by rfl) _ _ _ (by rfl) w.heap.size 55 i0 (.agg #[.int .i64 0,.int .i64 0]) 2 16 Tryz.underlying23 Hhi.out hz0.out Hhz1.out Hhz2.out (by rfl) (by omega) (.slice (some ⟨b7,0,none⟩) 0 0) (0) ([]) (by rfl) (HS.out.row 1 rfl) (.slice xa nx xc) (nx) ((xs.flatMap Zab)) (by rfl) (HX.out.below HS.out.bel) ZcE (by unfold maxLen;omega) (by omega) HS.out.size ?_;intro a9 c9 w6 hown6 hgrow6 hat6;have hS6:=HS.out.appS 1 rfl hown6 hgrow6 hat6
    (try simp only[Nat.zero_add,List.nil_append] at hS6)
    (try simp only[Nat.zero_add])
    have HS6:=qh hS6;clear hown6 hgrow6 hat6 hS6;go_simp;exact hK _ _ ⟨true,true,true,l3,false,l5,l6,false,false,b7,a9,c9,g2,d2,b8,g3,d3,rfl,by simp,by simp,hd6,by simp,by simp,(by simp),HS6.out⟩
   ·subst hun;obtain rfl:l4=false:=offR hd4 rfl;obtain rfl:l7=false:=offL hd7 rfl;obtain rfl:l8=false:=by cases l8 with|false=>rfl|true=>simpa using hd8 rfl
    go_simp;exact hK _ _ ⟨l0,l1,l2,true,false,l5,l6,false,false,b7,g1,d1,g2,d2,b8,g3,d3,rfl,hd2,by simp,hd6,by simp,by simp,(by simp),HS.out⟩
   ·obtain⟨rfl,rfl,-⟩:=hall;subst hun;obtain⟨rfl,rfl⟩:=hd2 rfl;obtain rfl:l7=false:=offL hd7 rfl;obtain rfl:l8=false:=by cases l8 with|false=>rfl|true=>simpa using hd8 rfl
    refine Zbg (a:=⟨_,_⟩) _ (by rfl) _ _ _ (by rfl) w.heap.size 55 i0 (.agg #[.int .i64 0,.int .i64 0]) 2 16 Tryz.underlying23 Hhi.out hz0.out Hhz1.out Hhz2.out (by rfl) (by omega) (.slice g1 nx d1) (nx) ((xs.flatMap Zab)) (by rfl) (HS.out.row 1 rfl) (.slice ya ny yc) (ny) ((ys.flatMap Zab)) (by rfl) (HY.out.below HS.out.bel) ZcE (by unfold maxLen;omega) (by omega) HS.out.size ?_;intro a9 c9 w6 hown6 hgrow6 hat6;have hS6:=HS.out.appS 1 rfl hown6 hgrow6 hat6
    (try simp only[] at hS6)
    (try simp only[])
    have HS6:=qh hS6;clear hown6 hgrow6 hat6 hS6;go_simp;exact hK _ _ ⟨true,true,true,true,true,l5,l6,false,false,b7,g1,d1,a9,c9,b8,g3,d3,rfl,by simp,by simp,hd6,by simp,by simp,(by simp),HS6.out⟩
   ·subst hun;obtain rfl:l6=false:=by cases l6 with|false=>rfl|true=>simpa using hd6 rfl
    obtain rfl:l7=false:=offR hd7 rfl;obtain rfl:l8=false:=by cases l8 with|false=>rfl|true=>simpa using hd8 rfl
    have e0:=HS.out.cell (v:=.int .i64 k) 0 0 rfl rfl;have e1:=HS.out.cell (v:=.int .i64 z) 0 1 rfl rfl;go_simp;exact hK _ _ ⟨l0,l1,l2,l3,l4,true,false,false,false,b7,g1,d1,g2,d2,b8,g3,d3,rfl,hd2,hd4,by simp,by simp,by simp,(by simp),HS.out⟩
   ·obtain rfl:=hall;subst hun;obtain rfl:l7=false:=offR hd7 rfl;obtain rfl:l8=false:=by cases l8 with|false=>rfl|true=>simpa using hd8 rfl
    have hS2:=((HS.out.alloc _ rfl #[.int .i64 k,.int .i64 z] 55).boxrow 3 1 2 [.int .i64 k,.int .i64 z] rfl rfl (by unfold maxLen;omega)).pick [0,1,3] (by decide);have HhS2:=qh hS2;clear hS2;go_simp;exact hK _ _ ⟨l0,l1,l2,l3,l4,true,true,false,false,b7,g1,d1,g2,d2,_,g3,d3,rfl,hd2,hd4,by simp,by simp,by simp,(by simp),HhS2.out⟩
   ·obtain⟨rfl,rfl,-⟩:=hall;subst hun;obtain⟨rfl,rfl⟩:=hd4 rfl;obtain rfl:=hd6 rfl;obtain⟨rfl,rfl⟩:=hd2 rfl;obtain rfl:l8=false:=by cases l8 with|false=>rfl|true=>simpa using hd8 rfl
    refine Zbg (a:=⟨_,_⟩) _ (by rfl) _ _ _ (by rfl) w.heap.size 55 i0 (.agg #[.int .i64 0,.int .i64 0]) 2 16 Tryz.underlying23 Hhi.out hz0.out Hhz1.out Hhz2.out (by rfl) (by omega) (.slice g2 (nx+ny) d2) (nx+ny) ((xs.flatMap Zab)++(ys.flatMap Zab)) (by rfl) (HS.out.row 1 rfl) (.slice (some ⟨b8,0,none⟩) 1 1) (1) ([.int .i64 k,.int .i64 z]) (by rfl) ((Zaa (HS.out.row 2 rfl)).sl (by omega) |>.mono (Nat.zero_le _)) Zex (by unfold maxLen;omega) (by omega) HS.out.size ?_;intro a9 c9 w6 hown6 hgrow6 hat6;have hS6:=HS.out.appS 1 rfl hown6 hgrow6 hat6
    (try simp only[] at hS6)
    (try simp only[])
    have HS6:=qh hS6;clear hown6 hgrow6 hat6 hS6;go_simp;exact hK _ _ ⟨true,true,true,true,true,true,true,true,false,b7,g1,d1,g2,d2,b8,a9,c9,rfl,by simp,by simp,by simp,by simp,by simp,(by simp),HS6.out⟩
   obtain⟨rfl,rfl,rfl,rfl,rfl,rfl,rfl,rfl,-⟩:=hall;subst hun;go_simp;exact hK _ _ ⟨true,true,true,true,true,true,true,true,true,b7,g1,d1,g2,d2,b8,g3,d3,rfl,by simp,by simp,by simp,by simp,by simp,(by simp),HS.out⟩
  ·rintro listed a w' ⟨l0,l1,l2,l3,l4,l5,l6,l7,l8,b7,g1,d1,g2,d2,b8,g3,d3,rfl,hd2,hd4,hd6,hd7,hd8,rfl,hS⟩ hr;have hall:=ZaH (by kernel_rfl) rfl hr;obtain rfl:l0=true:=by simpa using hall 0 (by simp)
   obtain rfl:l1=true:=by simpa using hall 1 (by simp)
   obtain rfl:l2=true:=by simpa using hall 2 (by simp)
   obtain rfl:l3=true:=by simpa using hall 3 (by simp)
   obtain rfl:l4=true:=by simpa using hall 4 (by simp)
   obtain rfl:l5=true:=by simpa using hall 5 (by simp)
   obtain rfl:l6=true:=by simpa using hall 6 (by simp)
   obtain rfl:l7=true:=by simpa using hall 7 (by simp)
   obtain rfl:l8=true:=by simpa using hall 8 (by simp)
   clear hall hr hd2 hd4 hd6 hd7 hd8;simp only[↓reduceIte] at hS ⊢;simp only[List.setIfInBounds_toArray,List.set_cons_zero,List.set_cons_succ];have HSf:=qh hS;clear hS;go_wp2;go_ret;rw[Hhdf.out];refine Zck (HSf.out.pick [1] (by decide)) fun u hr => ?_
   have hr:u.ownsRow 0 55 2 (.slice g3 (nx+ny+1) d3) (nx+ny+1) ((xs.flatMap Zab)++(ys.flatMap Zab)++[.int .i64 k,.int .i64 z]):=hr;rw[← List.flatMap_append,show([.int .i64 k,.int .i64 z]:List Value)=[(k,z)].flatMap Zab from rfl,← List.flatMap_append,hnl.out] at hr;rw[hnl.out];exact Zam hr
  refine⟨false,false,false,false,false,false,false,false,false,0,none,0,none,0,0,none,0,rfl,by simp,by simp,by simp,by simp,by simp,(by simp),?_⟩;exact HSc.out.drew.pick [0,3,4] (by decide)
theorem Zlf (k z:Int) (xs ys:List (Int × Int)) (v1 v2:Value) (w:World) (hl1:xs.length≤10000) (hl2:ys.length≤10000) (hne:k=7∨k=8→1≤xs.length) (h1:Pairs 0 w v1 xs) (h2:Pairs 0 w v2 ys) :
  Calls Tryz.prog 91 #[.agg #[.int .i64 k,.int .i64 z],v1,v2] w fun e w'=>RPr (mkL k z xs ys) w e w':=by
 refine(ZjF k z xs ys v1 v2 w hl1 hl2 hne h1 h2).mono ?_;rintro e w' ⟨v,F,rfl,hS,hF⟩;exact⟨v,rfl,hF w' (h1.below hS.bel) (h2.below hS.bel) (hS.has 0 F rfl).1,hS.bel⟩
end Go.Proofs.YtehmjmjedopkkaaGreat
