/-
  The walk over the reference's l5Simple, and what l5Make does with trees.
  Condition: the expression has at most 60 parts and reads as such.
-/
import Derived.Test.YtehmjmjedopkkaaGreatPo30Sml
set_option maxHeartbeats 16000000
set_option maxRecDepth 100000
namespace Go.Proofs.YtehmjmjedopkkaaGreat
open Go.RowKit
theorem Ziq (t:Ex):isK t.post 1=true↔t = .zero:=(ZnU t 1 (.inl rfl)).trans ⟨fun h=>h.elim (fun h=>h.2) fun h=>absurd h.1 (by decide),fun h => .inl ⟨rfl,h⟩⟩
theorem Zlk (t:Ex):isK t.post 2=true↔t = .one:=(ZnU t 2 (.inr rfl)).trans ⟨fun h=>h.elim (fun h=>absurd h.1 (by decide)) fun h=>h.2,fun h => .inr ⟨rfl,h⟩⟩
theorem Zqj {t u:Ex}:t.post=u.post↔t=u:=⟨Zia,fun h=>by rw[h]⟩
theorem ZcZ (l:List (Int × Int)) (p:Int × Int):ZdV (l++[p])=p.1:=by unfold ZdV;rw[List.length_append,List.length_singleton,Nat.add_sub_cancel,List.getD_eq_getElem?_getD,List.getElem?_append_right (Nat.le_refl _),Nat.sub_self];rfl
theorem Zk9 (x y:Ex):mkL 4 0 x.post y.post=(Zfv x y).post:=by
 unfold mkL Zfv;rw[if_pos rfl];simp only[Ziq,Zlk]
 split
 ·rfl
 split
 ·rfl
 split<;>rfl
theorem Zgm (x y:Ex):mkL 5 0 x.post y.post=(Zhe x y).post:=by
 unfold mkL Zhe;rw[if_neg (by decide),if_pos rfl];simp only[Ziq,Zqj]
 split
 ·rfl
 split<;>rfl
theorem Zji (t:Ex):ZdV t.post=8↔∃ a,t = .star a:=by
 cases t with
 | star a=>exact⟨fun _=>⟨a,rfl⟩,fun _=>ZcZ _ _⟩
 | zero=>exact⟨fun h=>absurd h (by decide),fun ⟨a,h⟩=>(by cases h)⟩
 | one=>exact⟨fun h=>absurd h (by decide),fun ⟨a,h⟩=>(by cases h)⟩
 | ltr c=>exact⟨fun h=>absurd (show(3:Int)=8 from h) (by decide),fun ⟨a,h⟩=>(by cases h)⟩
 | join a b=>exact⟨fun h=>absurd ((ZcZ _ _).symm.trans h) (by decide),fun ⟨a,h⟩=>(by cases h)⟩
 | alt a b=>exact⟨fun h=>absurd ((ZcZ _ _).symm.trans h) (by decide),fun ⟨a,h⟩=>(by cases h)⟩
 | both a b=>exact⟨fun h=>absurd ((ZcZ _ _).symm.trans h) (by decide),fun ⟨a,h⟩=>(by cases h)⟩
 | neg a=>exact⟨fun h=>absurd ((ZcZ _ _).symm.trans h) (by decide),fun ⟨a,h⟩=>(by cases h)⟩
theorem Zpc (x:Ex):mkL 8 0 x.post []=(Zfs x).post:=by
 unfold mkL Zfs;rw[if_neg (by decide),if_neg (by decide),if_neg (by decide),if_neg (by decide),if_pos rfl];simp only[Ziq,Zlk]
 split
 ·rfl
 by_cases h:ZdV x.post=8
 ·rw[if_pos h];obtain⟨a,rfl⟩:=(Zji x).1 h;rfl
 rw[if_neg h,List.append_nil]
 split
 ·exact absurd ((Zji _).2 ⟨_,rfl⟩) h
 rfl
theorem Zle (x y:Ex) (p:Int × Int):(x.post++y.post++[p]).length=x.post.length+y.post.length+1:=by rw[List.length_append,List.length_append,List.length_singleton]
theorem Zjr (x y:Ex):(Zfv x y).post.length≤x.post.length+y.post.length+1:=by
 have h1:=ZaE x;have h2:=ZaE y;unfold Zfv
 split
 ·show 1≤_;omega
 split
 ·omega
 split
 ·omega
 exact Nat.le_of_eq (Zle x y _)
theorem ZeE (x y:Ex):(Zhe x y).post.length≤x.post.length+y.post.length+1:=by
 unfold Zhe
 split
 ·omega
 split
 ·omega
 exact Nat.le_of_eq (Zle x y _)
theorem ZmS (x:Ex):(Zfs x).post.length≤x.post.length+1:=by
 unfold Zfs
 split
 ·show 1≤_;omega
 split
 ·omega
 show(x.post++[(8,0)]).length≤_;rw[List.length_append];exact Nat.le_refl _
theorem Zkd {M xs ys:List (Int × Int)} {v1 v2:Value} {w w':World} {a:Option Addr} {n c:Nat} {L:List Ent} (hS:St w w' L) (i:Nat) (hi:L[i]? = some (Ent.row 55 2 (.slice a n c) n (M.flatMap Zab))) (hn:M.length=n):RPm M xs ys v1 v2 w (.returned (.slice a n c)) w':=by subst hn;refine⟨_,Ent.row 55 2 (.slice a M.length c) M.length (M.flatMap Zab),rfl,?_,fun u _ _ h=>Zar h⟩;have h:=hS.pick [i] (by simp);simpa [List.getD_eq_getElem?_getD,hi] using h
theorem ZbF (es:List (Int × Int)) (k:Int) (v:Value) (w:World) (h:Pairs 0 w v es) (r:Bool) (hr:isK es k=r) :
  Calls Tryz.prog 120 #[v,.int .i64 k] w fun e w'=>e = .returned (.bool r)∧w=w':=by
 obtain⟨a,c,rfl,hc1,hc2,hrd⟩:=h.form;clear h;unfold isK at hr;by_cases h1:es.length=1
 ·rw[decide_eq_true h1,Bool.true_and] at hr;obtain⟨b,o,rfl,-,hbl,hcs⟩:=hrd (by omega);have g1:=(hcs 0 (by omega)).1;obtain⟨p,hp⟩:=eI ((es.getD 0 (0,0)).1);rw[← hp] at g1 hr;have g1':w.cell? ⟨b,o,none⟩=some (.int .i64 p):=g1;obtain⟨n,hn⟩:=eI (es.length);rw[← hn] at h1 hc1;rw[← hn];subst h1;replace hn:=qh hn;have Hhp:=qh hp;clear hp;clear hcs hrd g1;by_cases hpk:p=k
  ·rw[decide_eq_true hpk] at hr;subst hr hpk
   go_enter Tryz.func120, Tryz.ntmps120
   go_wp2;go_ret;exact⟨ZaS (by simp),rfl⟩
  rw[decide_eq_false hpk] at hr;subst hr;obtain⟨q1,q2,q3,q4⟩:=Zap hpk
  go_enter Tryz.func120, Tryz.ntmps120
  go_wp2;go_ret;exact⟨rfl,rfl⟩
 rw[decide_eq_false h1,Bool.false_and] at hr;subst hr;have h1I:¬ (es.length:Int)=1:=by omega
 obtain⟨q1,q2,q3,q4⟩:=Zap h1I;clear hrd
 go_enter Tryz.func120, Tryz.ntmps120
 go_wp2;go_ret;exact⟨rfl,rfl⟩
theorem ZpI (es:List (Int × Int)) (k:Int) (v:Value) (w:World) (h:Pairs 0 w v es) (hne:1≤es.length) (r:Bool) (hr:decide (ZdV es=k)=r) :
  Calls Tryz.prog 122 #[v,.int .i64 k] w fun e w'=>e = .returned (.bool r)∧w=w':=by
 obtain⟨a,c,rfl,hc1,hc2,hrd⟩:=h.form;clear h;obtain⟨b,o,rfl,-,hbl,hcs⟩:=hrd (by omega);obtain⟨m,hm⟩:∃ m,es.length=m+1:=⟨es.length-1,by omega⟩;have g1:=(hcs m (by omega)).1;have hL:(es.getD m (0,0)).1=ZdV es:=by unfold ZdV;rw[hm];rfl
 rw[hL] at g1;obtain⟨L,hLL⟩:=eJ (ZdV es);rw[hLL] at g1 hr;rw[hm] at hc1 ⊢;have hw1:IntKind.i64.wrap ((m:Int)+1-1)=(m:Int):=by rw[IntWalk.i64_in _ (by omega)];omega
 replace hLL:=qh hLL;have Hhm:=qh hm;clear hm;replace hL:=qh hL;clear hcs hrd;by_cases hk:L=k
 ·rw[decide_eq_true hk] at hr;subst hr hk
  go_enter Tryz.func122, Tryz.ntmps122
  go_wp2;go_ret;exact⟨ZaS (by simp),rfl⟩
 rw[decide_eq_false hk] at hr;subst hr;obtain⟨q1,q2,q3,q4⟩:=Zap hk
 go_enter Tryz.func122, Tryz.ntmps122
 go_wp2;go_ret;exact⟨rfl,rfl⟩
theorem Zmr (xs ys:List (Int × Int)) (v1 v2:Value) (w:World) (hl:xs.length≤100000) (h1:Pairs 0 w v1 xs) (h2:Pairs 0 w v2 ys) :
  Calls Tryz.prog 123 #[v1,v2] w fun e w'=>e = .returned (.bool (decide (xs=ys)))∧Below w.heap.size w w':=by
 obtain⟨a1,c1,rfl,hc1,hc2,hr1⟩:=h1.form;obtain⟨a2,c2,rfl,hd1,hd2,hr2⟩:=h2.form;have Hr1:=qh hr1;have Hr2:=qh hr2;clear h1 h2 hr1 hr2;by_cases hln:xs.length=ys.length
 ·obtain⟨n,hn⟩:=eI (xs.length);have hn2:n=ys.length:=hn.trans hln;rw[← hn] at hc1 Hr1 hl ⊢;rw[← hn2] at hd1 Hr2 ⊢;replace hn:=qh hn;have Hhn2:=qh hn2;clear hn2;clear hln
  go_enter Tryz.func123, Tryz.ntmps123
  go_wp2
  go_loopw [13] (fun vi wr=>∃ i:Nat,vi = .int .i64 (i:Int)∧i≤n∧(∀ j,j<i→xs.getD j (0,0)=ys.getD j (0,0))∧Below w.heap.size w wr) (fun vi _=>n-(intOf vi).toNat)
  case atStart=>exact⟨0,rfl,Nat.zero_le _,fun j hj=>by omega,Below.refl _ _⟩
  case round =>
   obtain⟨i,rfl,hi,hsm,hb⟩:=hrel;have Hb:=qh hb;have Hsm:=qh hsm;clear hb hsm;by_cases hlt:i<n
   ·have hi1:(i:Int)<(n:Int):=by omega
    have hw1:IntKind.i64.wrap ((i:Int)+1)=(i:Int)+1:=IntWalk.i64_in _ (by omega);obtain⟨b1,o1,rfl,-,hl1,g1⟩:=Hr1.out (by omega);obtain⟨b2,o2,rfl,-,hl2,g2⟩:=Hr2.out (by omega);have k1:=(bcell Hb.out b1 _ hl1).trans (g1 i hlt).1;have k2:=(bcell Hb.out b1 _ hl1).trans (g1 i hlt).2;have k3:=(bcell Hb.out b2 _ hl2).trans (g2 i hlt).1;have k4:=(bcell Hb.out b2 _ hl2).trans (g2 i hlt).2;by_cases he:xs.getD i (0,0)=ys.getD i (0,0)
    ·rw[← he] at k3 k4;obtain⟨p,hp⟩:=eI (xs.getD i (0,0));rw[← hp] at k1 k2 k3 k4;obtain⟨x,y⟩:=p;simp only at k1 k2 k3 k4;have Hhp:=qh hp;clear hp;replace he:=qh he;clear g1 g2;go_wp2
     go_region
     go_wp2;go_roundw
     case rel =>
      refine⟨i+1,by simp,by omega,fun j hj => ?_,Hb.out.drew⟩;by_cases hji:j<i
      ·exact Hsm.out j hji
      obtain rfl:j=i:=by omega
      exact he.out
     case measure=>simp[intOf];omega
    have hne:decide (xs=ys)=false:=decide_eq_false fun h=>he (by rw[h])
    obtain⟨p,hp⟩:=eI (xs.getD i (0,0));obtain⟨q,hq⟩:=eI (ys.getD i (0,0));rw[← hp] at k1 k2 he;rw[← hq] at k3 k4 he;obtain⟨x,y⟩:=p;obtain⟨x',y'⟩:=q;simp only at k1 k2 k3 k4;have Hhne:=qh hne;clear hne;have Hhp:=qh hp;clear hp;have Hhq:=qh hq;clear hq;clear g1 g2;by_cases hx:x=x'
    ·have hy:y≠y':=fun h=>he (by rw[hx,h])
     subst hx;obtain⟨q1,q2,q3,q4⟩:=Zap hy;replace he:=qh he;go_wp2
     go_region
     go_wp2;go_ret;exact⟨ZaS Hhne.out.symm,Hb.out.drew⟩
    obtain⟨q1,q2,q3,q4⟩:=Zap hx;replace he:=qh he;go_wp2
    go_region
    go_wp2;go_ret;exact⟨ZaS Hhne.out.symm,Hb.out.drew⟩
   obtain rfl:i=n:=by omega
   have hi1:¬ (i:Int)<(i:Int):=by omega
   have hy:decide (xs=ys)=true:=decide_eq_true (List.ext_getElem (by rw[← hn.out,← Hhn2.out]) fun j h1 h2=>by
    have:=Hsm.out j (by rw[hn.out];exact h1)
    rwa [List.getD_eq_getElem?_getD,List.getElem?_eq_getElem h1,List.getD_eq_getElem?_getD,List.getElem?_eq_getElem h2] at this)
   have Hhy:=qh hy;clear hy;go_wp2;go_ret;exact⟨ZaS Hhy.out.symm,Hb.out⟩
 have hne:decide (xs=ys)=false:=decide_eq_false fun h=>hln (by rw[h])
 have hnI:¬ (xs.length:Int)=(ys.length:Int):=by omega
 obtain⟨q1,q2,q3,q4⟩:=Zap hnI;have Hhne:=qh hne;clear hne
 go_enter Tryz.func123, Tryz.ntmps123
 go_wp2;go_ret;exact⟨ZaS Hhne.out.symm,Below.refl _ _⟩
theorem Zmh (xs ys:List (Int × Int)) (v1 v2:Value) (w:World) (hl1:xs.length≤10000) (hl2:ys.length≤10000) (h1:Pairs 0 w v1 xs) (h2:Pairs 0 w v2 ys) :
  Calls Tryz.prog 85 #[v1,v2] w fun e w'=>RPm (mkL 4 0 xs ys) xs ys v1 v2 w e w':=by
 obtain⟨a1,c1,rfl,-⟩:=h1.form;obtain⟨a2,c2,rfl,-⟩:=h2.form;obtain⟨rx1,hx1⟩:∃ r,isK xs 1=r:=⟨_,rfl⟩;obtain⟨ry1,hy1⟩:∃ r,isK ys 1=r:=⟨_,rfl⟩;obtain⟨rx2,hx2⟩:∃ r,isK xs 2=r:=⟨_,rfl⟩;obtain⟨ry2,hy2⟩:∃ r,isK ys 2=r:=⟨_,rfl⟩;have Ix1:=qh (fun (u:World) (hb:Below w.heap.size w u)=>ZbF xs 1 _ u (h1.below hb) rx1 hx1);have Iy1:=qh (fun (u:World) (hb:Below w.heap.size w u)=>ZbF ys 1 _ u (h2.below hb) ry1 hy1);have Ix2:=qh (fun (u:World) (hb:Below w.heap.size w u)=>ZbF xs 2 _ u (h1.below hb) rx2 hx2);have Iy2:=qh (fun (u:World) (hb:Below w.heap.size w u)=>ZbF ys 2 _ u (h2.below hb) ry2 hy2);have H1:=qh h1;have H2:=qh h2;have HS0:=qh (St.start w);have Hhx1:=qh hx1;clear hx1;have Hhy1:=qh hy1;clear hy1;have Hhx2:=qh hx2;clear hx2;have Hhy2:=qh hy2;clear hy2;clear h1 h2
 go_enter Tryz.func85, Tryz.ntmps85
 cases rx1 with
 | true =>
  go_wp2_with fail;refine(Ix1.out _ HS0.out.bel).mono ?_;rintro e w' ⟨rfl,rfl⟩;have hm:mkL 4 0 xs ys=[(1,0)]:=by simp[mkL,Hhx1.out]
  replace hm:=qh hm;go_wp2_with fail;refine(Zdh 1 _).mono ?_;rintro e w8 ⟨a8,c8,rfl,hS8⟩;have HS8:=qh hS8;clear hS8;go_wp2;go_ret;rw[hm.out];exact ZcC (v:=.slice a8 ([(1,0)]:List (Int × Int)).length c8) (HS0.out.cat HS8.out) fun u h=>Zar h
 | false =>
  go_wp2_with fail;refine(Ix1.out _ HS0.out.bel).mono ?_;rintro e w' ⟨rfl,rfl⟩;cases ry1 with
  | true =>
   go_wp2_with fail;refine(Iy1.out _ HS0.out.bel).mono ?_;rintro e w' ⟨rfl,rfl⟩;have hm:mkL 4 0 xs ys=[(1,0)]:=by simp[mkL,Hhx1.out,Hhy1.out]
   replace hm:=qh hm;go_wp2_with fail;refine(Zdh 1 _).mono ?_;rintro e w8 ⟨a8,c8,rfl,hS8⟩;have HS8:=qh hS8;clear hS8;go_wp2;go_ret;rw[hm.out];exact ZcC (v:=.slice a8 ([(1,0)]:List (Int × Int)).length c8) (HS0.out.cat HS8.out) fun u h=>Zar h
  | false =>
   go_wp2_with fail;refine(Iy1.out _ HS0.out.bel).mono ?_;rintro e w' ⟨rfl,rfl⟩;cases rx2 with
   | true =>
    go_wp2_with fail;refine(Ix2.out _ HS0.out.bel).mono ?_;rintro e w' ⟨rfl,rfl⟩;have hm:mkL 4 0 xs ys=ys:=by simp[mkL,Hhx1.out,Hhy1.out,Hhx2.out]
    replace hm:=qh hm;go_wp2;go_ret;rw[hm.out];exact ZcH HS0.out fun u h h2=>h2
   | false =>
    go_wp2_with fail;refine(Ix2.out _ HS0.out.bel).mono ?_;rintro e w' ⟨rfl,rfl⟩;cases ry2 with
    | true =>
     go_wp2_with fail;refine(Iy2.out _ HS0.out.bel).mono ?_;rintro e w' ⟨rfl,rfl⟩;have hm:mkL 4 0 xs ys=xs:=by simp[mkL,Hhx1.out,Hhy1.out,Hhx2.out,Hhy2.out]
     replace hm:=qh hm;go_wp2;go_ret;rw[hm.out];exact ZcH HS0.out fun u h h2=>h
    | false =>
     go_wp2_with fail;refine(Iy2.out _ HS0.out.bel).mono ?_;rintro e w' ⟨rfl,rfl⟩;have hm:mkL 4 0 xs ys=xs++ys++[(4,0)]:=by simp[mkL,Hhx1.out,Hhy1.out,Hhx2.out,Hhy2.out]
     replace hm:=qh hm;have HSb:=qh (HS0.out.alloc w.heap.size rfl #[.slice a1 xs.length c1,.slice a2 ys.length c2] 23);go_wp2_with fail;refine(Znn 4 xs ys _ _ w.heap.size 2 _ (by omega) (by omega) (HSb.out.boxlt 0 rfl).2 (HSb.out.cell 0 0 rfl rfl) (HSb.out.cell 0 1 rfl rfl) (H1.out.below HSb.out.bel) (H2.out.below HSb.out.bel)).mono ?_;rintro e w8 ⟨a8,c8,rfl,hS8⟩;obtain⟨n8,hn8⟩:∃ n,(xs++ys++[(4,0)]:List (Int × Int)).length=n:=⟨_,rfl⟩;rw[hn8] at hS8 ⊢;have HS8:=qh hS8;have Hhn8:=qh hn8;clear hn8;clear hS8;go_wp2;go_ret;rw[hm.out];exact Zkd (HSb.out.cat HS8.out) 1 rfl Hhn8.out
theorem Zof (xs ys:List (Int × Int)) (v1 v2:Value) (w:World) (hl1:xs.length≤10000) (hl2:ys.length≤10000) (h1:Pairs 0 w v1 xs) (h2:Pairs 0 w v2 ys) :
  Calls Tryz.prog 87 #[v1,v2] w fun e w'=>RPm (mkL 5 0 xs ys) xs ys v1 v2 w e w':=by
 obtain⟨a1,c1,rfl,-⟩:=h1.form;obtain⟨a2,c2,rfl,-⟩:=h2.form;obtain⟨rx1,hx1⟩:∃ r,isK xs 1=r:=⟨_,rfl⟩;obtain⟨rs,hs⟩:∃ r,decide (xs=ys)=r:=⟨_,rfl⟩;obtain⟨ry1,hy1⟩:∃ r,isK ys 1=r:=⟨_,rfl⟩;have Ix1:=qh (fun (u:World) (hb:Below w.heap.size w u)=>ZbF xs 1 _ u (h1.below hb) rx1 hx1);have hsm:=fun (u:World) (hb:Below w.heap.size w u)=>Zmr xs ys _ _ u (by omega) (h1.below hb) (h2.below hb)
 rw[hs] at hsm;have Hsm:=qh hsm;have Iy1:=qh (fun (u:World) (hb:Below w.heap.size w u)=>ZbF ys 1 _ u (h2.below hb) ry1 hy1);have H1:=qh h1;have H2:=qh h2;have HS0:=qh (St.start w);have Hhx1:=qh hx1;clear hx1;have Hhs:Hid ((xs=ys)=(rs=true)):=qh (by rw[← hs,decide_eq_true_eq]);clear hs hsm;have Hhy1:=qh hy1;clear hy1;clear h1 h2
 go_enter Tryz.func87, Tryz.ntmps87
 cases rx1 with
 | true =>
  go_wp2_with fail;refine(Ix1.out _ HS0.out.bel).mono ?_;rintro e w' ⟨rfl,rfl⟩;have hm:mkL 5 0 xs ys=ys:=by simp[mkL,Hhx1.out]
  replace hm:=qh hm;go_wp2;go_ret;rw[hm.out];exact ZcH HS0.out fun u h h2=>h2
 | false =>
  go_wp2_with fail;refine(Ix1.out _ HS0.out.bel).mono ?_;rintro e w' ⟨rfl,rfl⟩;cases rs with
  | true =>
   go_wp2_with fail;refine(Hsm.out _ HS0.out.bel).mono ?_;rintro e w3 ⟨rfl,hb3⟩;have HS3:=qh (HS0.out.call hb3);clear hb3;have hm:mkL 5 0 xs ys=ys:=by simp[mkL,Hhx1.out,Hhs.out]
   replace hm:=qh hm;go_wp2;go_ret;rw[hm.out];exact ZcH HS3.out fun u h h2=>h2
  | false =>
   go_wp2_with fail;refine(Hsm.out _ HS0.out.bel).mono ?_;rintro e w3 ⟨rfl,hb3⟩;have HS3:=qh (HS0.out.call hb3);clear hb3;cases ry1 with
   | true =>
    go_wp2_with fail;refine(Iy1.out _ HS3.out.bel).mono ?_;rintro e w' ⟨rfl,rfl⟩;have hm:mkL 5 0 xs ys=xs:=by simp[mkL,Hhx1.out,Hhs.out,Hhy1.out]
    replace hm:=qh hm;go_wp2;go_ret;rw[hm.out];exact ZcH HS3.out fun u h h2=>h
   | false =>
    go_wp2_with fail;refine(Iy1.out _ HS3.out.bel).mono ?_;rintro e w' ⟨rfl,rfl⟩;have hm:mkL 5 0 xs ys=xs++ys++[(5,0)]:=by simp[mkL,Hhx1.out,Hhs.out,Hhy1.out]
    replace hm:=qh hm;have HSb:=qh (HS3.out.alloc w3.heap.size rfl #[.slice a1 xs.length c1,.slice a2 ys.length c2] 23);go_wp2_with fail;refine(Znn 5 xs ys _ _ w3.heap.size 2 _ (by omega) (by omega) (HSb.out.boxlt 0 rfl).2 (HSb.out.cell 0 0 rfl rfl) (HSb.out.cell 0 1 rfl rfl) (H1.out.below HSb.out.bel) (H2.out.below HSb.out.bel)).mono ?_;rintro e w8 ⟨a8,c8,rfl,hS8⟩;obtain⟨n8,hn8⟩:∃ n,(xs++ys++[(5,0)]:List (Int × Int)).length=n:=⟨_,rfl⟩;rw[hn8] at hS8 ⊢;have HS8:=qh hS8;have Hhn8:=qh hn8;clear hn8;clear hS8;go_wp2;go_ret;rw[hm.out];exact Zkd (HSb.out.cat HS8.out) 1 rfl Hhn8.out
theorem ZmU (xs:List (Int × Int)) (v1:Value) (w:World) (hl1:xs.length≤10000) (hne:1≤xs.length) (h1:Pairs 0 w v1 xs) :
  Calls Tryz.prog 86 #[v1] w fun e w'=>RPm (mkL 8 0 xs []) xs [] v1 (.slice none 0 0) w e w':=by
 obtain⟨a1,c1,rfl,-⟩:=h1.form;obtain⟨rx1,hx1⟩:∃ r,isK xs 1=r:=⟨_,rfl⟩;obtain⟨rx2,hx2⟩:∃ r,isK xs 2=r:=⟨_,rfl⟩;obtain⟨r8,h8⟩:∃ r,decide (ZdV xs=8)=r:=⟨_,rfl⟩;have Ix1:=qh (ZbF xs 1 _ w h1 rx1 hx1);have Ix2:=qh (ZbF xs 2 _ w h1 rx2 hx2);have I8:=qh (ZpI xs 8 _ w h1 hne r8 h8);have Hh8:Hid ((ZdV xs=8)=(r8=true)):=qh (by rw[← h8,decide_eq_true_eq]);have Hhx1:=qh hx1;have Hhx2:=qh hx2;have H1:=qh h1;have HS0:=qh (St.start w);clear h1 h8 hx1 hx2 hne
 go_enter Tryz.func86, Tryz.ntmps86
 go_wp2_with fail;refine Ix1.out.mono ?_;rintro e w' ⟨rfl,rfl⟩;cases rx1 with
 | true =>
  have hm:mkL 8 0 xs []=[(2,0)]:=by simp[mkL,Hhx1.out]
  replace hm:=qh hm;go_wp2_with fail;refine(Zdh 2 _).mono ?_;rintro e w8 ⟨a8,c8,rfl,hS8⟩;have HS8:=qh hS8;clear hS8;go_wp2;go_ret;rw[hm.out];exact ZcC (v:=.slice a8 ([(2,0)]:List (Int × Int)).length c8) (HS0.out.cat HS8.out) fun u h=>Zar h
 | false =>
  go_wp2_with fail;refine Ix2.out.mono ?_;rintro e w' ⟨rfl,rfl⟩;cases rx2 with
  | true =>
   have hm:mkL 8 0 xs []=[(2,0)]:=by simp[mkL,Hhx1.out,Hhx2.out]
   replace hm:=qh hm;go_wp2_with fail;refine(Zdh 2 _).mono ?_;rintro e w8 ⟨a8,c8,rfl,hS8⟩;have HS8:=qh hS8;clear hS8;go_wp2;go_ret;rw[hm.out];exact ZcC (v:=.slice a8 ([(2,0)]:List (Int × Int)).length c8) (HS0.out.cat HS8.out) fun u h=>Zar h
  | false =>
   go_wp2_with fail;refine I8.out.mono ?_;rintro e w' ⟨rfl,rfl⟩;cases r8 with
   | true =>
    have hm:mkL 8 0 xs []=xs:=by simp[mkL,Hhx1.out,Hhx2.out,Hh8.out]
    replace hm:=qh hm;go_wp2;go_ret;rw[hm.out];exact ZcH HS0.out fun u h _=>h
   | false =>
    have hm:mkL 8 0 xs []=xs++[]++[(8,0)]:=by simp[mkL,Hhx1.out,Hhx2.out,Hh8.out]
    rw[List.append_nil] at hm;replace hm:=qh hm;have HSb:=qh (HS0.out.alloc w.heap.size rfl #[.slice a1 xs.length c1] 23);go_wp2_with fail;refine(Zqk 8 xs _ w.heap.size 1 _ (by omega) (HSb.out.boxlt 0 rfl).2 (HSb.out.cell 0 0 rfl rfl) (H1.out.below HSb.out.bel)).mono ?_;rintro e w8 ⟨a8,c8,rfl,hS8⟩;obtain⟨n8,hn8⟩:∃ n,(xs++[(8,0)]:List (Int × Int)).length=n:=⟨_,rfl⟩;rw[hn8] at hS8 ⊢;have HS8:=qh hS8;have Hhn8:=qh hn8;clear hn8;clear hS8;go_wp2;go_ret;rw[hm.out];exact Zkd (HSb.out.cat HS8.out) 1 rfl Hhn8.out
def Ent.mkQ (X:World→Prop) (F:Ent) (v:Value) (M:List (Int × Int)):Ent:=⟨F.foot,fun w=>F.holds w∧∀ u,X u→F.holds u→Pairs 0 u v M,fun a b h hk=>⟨F.stable a b h.1 hk,h.2⟩⟩
theorem St.mkQ {w0 w:World} {L:List Ent} (h:St w0 w L) (k:Nat) {X:World→Prop} {F:Ent} {v:Value} {M:List (Int × Int)} (hk:L[k]? = some (Ent.mkQ X F v M)) (hx:X w):Pairs 0 w v M:=by have h1:=(h.has k _ hk).1;exact h1.2 w hx h1.1
def RQm (X:World→Prop) (M:List (Int × Int)) (w:World) (e:Ending) (w':World):Prop:=∃ g c F,e = .returned (.slice g M.length c)∧St w w' [Ent.mkQ X F (.slice g M.length c) M]
theorem Zkb {X:World→Prop} {M xs ys:List (Int × Int)} {v1 v2:Value} {w w':World} {e:Ending} (hX:∀ u,X u→Pairs 0 u v1 xs∧Pairs 0 u v2 ys) (hw:X w') (h:RPm M xs ys v1 v2 w e w'):RQm X M w e w':=by obtain⟨v,F,rfl,hS,hF⟩:=h;have hP:=hF w' (hX w' hw).1 (hX w' hw).2 (hS.has 0 F rfl).1;obtain⟨g,c,rfl,-⟩:=hP.form;exact⟨g,c,F,rfl,hS.same 0 rfl (Ent.mkQ X F _ M) (fun h=>⟨h,fun u h1 h3=>hF u (hX u h1).1 (hX u h1).2 h3⟩) fun _ hk=>hk⟩
theorem Zkc {X:World→Prop} {M:List (Int × Int)} {g:Option Addr} {c:Nat} {w w':World} {L:List Ent} (hS:St w w' L) (h:∀ u,X u→(Ent.all L).holds u→Pairs 0 u (.slice g M.length c) M):RQm X M w (.returned (.slice g M.length c)) w' :=
 ⟨g,c,Ent.all L,rfl,(St.pack (A:=[]) hS).same 0 rfl (Ent.mkQ X (Ent.all L) _ M) (fun h1=>⟨h1,h⟩) fun _ hk=>hk⟩
theorem ZeN {L:List Ent} {u:World} (h:(Ent.all L).holds u) (k:Nat) {X:World→Prop} {F:Ent} {v:Value} {M:List (Int × Int)} (hk:L[k]? = some (Ent.mkQ X F v M)) (hx:X u):Pairs 0 u v M:=by have h1:=h _ (List.mem_of_getElem? hk);exact h1.2 u hx h1.1
theorem Zgx (xs ys M:List (Int × Int)) (hM:mkL 4 0 xs ys=M) (v1 v2:Value) (w:World) (hl1:xs.length≤10000) (hl2:ys.length≤10000) (h1:Pairs 0 w v1 xs) (h2:Pairs 0 w v2 ys) :
  Calls Tryz.prog 85 #[v1,v2] w fun e w'=>RQm (fun u=>Pairs 0 u v1 xs∧Pairs 0 u v2 ys) M w e w':=by
 refine(Zmh xs ys v1 v2 w hl1 hl2 h1 h2).mono ?_;intro e w' h;rw[hM] at h;obtain⟨v,F,rfl,hS,hF⟩:=h;exact Zkb (fun u h=>h) ⟨h1.below hS.bel,h2.below hS.bel⟩ ⟨v,F,rfl,hS,hF⟩
theorem Zdj (xs ys M:List (Int × Int)) (hM:mkL 5 0 xs ys=M) (v1 v2:Value) (w:World) (hl1:xs.length≤10000) (hl2:ys.length≤10000) (h1:Pairs 0 w v1 xs) (h2:Pairs 0 w v2 ys) :
  Calls Tryz.prog 87 #[v1,v2] w fun e w'=>RQm (fun u=>Pairs 0 u v1 xs∧Pairs 0 u v2 ys) M w e w':=by
 refine(Zof xs ys v1 v2 w hl1 hl2 h1 h2).mono ?_;intro e w' h;rw[hM] at h;obtain⟨v,F,rfl,hS,hF⟩:=h;exact Zkb (fun u h=>h) ⟨h1.below hS.bel,h2.below hS.bel⟩ ⟨v,F,rfl,hS,hF⟩
theorem ZeU {u:World}:Pairs 0 u (.slice none 0 0) []:=⟨rfl,none,0,rfl,Nat.zero_le _,Nat.zero_le _,fun h0=>absurd h0 (Nat.lt_irrefl 0)⟩
theorem ZmT (xs M:List (Int × Int)) (hM:mkL 8 0 xs []=M) (v1:Value) (w:World) (hl1:xs.length≤10000) (hne:1≤xs.length) (h1:Pairs 0 w v1 xs) :
  Calls Tryz.prog 86 #[v1] w fun e w'=>RQm (fun u=>Pairs 0 u v1 xs) M w e w':=by
 refine(ZmU xs v1 w hl1 hne h1).mono ?_;intro e w' h;rw[hM] at h;obtain⟨v,F,rfl,hS,hF⟩:=h;exact Zkb (fun u h=>⟨h,ZeU⟩) (h1.below hS.bel) ⟨v,F,rfl,hS,hF⟩
def dirC (x:DfaD) (i j:Nat):Nat→Ex
 | 0 => .zero
 | c+1=>if nxD x i c=j then Zhe (dirC x i j c) (.ltr (Fin.ofNat 3 c)) else dirC x i j c
def dirE (x:DfaD) (i j:Nat):Ex:=if i=j then Zhe (dirC x i j 3) .one else dirC x i j 3
def kleT (x:DfaD):Nat→Nat→Nat→Ex
 | 0,i,j=>dirE x i j
 | k+1,i,j=>Zhe (kleT x k i j) (Zfv (Zfv (kleT x k i k) (Zfs (kleT x k k k))) (kleT x k k j))
def kleW (x:DfaD) (k i j:Nat):Ex:=Zfv (Zfv (kleT x k i k) (Zfs (kleT x k k k))) (kleT x k k j)
def kleE (x:DfaD):Nat→Ex
 | 0 => .zero
 | m+1=>if x.ends.getD m false=true then Zhe (kleE x m) (kleT x x.next.length 0 m) else kleE x m
def kleB (x:DfaD) (k i j:Nat):Prop:=(kleW x k i j).post.length≤60∧(kleT x (k+1) i j).post.length≤60
instance (x:DfaD) (k i j:Nat):Decidable (kleB x k i j):=by unfold kleB;exact inferInstance
def kleK (x:DfaD) (n k:Nat):Prop:=∀ q,q<k→∀ i,i<n→∀ j,j<n→kleB x q i j
theorem ZfQ (x:DfaD) (i j:Nat):∀ c,(dirC x i j c).post.length≤1+2*c
 | 0=>by simp[dirC,Ex.post]
 | c+1=>by
  have h:=ZfQ x i j c;rw[dirC];by_cases h1:nxD x i c=j
  ·rw[if_pos h1];have h2:=ZeE (dirC x i j c) (.ltr (Fin.ofNat 3 c));simp only[Ex.post,List.length_cons,List.length_nil] at h2;omega
  rw[if_neg h1];omega
theorem ZpK (x:DfaD) (i j:Nat):(dirE x i j).post.length≤60:=by
 have h:=ZfQ x i j 3;rw[dirE];by_cases h1:i=j
 ·rw[if_pos h1];have h2:=ZeE (dirC x i j 3) .one;simp only[Ex.post,List.length_cons,List.length_nil] at h2;omega
 rw[if_neg h1];omega
theorem ZbN {x:DfaD} {n k:Nat} (hK:kleK x n k) {i j:Nat} (hi:i<n) (hj:j<n):(kleT x k i j).post.length≤60:=by
 cases k with
 | zero=>exact ZpK x i j
 | succ k=>exact(hK k (Nat.lt_succ_self k) i hi j hj).2
theorem kleK.mono {x:DfaD} {n k q:Nat} (h:kleK x n k) (hq:q≤k):kleK x n q:=fun a ha=>h a (Nat.lt_of_lt_of_le ha hq)
theorem Zjn (x:DfaD) (n:Nat):kleK x n 0:=fun q hq=>absurd hq (Nat.not_lt_zero q)
theorem Zil {x:DfaD} (hK:kleK x x.next.length x.next.length) (h0:0<x.next.length):∀ m,m≤x.next.length→(kleE x m).post.length≤1+61*m
 | 0,_=>by simp[kleE,Ex.post]
 | m+1,hm=>by
  have h:=Zil hK h0 m (by omega);rw[kleE];by_cases h1:x.ends.getD m false=true
  ·rw[if_pos h1];have h2:=ZeE (kleE x m) (kleT x x.next.length 0 m);have h3:=ZbN hK h0 (show m<x.next.length by omega);omega
  rw[if_neg h1];omega
def Wy (x:DfaD) (k:Nat):Nat→List Nat→Nat→Prop
 | i,[],j=>i=j
 | i,c::w,j=>c<3∧(w=[]∨nxD x i c<k)∧Wy x k (nxD x i c) w j
theorem Wy.mono {x:DfaD} {k q:Nat} (hq:k≤q):∀ {w:List Nat} {i j:Nat},Wy x k i w j→Wy x q i w j
 | [],_,_,h=>h
 | _::_,_,_,⟨h1,h2,h3⟩=>⟨h1,h2.imp id fun h=>Nat.lt_of_lt_of_le h hq,h3.mono hq⟩
theorem Wy.app {x:DfaD} {k:Nat}:∀ {u:List Nat} {z:List Nat} {i j:Nat},Wy x (k+1) i u k→Wy x (k+1) k z j→Wy x (k+1) i (u++z) j
 | [],z,i,j,h,h'=>by have h:i=k:=h;subst h;exact h'
 | c::u,z,i,j,⟨h1,h2,h3⟩,h'=>by
  refine⟨h1,?_,h3.app h'⟩;rcases h2 with rfl|h2
  ·have h3:nxD x i c=k:=h3;exact .inr (by omega)
  exact .inr h2
theorem Zp9 {x:DfaD} {k:Nat} {v:List Nat} (h:StarL (fun w=>Wy x k k w k) v) {z:List Nat} {j:Nat} (hz:Wy x (k+1) k z j):Wy x (k+1) k (v++z) j:=by
 obtain⟨ws,rfl,hw⟩:=h
 induction ws with
 | nil=>exact hz
 | cons u ws ih =>rw[List.flatten_cons,List.append_assoc];exact((hw u (List.mem_cons_self ..)).mono (Nat.le_succ k)).app (ih fun y hy=>hw y (List.mem_cons_of_mem _ hy))
theorem ZmD {x:DfaD} {k:Nat}:∀ {w:List Nat} {i j:Nat},Wy x (k+1) i w j→Wy x k i w j∨∃ u v z,w=u++(v++z)∧Wy x k i u k∧StarL (fun w=>Wy x k k w k) v∧Wy x k k z j
 | [],_,_,h => .inl h
 | c::w,i,j,⟨h1,h2,h3⟩=>by
  by_cases hw:w=[]
  ·exact .inl ⟨h1,.inl hw,by subst hw;exact h3⟩
  have h2:nxD x i c<k+1:=h2.resolve_left hw;rcases ZmD h3 with h|⟨u,v,z,rfl,hu,hv,hz⟩
  ·by_cases hs:nxD x i c<k
   ·exact .inl ⟨h1,.inr hs,h⟩
   have hs:nxD x i c=k:=by omega
   rw[hs] at h;exact .inr ⟨[c],[],w,rfl,⟨h1,.inl rfl,hs⟩,StarL.nil,h⟩
  by_cases hs:nxD x i c<k
  ·exact .inr ⟨c::u,v,z,rfl,⟨h1,.inr hs,hu⟩,hv,hz⟩
  have hs:nxD x i c=k:=by omega
  rw[hs] at hu;exact .inr ⟨[c],u++v,z,by simp,⟨h1,.inl rfl,hs⟩,StarL.cons hu hv,hz⟩
theorem Zls {x:DfaD} (hx:fine x) {i j:Nat} (hi:i<x.next.length) (w:List Nat):∀ c,c≤3→(memE (dirC x i j c) w↔∃ a,a<c∧w=[a]∧nxD x i a=j)
 | 0,_=>⟨fun h=>h.elim,fun ⟨_,h,_⟩=>absurd h (Nat.not_lt_zero _)⟩
 | c+1,hc=>by
  have ih:=Zls hx hi w (j:=j) c (by omega);have hv:(Fin.ofNat 3 c).val=c:=Nat.mod_eq_of_lt (by omega);rw[dirC];by_cases h1:nxD x i c=j
  ·rw[if_pos h1,ZeD,ih];constructor
   ·rintro(⟨a,ha,h⟩|h)
    ·exact⟨a,by omega,h⟩
    have h:w=[(Fin.ofNat 3 c).val]:=h;rw[hv] at h;exact⟨c,by omega,h,h1⟩
   rintro⟨a,ha,h,h'⟩;by_cases hac:a=c
   ·subst hac;right;show w=[(Fin.ofNat 3 a).val];rw[hv];exact h
   exact .inl ⟨a,by omega,h,h'⟩
  rw[if_neg h1,ih];constructor
  ·rintro⟨a,ha,h⟩;exact⟨a,by omega,h⟩
  rintro⟨a,ha,h,h'⟩;by_cases hac:a=c
  ·subst hac;exact absurd h' h1
  exact⟨a,by omega,h,h'⟩
theorem ZpJ {x:DfaD} (hx:fine x) {i j:Nat} (hi:i<x.next.length) (w:List Nat):memE (dirE x i j) w↔Wy x 0 i w j:=by
 have h3:=Zls hx hi w (j:=j) 3 (Nat.le_refl 3)
 have hA:memE (dirE x i j) w↔(∃ a,a<3∧w=[a]∧nxD x i a=j)∨(i=j∧w=[]):=by
  rw[dirE];by_cases h1:i=j
  ·rw[if_pos h1,ZeD,h3];exact or_congr Iff.rfl ⟨fun h=>⟨h1,h⟩,fun h=>h.2⟩
  rw[if_neg h1,h3];exact⟨.inl,fun h=>h.elim id fun h=>absurd h.1 h1⟩
 rw[hA];cases w with
 | nil=>exact⟨fun h=>h.elim (fun ⟨_,_,h,_⟩=>absurd h (by simp)) fun h=>h.1,fun h => .inr ⟨h,rfl⟩⟩
 | cons c w =>
  constructor
  ·rintro(⟨a,ha,h,h'⟩|h)
   ·obtain⟨rfl,rfl⟩:=List.cons.inj h;exact⟨ha,.inl rfl,h'⟩
   exact absurd h.2 (by simp)
  rintro⟨hc,hw,h⟩;have hw:w=[]:=hw.resolve_right (Nat.not_lt_zero _);subst hw;exact .inl ⟨c,hc,rfl,h⟩
theorem StarL.iff {L M:List Nat→Prop} (h:∀ u,L u↔M u) {w:List Nat}:StarL L w↔StarL M w:=by rw[show L=M from funext fun u=>propext (h u)]
theorem Zik {x:DfaD} (hx:fine x):∀ (k:Nat),k≤x.next.length→∀ {i j:Nat},i<x.next.length→∀ w,memE (kleT x k i j) w↔Wy x k i w j
 | 0,_,i,j,hi,w=>ZpJ hx hi w
 | k+1,hk,i,j,hi,w=>by
  have hkn:k<x.next.length:=by omega
  have ih:=fun (a b:Nat) (ha:a<x.next.length) (u:List Nat)=>Zik hx k (by omega) (i:=a) (j:=b) ha u
  rw[kleT,ZeD,Zgz,ZdR,ih i j hi]
  have hW:(∃ u v,w=u++v∧memE (Zfv (kleT x k i k) (Zfs (kleT x k k k))) u∧memE (kleT x k k j) v)↔∃ u v z,w=u++(v++z)∧Wy x k i u k∧StarL (fun w=>Wy x k k w k) v∧Wy x k k z j:=by
   have hs:∀ v,memE (Zfs (kleT x k k k)) v↔StarL (fun w=>Wy x k k w k) v:=fun v=>(ZmR _ v).trans (StarL.iff (L:=memE (kleT x k k k)) fun u=>ih k k hkn u)
   constructor
   ·rintro⟨u,z,rfl,hu,hz⟩;rw[Zgz,ZdR] at hu;obtain⟨a,v,rfl,ha,hv⟩:=hu;exact⟨a,v,z,by rw[List.append_assoc],(ih i k hi a).1 ha,(hs v).1 hv,(ih k j hkn z).1 hz⟩
   rintro⟨a,v,z,rfl,ha,hv,hz⟩;refine⟨a++v,z,by rw[List.append_assoc],?_,(ih k j hkn z).2 hz⟩;rw[Zgz,ZdR];exact⟨a,v,rfl,(ih i k hi a).2 ha,(hs v).2 hv⟩
  rw[hW];constructor
  ·rintro(h|⟨u,v,z,rfl,hu,hv,hz⟩)
   ·exact h.mono (Nat.le_succ k)
   exact(hu.mono (Nat.le_succ k)).app (Zp9 hv (hz.mono (Nat.le_succ k)))
  exact ZmD
theorem ZmE {x:DfaD} (hx:fine x):∀ {w:List Nat},isW w→∀ {i j:Nat},i<x.next.length→(Wy x x.next.length i w j↔runD x (i:Int) w=(j:Int))
 | [],_,i,j,_=>by show i=j↔(i:Int)=(j:Int);omega
 | c::w,hw,i,j,hi=>by have h1:=Zb2 hw;have h2:=ZbT hx hi h1.1;rw[ZaL,h2.2,← ZmE hx h1.2 h2.1];exact⟨fun h=>h.2.2,fun h=>⟨h1.1,.inr h2.1,h⟩⟩
theorem Zli (x:DfaD) (w:List Nat):∀ m,memE (kleE x m) w↔∃ j,j<m∧x.ends.getD j false=true∧memE (kleT x x.next.length 0 j) w
 | 0=>⟨fun h=>h.elim,fun ⟨_,h,_⟩=>absurd h (Nat.not_lt_zero _)⟩
 | m+1=>by
  have ih:=Zli x w m;rw[kleE];by_cases h1:x.ends.getD m false=true
  ·rw[if_pos h1,ZeD,ih];constructor
   ·rintro(⟨j,hj,h⟩|h)
    ·exact⟨j,by omega,h⟩
    exact⟨m,by omega,h1,h⟩
   rintro⟨j,hj,h,h'⟩;by_cases hjm:j=m
   ·subst hjm;exact .inr h'
   exact .inl ⟨j,by omega,h,h'⟩
  rw[if_neg h1,ih];constructor
  ·rintro⟨j,hj,h⟩;exact⟨j,by omega,h⟩
  rintro⟨j,hj,h,h'⟩;by_cases hjm:j=m
  ·subst hjm;exact absurd h h1
  exact⟨j,by omega,h,h'⟩
theorem Zpv {x:DfaD} (hx:fine x) {w:List Nat} (hw:isW w):memE (kleE x x.next.length) w↔accD x w=true:=by
 have h0:0<x.next.length:=hx.1;rw[Zli];obtain⟨t,ht,hr⟩:=ZdO hx w (s:=0) hw h0;have hr':runD x 0 w=(t:Int):=hr;have hacc:accD x w=x.ends.getD t false:=by rw[accD,hr',den];rfl
 rw[hacc];constructor
 ·rintro⟨j,hj,he,hm⟩;have h1:=(ZmE hx hw h0).1 ((Zik hx _ (Nat.le_refl _) h0 w).1 hm);rw[hr] at h1;have:t=j:=by exact_mod_cast h1
  rw[this];exact he
 intro h;exact⟨t,ht,h,(Zik hx _ (Nat.le_refl _) h0 w).2 ((ZmE hx hw h0).2 hr)⟩
def kleP (x:DfaD):Prop:=kleK x x.next.length x.next.length∧(kleE x x.next.length).post.length≤60
theorem Zjm (x:DfaD) (k i j:Nat):∃ S J W,mkL 8 0 (kleT x k k k).post []=S∧mkL 4 0 (kleT x k i k).post S=J∧mkL 4 0 J (kleT x k k j).post=W∧mkL 5 0 (kleT x k i j).post W=(kleT x (k+1) i j).post∧W=(kleW x k i j).post ∧
  S.length≤(kleT x k k k).post.length+1∧J.length≤(kleT x k i k).post.length+S.length+1∧W.length≤J.length+(kleT x k k j).post.length+1∧(kleT x (k+1) i j).post.length≤(kleT x k i j).post.length+W.length+1∧1≤(kleT x k k k).post.length :=
 ⟨(Zfs (kleT x k k k)).post,(Zfv (kleT x k i k) (Zfs (kleT x k k k))).post,(kleW x k i j).post,Zpc _,Zk9 _ _,Zk9 _ _,Zgm _ _,rfl,ZmS _,Zjr _ _,Zjr _ _,ZeE _ _,ZaE _⟩
theorem Zjo {x:DfaD} {N j:Nat} (hN:N=x.next.length) (h:enD x j=true):mkL 5 0 (kleE x j).post (kleT x N 0 j).post=(kleE x (j+1)).post:=by have h:x.ends.getD j false=true:=h;rw[Zgm,kleE,if_pos h,hN]
theorem Zjp {x:DfaD} {j:Nat} (h:enD x j=false):kleE x (j+1)=kleE x j:=by have h:x.ends.getD j false=false:=h;rw[kleE,h,if_neg (by decide)]
def RKx (x:DfaD) (w:World) (e:Ending) (w':World):Prop:=∃ g m c b,e = .returned (.tuple #[.slice g m c,.bool b])∧(kleP x→b=true∧m=(kleE x x.next.length).post.length∧Pairs 0 w' (.slice g m c) (kleE x x.next.length).post)∧(¬ kleP x→b=false)∧Below w.heap.size w w'
def Ent.know (F:Ent) (R:World→Prop):Ent:=⟨F.foot,fun w=>F.holds w∧∀ u,F.holds u→R u,fun a b h hk=>⟨F.stable a b h.1 hk,h.2⟩⟩
theorem St.know {w0 w:World} {L:List Ent} (h:St w0 w L) (k:Nat) {F:Ent} {R:World→Prop} (hk:L[k]? = some (Ent.know F R)):R w:=by have h1:=(h.has k _ hk).1;exact h1.2 w h1.1
theorem Zau {L:List Ent} {u:World} (h:(Ent.all L).holds u) (k:Nat) {F:Ent} {R:World→Prop} (hk:L[k]? = some (Ent.know F R)):R u:=by have h1:=h _ (List.mem_of_getElem? hk);exact h1.2 u h1.1
theorem Zb0 {L:List Ent} {u:World} (h:(Ent.all L).holds u) (k:Nat) {e size n:Nat} {v:Value} {cs:List Value} (hk:L[k]? = some (Ent.row e size v n cs)):u.ownsRow 0 e size v n cs:=h _ (List.mem_of_getElem? hk)
theorem St.knowAll {w0 w:World} {A R:List Ent} (h:St w0 w (A++R)) {P:World→Prop} (hP:∀ u,(Ent.all R).holds u→P u):St w0 w (A++[Ent.know (Ent.all R) P]):=by
 have h1:=(St.pack (A:=A) h).same A.length (x:=Ent.all R) (by simp) (Ent.know (Ent.all R) P) (fun h2=>⟨h2,hP⟩) (fun _ hk=>hk)
 rwa [show(A++[Ent.all R]).set A.length (Ent.know (Ent.all R) P)=A++[Ent.know (Ent.all R) P] by simp] at h1
theorem St.know0 {w0 w:World} {L:List Ent} (h:St w0 w L) {P:World→Prop} (hP:∀ u,P u):St w0 w (L++[Ent.know Ent.nil P]) :=
 h.add (Below.refl _ _) (Ent.know Ent.nil P) ⟨trivial,fun u _=>hP u⟩ fun _ hk=>hk.elim
theorem St.knowMore {w0 w:World} {L:List Ent} (h:St w0 w L) (k:Nat) {F:Ent} {R P:World→Prop} (hk:L[k]? = some (Ent.know F R)) (hP:∀ u,R u→P u):St w0 w (L.set k (Ent.know F P)) :=
 h.same k hk (Ent.know F P) (fun h=>⟨h.1,fun u hu=>hP u (h.2 u hu)⟩) fun _ hf=>hf
def RowX (u:World) (r:Value) (n:Nat) (cs:List Value) (M:Nat→List (Int × Int)):Prop :=
 (∃ b c,r = .slice (some ⟨b,0,none⟩) n c∧n≤c∧c≤9223372036854775807∧∀ j,j<n→u.cell? ⟨b,j,none⟩=some (cs.getD j undef))∧∀ j,j<n→Pairs 0 u (cs.getD j undef) (M j)
def TabI (u:World) (i n:Nat) (zs:List Value) (css:List (List Value)) (M:Nat→Nat→List (Int × Int)):Prop:=∀ q,q<i→RowX u (zs.getD q undef) n (css.getD q []) (M q)
def TabX (u:World) (v:Value) (n:Nat) (zs:List Value) (css:List (List Value)) (M:Nat→Nat→List (Int × Int)):Prop :=
 (∃ b c,v = .slice (some ⟨b,0,none⟩) n c∧n≤c∧c≤9223372036854775807∧∀ q,q<n→u.cell? ⟨b,q,none⟩=some (zs.getD q undef))∧TabI u n n zs css M
theorem Zqz {cs:List Value} {j:Nat} (hj:j<cs.length):cs[j]? = some (cs.getD j undef):=by rw[List.getD_eq_getElem?_getD,List.getElem?_eq_getElem hj];rfl
theorem Zi4 {u:World} {e n:Nat} {r:Value} {cs:List Value} (hr:u.ownsRow 0 e 1 r n cs) (hn:0<n):∃ b c,r = .slice (some ⟨b,0,none⟩) n c∧n≤c∧c≤9223372036854775807∧∀ j,j<n→u.cell? ⟨b,j,none⟩=some (cs.getD j undef):=by
 have hl:cs.length=n:=by rw[hr.1,Nat.mul_one]
 rcases hr.2 with⟨-,h1⟩|⟨g,cap,cur,h1,-,-,h4,h5,-⟩
 ·omega
 subst h1;exact⟨g,cap,rfl,h4,h5,fun j hj=>(hr.cellAt j (by omega)).trans (Zqz (by omega))⟩
theorem Zna {u:World} {e n:Nat} {r:Value} {cs:List Value} {M:Nat→List (Int × Int)} (hr:u.ownsRow 0 e 1 r n cs) (hn:0<n) (hP:∀ j,j<n→Pairs 0 u (cs.getD j undef) (M j)):RowX u r n cs M:=⟨Zi4 hr hn,hP⟩
theorem ZhR {u:World} {e n:Nat} {v:Value} {zs:List Value} {css:List (List Value)} {M:Nat→Nat→List (Int × Int)} (hr:u.ownsRow 0 e 1 v n zs) (hn:0<n) (hP:TabI u n n zs css M):TabX u v n zs css M:=⟨Zi4 hr hn,hP⟩
theorem TabI.more {u:World} {i n:Nat} {zs zs':List Value} {css:List (List Value)} {cs:List Value} {M:Nat→Nat→List (Int × Int)} (h:TabI u i n zs css M) (hc:css.length=i)
  (hz:∀ q,q<i→zs'.getD q undef=zs.getD q undef) (hr:RowX u (zs'.getD i undef) n cs (M i)):TabI u (i+1) n zs' (css++[cs]) M:=by
 intro q hq;by_cases hqi:q=i
 ·subst hqi;rw[show(css++[cs]).getD q []=cs by rw[List.getD_eq_getElem?_getD,List.getElem?_append_right (by omega),hc];simp];exact hr
 rw[show(css++[cs]).getD q []=css.getD q [] by rw[List.getD_eq_getElem?_getD,List.getElem?_append_left (by omega),← List.getD_eq_getElem?_getD],hz q (by omega)];exact h q (by omega)
theorem TabI.same {u:World} {i n:Nat} {zs zs':List Value} {css:List (List Value)} {M:Nat→Nat→List (Int × Int)} (h:TabI u i n zs css M) (hz:∀ q,q<i→zs'.getD q undef=zs.getD q undef):TabI u i n zs' css M:=fun q hq=>by rw[hz q hq];exact h q hq
theorem Zjv {cs:List Value} {v:Value} {j:Nat} (hj:j=cs.length):(cs++[v]).getD j undef=v:=by subst hj;simp
theorem Zjw {cs:List Value} {v:Value} {j:Nat} (hj:j<cs.length):(cs++[v]).getD j undef=cs.getD j undef:=by rw[List.getD_eq_getElem?_getD,List.getElem?_append_left hj,← List.getD_eq_getElem?_getD]
theorem ZgH {cs:List Value} {v:Value} {i q:Nat} (hq:q≠i):(cs.set i v).getD q undef=cs.getD q undef:=by rw[List.getD_eq_getElem?_getD,List.getElem?_set_ne (Ne.symm hq),← List.getD_eq_getElem?_getD]
theorem Zmy {u:World} {j:Nat} {cs:List Value} {v:Value} {M:Nat→List (Int × Int)} (h:∀ q,q<j→Pairs 0 u (cs.getD q undef) (M q)) (hl:cs.length=j) (hv:Pairs 0 u v (M j)):∀ q,q<j+1→Pairs 0 u ((cs++[v]).getD q undef) (M q):=by
 intro q hq;by_cases hqj:q=j
 ·rw[Zjv (by omega),hqj];exact hv
 rw[Zjw (by omega)];exact h q (by omega)
def GrowP (u:World) (i n j:Nat) (zs:List Value) (css:List (List Value)) (cs:List Value) (M:Nat→Nat→List (Int × Int)):Prop:=TabI u i n zs css M∧∀ q,q<j→Pairs 0 u (cs.getD q undef) (M i q)
theorem GrowP.more {u:World} {i n j:Nat} {zs zs':List Value} {css:List (List Value)} {cs:List Value} {v:Value} {M:Nat→Nat→List (Int × Int)} (h:GrowP u i n j zs css cs M) (hl:cs.length=j)
  (hz:∀ q,q<i→zs'.getD q undef=zs.getD q undef) (hv:Pairs 0 u v (M i j)):GrowP u i n (j+1) zs' css (cs++[v]) M:=⟨h.1.same hz,Zmy h.2 hl hv⟩
theorem GrowP.done {u:World} {i n e:Nat} {r:Value} {zs:List Value} {css:List (List Value)} {cs:List Value} {M:Nat→Nat→List (Int × Int)} (h:GrowP u i n n zs css cs M) (hr:u.ownsRow 0 e 1 r n cs) (hn:0<n) (hc:css.length=i)
  (hz:zs.getD i undef=r):TabI u (i+1) n zs (css++[cs]) M:=h.1.more hc (fun _ _=>rfl) (by rw[hz];exact Zna hr hn h.2)
theorem GrowP.snoc {u:World} {i n e:Nat} {r:Value} {zs:List Value} {css:List (List Value)} {cs:List Value} {M:Nat→Nat→List (Int × Int)} (h:GrowP u i n n zs css cs M) (hr:u.ownsRow 0 e 1 r n cs) (hn:0<n) (hc:css.length=i)
  (hz:zs.length=i):TabI u (i+1) n (zs++[r]) (css++[cs]) M:=h.1.more hc (fun q hq=>Zjw (by omega)) (by rw[Zjv (by omega)];exact Zna hr hn h.2)
theorem TabX.at {v:Value} {n:Nat} {zs:List Value} {css:List (List Value)} {M:Nat→Nat→List (Int × Int)} {w:World} (h:TabX w v n zs css M) {i j:Nat} (hi:i<n) (hj:j<n) :
  ∃ b c br cr g cc,v = .slice (some ⟨b,0,none⟩) n c∧zs.getD i undef = .slice (some ⟨br,0,none⟩) n cr∧(css.getD i []).getD j undef = .slice g (M i j).length cc:=by
 obtain⟨⟨b,c,rfl,-,-,-⟩,h2⟩:=h;obtain⟨⟨br,cr,h3,-,-,-⟩,h4⟩:=h2 i hi;obtain⟨g,cc,h5,-⟩:=(h4 j hj).form;exact⟨b,c,br,cr,g,cc,rfl,h3,h5⟩
theorem TabX.row {n b c br cr:Nat} {zs:List Value} {css:List (List Value)} {M:Nat→Nat→List (Int × Int)} {u:World} (h:TabX u (.slice (some ⟨b,0,none⟩) n c) n zs css M) {i:Nat} (hi:i<n) (hz:zs.getD i undef = .slice (some ⟨br,0,none⟩) n cr) :
  u.cell? ⟨b,i,none⟩=some (.slice (some ⟨br,0,none⟩) n cr):=by
 obtain⟨⟨b',c',hb,-,-,h1⟩,-⟩:=h;simp only[Value.slice.injEq,w_9,Addr.mk.injEq,and_true,true_and] at hb;obtain⟨rfl,rfl⟩:=hb;rw[h1 i hi,hz]
theorem TabX.cell {n br cr cc:Nat} {g:Option Addr} {v:Value} {zs:List Value} {css:List (List Value)} {M:Nat→Nat→List (Int × Int)} {u:World} (h:TabX u v n zs css M) {i j:Nat} (hi:i<n) (hj:j<n) (hz:zs.getD i undef = .slice (some ⟨br,0,none⟩) n cr)
  (hc:(css.getD i []).getD j undef = .slice g (M i j).length cc):u.cell? ⟨br,j,none⟩=some (.slice g (M i j).length cc)∧Pairs 0 u (.slice g (M i j).length cc) (M i j):=by
 obtain⟨-,h2⟩:=h;obtain⟨⟨b',c',hb,-,-,h3⟩,h4⟩:=h2 i hi;rw[hz] at hb;simp only[Value.slice.injEq,w_9,Addr.mk.injEq,and_true,true_and] at hb;obtain⟨rfl,rfl⟩:=hb;have h5:=h4 j hj;rw[hc] at h5;exact⟨by rw[h3 j hj,hc],h5⟩
theorem TabX.form {v:Value} {n:Nat} {zs:List Value} {css:List (List Value)} {M:Nat→Nat→List (Int × Int)} {w:World} (h:TabX w v n zs css M):∃ b c,v = .slice (some ⟨b,0,none⟩) n c:=by obtain⟨⟨b,c,h1,-⟩,-⟩:=h;exact⟨b,c,h1⟩
theorem TabX.rowf {v:Value} {n:Nat} {zs:List Value} {css:List (List Value)} {M:Nat→Nat→List (Int × Int)} {w:World} (h:TabX w v n zs css M) {i:Nat} (hi:i<n):∃ b c,zs.getD i undef = .slice (some ⟨b,0,none⟩) n c:=by obtain⟨⟨b,c,h1,-⟩,-⟩:=h.2 i hi;exact⟨b,c,h1⟩
theorem TabX.cellf {v:Value} {n:Nat} {zs:List Value} {css:List (List Value)} {M:Nat→Nat→List (Int × Int)} {w:World} (h:TabX w v n zs css M) {i j:Nat} (hi:i<n) (hj:j<n):∃ g c,(css.getD i []).getD j undef = .slice g (M i j).length c:=by obtain⟨g,c,h1,-⟩:=((h.2 i hi).2 j hj).form;exact⟨g,c,h1⟩
theorem ZiE {w:World} {v1:Value} {d:DfaD} (h:IntSS 0 w v1 d.next) (hd:Zae d.next d.ends=true):∃ q o cap,v1 = .slice (some ⟨q,o,none⟩) d.next.length cap∧d.next.length≤cap∧cap≤9223372036854775807∧q<w.heap.size∧∀ i,i<d.next.length→∃ z t s,w.cell? ⟨q,o+i,none⟩=some (.slice (some ⟨z,t,none⟩) 3 s)∧3≤s∧s≤9223372036854775807∧z<w.heap.size∧∀ c,c<3→w.cell? ⟨z,t+c,none⟩=some (.int .i64 ((nxD d i c:Nat):Int)):=by have hf:=Zaz hd;obtain⟨a,cap,rfl,h1,h2,h3⟩:=h.form;obtain⟨q,o,rfl,_,hq,hr⟩:=h3 hf.1;refine⟨q,o,cap,rfl,h1,h2,hq,fun i hi => ?_⟩;obtain⟨a',s,e1,e2,e3,e4⟩:=hr i hi;obtain⟨hl,hin⟩:=ZaI hd hi;rw[hl] at e1 e2 e4;obtain⟨z,t,rfl,_,hz,e5⟩:=e4 (by omega);refine⟨z,t,s,e1,e2,e3,hz,fun c hc => ?_⟩;rw[e5 c hc];have h0:=hin c hc;unfold nxD;rw[Int.toNat_of_nonneg h0.1]
theorem ZlE {w:World} {v1:Value} {d:DfaD} (h:Bools 0 w v1 d.ends) (hd:Zae d.next d.ends=true):∃ q o cap,v1 = .slice (some ⟨q,o,none⟩) d.ends.length cap∧d.ends.length≤cap∧cap≤9223372036854775807∧q<w.heap.size∧∀ i,i<d.next.length→w.cell? ⟨q,o+i,none⟩=some (.bool (enD d i)):=by have hl:=Zad hd;obtain⟨a,cap,rfl,h1,h2,h3⟩:=h.form;obtain⟨q,o,rfl,_,hq,hr⟩:=h3 (by omega);exact⟨q,o,cap,rfl,h1,h2,hq,fun i hi=>hr i (by omega)⟩
theorem Zbp {u:World} {e:Nat} {v:Value} {xs:List (Int × Int)} (hr:u.ownsRow 0 e 2 v xs.length (xs.flatMap Zab)):Pairs 0 u v xs:=((Zaa hr).sl (by omega)).mono (Nat.zero_le _)
theorem ZjF {x:DfaD} {i j c:Nat} (h:nxD x i c=j):mkL 5 0 (dirC x i j c).post (Ex.ltr (Fin.ofNat 3 c)).post=(dirC x i j (c+1)).post:=by rw[Zgm,dirC,if_pos h]
theorem ZjG {x:DfaD} {i j c:Nat} (h:nxD x i c≠j):dirC x i j (c+1)=dirC x i j c:=by rw[dirC,if_neg h]
theorem Zlb {c:Nat} (hc:c<3):(Ex.ltr (Fin.ofNat 3 c)).post=[(3,(c:Int))]:=by show [(3,(((Fin.ofNat 3 c).val:Nat):Int))]=_;rw[show(Fin.ofNat 3 c).val=c from Nat.mod_eq_of_lt (by omega)]
theorem Zmu (x:DfaD) (i j:Nat) (v:Value) (w:World) (hd:Zae x.next x.ends=true) (hi:i<x.next.length) (_:j<x.next.length) (h:DfaR 0 w v x) :
  Calls Tryz.prog 84 #[v,.int .i64 (i:Int),.int .i64 (j:Int)] w fun e w'=>RQm (fun _=>True) (dirE x i j).post w e w':=by
 obtain⟨v1,v2,rfl,g1,g2⟩:=h;have hf:=Zaz hd;obtain⟨b1,o1,c1,rfl,hc1,hc2,hb1,hrow⟩:=ZiE g1 hd;obtain⟨q,t0,s0,hq,hs1,hs2,hqb,hcs⟩:=hrow i hi;have hCl:=fun c=>ZfQ x i j c
 have hn40:x.next.length≤40:=by have:=Zad hd;omega
 obtain⟨N,hN⟩:=eI (x.next.length);rw[← hN] at hc1 hi hn40;rw[← hN];have HS:=qh ((St.start w).alloc _ rfl #[.slice (some ⟨b1,o1,none⟩) N c1,v2] 32);have e0:=HS.out.cell (v:=.slice (some ⟨b1,o1,none⟩) N c1) 0 0 rfl rfl;have Hcs:=qh hcs;have HCl:=qh hCl;have Hq:=qh hq;have hiI:(i:Int)<(N:Int):=by omega
 obtain⟨G,hG⟩:∃ M,(dirE x i j).post=M:=⟨_,rfl⟩;rw[hG];have HhG:=qh hG;clear hG;replace hN:=qh hN;have Hhd:=qh hd;clear hd;clear g1 g2 hrow hcs hCl hf hq
 go_enter Tryz.func84, Tryz.ntmps84
 go_wp2_with fail;refine(Zdh 1 _).mono ?_;rintro e w2 ⟨a2,c2,rfl,hS2⟩;have HS2:Hid (St w w2 [Ent.box w.heap.size #[.slice (some ⟨b1,o1,none⟩) N c1,v2] 32,Ent.row 55 2 (.slice a2 1 c2) 1 [.int .i64 1,.int .i64 0]]):=qh (HS.out.cat hS2);have HS3:=qh (HS2.out.knowAll (A:=[Ent.box w.heap.size #[.slice (some ⟨b1,o1,none⟩) N c1,v2] 32]) (P:=fun u=>Pairs 0 u (.slice a2 1 c2) [(1,0)]) fun u h=>Zbp (xs:=[(1,0)]) (Zb0 h 0 rfl));clear hS2 HS2 e0;have e0:=HS3.out.cell (v:=.slice (some ⟨b1,o1,none⟩) N c1) 0 0 rfl rfl;have e1:=(bcell HS3.out.bel b1 _ hb1).trans Hq.out;go_wp2_with fail;clear e0 e1
 go_loopw [7,17] (fun ev cv wr=>∃ (c k:Nat) (g:Option Addr) (F:Ent),cv = .int .i64 (c:Int)∧c≤3∧ev = .slice g (dirC x i j c).post.length k∧St w wr [Ent.box w.heap.size #[.slice (some ⟨b1,o1,none⟩) N c1,v2] 32,Ent.know F (fun u=>Pairs 0 u (.slice g (dirC x i j c).post.length k) (dirC x i j c).post)]) (fun _ cv _=>3-(intOf cv).toNat)
 case atStart=>exact⟨0,c2,a2,_,rfl,by omega,rfl,HS3.out⟩
 case round =>
  obtain⟨c,k,g,F,rfl,hc,rfl,hS⟩:=hrel;have HS4:=qh hS;clear hS HS3;have hP:=HS4.out.know 1 rfl;have hl:=HCl.out c;by_cases hc3:c<3
  ·have hcI:(c:Int)<3:=by omega
   have hwc:IntKind.i64.wrap ((c:Int)+1)=(c:Int)+1:=IntWalk.i64_in _ (by omega);have hwt:t0+c=t0+c:=rfl;have r0:=(bcell HS4.out.bel q _ hqb).trans (Hcs.out c hc3);by_cases hz:nxD x i c=j
   ·as_aux_lemma =>
    have hst:=ZjF hz;rw[Zlb hc3] at hst;obtain⟨E,hE⟩:=eI ((dirC x i j c).post);obtain⟨G,hG⟩:=eI ((dirC x i j (c+1)).post);rw[← hE,← hG] at hst;rw[← hE] at hl hP HS4;rw[← hE];rw[hz] at r0;have HS5:=qh ((HS4.out.alloc wr.heap.size rfl #[.int .i64 3,.int .i64 (c:Int)] 55).boxrow 2 1 2 [.int .i64 3,.int .i64 (c:Int)] rfl rfl (by unfold maxLen;omega));have HX:=qh (HS5.out.know 1 rfl);have HY:=qh (Zbp (xs:=[(3,(c:Int))]) (Za2 (HS5.out.row 2 rfl) (Nat.zero_le _)));have Hhst:=qh hst;clear hst;replace hE:=qh hE;have HhG:=qh hG;clear hG;have Hhz:=qh hz;clear hz;clear hP;go_wp2_with fail;refine(Zdj E [(3,(c:Int))] G Hhst.out _ _ _ (by omega) (by simp) HX.out HY.out).mono ?_;rintro e w6 ⟨g6,k6,F6,rfl,hS6⟩;have hS7:=(HS5.out.cat hS6).knowAll (A:=[Ent.box w.heap.size #[.slice (some ⟨b1,o1,none⟩) N c1,v2] 32]) (P:=fun u=>Pairs 0 u (.slice g6 G.length k6) G) fun u h=>ZeN h 2 rfl ⟨Zau h 0 rfl,Zbp (xs:=[(3,(c:Int))]) (Zb0 h 1 rfl)⟩
    have HS7:=qh hS7;clear hS6 hS7;go_wp2_with fail;go_roundw
    case rel =>have h9:=HS7.out;rw[HhG.out] at h9;exact⟨c+1,k6,g6,_,by go_num,by omega,by rw[HhG.out],h9⟩
    case measure=>simp[intOf];omega
   as_aux_lemma =>
   have hzI:¬ ((nxD x i c:Nat):Int)=(j:Int):=by omega
   have hst:=ZjG hz;have Hhst:=qh hst;clear hst;have Hhz:=qh hz;clear hz;clear hP;go_wp2_with fail;go_roundw
   case rel =>
    refine⟨c+1,k,g,F,by go_num,by omega,?_,?_⟩
    ·rw[Hhst.out]
    rw[Hhst.out];exact HS4.out
   case measure=>simp[intOf];omega
  have hcI:¬ (c:Int)<3:=by omega
  have hc9:c=3:=by omega
  subst hc9;by_cases hij:i=j
  ·as_aux_lemma =>
   have hst:mkL 5 0 (dirC x i j 3).post Ex.one.post=G:=by rw[← HhG.out,Zgm,dirE,if_pos hij]
   obtain⟨E,hE⟩:=eI ((dirC x i j 3).post);rw[← hE] at hst;rw[← hE] at hl hP HS4;rw[← hE];have hijI:(i:Int)=(j:Int):=by omega
   have Hhst:=qh hst;clear hst;replace hE:=qh hE;clear hP;go_wp2_with fail;refine(Zdh 2 _).mono ?_;rintro e w5 ⟨a5,c5,rfl,hS5⟩;have HS5:Hid (St w w5 [Ent.box w.heap.size #[.slice (some ⟨b1,o1,none⟩) N c1,v2] 32,Ent.know F (fun u=>Pairs 0 u (.slice g E.length k) E),Ent.row 55 2 (.slice a5 1 c5) 1 [.int .i64 2,.int .i64 0]]):=qh (HS4.out.cat hS5);have HX:=qh (HS5.out.know 1 rfl);have HY:=qh (Zbp (xs:=[(2,0)]) (Za2 (HS5.out.row 2 rfl) (Nat.zero_le _)));clear hS5;go_wp2_with fail;refine(Zdj E [(2,0)] G Hhst.out _ _ _ (by omega) (by simp) HX.out HY.out).mono ?_;rintro e w6 ⟨g6,k6,F6,rfl,hS6⟩;have HS6:=qh ((HS5.out.cat hS6).pick [1,2,3] (by decide));clear hS6;go_wp2_with fail;go_ret;exact Zkc HS6.out fun u _ h=>ZeN h 2 rfl ⟨Zau h 0 rfl,Zbp (xs:=[(2,0)]) (Zb0 h 1 rfl)⟩
  as_aux_lemma =>
  have hst:(dirC x i j 3).post=G:=by rw[← HhG.out,dirE,if_neg hij]
  have hijI:¬ (i:Int)=(j:Int):=by omega
  rw[hst] at hl HS4 ⊢;have Hhst:=qh hst;clear hst;clear hP;go_wp2_with fail;go_ret;exact Zkc (HS4.out.pick [1] (by decide)) fun u _ h=>Zau h 0 rfl
theorem ZhF (xs:List (Int × Int)) (hp:1≤xs.length) (v:Value) (w:World) (hl:xs.length≤1000000) (h:Pairs 0 w v xs) :
  Calls Tryz.prog 28 #[v] w fun e w'=>RPo xs w e w':=by
 have hx:=h;obtain⟨a,cap,rfl,hc1,hc2,hr⟩:=h.form;obtain⟨b,off,rfl,-⟩:=hr (by omega);obtain⟨i0,hi,hz0,hz1,hz2⟩:=info_parts Tryz.infoPart;have HS0:=qh (((St.start w).alloc _ rfl #[] 55).boxrow 0 0 2 [] rfl rfl (Nat.zero_le _));have HX:=qh (hx.below HS0.out.bel);have qT:=fun (w':World)=>Lib.run_eql_slice_nil (P:=Tryz.prog) w' 23 55 (some ⟨b,off,none⟩) xs.length cap 0 0 Tryz.underlying23
 simp only[Option.isNone] at qT;replace hi:=qh hi;have Hhz0:=qh hz0;clear hz0;have Hhz1:=qh hz1;clear hz1;have Hhz2:=qh hz2;clear hz2;clear hr hx h
 go_enter Tryz.func28, Tryz.ntmps28
 go_wp2_with (at_builtin;refine Zal _ rfl _ _ _ rfl _ 55 i0 (.agg #[.int .i64 0,.int .i64 0]) 2 16 Tryz.underlying23 hi.out Hhz0.out Hhz1.out Hhz2.out rfl (by omega) _ 0 _ rfl (HS0.out.row 0 rfl) _ xs.length (xs.flatMap Zab) rfl HX.out Zdu (by unfold maxLen;omega) (by omega) HS0.out.size ?_;intro a6 c6 w6 hown6 hgrow6 hat6;have hS6:=HS0.out.appS 0 rfl hown6 hgrow6 hat6;simp only[Nat.zero_add,List.nil_append] at hS6;(try simp only[Nat.zero_add]);have HS6:=qh hS6;clear hown6 hgrow6 hat6 hS6);go_ret;exact⟨a6,c6,rfl,HS6.out⟩
end Go.Proofs.YtehmjmjedopkkaaGreat
