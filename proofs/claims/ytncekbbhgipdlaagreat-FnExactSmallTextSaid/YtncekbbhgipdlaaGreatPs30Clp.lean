/-
  The walks over the program's isKind, ends, joined, either, both, not, star and made.
  Conditions: the lists of parts read as such; the operand of KindNot and KindStar is not empty.
-/
import Derived.Test.YtncekbbhgipdlaaGreatPs29Sms
set_option maxHeartbeats 16000000
set_option maxRecDepth 100000
namespace Go.Proofs.YtncekbbhgipdlaaGreat
open Go.RowKit
theorem Zga {M xs ys:List (Int × Int)} {v1 v2:Value} {w w':World} {a:Option Addr} {n c:Nat} {L:List Ent} (hS:St w w' L) (i:Nat) (hi:L[i]? = some (Ent.row 62 2 (.slice a n c) n (M.flatMap Zaa))) (hn:M.length=n):RPm M xs ys v1 v2 w (.returned (.slice a n c)) w':=by subst hn;refine⟨_,Ent.row 62 2 (.slice a M.length c) M.length (M.flatMap Zaa),rfl,?_,fun u _ _ h=>Zad h⟩;have h:=hS.pick [i] (by simp);simpa [List.getD_eq_getElem?_getD,hi] using h
theorem Zba (es:List (Int × Int)) (k:Int) (v:Value) (w:World) (h:Pairs 0 w v es) (r:Bool) (hr:isK es k=r) :
  Calls Tryz.prog 92 #[v,.int .i64 k] w fun e w'=>e = .returned (.bool r)∧w=w':=by
 obtain⟨a,c,rfl,hc1,hc2,hrd⟩:=h.form;clear h;unfold isK at hr;by_cases h1:es.length=1
 ·rw[decide_eq_true h1,Bool.true_and] at hr;obtain⟨b,o,rfl,-,hbl,hcs⟩:=hrd (by omega);have g1:=(hcs 0 (by omega)).1;obtain⟨p,hp⟩:=eI ((es.getD 0 (0,0)).1);rw[← hp] at g1 hr;have g1':w.cell? ⟨b,o,none⟩=some (.int .i64 p):=g1;obtain⟨n,hn⟩:=eI (es.length);rw[← hn] at h1 hc1;rw[← hn];subst h1;replace hn:=qh hn;have Hhp:=qh hp;clear hp;clear hcs hrd g1;by_cases hpk:p=k
  ·rw[decide_eq_true hpk] at hr;subst hr hpk
   go_enter Tryz.func92, Tryz.ntmps92
   go_wp2;go_ret;exact⟨ZaT (by simp),rfl⟩
  rw[decide_eq_false hpk] at hr;subst hr;obtain⟨q1,q2,q3,q4⟩:=ZaH hpk
  go_enter Tryz.func92, Tryz.ntmps92
  go_wp2;go_ret;exact⟨rfl,rfl⟩
 rw[decide_eq_false h1,Bool.false_and] at hr;subst hr;have h1I:¬ (es.length:Int)=1:=by omega
 obtain⟨q1,q2,q3,q4⟩:=ZaH h1I;clear hrd
 go_enter Tryz.func92, Tryz.ntmps92
 go_wp2;go_ret;exact⟨rfl,rfl⟩
theorem ZkV (es:List (Int × Int)) (k:Int) (v:Value) (w:World) (h:Pairs 0 w v es) (hne:1≤es.length) (r:Bool) (hr:decide (ZcT es=k)=r) :
  Calls Tryz.prog 91 #[v,.int .i64 k] w fun e w'=>e = .returned (.bool r)∧w=w':=by
 obtain⟨a,c,rfl,hc1,hc2,hrd⟩:=h.form;clear h;obtain⟨b,o,rfl,-,hbl,hcs⟩:=hrd (by omega);obtain⟨m,hm⟩:∃ m,es.length=m+1:=⟨es.length-1,by omega⟩;have g1:=(hcs m (by omega)).1;have hL:(es.getD m (0,0)).1=ZcT es:=by unfold ZcT;rw[hm];rfl
 rw[hL] at g1;obtain⟨L,hLL⟩:=eJ (ZcT es);rw[hLL] at g1 hr;rw[hm] at hc1 ⊢;have hw1:IntKind.i64.wrap ((m:Int)+1-1)=(m:Int):=by rw[IntWalk.i64_in _ (by omega)];omega
 replace hLL:=qh hLL;have Hhm:=qh hm;clear hm;replace hL:=qh hL;clear hcs hrd;by_cases hk:L=k
 ·rw[decide_eq_true hk] at hr;subst hr hk
  go_enter Tryz.func91, Tryz.ntmps91
  go_wp2;go_ret;exact⟨ZaT (by simp),rfl⟩
 rw[decide_eq_false hk] at hr;subst hr;obtain⟨q1,q2,q3,q4⟩:=ZaH hk
 go_enter Tryz.func91, Tryz.ntmps91
 go_wp2;go_ret;exact⟨rfl,rfl⟩
theorem ZhE (xs ys:List (Int × Int)) (v1 v2:Value) (w:World) (hl:xs.length≤100000) (h1:Pairs 0 w v1 xs) (h2:Pairs 0 w v2 ys) :
  Calls Tryz.prog 130 #[v1,v2] w fun e w'=>e = .returned (.bool (decide (xs=ys)))∧Below w.heap.size w w':=by
 obtain⟨a1,c1,rfl,hc1,hc2,hr1⟩:=h1.form;obtain⟨a2,c2,rfl,hd1,hd2,hr2⟩:=h2.form;have Hr1:=qh hr1;have Hr2:=qh hr2;clear h1 h2 hr1 hr2;by_cases hln:xs.length=ys.length
 ·obtain⟨n,hn⟩:=eI (xs.length);have hn2:n=ys.length:=hn.trans hln;rw[← hn] at hc1 Hr1 hl ⊢;rw[← hn2] at hd1 Hr2 ⊢;replace hn:=qh hn;have Hhn2:=qh hn2;clear hn2;clear hln
  go_enter Tryz.func130, Tryz.ntmps130
  go_wp2
  go_loopw [13] (fun vi wr=>∃ i:Nat,vi = .int .i64 (i:Int)∧i≤n∧(∀ j,j<i→xs.getD j (0,0)=ys.getD j (0,0))∧Below w.heap.size w wr) (fun vi _=>n-(intOf vi).toNat)
  case atStart=>exact⟨0,rfl,Nat.zero_le _,fun j hj=>by omega,Below.refl _ _⟩
  case round =>
   obtain⟨i,rfl,hi,hsm,hb⟩:=hrel;have Hb:=qh hb;have Hsm:=qh hsm;clear hb hsm;by_cases hlt:i<n
   ·have hi1:(i:Int)<(n:Int):=by omega
    have hw1:IntKind.i64.wrap ((i:Int)+1)=(i:Int)+1:=IntWalk.i64_in _ (by omega);obtain⟨b1,o1,rfl,-,hl1,g1⟩:=Hr1.out (by omega);obtain⟨b2,o2,rfl,-,hl2,g2⟩:=Hr2.out (by omega);have k1:=(bcell Hb.out b1 _ hl1).trans (g1 i hlt).1;have k2:=(bcell Hb.out b1 _ hl1).trans (g1 i hlt).2;have k3:=(bcell Hb.out b2 _ hl2).trans (g2 i hlt).1;have k4:=(bcell Hb.out b2 _ hl2).trans (g2 i hlt).2;by_cases he:xs.getD i (0,0)=ys.getD i (0,0)
    ·rw[← he] at k3 k4;obtain⟨p,hp⟩:=eI (xs.getD i (0,0));rw[← hp] at k1 k2 k3 k4;obtain⟨x,y⟩:=p;simp only at k1 k2 k3 k4;have Hhp:=qh hp;clear hp;replace he:=qh he;clear g1 g2;go_wp2
     go_region
     go_wp2;go_roundw
     case rel =>
      refine⟨i+1,by simp,by omega,fun j hj => ?_,Hb.out.drew⟩;by_cases hji:j<i
      ·exact Hsm.out j hji
      obtain rfl:j=i:=by omega
      exact he.out
     case measure=>simp[intOf];omega
    have hne:decide (xs=ys)=false:=decide_eq_false fun h=>he (by rw[h])
    obtain⟨p,hp⟩:=eI (xs.getD i (0,0));obtain⟨q,hq⟩:=eI (ys.getD i (0,0));rw[← hp] at k1 k2 he;rw[← hq] at k3 k4 he;obtain⟨x,y⟩:=p;obtain⟨x',y'⟩:=q;simp only at k1 k2 k3 k4;have Hhne:=qh hne;clear hne;have Hhp:=qh hp;clear hp;have Hhq:=qh hq;clear hq;clear g1 g2;by_cases hx:x=x'
    ·have hy:y≠y':=fun h=>he (by rw[hx,h])
     subst hx;obtain⟨q1,q2,q3,q4⟩:=ZaH hy;replace he:=qh he;go_wp2
     go_region
     go_wp2;go_ret;exact⟨ZaT Hhne.out.symm,Hb.out.drew⟩
    obtain⟨q1,q2,q3,q4⟩:=ZaH hx;replace he:=qh he;go_wp2
    go_region
    go_wp2;go_ret;exact⟨ZaT Hhne.out.symm,Hb.out.drew⟩
   obtain rfl:i=n:=by omega
   have hi1:¬ (i:Int)<(i:Int):=by omega
   have hy:decide (xs=ys)=true:=decide_eq_true (List.ext_getElem (by rw[← hn.out,← Hhn2.out]) fun j h1 h2=>by
    have:=Hsm.out j (by rw[hn.out];exact h1)
    rwa [List.getD_eq_getElem?_getD,List.getElem?_eq_getElem h1,List.getD_eq_getElem?_getD,List.getElem?_eq_getElem h2] at this)
   have Hhy:=qh hy;clear hy;go_wp2;go_ret;exact⟨ZaT Hhy.out.symm,Hb.out⟩
 have hne:decide (xs=ys)=false:=decide_eq_false fun h=>hln (by rw[h])
 have hnI:¬ (xs.length:Int)=(ys.length:Int):=by omega
 obtain⟨q1,q2,q3,q4⟩:=ZaH hnI;have Hhne:=qh hne;clear hne
 go_enter Tryz.func130, Tryz.ntmps130
 go_wp2;go_ret;exact⟨ZaT Hhne.out.symm,Below.refl _ _⟩
theorem ZhA (xs ys:List (Int × Int)) (v1 v2:Value) (w:World) (hl1:xs.length≤10000) (hl2:ys.length≤10000) (h1:Pairs 0 w v1 xs) (h2:Pairs 0 w v2 ys) :
  Calls Tryz.prog 94 #[v1,v2] w fun e w'=>RPm (mkL 4 0 xs ys) xs ys v1 v2 w e w':=by
 obtain⟨a1,c1,rfl,-⟩:=h1.form;obtain⟨a2,c2,rfl,-⟩:=h2.form;obtain⟨rx1,hx1⟩:∃ r,isK xs 1=r:=⟨_,rfl⟩;obtain⟨ry1,hy1⟩:∃ r,isK ys 1=r:=⟨_,rfl⟩;obtain⟨rx2,hx2⟩:∃ r,isK xs 2=r:=⟨_,rfl⟩;obtain⟨ry2,hy2⟩:∃ r,isK ys 2=r:=⟨_,rfl⟩;have Ix1:=qh (fun (u:World) (hb:Below w.heap.size w u)=>Zba xs 1 _ u (h1.below hb) rx1 hx1);have Iy1:=qh (fun (u:World) (hb:Below w.heap.size w u)=>Zba ys 1 _ u (h2.below hb) ry1 hy1);have Ix2:=qh (fun (u:World) (hb:Below w.heap.size w u)=>Zba xs 2 _ u (h1.below hb) rx2 hx2);have Iy2:=qh (fun (u:World) (hb:Below w.heap.size w u)=>Zba ys 2 _ u (h2.below hb) ry2 hy2);have H1:=qh h1;have H2:=qh h2;have HS0:=qh (St.start w);have Hhx1:=qh hx1;clear hx1;have Hhy1:=qh hy1;clear hy1;have Hhx2:=qh hx2;clear hx2;have Hhy2:=qh hy2;clear hy2;clear h1 h2
 go_enter Tryz.func94, Tryz.ntmps94
 cases rx1 with
 | true =>
  go_wp2_with fail;refine(Ix1.out _ HS0.out.bel).mono ?_;rintro e w' ⟨rfl,rfl⟩;have hm:mkL 4 0 xs ys=[(1,0)]:=by simp[mkL,Hhx1.out]
  replace hm:=qh hm;go_wp2_with fail;refine(ZbL 1 _).mono ?_;rintro e w8 ⟨a8,c8,rfl,hS8⟩;have HS8:=qh hS8;clear hS8;go_wp2;go_ret;rw[hm.out];exact ZbW (v:=.slice a8 ([(1,0)]:List (Int × Int)).length c8) (HS0.out.cat HS8.out) fun u h=>Zad h
 | false =>
  go_wp2_with fail;refine(Ix1.out _ HS0.out.bel).mono ?_;rintro e w' ⟨rfl,rfl⟩;cases ry1 with
  | true =>
   go_wp2_with fail;refine(Iy1.out _ HS0.out.bel).mono ?_;rintro e w' ⟨rfl,rfl⟩;have hm:mkL 4 0 xs ys=[(1,0)]:=by simp[mkL,Hhx1.out,Hhy1.out]
   replace hm:=qh hm;go_wp2_with fail;refine(ZbL 1 _).mono ?_;rintro e w8 ⟨a8,c8,rfl,hS8⟩;have HS8:=qh hS8;clear hS8;go_wp2;go_ret;rw[hm.out];exact ZbW (v:=.slice a8 ([(1,0)]:List (Int × Int)).length c8) (HS0.out.cat HS8.out) fun u h=>Zad h
  | false =>
   go_wp2_with fail;refine(Iy1.out _ HS0.out.bel).mono ?_;rintro e w' ⟨rfl,rfl⟩;cases rx2 with
   | true =>
    go_wp2_with fail;refine(Ix2.out _ HS0.out.bel).mono ?_;rintro e w' ⟨rfl,rfl⟩;have hm:mkL 4 0 xs ys=ys:=by simp[mkL,Hhx1.out,Hhy1.out,Hhx2.out]
    replace hm:=qh hm;go_wp2;go_ret;rw[hm.out];exact Zcf HS0.out fun u h h2=>h2
   | false =>
    go_wp2_with fail;refine(Ix2.out _ HS0.out.bel).mono ?_;rintro e w' ⟨rfl,rfl⟩;cases ry2 with
    | true =>
     go_wp2_with fail;refine(Iy2.out _ HS0.out.bel).mono ?_;rintro e w' ⟨rfl,rfl⟩;have hm:mkL 4 0 xs ys=xs:=by simp[mkL,Hhx1.out,Hhy1.out,Hhx2.out,Hhy2.out]
     replace hm:=qh hm;go_wp2;go_ret;rw[hm.out];exact Zcf HS0.out fun u h h2=>h
    | false =>
     go_wp2_with fail;refine(Iy2.out _ HS0.out.bel).mono ?_;rintro e w' ⟨rfl,rfl⟩;have hm:mkL 4 0 xs ys=xs++ys++[(4,0)]:=by simp[mkL,Hhx1.out,Hhy1.out,Hhx2.out,Hhy2.out]
     replace hm:=qh hm;have HSb:=qh (HS0.out.alloc w.heap.size rfl #[.slice a1 xs.length c1,.slice a2 ys.length c2] 28);go_wp2_with fail;refine(ZeP 4 xs ys _ _ w.heap.size 2 _ (by omega) (by omega) (HSb.out.boxlt 0 rfl).2 (HSb.out.cell 0 0 rfl rfl) (HSb.out.cell 0 1 rfl rfl) (H1.out.below HSb.out.bel) (H2.out.below HSb.out.bel)).mono ?_;rintro e w8 ⟨a8,c8,rfl,hS8⟩;obtain⟨n8,hn8⟩:∃ n,(xs++ys++[(4,0)]:List (Int × Int)).length=n:=⟨_,rfl⟩;rw[hn8] at hS8 ⊢;have HS8:=qh hS8;have Hhn8:=qh hn8;clear hn8;clear hS8;go_wp2;go_ret;rw[hm.out];exact Zga (HSb.out.cat HS8.out) 1 rfl Hhn8.out
theorem Zjs (xs ys:List (Int × Int)) (v1 v2:Value) (w:World) (hl1:xs.length≤10000) (hl2:ys.length≤10000) (h1:Pairs 0 w v1 xs) (h2:Pairs 0 w v2 ys) :
  Calls Tryz.prog 95 #[v1,v2] w fun e w'=>RPm (mkL 5 0 xs ys) xs ys v1 v2 w e w':=by
 obtain⟨a1,c1,rfl,-⟩:=h1.form;obtain⟨a2,c2,rfl,-⟩:=h2.form;obtain⟨rx1,hx1⟩:∃ r,isK xs 1=r:=⟨_,rfl⟩;obtain⟨rs,hs⟩:∃ r,decide (xs=ys)=r:=⟨_,rfl⟩;obtain⟨ry1,hy1⟩:∃ r,isK ys 1=r:=⟨_,rfl⟩;have Ix1:=qh (fun (u:World) (hb:Below w.heap.size w u)=>Zba xs 1 _ u (h1.below hb) rx1 hx1);have hsm:=fun (u:World) (hb:Below w.heap.size w u)=>ZhE xs ys _ _ u (by omega) (h1.below hb) (h2.below hb)
 rw[hs] at hsm;have Hsm:=qh hsm;have Iy1:=qh (fun (u:World) (hb:Below w.heap.size w u)=>Zba ys 1 _ u (h2.below hb) ry1 hy1);have H1:=qh h1;have H2:=qh h2;have HS0:=qh (St.start w);have Hhx1:=qh hx1;clear hx1;have Hhs:Hid ((xs=ys)=(rs=true)):=qh (by rw[← hs,decide_eq_true_eq]);clear hs hsm;have Hhy1:=qh hy1;clear hy1;clear h1 h2
 go_enter Tryz.func95, Tryz.ntmps95
 cases rx1 with
 | true =>
  go_wp2_with fail;refine(Ix1.out _ HS0.out.bel).mono ?_;rintro e w' ⟨rfl,rfl⟩;have hm:mkL 5 0 xs ys=ys:=by simp[mkL,Hhx1.out]
  replace hm:=qh hm;go_wp2;go_ret;rw[hm.out];exact Zcf HS0.out fun u h h2=>h2
 | false =>
  go_wp2_with fail;refine(Ix1.out _ HS0.out.bel).mono ?_;rintro e w' ⟨rfl,rfl⟩;cases rs with
  | true =>
   go_wp2_with fail;refine(Hsm.out _ HS0.out.bel).mono ?_;rintro e w3 ⟨rfl,hb3⟩;have HS3:=qh (HS0.out.call hb3);clear hb3;have hm:mkL 5 0 xs ys=ys:=by simp[mkL,Hhx1.out,Hhs.out]
   replace hm:=qh hm;go_wp2;go_ret;rw[hm.out];exact Zcf HS3.out fun u h h2=>h2
  | false =>
   go_wp2_with fail;refine(Hsm.out _ HS0.out.bel).mono ?_;rintro e w3 ⟨rfl,hb3⟩;have HS3:=qh (HS0.out.call hb3);clear hb3;cases ry1 with
   | true =>
    go_wp2_with fail;refine(Iy1.out _ HS3.out.bel).mono ?_;rintro e w' ⟨rfl,rfl⟩;have hm:mkL 5 0 xs ys=xs:=by simp[mkL,Hhx1.out,Hhs.out,Hhy1.out]
    replace hm:=qh hm;go_wp2;go_ret;rw[hm.out];exact Zcf HS3.out fun u h h2=>h
   | false =>
    go_wp2_with fail;refine(Iy1.out _ HS3.out.bel).mono ?_;rintro e w' ⟨rfl,rfl⟩;have hm:mkL 5 0 xs ys=xs++ys++[(5,0)]:=by simp[mkL,Hhx1.out,Hhs.out,Hhy1.out]
    replace hm:=qh hm;have HSb:=qh (HS3.out.alloc w3.heap.size rfl #[.slice a1 xs.length c1,.slice a2 ys.length c2] 28);go_wp2_with fail;refine(ZeP 5 xs ys _ _ w3.heap.size 2 _ (by omega) (by omega) (HSb.out.boxlt 0 rfl).2 (HSb.out.cell 0 0 rfl rfl) (HSb.out.cell 0 1 rfl rfl) (H1.out.below HSb.out.bel) (H2.out.below HSb.out.bel)).mono ?_;rintro e w8 ⟨a8,c8,rfl,hS8⟩;obtain⟨n8,hn8⟩:∃ n,(xs++ys++[(5,0)]:List (Int × Int)).length=n:=⟨_,rfl⟩;rw[hn8] at hS8 ⊢;have HS8:=qh hS8;have Hhn8:=qh hn8;clear hn8;clear hS8;go_wp2;go_ret;rw[hm.out];exact Zga (HSb.out.cat HS8.out) 1 rfl Hhn8.out
theorem ZoQ (xs ys:List (Int × Int)) (v1 v2:Value) (w:World) (hl1:xs.length≤10000) (hl2:ys.length≤10000) (h1:Pairs 0 w v1 xs) (h2:Pairs 0 w v2 ys) :
  Calls Tryz.prog 96 #[v1,v2] w fun e w'=>RPm (mkL 6 0 xs ys) xs ys v1 v2 w e w':=by
 obtain⟨a1,c1,rfl,-⟩:=h1.form;obtain⟨a2,c2,rfl,-⟩:=h2.form;obtain⟨rx1,hx1⟩:∃ r,isK xs 1=r:=⟨_,rfl⟩;obtain⟨ry1,hy1⟩:∃ r,isK ys 1=r:=⟨_,rfl⟩;obtain⟨rs,hs⟩:∃ r,decide (xs=ys)=r:=⟨_,rfl⟩;have Ix1:=qh (fun (u:World) (hb:Below w.heap.size w u)=>Zba xs 1 _ u (h1.below hb) rx1 hx1);have Iy1:=qh (fun (u:World) (hb:Below w.heap.size w u)=>Zba ys 1 _ u (h2.below hb) ry1 hy1);have hsm:=fun (u:World) (hb:Below w.heap.size w u)=>ZhE xs ys _ _ u (by omega) (h1.below hb) (h2.below hb)
 rw[hs] at hsm;have Hsm:=qh hsm;have H1:=qh h1;have H2:=qh h2;have HS0:=qh (St.start w);have Hhx1:=qh hx1;clear hx1;have Hhy1:=qh hy1;clear hy1;have Hhs:Hid ((xs=ys)=(rs=true)):=qh (by rw[← hs,decide_eq_true_eq]);clear hs hsm;clear h1 h2
 go_enter Tryz.func96, Tryz.ntmps96
 cases rx1 with
 | true =>
  go_wp2_with fail;refine(Ix1.out _ HS0.out.bel).mono ?_;rintro e w' ⟨rfl,rfl⟩;have hm:mkL 6 0 xs ys=[(1,0)]:=by simp[mkL,Hhx1.out]
  replace hm:=qh hm;go_wp2_with fail;refine(ZbL 1 _).mono ?_;rintro e w8 ⟨a8,c8,rfl,hS8⟩;have HS8:=qh hS8;clear hS8;go_wp2;go_ret;rw[hm.out];exact ZbW (v:=.slice a8 ([(1,0)]:List (Int × Int)).length c8) (HS0.out.cat HS8.out) fun u h=>Zad h
 | false =>
  go_wp2_with fail;refine(Ix1.out _ HS0.out.bel).mono ?_;rintro e w' ⟨rfl,rfl⟩;cases ry1 with
  | true =>
   go_wp2_with fail;refine(Iy1.out _ HS0.out.bel).mono ?_;rintro e w' ⟨rfl,rfl⟩;have hm:mkL 6 0 xs ys=[(1,0)]:=by simp[mkL,Hhx1.out,Hhy1.out]
   replace hm:=qh hm;go_wp2_with fail;refine(ZbL 1 _).mono ?_;rintro e w8 ⟨a8,c8,rfl,hS8⟩;have HS8:=qh hS8;clear hS8;go_wp2;go_ret;rw[hm.out];exact ZbW (v:=.slice a8 ([(1,0)]:List (Int × Int)).length c8) (HS0.out.cat HS8.out) fun u h=>Zad h
  | false =>
   go_wp2_with fail;refine(Iy1.out _ HS0.out.bel).mono ?_;rintro e w' ⟨rfl,rfl⟩;cases rs with
   | true =>
    go_wp2_with fail;refine(Hsm.out _ HS0.out.bel).mono ?_;rintro e w3 ⟨rfl,hb3⟩;have HS3:=qh (HS0.out.call hb3);clear hb3;have hm:mkL 6 0 xs ys=xs:=by simp[mkL,Hhx1.out,Hhy1.out,Hhs.out]
    replace hm:=qh hm;go_wp2;go_ret;rw[hm.out];exact Zcf HS3.out fun u h h2=>h
   | false =>
    go_wp2_with fail;refine(Hsm.out _ HS0.out.bel).mono ?_;rintro e w3 ⟨rfl,hb3⟩;have HS3:=qh (HS0.out.call hb3);clear hb3;have hm:mkL 6 0 xs ys=xs++ys++[(6,0)]:=by simp[mkL,Hhx1.out,Hhy1.out,Hhs.out]
    replace hm:=qh hm;have HSb:=qh (HS3.out.alloc w3.heap.size rfl #[.slice a1 xs.length c1,.slice a2 ys.length c2] 28);go_wp2_with fail;refine(ZeP 6 xs ys _ _ w3.heap.size 2 _ (by omega) (by omega) (HSb.out.boxlt 0 rfl).2 (HSb.out.cell 0 0 rfl rfl) (HSb.out.cell 0 1 rfl rfl) (H1.out.below HSb.out.bel) (H2.out.below HSb.out.bel)).mono ?_;rintro e w8 ⟨a8,c8,rfl,hS8⟩;obtain⟨n8,hn8⟩:∃ n,(xs++ys++[(6,0)]:List (Int × Int)).length=n:=⟨_,rfl⟩;rw[hn8] at hS8 ⊢;have HS8:=qh hS8;have Hhn8:=qh hn8;clear hn8;clear hS8;go_wp2;go_ret;rw[hm.out];exact Zga (HSb.out.cat HS8.out) 1 rfl Hhn8.out
theorem Zpj (xs:List (Int × Int)) (v1:Value) (w:World) (hl1:xs.length≤10000) (hne:1≤xs.length) (h1:Pairs 0 w v1 xs) :
  Calls Tryz.prog 53 #[v1] w fun e w'=>RPm (mkL 7 0 xs []) xs [] v1 (.slice none 0 0) w e w':=by
 obtain⟨a1,c1,rfl,hc1,hc2,-⟩:=h1.form;obtain⟨r7,h7⟩:∃ r,decide (ZcT xs=7)=r:=⟨_,rfl⟩;have I7:=qh (ZkV xs 7 _ w h1 hne r7 h7);have Hh7:Hid ((ZcT xs=7)=(r7=true)):=qh (by rw[← h7,decide_eq_true_eq]);have H1:=qh h1;have HS0:=qh (St.start w);obtain⟨n,hn⟩:=eI (xs.length);obtain⟨m,hm'⟩:∃ m,n=m+1:=⟨n-1,by omega⟩;have hmI:(n:Int)-1=(m:Int):=by omega
 have hmw:IntKind.i64.wrap (m:Int)=(m:Int):=IntWalk.i64_in _ (by omega);have hm2:(m:Int)<(n:Int):=by omega
 have hm3:m≤n:=by omega
 rw[← hn] at hc1 H1 I7 hl1 ⊢;replace hn:=qh hn;replace hm':=qh hm';clear h1 h7 hne
 go_enter Tryz.func53, Tryz.ntmps53
 go_wp2_with fail;refine I7.out.mono ?_;rintro e w' ⟨rfl,rfl⟩;cases r7 with
 | true =>
  have hm:mkL 7 0 xs []=xs.take (xs.length-1):=by simp[mkL,Hh7.out]
  replace hm:=qh hm;go_wp2;go_ret;rw[hm.out];exact Zcf HS0.out fun u h1 _=>by have h:=h1.take (n:=m) (by have h1:=hn.out;have h2:=hm'.out;omega);rw[← hn.out,hm'.out];exact h
 | false =>
  have hm:mkL 7 0 xs []=xs++[]++[(7,0)]:=by simp[mkL,Hh7.out]
  rw[List.append_nil] at hm;replace hm:=qh hm;have HSb:=qh (HS0.out.alloc w.heap.size rfl #[.slice a1 n c1] 28);go_wp2_with fail;refine(Zh4 7 xs _ w.heap.size 1 _ (by rw[← hn.out];omega) (HSb.out.boxlt 0 rfl).2 (HSb.out.cell 0 0 rfl rfl) (H1.out.below HSb.out.bel)).mono ?_;rintro e w8 ⟨a8,c8,rfl,hS8⟩;obtain⟨n8,hn8⟩:∃ n,(xs++[(7,0)]:List (Int × Int)).length=n:=⟨_,rfl⟩;rw[hn8] at hS8 ⊢;have HS8:=qh hS8;have Hhn8:=qh hn8;clear hn8;clear hS8;go_wp2;go_ret;rw[hm.out];exact Zga (HSb.out.cat HS8.out) 1 rfl Hhn8.out
theorem Zmg (xs:List (Int × Int)) (v1:Value) (w:World) (hl1:xs.length≤10000) (hne:1≤xs.length) (h1:Pairs 0 w v1 xs) :
  Calls Tryz.prog 54 #[v1] w fun e w'=>RPm (mkL 8 0 xs []) xs [] v1 (.slice none 0 0) w e w':=by
 obtain⟨a1,c1,rfl,-⟩:=h1.form;obtain⟨rx1,hx1⟩:∃ r,isK xs 1=r:=⟨_,rfl⟩;obtain⟨rx2,hx2⟩:∃ r,isK xs 2=r:=⟨_,rfl⟩;obtain⟨r8,h8⟩:∃ r,decide (ZcT xs=8)=r:=⟨_,rfl⟩;have Ix1:=qh (Zba xs 1 _ w h1 rx1 hx1);have Ix2:=qh (Zba xs 2 _ w h1 rx2 hx2);have I8:=qh (ZkV xs 8 _ w h1 hne r8 h8);have Hh8:Hid ((ZcT xs=8)=(r8=true)):=qh (by rw[← h8,decide_eq_true_eq]);have Hhx1:=qh hx1;have Hhx2:=qh hx2;have H1:=qh h1;have HS0:=qh (St.start w);clear h1 h8 hx1 hx2 hne
 go_enter Tryz.func54, Tryz.ntmps54
 go_wp2_with fail;refine Ix1.out.mono ?_;rintro e w' ⟨rfl,rfl⟩;cases rx1 with
 | true =>
  have hm:mkL 8 0 xs []=[(2,0)]:=by simp[mkL,Hhx1.out]
  replace hm:=qh hm;go_wp2_with fail;refine(ZbL 2 _).mono ?_;rintro e w8 ⟨a8,c8,rfl,hS8⟩;have HS8:=qh hS8;clear hS8;go_wp2;go_ret;rw[hm.out];exact ZbW (v:=.slice a8 ([(2,0)]:List (Int × Int)).length c8) (HS0.out.cat HS8.out) fun u h=>Zad h
 | false =>
  go_wp2_with fail;refine Ix2.out.mono ?_;rintro e w' ⟨rfl,rfl⟩;cases rx2 with
  | true =>
   have hm:mkL 8 0 xs []=[(2,0)]:=by simp[mkL,Hhx1.out,Hhx2.out]
   replace hm:=qh hm;go_wp2_with fail;refine(ZbL 2 _).mono ?_;rintro e w8 ⟨a8,c8,rfl,hS8⟩;have HS8:=qh hS8;clear hS8;go_wp2;go_ret;rw[hm.out];exact ZbW (v:=.slice a8 ([(2,0)]:List (Int × Int)).length c8) (HS0.out.cat HS8.out) fun u h=>Zad h
  | false =>
   go_wp2_with fail;refine I8.out.mono ?_;rintro e w' ⟨rfl,rfl⟩;cases r8 with
   | true =>
    have hm:mkL 8 0 xs []=xs:=by simp[mkL,Hhx1.out,Hhx2.out,Hh8.out]
    replace hm:=qh hm;go_wp2;go_ret;rw[hm.out];exact Zcf HS0.out fun u h _=>h
   | false =>
    have hm:mkL 8 0 xs []=xs++[]++[(8,0)]:=by simp[mkL,Hhx1.out,Hhx2.out,Hh8.out]
    rw[List.append_nil] at hm;replace hm:=qh hm;have HSb:=qh (HS0.out.alloc w.heap.size rfl #[.slice a1 xs.length c1] 28);go_wp2_with fail;refine(Zh4 8 xs _ w.heap.size 1 _ (by omega) (HSb.out.boxlt 0 rfl).2 (HSb.out.cell 0 0 rfl rfl) (H1.out.below HSb.out.bel)).mono ?_;rintro e w8 ⟨a8,c8,rfl,hS8⟩;obtain⟨n8,hn8⟩:∃ n,(xs++[(8,0)]:List (Int × Int)).length=n:=⟨_,rfl⟩;rw[hn8] at hS8 ⊢;have HS8:=qh hS8;have Hhn8:=qh hn8;clear hn8;clear hS8;go_wp2;go_ret;rw[hm.out];exact Zga (HSb.out.cat HS8.out) 1 rfl Hhn8.out
theorem Zol (k:Int) (hk:k=4∨k=5∨k=6) (xs ys:List (Int × Int)) (v1 v2:Value) (w:World) (hl1:xs.length≤10000) (hl2:ys.length≤10000) (h1:Pairs 0 w v1 xs) (h2:Pairs 0 w v2 ys) :
  Calls Tryz.prog 55 #[.int .i64 k,v1,v2] w fun e w'=>RPm (mkL k 0 xs ys) xs ys v1 v2 w e w':=by
 obtain⟨a1,c1,rfl,-⟩:=h1.form;obtain⟨a2,c2,rfl,-⟩:=h2.form;have H1:=qh h1;have H2:=qh h2;clear h1 h2;rcases hk with rfl|rfl|rfl
 ·go_enter Tryz.func55, Tryz.ntmps55
  go_wp2_with fail;refine(ZhA xs ys _ _ w hl1 hl2 H1.out H2.out).mono ?_;rintro e w8 ⟨v,F,rfl,hS,hF⟩;have HS:=qh hS;have HF:=qh hF;clear hS hF;go_wp2;go_ret;exact⟨v,F,rfl,HS.out,HF.out⟩
 ·go_enter Tryz.func55, Tryz.ntmps55
  go_wp2_with fail;refine(Zjs xs ys _ _ w hl1 hl2 H1.out H2.out).mono ?_;rintro e w8 ⟨v,F,rfl,hS,hF⟩;have HS:=qh hS;have HF:=qh hF;clear hS hF;go_wp2;go_ret;exact⟨v,F,rfl,HS.out,HF.out⟩
 go_enter Tryz.func55, Tryz.ntmps55
 go_wp2_with fail;refine(ZoQ xs ys _ _ w hl1 hl2 H1.out H2.out).mono ?_;rintro e w8 ⟨v,F,rfl,hS,hF⟩;have HS:=qh hS;have HF:=qh hF;clear hS hF;go_wp2;go_ret;exact⟨v,F,rfl,HS.out,HF.out⟩
def Ent.mkQ (X:World→Prop) (F:Ent) (v:Value) (M:List (Int × Int)):Ent:=⟨F.foot,fun w=>F.holds w∧∀ u,X u→F.holds u→Pairs 0 u v M,fun a b h hk=>⟨F.stable a b h.1 hk,h.2⟩⟩
theorem St.mkQ {w0 w:World} {L:List Ent} (h:St w0 w L) (k:Nat) {X:World→Prop} {F:Ent} {v:Value} {M:List (Int × Int)} (hk:L[k]? = some (Ent.mkQ X F v M)) (hx:X w):Pairs 0 w v M:=by have h1:=(h.has k _ hk).1;exact h1.2 w hx h1.1
def RQm (X:World→Prop) (M:List (Int × Int)) (w:World) (e:Ending) (w':World):Prop:=∃ g c F,e = .returned (.slice g M.length c)∧St w w' [Ent.mkQ X F (.slice g M.length c) M]
theorem Zmo {X:World→Prop} {M:List (Int × Int)} {v:Value} {w w':World} {L:List Ent} (hS:St w w' L) (hx:X w') (h:∀ u,X u→Pairs 0 u v M):RQm X M w (.returned v) w':=by obtain⟨g,c,rfl,-⟩:=(h w' hx).form;exact⟨g,c,Ent.nil,rfl,(hS.pick [] (by decide)).add (Below.refl _ _) (Ent.mkQ X Ent.nil _ M) ⟨trivial,fun u hu _=>h u hu⟩ fun k hk=>hk.elim⟩
theorem Zf9 {X:World→Prop} {M xs ys:List (Int × Int)} {v1 v2:Value} {w w':World} {e:Ending} (hX:∀ u,X u→Pairs 0 u v1 xs∧Pairs 0 u v2 ys) (hw:X w') (h:RPm M xs ys v1 v2 w e w'):RQm X M w e w':=by obtain⟨v,F,rfl,hS,hF⟩:=h;have hP:=hF w' (hX w' hw).1 (hX w' hw).2 (hS.has 0 F rfl).1;obtain⟨g,c,rfl,-⟩:=hP.form;exact⟨g,c,F,rfl,hS.same 0 rfl (Ent.mkQ X F _ M) (fun h=>⟨h,fun u h1 h3=>hF u (hX u h1).1 (hX u h1).2 h3⟩) fun _ hk=>hk⟩
theorem Zdp {X:World→Prop} {M:List (Int × Int)} {g:Option Addr} {c:Nat} {w w':World} {L:List Ent} (hS:St w w' L) (h:∀ u,X u→(Ent.all L).holds u→Pairs 0 u (.slice g M.length c) M):RQm X M w (.returned (.slice g M.length c)) w' :=
 ⟨g,c,Ent.all L,rfl,(St.pack (A:=[]) hS).same 0 rfl (Ent.mkQ X (Ent.all L) _ M) (fun h1=>⟨h1,h⟩) fun _ hk=>hk⟩
theorem Zb0 {L:List Ent} {u:World} (h:(Ent.all L).holds u) (k:Nat) {X:World→Prop} {F:Ent} {v:Value} {M:List (Int × Int)} (hk:L[k]? = some (Ent.mkQ X F v M)) (hx:X u):Pairs 0 u v M:=by have h1:=h _ (List.mem_of_getElem? hk);exact h1.2 u hx h1.1
theorem Zgo (k:Int) (hk:k=4∨k=5∨k=6) (xs ys M:List (Int × Int)) (hM:mkL k 0 xs ys=M) (v1 v2:Value) (w:World) (hl1:xs.length≤10000) (hl2:ys.length≤10000) (h1:Pairs 0 w v1 xs) (h2:Pairs 0 w v2 ys) :
  Calls Tryz.prog 55 #[.int .i64 k,v1,v2] w fun e w'=>RQm (fun u=>Pairs 0 u v1 xs∧Pairs 0 u v2 ys) M w e w':=by
 refine(Zol k hk xs ys v1 v2 w hl1 hl2 h1 h2).mono ?_;intro e w' h;rw[hM] at h;obtain⟨v,F,rfl,hS,hF⟩:=h;exact Zf9 (fun u h=>h) ⟨h1.below hS.bel,h2.below hS.bel⟩ ⟨v,F,rfl,hS,hF⟩
theorem Zgy (xs ys M:List (Int × Int)) (hM:mkL 4 0 xs ys=M) (v1 v2:Value) (w:World) (hl1:xs.length≤10000) (hl2:ys.length≤10000) (h1:Pairs 0 w v1 xs) (h2:Pairs 0 w v2 ys) :
  Calls Tryz.prog 94 #[v1,v2] w fun e w'=>RQm (fun u=>Pairs 0 u v1 xs∧Pairs 0 u v2 ys) M w e w':=by
 refine(ZhA xs ys v1 v2 w hl1 hl2 h1 h2).mono ?_;intro e w' h;rw[hM] at h;obtain⟨v,F,rfl,hS,hF⟩:=h;exact Zf9 (fun u h=>h) ⟨h1.below hS.bel,h2.below hS.bel⟩ ⟨v,F,rfl,hS,hF⟩
theorem Zdd (xs ys M:List (Int × Int)) (hM:mkL 5 0 xs ys=M) (v1 v2:Value) (w:World) (hl1:xs.length≤10000) (hl2:ys.length≤10000) (h1:Pairs 0 w v1 xs) (h2:Pairs 0 w v2 ys) :
  Calls Tryz.prog 95 #[v1,v2] w fun e w'=>RQm (fun u=>Pairs 0 u v1 xs∧Pairs 0 u v2 ys) M w e w':=by
 refine(Zjs xs ys v1 v2 w hl1 hl2 h1 h2).mono ?_;intro e w' h;rw[hM] at h;obtain⟨v,F,rfl,hS,hF⟩:=h;exact Zf9 (fun u h=>h) ⟨h1.below hS.bel,h2.below hS.bel⟩ ⟨v,F,rfl,hS,hF⟩
theorem ZdJ {u:World}:Pairs 0 u (.slice none 0 0) []:=⟨rfl,none,0,rfl,Nat.zero_le _,Nat.zero_le _,fun h0=>absurd h0 (Nat.lt_irrefl 0)⟩
theorem Zob (xs M:List (Int × Int)) (hM:mkL 7 0 xs []=M) (v1:Value) (w:World) (hl1:xs.length≤10000) (hne:1≤xs.length) (h1:Pairs 0 w v1 xs) :
  Calls Tryz.prog 53 #[v1] w fun e w'=>RQm (fun u=>Pairs 0 u v1 xs) M w e w':=by
 refine(Zpj xs v1 w hl1 hne h1).mono ?_;intro e w' h;rw[hM] at h;obtain⟨v,F,rfl,hS,hF⟩:=h;exact Zf9 (fun u h=>⟨h,ZdJ⟩) (h1.below hS.bel) ⟨v,F,rfl,hS,hF⟩
theorem ZiN (xs M:List (Int × Int)) (hM:mkL 8 0 xs []=M) (v1:Value) (w:World) (hl1:xs.length≤10000) (hne:1≤xs.length) (h1:Pairs 0 w v1 xs) :
  Calls Tryz.prog 54 #[v1] w fun e w'=>RQm (fun u=>Pairs 0 u v1 xs) M w e w':=by
 refine(Zmg xs v1 w hl1 hne h1).mono ?_;intro e w' h;rw[hM] at h;obtain⟨v,F,rfl,hS,hF⟩:=h;exact Zf9 (fun u h=>⟨h,ZdJ⟩) (h1.below hS.bel) ⟨v,F,rfl,hS,hF⟩
def dirC (x:DfaD) (i j:Nat):Nat→Ex
 | 0 => .zero
 | c+1=>if nxD x i c=j then Zfw (dirC x i j c) (.ltr (Fin.ofNat 3 c)) else dirC x i j c
def dirE (x:DfaD) (i j:Nat):Ex:=if i=j then Zfw (dirC x i j 3) .one else dirC x i j 3
def kleT (x:DfaD):Nat→Nat→Nat→Ex
 | 0,i,j=>dirE x i j
 | k+1,i,j=>Zfw (kleT x k i j) (Zer (Zer (kleT x k i k) (Zed (kleT x k k k))) (kleT x k k j))
def kleW (x:DfaD) (k i j:Nat):Ex:=Zer (Zer (kleT x k i k) (Zed (kleT x k k k))) (kleT x k k j)
def kleE (x:DfaD):Nat→Ex
 | 0 => .zero
 | m+1=>if x.ends.getD m false=true then Zfw (kleE x m) (kleT x x.next.length 0 m) else kleE x m
def kleB (x:DfaD) (k i j:Nat):Prop:=(kleW x k i j).post.length≤60∧(kleT x (k+1) i j).post.length≤60
instance (x:DfaD) (k i j:Nat):Decidable (kleB x k i j):=by unfold kleB;exact inferInstance
def kleK (x:DfaD) (n k:Nat):Prop:=∀ q,q<k→∀ i,i<n→∀ j,j<n→kleB x q i j
theorem ZfU (x:DfaD) (i j:Nat):∀ c,(dirC x i j c).post.length≤1+2*c
 | 0=>by simp[dirC,Ex.post]
 | c+1=>by
  have h:=ZfU x i j c;rw[dirC];by_cases h1:nxD x i c=j
  ·rw[if_pos h1];have h2:=Zdy (dirC x i j c) (.ltr (Fin.ofNat 3 c));simp only[Ex.post,List.length_cons,List.length_nil] at h2;omega
  rw[if_neg h1];omega
theorem ZoL (x:DfaD) (i j:Nat):(dirE x i j).post.length≤60:=by
 have h:=ZfU x i j 3;rw[dirE];by_cases h1:i=j
 ·rw[if_pos h1];have h2:=Zdy (dirC x i j 3) .one;simp only[Ex.post,List.length_cons,List.length_nil] at h2;omega
 rw[if_neg h1];omega
theorem ZbN {x:DfaD} {n k:Nat} (hK:kleK x n k) {i j:Nat} (hi:i<n) (hj:j<n):(kleT x k i j).post.length≤60:=by
 cases k with
 | zero=>exact ZoL x i j
 | succ k=>exact(hK k (Nat.lt_succ_self k) i hi j hj).2
theorem kleK.mono {x:DfaD} {n k q:Nat} (h:kleK x n k) (hq:q≤k):kleK x n q:=fun a ha=>h a (Nat.lt_of_lt_of_le ha hq)
theorem Zjf (x:DfaD) (n:Nat):kleK x n 0:=fun q hq=>absurd hq (Nat.not_lt_zero q)
theorem Zid {x:DfaD} (hK:kleK x x.next.length x.next.length) (h0:0<x.next.length):∀ m,m≤x.next.length→(kleE x m).post.length≤1+61*m
 | 0,_=>by simp[kleE,Ex.post]
 | m+1,hm=>by
  have h:=Zid hK h0 m (by omega);rw[kleE];by_cases h1:x.ends.getD m false=true
  ·rw[if_pos h1];have h2:=Zdy (kleE x m) (kleT x x.next.length 0 m);have h3:=ZbN hK h0 (show m<x.next.length by omega);omega
  rw[if_neg h1];omega
def Wy (x:DfaD) (k:Nat):Nat→List Nat→Nat→Prop
 | i,[],j=>i=j
 | i,c::w,j=>c<3∧(w=[]∨nxD x i c<k)∧Wy x k (nxD x i c) w j
theorem Wy.mono {x:DfaD} {k q:Nat} (hq:k≤q):∀ {w:List Nat} {i j:Nat},Wy x k i w j→Wy x q i w j
 | [],_,_,h=>h
 | _::_,_,_,⟨h1,h2,h3⟩=>⟨h1,h2.imp id fun h=>Nat.lt_of_lt_of_le h hq,h3.mono hq⟩
theorem Wy.app {x:DfaD} {k:Nat}:∀ {u:List Nat} {z:List Nat} {i j:Nat},Wy x (k+1) i u k→Wy x (k+1) k z j→Wy x (k+1) i (u++z) j
 | [],z,i,j,h,h'=>by have h:i=k:=h;subst h;exact h'
 | c::u,z,i,j,⟨h1,h2,h3⟩,h'=>by
  refine⟨h1,?_,h3.app h'⟩;rcases h2 with rfl|h2
  ·have h3:nxD x i c=k:=h3;exact .inr (by omega)
  exact .inr h2
theorem Zo7 {x:DfaD} {k:Nat} {v:List Nat} (h:StarL (fun w=>Wy x k k w k) v) {z:List Nat} {j:Nat} (hz:Wy x (k+1) k z j):Wy x (k+1) k (v++z) j:=by
 obtain⟨ws,rfl,hw⟩:=h
 induction ws with
 | nil=>exact hz
 | cons u ws ih =>rw[List.flatten_cons,List.append_assoc];exact((hw u (List.mem_cons_self ..)).mono (Nat.le_succ k)).app (ih fun y hy=>hw y (List.mem_cons_of_mem _ hy))
theorem ZlZ {x:DfaD} {k:Nat}:∀ {w:List Nat} {i j:Nat},Wy x (k+1) i w j→Wy x k i w j∨∃ u v z,w=u++(v++z)∧Wy x k i u k∧StarL (fun w=>Wy x k k w k) v∧Wy x k k z j
 | [],_,_,h => .inl h
 | c::w,i,j,⟨h1,h2,h3⟩=>by
  by_cases hw:w=[]
  ·exact .inl ⟨h1,.inl hw,by subst hw;exact h3⟩
  have h2:nxD x i c<k+1:=h2.resolve_left hw;rcases ZlZ h3 with h|⟨u,v,z,rfl,hu,hv,hz⟩
  ·by_cases hs:nxD x i c<k
   ·exact .inl ⟨h1,.inr hs,h⟩
   have hs:nxD x i c=k:=by omega
   rw[hs] at h;exact .inr ⟨[c],[],w,rfl,⟨h1,.inl rfl,hs⟩,StarL.nil,h⟩
  by_cases hs:nxD x i c<k
  ·exact .inr ⟨c::u,v,z,rfl,⟨h1,.inr hs,hu⟩,hv,hz⟩
  have hs:nxD x i c=k:=by omega
  rw[hs] at hu;exact .inr ⟨[c],u++v,z,by simp,⟨h1,.inl rfl,hs⟩,StarL.cons hu hv,hz⟩
theorem ZkX {x:DfaD} (hx:fine x) {i j:Nat} (hi:i<x.next.length) (w:List Nat):∀ c,c≤3→(memE (dirC x i j c) w↔∃ a,a<c∧w=[a]∧nxD x i a=j)
 | 0,_=>⟨fun h=>h.elim,fun ⟨_,h,_⟩=>absurd h (Nat.not_lt_zero _)⟩
 | c+1,hc=>by
  have ih:=ZkX hx hi w (j:=j) c (by omega);have hv:(Fin.ofNat 3 c).val=c:=Nat.mod_eq_of_lt (by omega);rw[dirC];by_cases h1:nxD x i c=j
  ·rw[if_pos h1,Zey,ih];constructor
   ·rintro(⟨a,ha,h⟩|h)
    ·exact⟨a,by omega,h⟩
    have h:w=[(Fin.ofNat 3 c).val]:=h;rw[hv] at h;exact⟨c,by omega,h,h1⟩
   rintro⟨a,ha,h,h'⟩;by_cases hac:a=c
   ·subst hac;right;show w=[(Fin.ofNat 3 a).val];rw[hv];exact h
   exact .inl ⟨a,by omega,h,h'⟩
  rw[if_neg h1,ih];constructor
  ·rintro⟨a,ha,h⟩;exact⟨a,by omega,h⟩
  rintro⟨a,ha,h,h'⟩;by_cases hac:a=c
  ·subst hac;exact absurd h' h1
  exact⟨a,by omega,h,h'⟩
theorem ZoK {x:DfaD} (hx:fine x) {i j:Nat} (hi:i<x.next.length) (w:List Nat):memE (dirE x i j) w↔Wy x 0 i w j:=by
 have h3:=ZkX hx hi w (j:=j) 3 (Nat.le_refl 3)
 have hA:memE (dirE x i j) w↔(∃ a,a<3∧w=[a]∧nxD x i a=j)∨(i=j∧w=[]):=by
  rw[dirE];by_cases h1:i=j
  ·rw[if_pos h1,Zey,h3];exact or_congr Iff.rfl ⟨fun h=>⟨h1,h⟩,fun h=>h.2⟩
  rw[if_neg h1,h3];exact⟨.inl,fun h=>h.elim id fun h=>absurd h.1 h1⟩
 rw[hA];cases w with
 | nil=>exact⟨fun h=>h.elim (fun ⟨_,_,h,_⟩=>absurd h (by simp)) fun h=>h.1,fun h => .inr ⟨h,rfl⟩⟩
 | cons c w =>
  constructor
  ·rintro(⟨a,ha,h,h'⟩|h)
   ·obtain⟨rfl,rfl⟩:=List.cons.inj h;exact⟨ha,.inl rfl,h'⟩
   exact absurd h.2 (by simp)
  rintro⟨hc,hw,h⟩;have hw:w=[]:=hw.resolve_right (Nat.not_lt_zero _);subst hw;exact .inl ⟨c,hc,rfl,h⟩
theorem StarL.iff {L M:List Nat→Prop} (h:∀ u,L u↔M u) {w:List Nat}:StarL L w↔StarL M w:=by rw[show L=M from funext fun u=>propext (h u)]
theorem Zic {x:DfaD} (hx:fine x):∀ (k:Nat),k≤x.next.length→∀ {i j:Nat},i<x.next.length→∀ w,memE (kleT x k i j) w↔Wy x k i w j
 | 0,_,i,j,hi,w=>ZoK hx hi w
 | k+1,hk,i,j,hi,w=>by
  have hkn:k<x.next.length:=by omega
  have ih:=fun (a b:Nat) (ha:a<x.next.length) (u:List Nat)=>Zic hx k (by omega) (i:=a) (j:=b) ha u
  rw[kleT,Zey,Zgz,ZdL,ih i j hi]
  have hW:(∃ u v,w=u++v∧memE (Zer (kleT x k i k) (Zed (kleT x k k k))) u∧memE (kleT x k k j) v)↔∃ u v z,w=u++(v++z)∧Wy x k i u k∧StarL (fun w=>Wy x k k w k) v∧Wy x k k z j:=by
   have hs:∀ v,memE (Zed (kleT x k k k)) v↔StarL (fun w=>Wy x k k w k) v:=fun v=>(Zmf _ v).trans (StarL.iff (L:=memE (kleT x k k k)) fun u=>ih k k hkn u)
   constructor
   ·rintro⟨u,z,rfl,hu,hz⟩;rw[Zgz,ZdL] at hu;obtain⟨a,v,rfl,ha,hv⟩:=hu;exact⟨a,v,z,by rw[List.append_assoc],(ih i k hi a).1 ha,(hs v).1 hv,(ih k j hkn z).1 hz⟩
   rintro⟨a,v,z,rfl,ha,hv,hz⟩;refine⟨a++v,z,by rw[List.append_assoc],?_,(ih k j hkn z).2 hz⟩;rw[Zgz,ZdL];exact⟨a,v,rfl,(ih i k hi a).2 ha,(hs v).2 hv⟩
  rw[hW];constructor
  ·rintro(h|⟨u,v,z,rfl,hu,hv,hz⟩)
   ·exact h.mono (Nat.le_succ k)
   exact(hu.mono (Nat.le_succ k)).app (Zo7 hv (hz.mono (Nat.le_succ k)))
  exact ZlZ
theorem Zl0 {x:DfaD} (hx:fine x):∀ {w:List Nat},isW w→∀ {i j:Nat},i<x.next.length→(Wy x x.next.length i w j↔runD x (i:Int) w=(j:Int))
 | [],_,i,j,_=>by show i=j↔(i:Int)=(j:Int);omega
 | c::w,hw,i,j,hi=>by have h1:=ZfO hw;have h2:=ZbV hx hi h1.1;rw[ZbG,h2.2,← Zl0 hx h1.2 h2.1];exact⟨fun h=>h.2.2,fun h=>⟨h1.1,.inr h2.1,h⟩⟩
theorem ZkM (x:DfaD) (w:List Nat):∀ m,memE (kleE x m) w↔∃ j,j<m∧x.ends.getD j false=true∧memE (kleT x x.next.length 0 j) w
 | 0=>⟨fun h=>h.elim,fun ⟨_,h,_⟩=>absurd h (Nat.not_lt_zero _)⟩
 | m+1=>by
  have ih:=ZkM x w m;rw[kleE];by_cases h1:x.ends.getD m false=true
  ·rw[if_pos h1,Zey,ih];constructor
   ·rintro(⟨j,hj,h⟩|h)
    ·exact⟨j,by omega,h⟩
    exact⟨m,by omega,h1,h⟩
   rintro⟨j,hj,h,h'⟩;by_cases hjm:j=m
   ·subst hjm;exact .inr h'
   exact .inl ⟨j,by omega,h,h'⟩
  rw[if_neg h1,ih];constructor
  ·rintro⟨j,hj,h⟩;exact⟨j,by omega,h⟩
  rintro⟨j,hj,h,h'⟩;by_cases hjm:j=m
  ·subst hjm;exact absurd h h1
  exact⟨j,by omega,h,h'⟩
theorem Zow {x:DfaD} (hx:fine x) {w:List Nat} (hw:isW w):memE (kleE x x.next.length) w↔accD x w=true:=by
 have h0:0<x.next.length:=hx.1;rw[ZkM];obtain⟨t,ht,hr⟩:=ZfF hx w (s:=0) hw h0;have hr':runD x 0 w=(t:Int):=hr;have hacc:accD x w=x.ends.getD t false:=by rw[accD,hr',den];rfl
 rw[hacc];constructor
 ·rintro⟨j,hj,he,hm⟩;have h1:=(Zl0 hx hw h0).1 ((Zic hx _ (Nat.le_refl _) h0 w).1 hm);rw[hr] at h1;have:t=j:=by exact_mod_cast h1
  rw[this];exact he
 intro h;exact⟨t,ht,h,(Zic hx _ (Nat.le_refl _) h0 w).2 ((Zl0 hx hw h0).2 hr)⟩
def kleP (x:DfaD):Prop:=kleK x x.next.length x.next.length∧(kleE x x.next.length).post.length≤60
theorem Zje (x:DfaD) (k i j:Nat):∃ S J W,mkL 8 0 (kleT x k k k).post []=S∧mkL 4 0 (kleT x k i k).post S=J∧mkL 4 0 J (kleT x k k j).post=W∧mkL 5 0 (kleT x k i j).post W=(kleT x (k+1) i j).post∧W=(kleW x k i j).post ∧
  S.length≤(kleT x k k k).post.length+1∧J.length≤(kleT x k i k).post.length+S.length+1∧W.length≤J.length+(kleT x k k j).post.length+1∧(kleT x (k+1) i j).post.length≤(kleT x k i j).post.length+W.length+1∧1≤(kleT x k k k).post.length :=
 ⟨(Zed (kleT x k k k)).post,(Zer (kleT x k i k) (Zed (kleT x k k k))).post,(kleW x k i j).post,Zh9 _,ZfM _ _,ZfM _ _,Zd6 _ _,rfl,ZiM _,ZgA _ _,ZgA _ _,Zdy _ _,Zao _⟩
theorem Zjg {x:DfaD} {N j:Nat} (hN:N=x.next.length) (h:enD x j=true):mkL 5 0 (kleE x j).post (kleT x N 0 j).post=(kleE x (j+1)).post:=by have h:x.ends.getD j false=true:=h;rw[Zd6,kleE,if_pos h,hN]
theorem Zjh {x:DfaD} {j:Nat} (h:enD x j=false):kleE x (j+1)=kleE x j:=by have h:x.ends.getD j false=false:=h;rw[kleE,h,if_neg (by decide)]
def RKx (x:DfaD) (w:World) (e:Ending) (w':World):Prop:=∃ g m c b,e = .returned (.tuple #[.slice g m c,.bool b])∧(kleP x→b=true∧m=(kleE x x.next.length).post.length∧Pairs 0 w' (.slice g m c) (kleE x x.next.length).post)∧(¬ kleP x→b=false)∧Below w.heap.size w w'
def RowX (u:World) (r:Value) (n:Nat) (cs:List Value) (M:Nat→List (Int × Int)):Prop :=
 (∃ b c,r = .slice (some ⟨b,0,none⟩) n c∧n≤c∧c≤9223372036854775807∧∀ j,j<n→u.cell? ⟨b,j,none⟩=some (cs.getD j undef))∧∀ j,j<n→Pairs 0 u (cs.getD j undef) (M j)
def TabI (u:World) (i n:Nat) (zs:List Value) (css:List (List Value)) (M:Nat→Nat→List (Int × Int)):Prop:=∀ q,q<i→RowX u (zs.getD q undef) n (css.getD q []) (M q)
def TabX (u:World) (v:Value) (n:Nat) (zs:List Value) (css:List (List Value)) (M:Nat→Nat→List (Int × Int)):Prop :=
 (∃ b c,v = .slice (some ⟨b,0,none⟩) n c∧n≤c∧c≤9223372036854775807∧∀ q,q<n→u.cell? ⟨b,q,none⟩=some (zs.getD q undef))∧TabI u n n zs css M
theorem Zpy {cs:List Value} {j:Nat} (hj:j<cs.length):cs[j]? = some (cs.getD j undef):=by rw[List.getD_eq_getElem?_getD,List.getElem?_eq_getElem hj];rfl
theorem ZiX {u:World} {e n:Nat} {r:Value} {cs:List Value} (hr:u.ownsRow 0 e 1 r n cs) (hn:0<n):∃ b c,r = .slice (some ⟨b,0,none⟩) n c∧n≤c∧c≤9223372036854775807∧∀ j,j<n→u.cell? ⟨b,j,none⟩=some (cs.getD j undef):=by
 have hl:cs.length=n:=by rw[hr.1,Nat.mul_one]
 rcases hr.2 with⟨-,h1⟩|⟨g,cap,cur,h1,-,-,h4,h5,-⟩
 ·omega
 subst h1;exact⟨g,cap,rfl,h4,h5,fun j hj=>(hr.cellAt j (by omega)).trans (Zpy (by omega))⟩
theorem Zmp {u:World} {e n:Nat} {r:Value} {cs:List Value} {M:Nat→List (Int × Int)} (hr:u.ownsRow 0 e 1 r n cs) (hn:0<n) (hP:∀ j,j<n→Pairs 0 u (cs.getD j undef) (M j)):RowX u r n cs M:=⟨ZiX hr hn,hP⟩
theorem ZhP {u:World} {e n:Nat} {v:Value} {zs:List Value} {css:List (List Value)} {M:Nat→Nat→List (Int × Int)} (hr:u.ownsRow 0 e 1 v n zs) (hn:0<n) (hP:TabI u n n zs css M):TabX u v n zs css M:=⟨ZiX hr hn,hP⟩
theorem TabI.more {u:World} {i n:Nat} {zs zs':List Value} {css:List (List Value)} {cs:List Value} {M:Nat→Nat→List (Int × Int)} (h:TabI u i n zs css M) (hc:css.length=i)
  (hz:∀ q,q<i→zs'.getD q undef=zs.getD q undef) (hr:RowX u (zs'.getD i undef) n cs (M i)):TabI u (i+1) n zs' (css++[cs]) M:=by
 intro q hq;by_cases hqi:q=i
 ·subst hqi;rw[show(css++[cs]).getD q []=cs by rw[List.getD_eq_getElem?_getD,List.getElem?_append_right (by omega),hc];simp];exact hr
 rw[show(css++[cs]).getD q []=css.getD q [] by rw[List.getD_eq_getElem?_getD,List.getElem?_append_left (by omega),← List.getD_eq_getElem?_getD],hz q (by omega)];exact h q (by omega)
theorem TabI.same {u:World} {i n:Nat} {zs zs':List Value} {css:List (List Value)} {M:Nat→Nat→List (Int × Int)} (h:TabI u i n zs css M) (hz:∀ q,q<i→zs'.getD q undef=zs.getD q undef):TabI u i n zs' css M:=fun q hq=>by rw[hz q hq];exact h q hq
theorem Zjm {cs:List Value} {v:Value} {j:Nat} (hj:j=cs.length):(cs++[v]).getD j undef=v:=by subst hj;simp
theorem Zjn {cs:List Value} {v:Value} {j:Nat} (hj:j<cs.length):(cs++[v]).getD j undef=cs.getD j undef:=by rw[List.getD_eq_getElem?_getD,List.getElem?_append_left hj,← List.getD_eq_getElem?_getD]
theorem ZgI {cs:List Value} {v:Value} {i q:Nat} (hq:q≠i):(cs.set i v).getD q undef=cs.getD q undef:=by rw[List.getD_eq_getElem?_getD,List.getElem?_set_ne (Ne.symm hq),← List.getD_eq_getElem?_getD]
theorem ZlS {u:World} {j:Nat} {cs:List Value} {v:Value} {M:Nat→List (Int × Int)} (h:∀ q,q<j→Pairs 0 u (cs.getD q undef) (M q)) (hl:cs.length=j) (hv:Pairs 0 u v (M j)):∀ q,q<j+1→Pairs 0 u ((cs++[v]).getD q undef) (M q):=by
 intro q hq;by_cases hqj:q=j
 ·rw[Zjm (by omega),hqj];exact hv
 rw[Zjn (by omega)];exact h q (by omega)
def GrowP (u:World) (i n j:Nat) (zs:List Value) (css:List (List Value)) (cs:List Value) (M:Nat→Nat→List (Int × Int)):Prop:=TabI u i n zs css M∧∀ q,q<j→Pairs 0 u (cs.getD q undef) (M i q)
theorem GrowP.more {u:World} {i n j:Nat} {zs zs':List Value} {css:List (List Value)} {cs:List Value} {v:Value} {M:Nat→Nat→List (Int × Int)} (h:GrowP u i n j zs css cs M) (hl:cs.length=j)
  (hz:∀ q,q<i→zs'.getD q undef=zs.getD q undef) (hv:Pairs 0 u v (M i j)):GrowP u i n (j+1) zs' css (cs++[v]) M:=⟨h.1.same hz,ZlS h.2 hl hv⟩
theorem GrowP.done {u:World} {i n e:Nat} {r:Value} {zs:List Value} {css:List (List Value)} {cs:List Value} {M:Nat→Nat→List (Int × Int)} (h:GrowP u i n n zs css cs M) (hr:u.ownsRow 0 e 1 r n cs) (hn:0<n) (hc:css.length=i)
  (hz:zs.getD i undef=r):TabI u (i+1) n zs (css++[cs]) M:=h.1.more hc (fun _ _=>rfl) (by rw[hz];exact Zmp hr hn h.2)
theorem GrowP.snoc {u:World} {i n e:Nat} {r:Value} {zs:List Value} {css:List (List Value)} {cs:List Value} {M:Nat→Nat→List (Int × Int)} (h:GrowP u i n n zs css cs M) (hr:u.ownsRow 0 e 1 r n cs) (hn:0<n) (hc:css.length=i)
  (hz:zs.length=i):TabI u (i+1) n (zs++[r]) (css++[cs]) M:=h.1.more hc (fun q hq=>Zjn (by omega)) (by rw[Zjm (by omega)];exact Zmp hr hn h.2)
theorem TabX.at {v:Value} {n:Nat} {zs:List Value} {css:List (List Value)} {M:Nat→Nat→List (Int × Int)} {w:World} (h:TabX w v n zs css M) {i j:Nat} (hi:i<n) (hj:j<n) :
  ∃ b c br cr g cc,v = .slice (some ⟨b,0,none⟩) n c∧zs.getD i undef = .slice (some ⟨br,0,none⟩) n cr∧(css.getD i []).getD j undef = .slice g (M i j).length cc:=by
 obtain⟨⟨b,c,rfl,-,-,-⟩,h2⟩:=h;obtain⟨⟨br,cr,h3,-,-,-⟩,h4⟩:=h2 i hi;obtain⟨g,cc,h5,-⟩:=(h4 j hj).form;exact⟨b,c,br,cr,g,cc,rfl,h3,h5⟩
theorem TabX.row {n b c br cr:Nat} {zs:List Value} {css:List (List Value)} {M:Nat→Nat→List (Int × Int)} {u:World} (h:TabX u (.slice (some ⟨b,0,none⟩) n c) n zs css M) {i:Nat} (hi:i<n) (hz:zs.getD i undef = .slice (some ⟨br,0,none⟩) n cr) :
  u.cell? ⟨b,i,none⟩=some (.slice (some ⟨br,0,none⟩) n cr):=by
 obtain⟨⟨b',c',hb,-,-,h1⟩,-⟩:=h;simp only[Value.slice.injEq,w_9,Addr.mk.injEq,and_true,true_and] at hb;obtain⟨rfl,rfl⟩:=hb;rw[h1 i hi,hz]
theorem TabX.cell {n br cr cc:Nat} {g:Option Addr} {v:Value} {zs:List Value} {css:List (List Value)} {M:Nat→Nat→List (Int × Int)} {u:World} (h:TabX u v n zs css M) {i j:Nat} (hi:i<n) (hj:j<n) (hz:zs.getD i undef = .slice (some ⟨br,0,none⟩) n cr)
  (hc:(css.getD i []).getD j undef = .slice g (M i j).length cc):u.cell? ⟨br,j,none⟩=some (.slice g (M i j).length cc)∧Pairs 0 u (.slice g (M i j).length cc) (M i j):=by
 obtain⟨-,h2⟩:=h;obtain⟨⟨b',c',hb,-,-,h3⟩,h4⟩:=h2 i hi;rw[hz] at hb;simp only[Value.slice.injEq,w_9,Addr.mk.injEq,and_true,true_and] at hb;obtain⟨rfl,rfl⟩:=hb;have h5:=h4 j hj;rw[hc] at h5;exact⟨by rw[h3 j hj,hc],h5⟩
theorem TabX.form {v:Value} {n:Nat} {zs:List Value} {css:List (List Value)} {M:Nat→Nat→List (Int × Int)} {w:World} (h:TabX w v n zs css M):∃ b c,v = .slice (some ⟨b,0,none⟩) n c:=by obtain⟨⟨b,c,h1,-⟩,-⟩:=h;exact⟨b,c,h1⟩
theorem TabX.rowf {v:Value} {n:Nat} {zs:List Value} {css:List (List Value)} {M:Nat→Nat→List (Int × Int)} {w:World} (h:TabX w v n zs css M) {i:Nat} (hi:i<n):∃ b c,zs.getD i undef = .slice (some ⟨b,0,none⟩) n c:=by obtain⟨⟨b,c,h1,-⟩,-⟩:=h.2 i hi;exact⟨b,c,h1⟩
theorem TabX.cellf {v:Value} {n:Nat} {zs:List Value} {css:List (List Value)} {M:Nat→Nat→List (Int × Int)} {w:World} (h:TabX w v n zs css M) {i j:Nat} (hi:i<n) (hj:j<n):∃ g c,(css.getD i []).getD j undef = .slice g (M i j).length c:=by obtain⟨g,c,h1,-⟩:=((h.2 i hi).2 j hj).form;exact⟨g,c,h1⟩
theorem Zit {w:World} {v1:Value} {d:DfaD} (h:IntSS 0 w v1 d.next) (hd:Zah d.next d.ends=true):∃ q o cap,v1 = .slice (some ⟨q,o,none⟩) d.next.length cap∧d.next.length≤cap∧cap≤9223372036854775807∧q<w.heap.size∧∀ i,i<d.next.length→∃ z t s,w.cell? ⟨q,o+i,none⟩=some (.slice (some ⟨z,t,none⟩) 3 s)∧3≤s∧s≤9223372036854775807∧z<w.heap.size∧∀ c,c<3→w.cell? ⟨z,t+c,none⟩=some (.int .i64 ((nxD d i c:Nat):Int)):=by have hf:=ZaJ hd;obtain⟨a,cap,rfl,h1,h2,h3⟩:=h.form;obtain⟨q,o,rfl,_,hq,hr⟩:=h3 hf.1;refine⟨q,o,cap,rfl,h1,h2,hq,fun i hi => ?_⟩;obtain⟨a',s,e1,e2,e3,e4⟩:=hr i hi;obtain⟨hl,hin⟩:=ZaV hd hi;rw[hl] at e1 e2 e4;obtain⟨z,t,rfl,_,hz,e5⟩:=e4 (by omega);refine⟨z,t,s,e1,e2,e3,hz,fun c hc => ?_⟩;rw[e5 c hc];have h0:=hin c hc;unfold nxD;rw[Int.toNat_of_nonneg h0.1]
theorem Zk9 {w:World} {v1:Value} {d:DfaD} (h:Bools 0 w v1 d.ends) (hd:Zah d.next d.ends=true):∃ q o cap,v1 = .slice (some ⟨q,o,none⟩) d.ends.length cap∧d.ends.length≤cap∧cap≤9223372036854775807∧q<w.heap.size∧∀ i,i<d.next.length→w.cell? ⟨q,o+i,none⟩=some (.bool (enD d i)):=by have hl:=Zaj hd;obtain⟨a,cap,rfl,h1,h2,h3⟩:=h.form;obtain⟨q,o,rfl,_,hq,hr⟩:=h3 (by omega);exact⟨q,o,cap,rfl,h1,h2,hq,fun i hi=>hr i (by omega)⟩
theorem Zbp {u:World} {e:Nat} {v:Value} {xs:List (Int × Int)} (hr:u.ownsRow 0 e 2 v xs.length (xs.flatMap Zaa)):Pairs 0 u v xs:=((Zab hr).sl (by omega)).mono (Nat.zero_le _)
theorem Zjt {x:DfaD} {i j c:Nat} (h:nxD x i c=j):mkL 5 0 (dirC x i j c).post (Ex.ltr (Fin.ofNat 3 c)).post=(dirC x i j (c+1)).post:=by rw[Zd6,dirC,if_pos h]
theorem Zju {x:DfaD} {i j c:Nat} (h:nxD x i c≠j):dirC x i j (c+1)=dirC x i j c:=by rw[dirC,if_neg h]
theorem ZkE {c:Nat} (hc:c<3):(Ex.ltr (Fin.ofNat 3 c)).post=[(3,(c:Int))]:=by show [(3,(((Fin.ofNat 3 c).val:Nat):Int))]=_;rw[show(Fin.ofNat 3 c).val=c from Nat.mod_eq_of_lt (by omega)]
theorem ZlO (x:DfaD) (i j:Nat) (v:Value) (w:World) (hd:Zah x.next x.ends=true) (hi:i<x.next.length) (_:j<x.next.length) (h:DfaR 0 w v x) :
  Calls Tryz.prog 111 #[v,.int .i64 (i:Int),.int .i64 (j:Int)] w fun e w'=>RQm (fun _=>True) (dirE x i j).post w e w':=by
 obtain⟨v1,v2,rfl,g1,g2⟩:=h;have hf:=ZaJ hd;obtain⟨b1,o1,c1,rfl,hc1,hc2,hb1,hrow⟩:=Zit g1 hd;obtain⟨q,t0,s0,hq,hs1,hs2,hqb,hcs⟩:=hrow i hi;have hCl:=fun c=>ZfU x i j c
 have hn40:x.next.length≤40:=by have:=Zaj hd;omega
 obtain⟨N,hN⟩:=eI (x.next.length);rw[← hN] at hc1 hi hn40;rw[← hN];have HS:=qh ((St.start w).alloc _ rfl #[.slice (some ⟨b1,o1,none⟩) N c1,v2] 44);have e0:=HS.out.cell (v:=.slice (some ⟨b1,o1,none⟩) N c1) 0 0 rfl rfl;have Hcs:=qh hcs;have HCl:=qh hCl;have Hq:=qh hq;have hiI:(i:Int)<(N:Int):=by omega
 obtain⟨G,hG⟩:∃ M,(dirE x i j).post=M:=⟨_,rfl⟩;rw[hG];have HhG:=qh hG;clear hG;replace hN:=qh hN;have Hhd:=qh hd;clear hd;clear g1 g2 hrow hcs hCl hf hq
 go_enter Tryz.func111, Tryz.ntmps111
 go_wp2_with fail;refine(ZbL 1 _).mono ?_;rintro e w2 ⟨a2,c2,rfl,hS2⟩;have HS2:Hid (St w w2 [Ent.box w.heap.size #[.slice (some ⟨b1,o1,none⟩) N c1,v2] 44,Ent.row 62 2 (.slice a2 1 c2) 1 [.int .i64 1,.int .i64 0]]):=qh (HS.out.cat hS2);have HS3:=qh (HS2.out.knowAll (A:=[Ent.box w.heap.size #[.slice (some ⟨b1,o1,none⟩) N c1,v2] 44]) (P:=fun u=>Pairs 0 u (.slice a2 1 c2) [(1,0)]) fun u h=>Zbp (xs:=[(1,0)]) (ZbZ h 0 rfl));clear hS2 HS2 e0;have e0:=HS3.out.cell (v:=.slice (some ⟨b1,o1,none⟩) N c1) 0 0 rfl rfl;have e1:=(bcell HS3.out.bel b1 _ hb1).trans Hq.out;go_wp2_with fail;clear e0 e1
 go_loopw [7,17] (fun ev cv wr=>∃ (c k:Nat) (g:Option Addr) (F:Ent),cv = .int .i64 (c:Int)∧c≤3∧ev = .slice g (dirC x i j c).post.length k∧St w wr [Ent.box w.heap.size #[.slice (some ⟨b1,o1,none⟩) N c1,v2] 44,Ent.know F (fun u=>Pairs 0 u (.slice g (dirC x i j c).post.length k) (dirC x i j c).post)]) (fun _ cv _=>3-(intOf cv).toNat)
 case atStart=>exact⟨0,c2,a2,_,rfl,by omega,rfl,HS3.out⟩
 case round =>
  obtain⟨c,k,g,F,rfl,hc,rfl,hS⟩:=hrel;have HS4:=qh hS;clear hS HS3;have hP:=HS4.out.know 1 rfl;have hl:=HCl.out c;by_cases hc3:c<3
  ·have hcI:(c:Int)<3:=by omega
   have hwc:IntKind.i64.wrap ((c:Int)+1)=(c:Int)+1:=IntWalk.i64_in _ (by omega);have hwt:t0+c=t0+c:=rfl;have r0:=(bcell HS4.out.bel q _ hqb).trans (Hcs.out c hc3);by_cases hz:nxD x i c=j
   ·as_aux_lemma =>
    have hst:=Zjt hz;rw[ZkE hc3] at hst;obtain⟨E,hE⟩:=eI ((dirC x i j c).post);obtain⟨G,hG⟩:=eI ((dirC x i j (c+1)).post);rw[← hE,← hG] at hst;rw[← hE] at hl hP HS4;rw[← hE];rw[hz] at r0;have HS5:=qh ((HS4.out.alloc wr.heap.size rfl #[.int .i64 3,.int .i64 (c:Int)] 62).boxrow 2 1 2 [.int .i64 3,.int .i64 (c:Int)] rfl rfl (by unfold maxLen;omega));have HX:=qh (HS5.out.know 1 rfl);have HY:=qh (Zbp (xs:=[(3,(c:Int))]) (Za4 (HS5.out.row 2 rfl) (Nat.zero_le _)));have Hhst:=qh hst;clear hst;replace hE:=qh hE;have HhG:=qh hG;clear hG;have Hhz:=qh hz;clear hz;clear hP;go_wp2_with fail;refine(Zdd E [(3,(c:Int))] G Hhst.out _ _ _ (by omega) (by simp) HX.out HY.out).mono ?_;rintro e w6 ⟨g6,k6,F6,rfl,hS6⟩;have hS7:=(HS5.out.cat hS6).knowAll (A:=[Ent.box w.heap.size #[.slice (some ⟨b1,o1,none⟩) N c1,v2] 44]) (P:=fun u=>Pairs 0 u (.slice g6 G.length k6) G) fun u h=>Zb0 h 2 rfl ⟨Zap h 0 rfl,Zbp (xs:=[(3,(c:Int))]) (ZbZ h 1 rfl)⟩
    have HS7:=qh hS7;clear hS6 hS7;go_wp2_with fail;go_roundw
    case rel =>have h9:=HS7.out;rw[HhG.out] at h9;exact⟨c+1,k6,g6,_,by go_num,by omega,by rw[HhG.out],h9⟩
    case measure=>simp[intOf];omega
   as_aux_lemma =>
   have hzI:¬ ((nxD x i c:Nat):Int)=(j:Int):=by omega
   have hst:=Zju hz;have Hhst:=qh hst;clear hst;have Hhz:=qh hz;clear hz;clear hP;go_wp2_with fail;go_roundw
   case rel =>
    refine⟨c+1,k,g,F,by go_num,by omega,?_,?_⟩
    ·rw[Hhst.out]
    rw[Hhst.out];exact HS4.out
   case measure=>simp[intOf];omega
  have hcI:¬ (c:Int)<3:=by omega
  have hc9:c=3:=by omega
  subst hc9;by_cases hij:i=j
  ·as_aux_lemma =>
   have hst:mkL 5 0 (dirC x i j 3).post Ex.one.post=G:=by rw[← HhG.out,Zd6,dirE,if_pos hij]
   obtain⟨E,hE⟩:=eI ((dirC x i j 3).post);rw[← hE] at hst;rw[← hE] at hl hP HS4;rw[← hE];have hijI:(i:Int)=(j:Int):=by omega
   have Hhst:=qh hst;clear hst;replace hE:=qh hE;clear hP;go_wp2_with fail;refine(ZbL 2 _).mono ?_;rintro e w5 ⟨a5,c5,rfl,hS5⟩;have HS5:Hid (St w w5 [Ent.box w.heap.size #[.slice (some ⟨b1,o1,none⟩) N c1,v2] 44,Ent.know F (fun u=>Pairs 0 u (.slice g E.length k) E),Ent.row 62 2 (.slice a5 1 c5) 1 [.int .i64 2,.int .i64 0]]):=qh (HS4.out.cat hS5);have HX:=qh (HS5.out.know 1 rfl);have HY:=qh (Zbp (xs:=[(2,0)]) (Za4 (HS5.out.row 2 rfl) (Nat.zero_le _)));clear hS5;go_wp2_with fail;refine(Zdd E [(2,0)] G Hhst.out _ _ _ (by omega) (by simp) HX.out HY.out).mono ?_;rintro e w6 ⟨g6,k6,F6,rfl,hS6⟩;have HS6:=qh ((HS5.out.cat hS6).pick [1,2,3] (by decide));clear hS6;go_wp2_with fail;go_ret;exact Zdp HS6.out fun u _ h=>Zb0 h 2 rfl ⟨Zap h 0 rfl,Zbp (xs:=[(2,0)]) (ZbZ h 1 rfl)⟩
  as_aux_lemma =>
  have hst:(dirC x i j 3).post=G:=by rw[← HhG.out,dirE,if_neg hij]
  have hijI:¬ (i:Int)=(j:Int):=by omega
  rw[hst] at hl HS4 ⊢;have Hhst:=qh hst;clear hst;clear hP;go_wp2_with fail;go_ret;exact Zdp (HS4.out.pick [1] (by decide)) fun u _ h=>Zap h 0 rfl
theorem St.newRow0 {w0 w:World} {L:List Ent} (h:St w0 w L) (T size:Nat):St w0 (w.alloc (.cells #[] T)) (L++[Ent.row T size (.slice (some ⟨w.heap.size,0,none⟩) 0 0) 0 []]):=by have h1:=(h.alloc w.heap.size rfl #[] T).boxrow (b:=w.heap.size) (T:=T) L.length 0 size [] (by simp) (by simp) (by unfold maxLen;omega);simpa using h1
theorem ZhG (xs:List (Int × Int)) (hp:1≤xs.length) (v:Value) (w:World) (hl:xs.length≤1000000) (h:Pairs 0 w v xs) :
  Calls Tryz.prog 112 #[v] w fun e w'=>RPo xs w e w':=by
 have hx:=h;obtain⟨a,cap,rfl,hc1,hc2,hr⟩:=h.form;obtain⟨b,off,rfl,-⟩:=hr (by omega);obtain⟨i0,hi,hz0,hz1,hz2⟩:=info_parts Tryz.infoPart;have HS0:=qh (((St.start w).alloc _ rfl #[] 62).boxrow 0 0 2 [] rfl rfl (Nat.zero_le _));have HX:=qh (hx.below HS0.out.bel);have qT:=fun (w':World)=>Lib.run_eql_slice_nil (P:=Tryz.prog) w' 28 62 (some ⟨b,off,none⟩) xs.length cap 0 0 Tryz.underlying28
 simp only[Option.isNone] at qT;replace hi:=qh hi;have Hhz0:=qh hz0;clear hz0;have Hhz1:=qh hz1;clear hz1;have Hhz2:=qh hz2;clear hz2;clear hr hx h
 go_enter Tryz.func112, Tryz.ntmps112
 go_wp2_with (at_builtin;refine Zal _ rfl _ _ _ rfl _ 62 i0 (.agg #[.int .i64 0,.int .i64 0]) 2 16 Tryz.underlying28 hi.out Hhz0.out Hhz1.out Hhz2.out rfl (by omega) _ 0 _ rfl (HS0.out.row 0 rfl) _ xs.length (xs.flatMap Zaa) rfl HX.out Zds (by unfold maxLen;omega) (by omega) HS0.out.size ?_;intro a6 c6 w6 hown6 hgrow6 hat6;have hS6:=HS0.out.appS 0 rfl hown6 hgrow6 hat6;simp only[Nat.zero_add,List.nil_append] at hS6;(try simp only[Nat.zero_add]);have HS6:=qh hS6;clear hown6 hgrow6 hat6 hS6);go_ret;exact⟨a6,c6,rfl,HS6.out⟩
end Go.Proofs.YtncekbbhgipdlaaGreat
