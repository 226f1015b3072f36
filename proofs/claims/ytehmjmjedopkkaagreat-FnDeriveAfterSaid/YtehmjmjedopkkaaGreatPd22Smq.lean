/-
  The walks over the program's isKind, ends, joined, either, both, not, star and made.
  Conditions: the lists of parts read as such; the operand of KindNot and KindStar is not empty.
-/
import Derived.Test.YtehmjmjedopkkaaGreatPd21Sms
set_option maxHeartbeats 8000000
namespace Go.Proofs.YtehmjmjedopkkaaGreat
open Go.RowKit
theorem ZfH {M xs ys:List (Int × Int)} {v1 v2:Value} {w w':World} {a:Option Addr} {n c:Nat} {L:List Ent} (hS:St w w' L) (i:Nat) (hi:L[i]? = some (Ent.row 55 2 (.slice a n c) n (M.flatMap Zaa))) (hn:M.length=n):RPm M xs ys v1 v2 w (.returned (.slice a n c)) w':=by subst hn;refine⟨_,Ent.row 55 2 (.slice a M.length c) M.length (M.flatMap Zaa),rfl,?_,fun u _ _ h=>Zad h⟩;have h:=hS.pick [i] (by simp);simpa [List.getD_eq_getElem?_getD,hi] using h
theorem Za4 (es:List (Int × Int)) (k:Int) (v:Value) (w:World) (h:Pairs 0 w v es) (r:Bool) (hr:isK es k=r) :
  Calls Tryz.prog 120 #[v,.int .i64 k] w fun e w'=>e = .returned (.bool r)∧w=w':=by
 obtain⟨a,c,rfl,hc1,hc2,hrd⟩:=h.form;clear h;unfold isK at hr;by_cases h1:es.length=1
 ·rw[decide_eq_true h1,Bool.true_and] at hr;obtain⟨b,o,rfl,-,hbl,hcs⟩:=hrd (by omega);have g1:=(hcs 0 (by omega)).1;obtain⟨p,hp⟩:=eI ((es.getD 0 (0,0)).1);rw[← hp] at g1 hr;have g1':w.cell? ⟨b,o,none⟩=some (.int .i64 p):=g1;obtain⟨n,hn⟩:=eI (es.length);rw[← hn] at h1 hc1;rw[← hn];subst h1;replace hn:=qh hn;have Hhp:=qh hp;clear hp;clear hcs hrd g1;by_cases hpk:p=k
  ·rw[decide_eq_true hpk] at hr;subst hr hpk
   go_enter Tryz.func120, Tryz.ntmps120
   go_wp2;go_ret;exact⟨ZaU (by simp),rfl⟩
  rw[decide_eq_false hpk] at hr;subst hr;obtain⟨q1,q2,q3,q4⟩:=Zaj hpk
  go_enter Tryz.func120, Tryz.ntmps120
  go_wp2;go_ret;exact⟨rfl,rfl⟩
 rw[decide_eq_false h1,Bool.false_and] at hr;subst hr;have h1I:¬ (es.length:Int)=1:=by omega
 obtain⟨q1,q2,q3,q4⟩:=Zaj h1I;clear hrd
 go_enter Tryz.func120, Tryz.ntmps120
 go_wp2;go_ret;exact⟨rfl,rfl⟩
theorem Zka (es:List (Int × Int)) (k:Int) (v:Value) (w:World) (h:Pairs 0 w v es) (hne:1≤es.length) (r:Bool) (hr:decide (ZcL es=k)=r) :
  Calls Tryz.prog 122 #[v,.int .i64 k] w fun e w'=>e = .returned (.bool r)∧w=w':=by
 obtain⟨a,c,rfl,hc1,hc2,hrd⟩:=h.form;clear h;obtain⟨b,o,rfl,-,hbl,hcs⟩:=hrd (by omega);obtain⟨m,hm⟩:∃ m,es.length=m+1:=⟨es.length-1,by omega⟩;have g1:=(hcs m (by omega)).1;have hL:(es.getD m (0,0)).1=ZcL es:=by unfold ZcL;rw[hm];rfl
 rw[hL] at g1;obtain⟨L,hLL⟩:=eJ (ZcL es);rw[hLL] at g1 hr;rw[hm] at hc1 ⊢;have hw1:IntKind.i64.wrap ((m:Int)+1-1)=(m:Int):=by rw[IntWalk.i64_in _ (by omega)];omega
 replace hLL:=qh hLL;have Hhm:=qh hm;clear hm;replace hL:=qh hL;clear hcs hrd;by_cases hk:L=k
 ·rw[decide_eq_true hk] at hr;subst hr hk
  go_enter Tryz.func122, Tryz.ntmps122
  go_wp2;go_ret;exact⟨ZaU (by simp),rfl⟩
 rw[decide_eq_false hk] at hr;subst hr;obtain⟨q1,q2,q3,q4⟩:=Zaj hk
 go_enter Tryz.func122, Tryz.ntmps122
 go_wp2;go_ret;exact⟨rfl,rfl⟩
theorem ZgU (xs ys:List (Int × Int)) (v1 v2:Value) (w:World) (hl:xs.length≤100000) (h1:Pairs 0 w v1 xs) (h2:Pairs 0 w v2 ys) :
  Calls Tryz.prog 123 #[v1,v2] w fun e w'=>e = .returned (.bool (decide (xs=ys)))∧Below w.heap.size w w':=by
 obtain⟨a1,c1,rfl,hc1,hc2,hr1⟩:=h1.form;obtain⟨a2,c2,rfl,hd1,hd2,hr2⟩:=h2.form;have Hr1:=qh hr1;have Hr2:=qh hr2;clear h1 h2 hr1 hr2;by_cases hln:xs.length=ys.length
 ·obtain⟨n,hn⟩:=eI (xs.length);have hn2:n=ys.length:=hn.trans hln;rw[← hn] at hc1 Hr1 hl ⊢;rw[← hn2] at hd1 Hr2 ⊢;replace hn:=qh hn;have Hhn2:=qh hn2;clear hn2;clear hln
  go_enter Tryz.func123, Tryz.ntmps123
  go_wp2
  go_loopw [13] (fun vi wr=>∃ i:Nat,vi = .int .i64 (i:Int)∧i≤n∧(∀ j,j<i→xs.getD j (0,0)=ys.getD j (0,0))∧Below w.heap.size w wr) (fun vi _=>n-(intOf vi).toNat)
  case atStart=>exact⟨0,rfl,Nat.zero_le _,fun j hj=>by omega,Below.refl _ _⟩
  case round =>
   obtain⟨i,rfl,hi,hsm,hb⟩:=hrel;have Hb:=qh hb;have Hsm:=qh hsm;clear hb hsm;by_cases hlt:i<n
   ·have hi1:(i:Int)<(n:Int):=by omega
    have hw1:IntKind.i64.wrap ((i:Int)+1)=(i:Int)+1:=IntWalk.i64_in _ (by omega);obtain⟨b1,o1,rfl,-,hl1,g1⟩:=Hr1.out (by omega);obtain⟨b2,o2,rfl,-,hl2,g2⟩:=Hr2.out (by omega);have k1:=(bcell Hb.out b1 _ hl1).trans (g1 i hlt).1;have k2:=(bcell Hb.out b1 _ hl1).trans (g1 i hlt).2;have k3:=(bcell Hb.out b2 _ hl2).trans (g2 i hlt).1;have k4:=(bcell Hb.out b2 _ hl2).trans (g2 i hlt).2;by_cases he:xs.getD i (0,0)=ys.getD i (0,0)
    ·rw[← he] at k3 k4;obtain⟨p,hp⟩:=eI (xs.getD i (0,0));rw[← hp] at k1 k2 k3 k4;obtain⟨x,y⟩:=p;simp only at k1 k2 k3 k4;have Hhp:=qh hp;clear hp;replace he:=qh he;clear g1 g2;go_wp2
     go_region
     go_wp2;go_roundw
     case rel =>
      refine⟨i+1,by simp,by omega,fun j hj => ?_,Hb.out.drew⟩;by_cases hji:j<i
      ·exact Hsm.out j hji
      obtain rfl:j=i:=by omega
      exact he.out
     case measure=>simp[intOf];omega
    have hne:decide (xs=ys)=false:=decide_eq_false fun h=>he (by rw[h])
    obtain⟨p,hp⟩:=eI (xs.getD i (0,0));obtain⟨q,hq⟩:=eI (ys.getD i (0,0));rw[← hp] at k1 k2 he;rw[← hq] at k3 k4 he;obtain⟨x,y⟩:=p;obtain⟨x',y'⟩:=q;simp only at k1 k2 k3 k4;have Hhne:=qh hne;clear hne;have Hhp:=qh hp;clear hp;have Hhq:=qh hq;clear hq;clear g1 g2;by_cases hx:x=x'
    ·have hy:y≠y':=fun h=>he (by rw[hx,h])
     subst hx;obtain⟨q1,q2,q3,q4⟩:=Zaj hy;replace he:=qh he;go_wp2
     go_region
     go_wp2;go_ret;exact⟨ZaU Hhne.out.symm,Hb.out.drew⟩
    obtain⟨q1,q2,q3,q4⟩:=Zaj hx;replace he:=qh he;go_wp2
    go_region
    go_wp2;go_ret;exact⟨ZaU Hhne.out.symm,Hb.out.drew⟩
   obtain rfl:i=n:=by omega
   have hi1:¬ (i:Int)<(i:Int):=by omega
   have hy:decide (xs=ys)=true:=decide_eq_true (List.ext_getElem (by rw[← hn.out,← Hhn2.out]) fun j h1 h2=>by
    have:=Hsm.out j (by rw[hn.out];exact h1)
    rwa [List.getD_eq_getElem?_getD,List.getElem?_eq_getElem h1,List.getD_eq_getElem?_getD,List.getElem?_eq_getElem h2] at this)
   have Hhy:=qh hy;clear hy;go_wp2;go_ret;exact⟨ZaU Hhy.out.symm,Hb.out⟩
 have hne:decide (xs=ys)=false:=decide_eq_false fun h=>hln (by rw[h])
 have hnI:¬ (xs.length:Int)=(ys.length:Int):=by omega
 obtain⟨q1,q2,q3,q4⟩:=Zaj hnI;have Hhne:=qh hne;clear hne
 go_enter Tryz.func123, Tryz.ntmps123
 go_wp2;go_ret;exact⟨ZaU Hhne.out.symm,Below.refl _ _⟩
theorem ZgR (xs ys:List (Int × Int)) (v1 v2:Value) (w:World) (hl1:xs.length≤10000) (hl2:ys.length≤10000) (h1:Pairs 0 w v1 xs) (h2:Pairs 0 w v2 ys) :
  Calls Tryz.prog 85 #[v1,v2] w fun e w'=>RPm (mkL 4 0 xs ys) xs ys v1 v2 w e w':=by
 obtain⟨a1,c1,rfl,-⟩:=h1.form;obtain⟨a2,c2,rfl,-⟩:=h2.form;obtain⟨rx1,hx1⟩:∃ r,isK xs 1=r:=⟨_,rfl⟩;obtain⟨ry1,hy1⟩:∃ r,isK ys 1=r:=⟨_,rfl⟩;obtain⟨rx2,hx2⟩:∃ r,isK xs 2=r:=⟨_,rfl⟩;obtain⟨ry2,hy2⟩:∃ r,isK ys 2=r:=⟨_,rfl⟩;have Ix1:=qh (fun (u:World) (hb:Below w.heap.size w u)=>Za4 xs 1 _ u (h1.below hb) rx1 hx1);have Iy1:=qh (fun (u:World) (hb:Below w.heap.size w u)=>Za4 ys 1 _ u (h2.below hb) ry1 hy1);have Ix2:=qh (fun (u:World) (hb:Below w.heap.size w u)=>Za4 xs 2 _ u (h1.below hb) rx2 hx2);have Iy2:=qh (fun (u:World) (hb:Below w.heap.size w u)=>Za4 ys 2 _ u (h2.below hb) ry2 hy2);have H1:=qh h1;have H2:=qh h2;have HS0:=qh (St.start w);have Hhx1:=qh hx1;clear hx1;have Hhy1:=qh hy1;clear hy1;have Hhx2:=qh hx2;clear hx2;have Hhy2:=qh hy2;clear hy2;clear h1 h2
 go_enter Tryz.func85, Tryz.ntmps85
 cases rx1 with
 | true =>
  go_wp2_with fail;refine(Ix1.out _ HS0.out.bel).mono ?_;rintro e w' ⟨rfl,rfl⟩;have hm:mkL 4 0 xs ys=[(1,0)]:=by simp[mkL,Hhx1.out]
  replace hm:=qh hm;go_wp2_with fail;refine(ZbR 1 _).mono ?_;rintro e w8 ⟨a8,c8,rfl,hS8⟩;have HS8:=qh hS8;clear hS8;go_wp2;go_ret;rw[hm.out];exact ZbF (v:=.slice a8 ([(1,0)]:List (Int × Int)).length c8) (HS0.out.cat HS8.out) fun u h=>Zad h
 | false =>
  go_wp2_with fail;refine(Ix1.out _ HS0.out.bel).mono ?_;rintro e w' ⟨rfl,rfl⟩;cases ry1 with
  | true =>
   go_wp2_with fail;refine(Iy1.out _ HS0.out.bel).mono ?_;rintro e w' ⟨rfl,rfl⟩;have hm:mkL 4 0 xs ys=[(1,0)]:=by simp[mkL,Hhx1.out,Hhy1.out]
   replace hm:=qh hm;go_wp2_with fail;refine(ZbR 1 _).mono ?_;rintro e w8 ⟨a8,c8,rfl,hS8⟩;have HS8:=qh hS8;clear hS8;go_wp2;go_ret;rw[hm.out];exact ZbF (v:=.slice a8 ([(1,0)]:List (Int × Int)).length c8) (HS0.out.cat HS8.out) fun u h=>Zad h
  | false =>
   go_wp2_with fail;refine(Iy1.out _ HS0.out.bel).mono ?_;rintro e w' ⟨rfl,rfl⟩;cases rx2 with
   | true =>
    go_wp2_with fail;refine(Ix2.out _ HS0.out.bel).mono ?_;rintro e w' ⟨rfl,rfl⟩;have hm:mkL 4 0 xs ys=ys:=by simp[mkL,Hhx1.out,Hhy1.out,Hhx2.out]
    replace hm:=qh hm;go_wp2;go_ret;rw[hm.out];exact Zb2 HS0.out fun u h h2=>h2
   | false =>
    go_wp2_with fail;refine(Ix2.out _ HS0.out.bel).mono ?_;rintro e w' ⟨rfl,rfl⟩;cases ry2 with
    | true =>
     go_wp2_with fail;refine(Iy2.out _ HS0.out.bel).mono ?_;rintro e w' ⟨rfl,rfl⟩;have hm:mkL 4 0 xs ys=xs:=by simp[mkL,Hhx1.out,Hhy1.out,Hhx2.out,Hhy2.out]
     replace hm:=qh hm;go_wp2;go_ret;rw[hm.out];exact Zb2 HS0.out fun u h h2=>h
    | false =>
     go_wp2_with fail;refine(Iy2.out _ HS0.out.bel).mono ?_;rintro e w' ⟨rfl,rfl⟩;have hm:mkL 4 0 xs ys=xs++ys++[(4,0)]:=by simp[mkL,Hhx1.out,Hhy1.out,Hhx2.out,Hhy2.out]
     replace hm:=qh hm;have HSb:=qh (HS0.out.alloc w.heap.size rfl #[.slice a1 xs.length c1,.slice a2 ys.length c2] 23);go_wp2_with fail;refine(Zja 4 xs ys _ _ w.heap.size 2 _ (by omega) (by omega) (HSb.out.boxlt 0 rfl).2 (HSb.out.cell 0 0 rfl rfl) (HSb.out.cell 0 1 rfl rfl) (H1.out.below HSb.out.bel) (H2.out.below HSb.out.bel)).mono ?_;rintro e w8 ⟨a8,c8,rfl,hS8⟩;obtain⟨n8,hn8⟩:∃ n,(xs++ys++[(4,0)]:List (Int × Int)).length=n:=⟨_,rfl⟩;rw[hn8] at hS8 ⊢;have HS8:=qh hS8;have Hhn8:=qh hn8;clear hn8;clear hS8;go_wp2;go_ret;rw[hm.out];exact ZfH (HSb.out.cat HS8.out) 1 rfl Hhn8.out
theorem ZiD (xs ys:List (Int × Int)) (v1 v2:Value) (w:World) (hl1:xs.length≤10000) (hl2:ys.length≤10000) (h1:Pairs 0 w v1 xs) (h2:Pairs 0 w v2 ys) :
  Calls Tryz.prog 87 #[v1,v2] w fun e w'=>RPm (mkL 5 0 xs ys) xs ys v1 v2 w e w':=by
 obtain⟨a1,c1,rfl,-⟩:=h1.form;obtain⟨a2,c2,rfl,-⟩:=h2.form;obtain⟨rx1,hx1⟩:∃ r,isK xs 1=r:=⟨_,rfl⟩;obtain⟨rs,hs⟩:∃ r,decide (xs=ys)=r:=⟨_,rfl⟩;obtain⟨ry1,hy1⟩:∃ r,isK ys 1=r:=⟨_,rfl⟩;have Ix1:=qh (fun (u:World) (hb:Below w.heap.size w u)=>Za4 xs 1 _ u (h1.below hb) rx1 hx1);have hsm:=fun (u:World) (hb:Below w.heap.size w u)=>ZgU xs ys _ _ u (by omega) (h1.below hb) (h2.below hb)
 rw[hs] at hsm;have Hsm:=qh hsm;have Iy1:=qh (fun (u:World) (hb:Below w.heap.size w u)=>Za4 ys 1 _ u (h2.below hb) ry1 hy1);have H1:=qh h1;have H2:=qh h2;have HS0:=qh (St.start w);have Hhx1:=qh hx1;clear hx1;have Hhs:Hid ((xs=ys)=(rs=true)):=qh (by rw[← hs,decide_eq_true_eq]);clear hs hsm;have Hhy1:=qh hy1;clear hy1;clear h1 h2
 go_enter Tryz.func87, Tryz.ntmps87
 cases rx1 with
 | true =>
  go_wp2_with fail;refine(Ix1.out _ HS0.out.bel).mono ?_;rintro e w' ⟨rfl,rfl⟩;have hm:mkL 5 0 xs ys=ys:=by simp[mkL,Hhx1.out]
  replace hm:=qh hm;go_wp2;go_ret;rw[hm.out];exact Zb2 HS0.out fun u h h2=>h2
 | false =>
  go_wp2_with fail;refine(Ix1.out _ HS0.out.bel).mono ?_;rintro e w' ⟨rfl,rfl⟩;cases rs with
  | true =>
   go_wp2_with fail;refine(Hsm.out _ HS0.out.bel).mono ?_;rintro e w3 ⟨rfl,hb3⟩;have HS3:=qh (HS0.out.call hb3);clear hb3;have hm:mkL 5 0 xs ys=ys:=by simp[mkL,Hhx1.out,Hhs.out]
   replace hm:=qh hm;go_wp2;go_ret;rw[hm.out];exact Zb2 HS3.out fun u h h2=>h2
  | false =>
   go_wp2_with fail;refine(Hsm.out _ HS0.out.bel).mono ?_;rintro e w3 ⟨rfl,hb3⟩;have HS3:=qh (HS0.out.call hb3);clear hb3;cases ry1 with
   | true =>
    go_wp2_with fail;refine(Iy1.out _ HS3.out.bel).mono ?_;rintro e w' ⟨rfl,rfl⟩;have hm:mkL 5 0 xs ys=xs:=by simp[mkL,Hhx1.out,Hhs.out,Hhy1.out]
    replace hm:=qh hm;go_wp2;go_ret;rw[hm.out];exact Zb2 HS3.out fun u h h2=>h
   | false =>
    go_wp2_with fail;refine(Iy1.out _ HS3.out.bel).mono ?_;rintro e w' ⟨rfl,rfl⟩;have hm:mkL 5 0 xs ys=xs++ys++[(5,0)]:=by simp[mkL,Hhx1.out,Hhs.out,Hhy1.out]
    replace hm:=qh hm;have HSb:=qh (HS3.out.alloc w3.heap.size rfl #[.slice a1 xs.length c1,.slice a2 ys.length c2] 23);go_wp2_with fail;refine(Zja 5 xs ys _ _ w3.heap.size 2 _ (by omega) (by omega) (HSb.out.boxlt 0 rfl).2 (HSb.out.cell 0 0 rfl rfl) (HSb.out.cell 0 1 rfl rfl) (H1.out.below HSb.out.bel) (H2.out.below HSb.out.bel)).mono ?_;rintro e w8 ⟨a8,c8,rfl,hS8⟩;obtain⟨n8,hn8⟩:∃ n,(xs++ys++[(5,0)]:List (Int × Int)).length=n:=⟨_,rfl⟩;rw[hn8] at hS8 ⊢;have HS8:=qh hS8;have Hhn8:=qh hn8;clear hn8;clear hS8;go_wp2;go_ret;rw[hm.out];exact ZfH (HSb.out.cat HS8.out) 1 rfl Hhn8.out
theorem ZnT (xs ys:List (Int × Int)) (v1 v2:Value) (w:World) (hl1:xs.length≤10000) (hl2:ys.length≤10000) (h1:Pairs 0 w v1 xs) (h2:Pairs 0 w v2 ys) :
  Calls Tryz.prog 137 #[v1,v2] w fun e w'=>RPm (mkL 6 0 xs ys) xs ys v1 v2 w e w':=by
 obtain⟨a1,c1,rfl,-⟩:=h1.form;obtain⟨a2,c2,rfl,-⟩:=h2.form;obtain⟨rx1,hx1⟩:∃ r,isK xs 1=r:=⟨_,rfl⟩;obtain⟨ry1,hy1⟩:∃ r,isK ys 1=r:=⟨_,rfl⟩;obtain⟨rs,hs⟩:∃ r,decide (xs=ys)=r:=⟨_,rfl⟩;have Ix1:=qh (fun (u:World) (hb:Below w.heap.size w u)=>Za4 xs 1 _ u (h1.below hb) rx1 hx1);have Iy1:=qh (fun (u:World) (hb:Below w.heap.size w u)=>Za4 ys 1 _ u (h2.below hb) ry1 hy1);have hsm:=fun (u:World) (hb:Below w.heap.size w u)=>ZgU xs ys _ _ u (by omega) (h1.below hb) (h2.below hb)
 rw[hs] at hsm;have Hsm:=qh hsm;have H1:=qh h1;have H2:=qh h2;have HS0:=qh (St.start w);have Hhx1:=qh hx1;clear hx1;have Hhy1:=qh hy1;clear hy1;have Hhs:Hid ((xs=ys)=(rs=true)):=qh (by rw[← hs,decide_eq_true_eq]);clear hs hsm;clear h1 h2
 go_enter Tryz.func137, Tryz.ntmps137
 cases rx1 with
 | true =>
  go_wp2_with fail;refine(Ix1.out _ HS0.out.bel).mono ?_;rintro e w' ⟨rfl,rfl⟩;have hm:mkL 6 0 xs ys=[(1,0)]:=by simp[mkL,Hhx1.out]
  replace hm:=qh hm;go_wp2_with fail;refine(ZbR 1 _).mono ?_;rintro e w8 ⟨a8,c8,rfl,hS8⟩;have HS8:=qh hS8;clear hS8;go_wp2;go_ret;rw[hm.out];exact ZbF (v:=.slice a8 ([(1,0)]:List (Int × Int)).length c8) (HS0.out.cat HS8.out) fun u h=>Zad h
 | false =>
  go_wp2_with fail;refine(Ix1.out _ HS0.out.bel).mono ?_;rintro e w' ⟨rfl,rfl⟩;cases ry1 with
  | true =>
   go_wp2_with fail;refine(Iy1.out _ HS0.out.bel).mono ?_;rintro e w' ⟨rfl,rfl⟩;have hm:mkL 6 0 xs ys=[(1,0)]:=by simp[mkL,Hhx1.out,Hhy1.out]
   replace hm:=qh hm;go_wp2_with fail;refine(ZbR 1 _).mono ?_;rintro e w8 ⟨a8,c8,rfl,hS8⟩;have HS8:=qh hS8;clear hS8;go_wp2;go_ret;rw[hm.out];exact ZbF (v:=.slice a8 ([(1,0)]:List (Int × Int)).length c8) (HS0.out.cat HS8.out) fun u h=>Zad h
  | false =>
   go_wp2_with fail;refine(Iy1.out _ HS0.out.bel).mono ?_;rintro e w' ⟨rfl,rfl⟩;cases rs with
   | true =>
    go_wp2_with fail;refine(Hsm.out _ HS0.out.bel).mono ?_;rintro e w3 ⟨rfl,hb3⟩;have HS3:=qh (HS0.out.call hb3);clear hb3;have hm:mkL 6 0 xs ys=xs:=by simp[mkL,Hhx1.out,Hhy1.out,Hhs.out]
    replace hm:=qh hm;go_wp2;go_ret;rw[hm.out];exact Zb2 HS3.out fun u h h2=>h
   | false =>
    go_wp2_with fail;refine(Hsm.out _ HS0.out.bel).mono ?_;rintro e w3 ⟨rfl,hb3⟩;have HS3:=qh (HS0.out.call hb3);clear hb3;have hm:mkL 6 0 xs ys=xs++ys++[(6,0)]:=by simp[mkL,Hhx1.out,Hhy1.out,Hhs.out]
    replace hm:=qh hm;have HSb:=qh (HS3.out.alloc w3.heap.size rfl #[.slice a1 xs.length c1,.slice a2 ys.length c2] 23);go_wp2_with fail;refine(Zja 6 xs ys _ _ w3.heap.size 2 _ (by omega) (by omega) (HSb.out.boxlt 0 rfl).2 (HSb.out.cell 0 0 rfl rfl) (HSb.out.cell 0 1 rfl rfl) (H1.out.below HSb.out.bel) (H2.out.below HSb.out.bel)).mono ?_;rintro e w8 ⟨a8,c8,rfl,hS8⟩;obtain⟨n8,hn8⟩:∃ n,(xs++ys++[(6,0)]:List (Int × Int)).length=n:=⟨_,rfl⟩;rw[hn8] at hS8 ⊢;have HS8:=qh hS8;have Hhn8:=qh hn8;clear hn8;clear hS8;go_wp2;go_ret;rw[hm.out];exact ZfH (HSb.out.cat HS8.out) 1 rfl Hhn8.out
theorem Zon (xs:List (Int × Int)) (v1:Value) (w:World) (hl1:xs.length≤10000) (hne:1≤xs.length) (h1:Pairs 0 w v1 xs) :
  Calls Tryz.prog 96 #[v1] w fun e w'=>RPm (mkL 7 0 xs []) xs [] v1 (.slice none 0 0) w e w':=by
 obtain⟨a1,c1,rfl,hc1,hc2,-⟩:=h1.form;obtain⟨r7,h7⟩:∃ r,decide (ZcL xs=7)=r:=⟨_,rfl⟩;have I7:=qh (Zka xs 7 _ w h1 hne r7 h7);have Hh7:Hid ((ZcL xs=7)=(r7=true)):=qh (by rw[← h7,decide_eq_true_eq]);have H1:=qh h1;have HS0:=qh (St.start w);obtain⟨n,hn⟩:=eI (xs.length);obtain⟨m,hm'⟩:∃ m,n=m+1:=⟨n-1,by omega⟩;have hmI:(n:Int)-1=(m:Int):=by omega
 have hmw:IntKind.i64.wrap (m:Int)=(m:Int):=IntWalk.i64_in _ (by omega);have hm2:(m:Int)<(n:Int):=by omega
 have hm3:m≤n:=by omega
 rw[← hn] at hc1 H1 I7 hl1 ⊢;replace hn:=qh hn;replace hm':=qh hm';clear h1 h7 hne
 go_enter Tryz.func96, Tryz.ntmps96
 go_wp2_with fail;refine I7.out.mono ?_;rintro e w' ⟨rfl,rfl⟩;cases r7 with
 | true =>
  have hm:mkL 7 0 xs []=xs.take (xs.length-1):=by simp[mkL,Hh7.out]
  replace hm:=qh hm;go_wp2;go_ret;rw[hm.out];exact Zb2 HS0.out fun u h1 _=>by have h:=h1.take (n:=m) (by have h1:=hn.out;have h2:=hm'.out;omega);rw[← hn.out,hm'.out];exact h
 | false =>
  have hm:mkL 7 0 xs []=xs++[]++[(7,0)]:=by simp[mkL,Hh7.out]
  rw[List.append_nil] at hm;replace hm:=qh hm;have HSb:=qh (HS0.out.alloc w.heap.size rfl #[.slice a1 n c1] 23);go_wp2_with fail;refine(ZlE 7 xs _ w.heap.size 1 _ (by rw[← hn.out];omega) (HSb.out.boxlt 0 rfl).2 (HSb.out.cell 0 0 rfl rfl) (H1.out.below HSb.out.bel)).mono ?_;rintro e w8 ⟨a8,c8,rfl,hS8⟩;obtain⟨n8,hn8⟩:∃ n,(xs++[(7,0)]:List (Int × Int)).length=n:=⟨_,rfl⟩;rw[hn8] at hS8 ⊢;have HS8:=qh hS8;have Hhn8:=qh hn8;clear hn8;clear hS8;go_wp2;go_ret;rw[hm.out];exact ZfH (HSb.out.cat HS8.out) 1 rfl Hhn8.out
theorem Zld (xs:List (Int × Int)) (v1:Value) (w:World) (hl1:xs.length≤10000) (hne:1≤xs.length) (h1:Pairs 0 w v1 xs) :
  Calls Tryz.prog 86 #[v1] w fun e w'=>RPm (mkL 8 0 xs []) xs [] v1 (.slice none 0 0) w e w':=by
 obtain⟨a1,c1,rfl,-⟩:=h1.form;obtain⟨rx1,hx1⟩:∃ r,isK xs 1=r:=⟨_,rfl⟩;obtain⟨rx2,hx2⟩:∃ r,isK xs 2=r:=⟨_,rfl⟩;obtain⟨r8,h8⟩:∃ r,decide (ZcL xs=8)=r:=⟨_,rfl⟩;have Ix1:=qh (Za4 xs 1 _ w h1 rx1 hx1);have Ix2:=qh (Za4 xs 2 _ w h1 rx2 hx2);have I8:=qh (Zka xs 8 _ w h1 hne r8 h8);have Hh8:Hid ((ZcL xs=8)=(r8=true)):=qh (by rw[← h8,decide_eq_true_eq]);have Hhx1:=qh hx1;have Hhx2:=qh hx2;have H1:=qh h1;have HS0:=qh (St.start w);clear h1 h8 hx1 hx2 hne
 go_enter Tryz.func86, Tryz.ntmps86
 go_wp2_with fail;refine Ix1.out.mono ?_;rintro e w' ⟨rfl,rfl⟩;cases rx1 with
 | true =>
  have hm:mkL 8 0 xs []=[(2,0)]:=by simp[mkL,Hhx1.out]
  replace hm:=qh hm;go_wp2_with fail;refine(ZbR 2 _).mono ?_;rintro e w8 ⟨a8,c8,rfl,hS8⟩;have HS8:=qh hS8;clear hS8;go_wp2;go_ret;rw[hm.out];exact ZbF (v:=.slice a8 ([(2,0)]:List (Int × Int)).length c8) (HS0.out.cat HS8.out) fun u h=>Zad h
 | false =>
  go_wp2_with fail;refine Ix2.out.mono ?_;rintro e w' ⟨rfl,rfl⟩;cases rx2 with
  | true =>
   have hm:mkL 8 0 xs []=[(2,0)]:=by simp[mkL,Hhx1.out,Hhx2.out]
   replace hm:=qh hm;go_wp2_with fail;refine(ZbR 2 _).mono ?_;rintro e w8 ⟨a8,c8,rfl,hS8⟩;have HS8:=qh hS8;clear hS8;go_wp2;go_ret;rw[hm.out];exact ZbF (v:=.slice a8 ([(2,0)]:List (Int × Int)).length c8) (HS0.out.cat HS8.out) fun u h=>Zad h
  | false =>
   go_wp2_with fail;refine I8.out.mono ?_;rintro e w' ⟨rfl,rfl⟩;cases r8 with
   | true =>
    have hm:mkL 8 0 xs []=xs:=by simp[mkL,Hhx1.out,Hhx2.out,Hh8.out]
    replace hm:=qh hm;go_wp2;go_ret;rw[hm.out];exact Zb2 HS0.out fun u h _=>h
   | false =>
    have hm:mkL 8 0 xs []=xs++[]++[(8,0)]:=by simp[mkL,Hhx1.out,Hhx2.out,Hh8.out]
    rw[List.append_nil] at hm;replace hm:=qh hm;have HSb:=qh (HS0.out.alloc w.heap.size rfl #[.slice a1 xs.length c1] 23);go_wp2_with fail;refine(ZlE 8 xs _ w.heap.size 1 _ (by omega) (HSb.out.boxlt 0 rfl).2 (HSb.out.cell 0 0 rfl rfl) (H1.out.below HSb.out.bel)).mono ?_;rintro e w8 ⟨a8,c8,rfl,hS8⟩;obtain⟨n8,hn8⟩:∃ n,(xs++[(8,0)]:List (Int × Int)).length=n:=⟨_,rfl⟩;rw[hn8] at hS8 ⊢;have HS8:=qh hS8;have Hhn8:=qh hn8;clear hn8;clear hS8;go_wp2;go_ret;rw[hm.out];exact ZfH (HSb.out.cat HS8.out) 1 rfl Hhn8.out
theorem Znh (k:Int) (hk:k=4∨k=5∨k=6) (xs ys:List (Int × Int)) (v1 v2:Value) (w:World) (hl1:xs.length≤10000) (hl2:ys.length≤10000) (h1:Pairs 0 w v1 xs) (h2:Pairs 0 w v2 ys) :
  Calls Tryz.prog 99 #[.int .i64 k,v1,v2] w fun e w'=>RPm (mkL k 0 xs ys) xs ys v1 v2 w e w':=by
 obtain⟨a1,c1,rfl,-⟩:=h1.form;obtain⟨a2,c2,rfl,-⟩:=h2.form;have H1:=qh h1;have H2:=qh h2;clear h1 h2;rcases hk with rfl|rfl|rfl
 ·go_enter Tryz.func99, Tryz.ntmps99
  go_wp2_with fail;refine(ZgR xs ys _ _ w hl1 hl2 H1.out H2.out).mono ?_;rintro e w8 ⟨v,F,rfl,hS,hF⟩;have HS:=qh hS;have HF:=qh hF;clear hS hF;go_wp2;go_ret;exact⟨v,F,rfl,HS.out,HF.out⟩
 ·go_enter Tryz.func99, Tryz.ntmps99
  go_wp2_with fail;refine(ZiD xs ys _ _ w hl1 hl2 H1.out H2.out).mono ?_;rintro e w8 ⟨v,F,rfl,hS,hF⟩;have HS:=qh hS;have HF:=qh hF;clear hS hF;go_wp2;go_ret;exact⟨v,F,rfl,HS.out,HF.out⟩
 go_enter Tryz.func99, Tryz.ntmps99
 go_wp2_with fail;refine(ZnT xs ys _ _ w hl1 hl2 H1.out H2.out).mono ?_;rintro e w8 ⟨v,F,rfl,hS,hF⟩;have HS:=qh hS;have HF:=qh hF;clear hS hF;go_wp2;go_ret;exact⟨v,F,rfl,HS.out,HF.out⟩
def Ent.mkQ (X:World→Prop) (F:Ent) (v:Value) (M:List (Int × Int)):Ent:=⟨F.foot,fun w=>F.holds w∧∀ u,X u→F.holds u→Pairs 0 u v M,fun a b h hk=>⟨F.stable a b h.1 hk,h.2⟩⟩
theorem St.mkQ {w0 w:World} {L:List Ent} (h:St w0 w L) (k:Nat) {X:World→Prop} {F:Ent} {v:Value} {M:List (Int × Int)} (hk:L[k]? = some (Ent.mkQ X F v M)) (hx:X w):Pairs 0 w v M:=by have h1:=(h.has k _ hk).1;exact h1.2 w hx h1.1
def RQm (X:World→Prop) (M:List (Int × Int)) (w:World) (e:Ending) (w':World):Prop:=∃ g c F,e = .returned (.slice g M.length c)∧St w w' [Ent.mkQ X F (.slice g M.length c) M]
theorem Zlq {X:World→Prop} {M:List (Int × Int)} {v:Value} {w w':World} {L:List Ent} (hS:St w w' L) (hx:X w') (h:∀ u,X u→Pairs 0 u v M):RQm X M w (.returned v) w':=by obtain⟨g,c,rfl,-⟩:=(h w' hx).form;exact⟨g,c,Ent.nil,rfl,(hS.pick [] (by decide)).add (Below.refl _ _) (Ent.mkQ X Ent.nil _ M) ⟨trivial,fun u hu _=>h u hu⟩ fun k hk=>hk.elim⟩
theorem ZfG {X:World→Prop} {M xs ys:List (Int × Int)} {v1 v2:Value} {w w':World} {e:Ending} (hX:∀ u,X u→Pairs 0 u v1 xs∧Pairs 0 u v2 ys) (hw:X w') (h:RPm M xs ys v1 v2 w e w'):RQm X M w e w':=by obtain⟨v,F,rfl,hS,hF⟩:=h;have hP:=hF w' (hX w' hw).1 (hX w' hw).2 (hS.has 0 F rfl).1;obtain⟨g,c,rfl,-⟩:=hP.form;exact⟨g,c,F,rfl,hS.same 0 rfl (Ent.mkQ X F _ M) (fun h=>⟨h,fun u h1 h3=>hF u (hX u h1).1 (hX u h1).2 h3⟩) fun _ hk=>hk⟩
theorem Zcj {X:World→Prop} {M:List (Int × Int)} {g:Option Addr} {c:Nat} {w w':World} {L:List Ent} (hS:St w w' L) (h:∀ u,X u→(Ent.all L).holds u→Pairs 0 u (.slice g M.length c) M):RQm X M w (.returned (.slice g M.length c)) w' :=
 ⟨g,c,Ent.all L,rfl,(St.pack (A:=[]) hS).same 0 rfl (Ent.mkQ X (Ent.all L) _ M) (fun h1=>⟨h1,h⟩) fun _ hk=>hk⟩
theorem Zbk {L:List Ent} {u:World} (h:(Ent.all L).holds u) (k:Nat) {X:World→Prop} {F:Ent} {v:Value} {M:List (Int × Int)} (hk:L[k]? = some (Ent.mkQ X F v M)) (hx:X u):Pairs 0 u v M:=by have h1:=h _ (List.mem_of_getElem? hk);exact h1.2 u hx h1.1
theorem Zdj (k:Int) (hk:k=4∨k=5∨k=6) (xs ys M:List (Int × Int)) (hM:mkL k 0 xs ys=M) (v1 v2:Value) (w:World) (hl1:xs.length≤10000) (hl2:ys.length≤10000) (h1:Pairs 0 w v1 xs) (h2:Pairs 0 w v2 ys) :
  Calls Tryz.prog 99 #[.int .i64 k,v1,v2] w fun e w'=>RQm (fun u=>Pairs 0 u v1 xs∧Pairs 0 u v2 ys) M w e w':=by
 refine(Znh k hk xs ys v1 v2 w hl1 hl2 h1 h2).mono ?_;intro e w' h;rw[hM] at h;obtain⟨v,F,rfl,hS,hF⟩:=h;exact ZfG (fun u h=>h) ⟨h1.below hS.bel,h2.below hS.bel⟩ ⟨v,F,rfl,hS,hF⟩
theorem Zf3 (xs ys M:List (Int × Int)) (hM:mkL 4 0 xs ys=M) (v1 v2:Value) (w:World) (hl1:xs.length≤10000) (hl2:ys.length≤10000) (h1:Pairs 0 w v1 xs) (h2:Pairs 0 w v2 ys) :
  Calls Tryz.prog 85 #[v1,v2] w fun e w'=>RQm (fun u=>Pairs 0 u v1 xs∧Pairs 0 u v2 ys) M w e w':=by
 refine(ZgR xs ys v1 v2 w hl1 hl2 h1 h2).mono ?_;intro e w' h;rw[hM] at h;obtain⟨v,F,rfl,hS,hF⟩:=h;exact ZfG (fun u h=>h) ⟨h1.below hS.bel,h2.below hS.bel⟩ ⟨v,F,rfl,hS,hF⟩
theorem Zjo (xs ys M:List (Int × Int)) (hM:mkL 5 0 xs ys=M) (v1 v2:Value) (w:World) (hl1:xs.length≤10000) (hl2:ys.length≤10000) (h1:Pairs 0 w v1 xs) (h2:Pairs 0 w v2 ys) :
  Calls Tryz.prog 87 #[v1,v2] w fun e w'=>RQm (fun u=>Pairs 0 u v1 xs∧Pairs 0 u v2 ys) M w e w':=by
 refine(ZiD xs ys v1 v2 w hl1 hl2 h1 h2).mono ?_;intro e w' h;rw[hM] at h;obtain⟨v,F,rfl,hS,hF⟩:=h;exact ZfG (fun u h=>h) ⟨h1.below hS.bel,h2.below hS.bel⟩ ⟨v,F,rfl,hS,hF⟩
theorem ZgI {u:World}:Pairs 0 u (.slice none 0 0) []:=⟨rfl,none,0,rfl,Nat.zero_le _,Nat.zero_le _,fun h0=>absurd h0 (Nat.lt_irrefl 0)⟩
theorem ZjU (xs M:List (Int × Int)) (hM:mkL 7 0 xs []=M) (v1:Value) (w:World) (hl1:xs.length≤10000) (hne:1≤xs.length) (h1:Pairs 0 w v1 xs) :
  Calls Tryz.prog 96 #[v1] w fun e w'=>RQm (fun u=>Pairs 0 u v1 xs) M w e w':=by
 refine(Zon xs v1 w hl1 hne h1).mono ?_;intro e w' h;rw[hM] at h;obtain⟨v,F,rfl,hS,hF⟩:=h;exact ZfG (fun u h=>⟨h,ZgI⟩) (h1.below hS.bel) ⟨v,F,rfl,hS,hF⟩
theorem Zlc (xs M:List (Int × Int)) (hM:mkL 8 0 xs []=M) (v1:Value) (w:World) (hl1:xs.length≤10000) (hne:1≤xs.length) (h1:Pairs 0 w v1 xs) :
  Calls Tryz.prog 86 #[v1] w fun e w'=>RQm (fun u=>Pairs 0 u v1 xs) M w e w':=by
 refine(Zld xs v1 w hl1 hne h1).mono ?_;intro e w' h;rw[hM] at h;obtain⟨v,F,rfl,hS,hF⟩:=h;exact ZfG (fun u h=>⟨h,ZgI⟩) (h1.below hS.bel) ⟨v,F,rfl,hS,hF⟩
end Go.Proofs.YtehmjmjedopkkaaGreat
