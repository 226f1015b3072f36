/-
  The walks over the program's CompileExpr and StateCount, and over the reference's StateCount.
  Condition: the list of parts reads as such.
-/
import Derived.Test.YtehmjmjedopkkaaGreatPd43Cmp
set_option maxHeartbeats 4000000
set_option maxRecDepth 100000
namespace Go.Proofs.YtehmjmjedopkkaaGreat
open Go.RowKit
theorem Zco (K:Nat) (hK:K=40) (es:List (Int × Int)) (o:Option DfaD) (ho:ZnZ K es o) (v:Value) (w:World) (h:Pairs 0 w v es) :
  Calls Tryz.prog 10 #[v] w fun e w'=>RTt (o.getD zeD) o.isSome w.heap.size e w'∧Below w.heap.size w w':=by
 have H:=qh h;have HS0:=qh ((St.start w).alloc _ rfl #[.slice none 0 0,.slice none 0 0] 32);clear h;rcases ho with⟨hok,t,ht,rfl⟩|⟨hok,rfl⟩
 ·have hrun:runC K es []=(Zau K t).map fun d=>[d]:=by rw[← ht];exact Zky hK t
  have hmin:∀ d,Zau K t=some d→minD d=d:=fun d h=>ZhR hK t h
  obtain⟨o,ho⟩:=eJ (Zau K t);rw[ho] at hrun hmin;rw[ho];have Hc:=qh (show ∀ u:World,Below w.heap.size w u→Calls Tryz.prog 34 #[v] u fun e w'=>RTt (o.getD zeD) o.isSome u.heap.size e w'∧Below u.heap.size u w' from fun u hb=>Ze5 K hK es o hrun hmin v u hok (H.out.below hb));obtain⟨D,hD⟩:=eJ (o.getD zeD);obtain⟨fb,hfb⟩:=eJ (o.isSome);rw[hD,hfb] at Hc;rw[hD,hfb];replace hok:=qh hok;clear hrun hmin ho ht hD hfb
  go_enter Tryz.func10, Tryz.ntmps10
  go_wp2_with fail;refine(ZaG es v _ (H.out.below HS0.out.bel) _ hok.out).mono ?_;rintro e w1 ⟨rfl,hb1⟩;have HS1:=qh (HS0.out.call hb1);clear hb1;go_wp2_with fail;refine(Hc.out _ HS1.out.bel).mono ?_;rintro e w2 ⟨⟨a1,c1,a2,c2,rfl,hown⟩,hb2⟩;have hS5:=HS1.out.call hb2;have f0:=hS5.fr 0 0 rfl;have f1:=hS5.fr 0 1 rfl;have k0:=hS5.cell (v:=.slice none 0 0) 0 0 rfl rfl;have k1:=hS5.cell (v:=.slice none 0 0) 0 1 rfl rfl;have hDM:=DMem.of hown HS1.out.size;have hb0:=hS5.box 0 rfl;have HS5:=qh hS5;have HDM:=qh hDM;replace hb0:=qh hb0;clear hS5 hown hb2 hDM;go_wp2;have hq:=(HS5.out.set 0 rfl 0 (.slice a1 D.next.length c1)).set 0 rfl 1 (.slice a2 D.ends.length c2);have q0:=hq.cell (v:=.slice a1 D.next.length c1) 0 0 rfl rfl;have q1:=hq.cell (v:=.slice a2 D.ends.length c2) 0 1 rfl rfl;have hm:=(HDM.out.set hb0.out 0 (.slice a1 D.next.length c1)).set (hb0.out.set 0 _) 1 (.slice a2 D.ends.length c2);refine bodyPost_ret (v:=.tuple #[.agg #[.slice a1 D.next.length c1,.slice a2 D.ends.length c2],.bool fb]) (by simp[results,Tryz.results10,go_sem,q0,q1]) rfl ⟨?_,hq.bel⟩;exact⟨a1,c1,a2,c2,rfl,_,_,rfl,hm.1,hm.2⟩
 replace hok:=qh hok
 go_enter Tryz.func10, Tryz.ntmps10
 go_wp2_with fail;refine(ZaG es v _ (H.out.below HS0.out.bel) _ hok.out).mono ?_;rintro e w1 ⟨rfl,hb1⟩;have HS5:=qh (HS0.out.call hb1);clear hb1;have f0:=HS5.out.fr 0 0 rfl;have f1:=HS5.out.fr 0 1 rfl;have k0:=HS5.out.cell (v:=.slice none 0 0) 0 0 rfl rfl;have k1:=HS5.out.cell (v:=.slice none 0 0) 0 1 rfl rfl;go_wp2;have hq:=(HS5.out.set 0 rfl 0 (.slice none 0 0)).set 0 rfl 1 (.slice none 0 0);have q0:=hq.cell (v:=.slice none 0 0) 0 0 rfl rfl;have q1:=hq.cell (v:=.slice none 0 0) 0 1 rfl rfl;refine bodyPost_ret (v:=.tuple #[.agg #[.slice none 0 0,.slice none 0 0],.bool false]) (by simp[results,Tryz.results10,go_sem,q0,q1]) rfl ⟨?_,hq.bel⟩;exact⟨none,0,none,0,rfl,Zg6 _ _ _ _ _⟩
theorem ZfE (xs:List Bool) (v1 v2:Value) (w:World) (h1:Bools 0 w v1 xs) (h2:Bools 0 w v2 xs) :
  Calls Tryz.prog 36 #[v1,v2] w fun e w'=>e = .returned (.bool true)∧Below w.heap.size w w':=by
 obtain⟨a1,c1,rfl,hc1,hm1,hr1⟩:=h1.form;obtain⟨a2,c2,rfl,hc2,hm2,hr2⟩:=h2.form;clear h1 h2;have hl:((xs.length:Int) != xs.length)=false:=by simp
 go_enter Tryz.func36, Tryz.ntmps36
 go_wp2
 go_loopw [4,5] (fun r i wr=>∃ k:Nat,k≤xs.length∧i = .int .i64 k∧Below w.heap.size w wr) (fun _ i _=>xs.length-(intOf i).toNat)
 case atStart=>exact⟨0,Nat.zero_le _,rfl,Below.refl _ _⟩
 case round =>
  obtain⟨k,hk,rfl,hb⟩:=hrel;by_cases hlt:k<xs.length
  ·obtain⟨b1,o1,rfl,hB1,hbl1,hcs1⟩:=hr1 (by omega);obtain⟨b2,o2,rfl,hB2,hbl2,hcs2⟩:=hr2 (by omega);have hx1:=(bcell hb b1 (o1+k) hbl1).trans (hcs1 k hlt);have hx2:=(bcell hb b2 (o2+k) hbl2).trans (hcs2 k hlt);obtain⟨x,hx⟩:=eI (xs.getD k false);rw[← hx] at hx1 hx2;have hne:(x != x)=false:=by simp
   have hne':(!(x==x))=false:=by simp
   replace hx:=qh hx;replace hb:=qh hb;clear hcs1 hcs2 hr1 hr2;go_wp2
   go_quiet (fail)
   go_wp2;go_roundw
   case rel=>exact⟨k+1,by omega,by go_num,below_drewN hb.out _⟩
   case measure=>simp[intOf];omega
  clear hr1 hr2;replace hb:=qh hb;go_wp2;go_ret;exact⟨rfl,hb.out⟩
theorem ZkD {P:Program} {f:FuncId} {args:Array Value} {w:World} {n:Nat} {v:Value}
  (h:Calls P f args (w.drewN n) fun e w'=>e = .returned v∧∃ m,w'=(w.drewN n).drewN m):Calls P f args (w.drewN n) fun e w''=>e = .returned v∧∃ m,w''=w.drewN m :=
 h.mono fun _ _ ⟨he,_,hm⟩=>⟨he,_,hm.trans (World.drewN_drewN _ _ _)⟩
theorem Zhg (xs:List Int) (v1 v2:Value) (w:World) (h1:Ints 0 w v1 xs) (h2:Ints 0 w v2 xs) :
  Calls Tryz.prog 35 #[v1,v2] w fun e w'=>e = .returned (.bool true)∧∃ m,w'=w.drewN m:=by
 obtain⟨a1,c1,rfl,hc1,hm1,hr1⟩:=h1.form;obtain⟨a2,c2,rfl,hc2,hm2,hr2⟩:=h2.form;clear h1 h2;have hl:((xs.length:Int) != xs.length)=false:=by simp
 go_enter Tryz.func35, Tryz.ntmps35
 go_wp2
 go_loopw [4,5] (fun r i wr=>∃ k:Nat,k≤xs.length∧i = .int .i64 k∧∃ m,wr=w.drewN m) (fun _ i _=>xs.length-(intOf i).toNat)
 case atStart=>exact⟨0,Nat.zero_le _,rfl,0,rfl⟩
 case round =>
  obtain⟨k,hk,rfl,hm⟩:=hrel;by_cases hlt:k<xs.length
  ·obtain⟨b1,o1,rfl,hB1,hbl1,hcs1⟩:=hr1 (by omega);obtain⟨b2,o2,rfl,hB2,hbl2,hcs2⟩:=hr2 (by omega);have hb:Below w.heap.size w wr:=by obtain⟨m,rfl⟩:=hm;exact below_drewN (Below.refl _ _) m
   have hx1:=(bcell hb b1 (o1+k) hbl1).trans (hcs1 k hlt);have hx2:=(bcell hb b2 (o2+k) hbl2).trans (hcs2 k hlt);obtain⟨x,hx⟩:=eI (xs.getD k 0);rw[← hx] at hx1 hx2;have hne:(x != x)=false:=by simp
   have hne':(!(x==x))=false:=by simp
   replace hx:=qh hx;replace hm:=qh hm;clear hcs1 hcs2 hr1 hr2 hb;go_wp2
   go_quiet (fail)
   go_wp2;go_roundw
   case rel=>exact⟨k+1,by omega,by go_num,by obtain⟨m,rfl⟩:=hm.out;exact⟨_,World.drewN_drewN _ _ _⟩⟩
   case measure=>simp[intOf];omega
  clear hr1 hr2;replace hm:=qh hm;go_wp2;go_ret;exact⟨rfl,hm.out⟩
theorem Zi2 (d:DfaD) (a b:Value) (w:World) (h1:DfaR 0 w a d) (h2:DfaR 0 w b d) :
  Calls Tryz.prog 11 #[a,b] w fun e w'=>e = .returned (.bool true)∧Below w.heap.size w w':=by
 obtain⟨v1,v2,rfl,g1,g2⟩:=h1;obtain⟨u1,u2,rfl,k1,k2⟩:=h2;obtain⟨a1,c1,rfl,hc1,hm1,hr1⟩:=g1.formI;obtain⟨b1,d1,rfl,hd1,hn1,hq1⟩:=k1.formI;have G2:=qh g2;have K2:=qh k2;have hS0:=((St.start w).alloc _ rfl #[.slice a1 d.next.length c1,v2] 32).alloc (w.heap.size+1) (by simp) #[.slice b1 d.next.length d1,u2] 32;have e0:=hS0.cell (v:=.slice a1 d.next.length c1) 0 0 rfl rfl;have f0:=hS0.cell (v:=.slice b1 d.next.length d1) 1 0 rfl rfl;have hne2:((d.next.length:Int) != d.next.length)=false:=by simp
 replace hS0:=qh hS0;have Hhr1:=qh hr1;clear hr1;have Hhq1:=qh hq1;clear hq1;clear g1 g2 k1 k2
 go_enter Tryz.func11, Tryz.ntmps11
 go_wp2
 go_loopw [5] (fun i wr=>∃ k:Nat,i = .int .i64 k∧k≤d.next.length∧St w wr [Ent.box w.heap.size #[.slice a1 d.next.length c1,v2] 32,Ent.box (w.heap.size+1) #[.slice b1 d.next.length d1,u2] 32]) (fun i _=>d.next.length-(intOf i).toNat)
 case atStart=>exact⟨0,rfl,Nat.zero_le _,hS0.out⟩
 case round =>
  obtain⟨k,rfl,hk,hS⟩:=hrel;clear e0 f0;by_cases hlt:k<d.next.length
  ·have hkI:(k:Int)<d.next.length:=by omega
   obtain⟨x1,y1,rfl,-,hbl1,hcs1⟩:=Hhr1.out (by omega);obtain⟨x2,y2,rfl,-,hbl2,hcs2⟩:=Hhq1.out (by omega);obtain⟨m1,z1,p1,-,-,p2⟩:=hcs1 k hlt;obtain⟨m2,z2,q1,-,-,q2⟩:=hcs2 k hlt;replace p1:=(bcell hS.bel x1 _ hbl1).trans p1;replace q1:=(bcell hS.bel x2 _ hbl2).trans q1;have P2:=qh p2;have Q2:=qh q2;have e1:=hS.cell (v:=.slice (some ⟨x1,y1,none⟩) d.next.length c1) 0 0 rfl rfl;have f1:=hS.cell (v:=.slice (some ⟨x2,y2,none⟩) d.next.length d1) 1 0 rfl rfl;obtain⟨x,hx⟩:=eJ (d.next.getD k []);rw[hx] at p1 q1 P2 Q2;have HS:=qh hS;replace P2:=qh (P2.out.below HS.out.bel);replace Q2:=qh (Q2.out.below HS.out.bel);have Hhx:=qh hx;clear hx;clear hcs1 hcs2 hS p2 q2;go_wp2_with fail
   go_quiet ((go_at_call 35;exact ZkD (Zhg x _ _ _ (P2.out.below (below_drewN (Below.refl _ _) _)) (Q2.out.below (below_drewN (Below.refl _ _) _)))))
   go_wp2;go_roundw
   case rel=>exact⟨k+1,by go_num,by omega,HS.out.drewN nq⟩
   case measure=>simp[intOf];omega
  obtain rfl:k=d.next.length:=by omega
  have e1:=hS.cell (v:=.slice a1 d.next.length c1) 0 0 rfl rfl;have e2:=hS.cell (v:=v2) 0 1 rfl rfl;have f2:=hS.cell (v:=u2) 1 1 rfl rfl;have HS:=qh hS;clear hS;go_wp2_with fail;refine(ZfE d.ends _ _ _ (G2.out.below HS.out.bel) (K2.out.below HS.out.bel)).mono ?_;rintro e w4 ⟨rfl,hb4⟩;have HS4:=qh (HS.out.call hb4);clear hb4;go_wp2;go_ret;exact⟨rfl,HS4.out.bel⟩
theorem Bx.only {lo hi b:Nat} {w w':World} {cs:Array Value} {T:TypeId} (h:Bx w b cs T) (ho:Only lo hi w w') (hd:b<lo∨hi≤b):Bx w' b cs T:=(ho.block b h.lt hd).trans h
theorem DfaO.only {tS tI tB lo hi lo' hi':Nat} {w w':World} {v:Value} {d:DfaD} (h:DfaO tS tI tB lo hi w v d) (ho:Only lo' hi' w w') (hd:hi≤lo'∨hi'≤lo):DfaO tS tI tB lo hi w' v d:=by obtain⟨v1,v2,hv,h1,h2⟩:=h;exact⟨v1,v2,hv,h1.only ho hd,h2.only ho hd⟩
theorem DfaO.below {tS tI tB lo hi:Nat} {w w':World} {v:Value} {d:DfaD} (h:DfaO tS tI tB lo hi w v d) (hb:Below w.heap.size w w'):DfaO tS tI tB lo hi w' v d:=by obtain⟨v1,v2,hv,h1,h2⟩:=h;exact⟨v1,v2,hv,h1.below hb,Own.below h2 hb⟩
end Go.Proofs.YtehmjmjedopkkaaGreat
