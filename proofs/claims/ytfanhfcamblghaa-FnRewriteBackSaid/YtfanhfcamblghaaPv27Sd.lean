/-
  The walks over the program's DfaTrim and over its DfaAccepts at any text.
  Conditions: the automaton is valid and readable.
-/
import Derived.Test.YtfanhfcamblghaaPv18Tbl
set_option maxHeartbeats 4000000
set_option maxRecDepth 100000
namespace Go.Proofs.Ytfanhfcamblghaa
open Go.RowKit
theorem Zet (d:DfaD) (l:List Nat) (v:Value) (w:World) (ht:isT l) (hll:l.length≤1000) (h:DfaR 0 w v d) (hd:Zaf d.next d.ends=true) (q:Bool) (hq:(wdOk l&&accD d (lets l))=q) :
  Calls Try.prog 27 #[v,.string (txB l)] w fun e w'=>e = .returned (.bool q)∧Below w.heap.size w w':=by
 cases hwd:wdOk l
 ·obtain rfl:q=false:=by rw[← hq,hwd];rfl
  have H:=qh h;obtain⟨v1,v2,rfl,g1,g2⟩:=h;have hS0:=(St.start w).alloc _ rfl #[v1,v2] 45;have e0:=hS0.cell (v:=v1) 0 0 rfl rfl;have e1:=hS0.cell (v:=v2) 0 1 rfl rfl;replace ht:=qh ht;replace hS0:=qh hS0;have Hhd:=qh hd;clear hd;have Hhwd:=qh hwd;clear hwd;have Hhq:=qh hq;clear hq;clear g1 g2
  go_enter Try.func27, Try.ntmps27
  go_wp2_with fail;refine(ZaO d _ _ (H.out.below hS0.out.bel) _ Hhd.out).mono ?_;rintro e w1 ⟨rfl,hb1⟩;have HS1:=qh (hS0.out.call hb1);clear hb1 e0 e1;go_wp2_with (go_at_call 53;refine(Zbl l _ ht.out (by omega) _ Hhwd.out).mono ?_;rintro e w' ⟨rfl,rfl⟩);go_ret;exact⟨rfl,HS1.out.bel⟩
 have:=ZeH d l v w ht hll h hd hwd;rw[hwd,Bool.true_and] at hq
 rwa [hq] at this
theorem Bx.only {lo hi b:Nat} {w w':World} {cs:Array Value} {T:TypeId} (h:Bx w b cs T) (ho:Only lo hi w w') (hd:b<lo∨hi≤b):Bx w' b cs T:=(ho.block b h.lt hd).trans h
theorem DfaO.only {tS tI tB lo hi lo' hi':Nat} {w w':World} {v:Value} {d:DfaD} (h:DfaO tS tI tB lo hi w v d) (ho:Only lo' hi' w w') (hd:hi≤lo'∨hi'≤lo):DfaO tS tI tB lo hi w' v d:=by obtain⟨v1,v2,hv,h1,h2⟩:=h;exact⟨v1,v2,hv,h1.only ho hd,h2.only ho hd⟩
theorem DfaO.below {tS tI tB lo hi:Nat} {w w':World} {v:Value} {d:DfaD} (h:DfaO tS tI tB lo hi w v d) (hb:Below w.heap.size w w'):DfaO tS tI tB lo hi w' v d:=by obtain⟨v1,v2,hv,h1,h2⟩:=h;exact⟨v1,v2,hv,h1.below hb,Own.below h2 hb⟩
theorem Zd1 (xs:List Bool) (v1 v2:Value) (w:World) (h1:Bools 0 w v1 xs) (h2:Bools 0 w v2 xs) :
  Calls Try.prog 63 #[v1,v2] w fun e w'=>e = .returned (.bool true)∧Below w.heap.size w w':=by
 obtain⟨a1,c1,rfl,hc1,hm1,hr1⟩:=h1.form;obtain⟨a2,c2,rfl,hc2,hm2,hr2⟩:=h2.form;clear h1 h2;have hl:((xs.length:Int) != xs.length)=false:=by simp
 go_enter Try.func63, Try.ntmps63
 go_wp2
 go_loopw [4,5] (fun r i wr=>∃ k:Nat,k≤xs.length∧i = .int .i64 k∧Below w.heap.size w wr) (fun _ i _=>xs.length-(intOf i).toNat)
 case atStart=>exact⟨0,Nat.zero_le _,rfl,Below.refl _ _⟩
 case round =>
  obtain⟨k,hk,rfl,hb⟩:=hrel;by_cases hlt:k<xs.length
  ·obtain⟨b1,o1,rfl,hB1,hbl1,hcs1⟩:=hr1 (by omega);obtain⟨b2,o2,rfl,hB2,hbl2,hcs2⟩:=hr2 (by omega);have hx1:=(bcell hb b1 (o1+k) hbl1).trans (hcs1 k hlt);have hx2:=(bcell hb b2 (o2+k) hbl2).trans (hcs2 k hlt);obtain⟨x,hx⟩:=eI (xs.getD k false);rw[← hx] at hx1 hx2;have hne:(x != x)=false:=by simp
   have hne':(!(x==x))=false:=by simp
   replace hx:=qh hx;replace hb:=qh hb;clear hcs1 hcs2 hr1 hr2;go_wp2
   go_quiet (fail)
   go_wp2;go_roundw
   case rel=>exact⟨k+1,by omega,by go_num,below_drewN hb.out _⟩
   case measure=>simp[intOf];omega
  clear hr1 hr2;replace hb:=qh hb;go_wp2;go_ret;exact⟨rfl,hb.out⟩
theorem Zh9 {P:Program} {f:FuncId} {args:Array Value} {w:World} {n:Nat} {v:Value}
  (h:Calls P f args (w.drewN n) fun e w'=>e = .returned v∧∃ m,w'=(w.drewN n).drewN m):Calls P f args (w.drewN n) fun e w''=>e = .returned v∧∃ m,w''=w.drewN m :=
 h.mono fun _ _ ⟨he,_,hm⟩=>⟨he,_,hm.trans (World.drewN_drewN _ _ _)⟩
theorem Zfi (xs:List Int) (v1 v2:Value) (w:World) (h1:Ints 0 w v1 xs) (h2:Ints 0 w v2 xs) :
  Calls Try.prog 45 #[v1,v2] w fun e w'=>e = .returned (.bool true)∧∃ m,w'=w.drewN m:=by
 obtain⟨a1,c1,rfl,hc1,hm1,hr1⟩:=h1.form;obtain⟨a2,c2,rfl,hc2,hm2,hr2⟩:=h2.form;clear h1 h2;have hl:((xs.length:Int) != xs.length)=false:=by simp
 go_enter Try.func45, Try.ntmps45
 go_wp2
 go_loopw [4,5] (fun r i wr=>∃ k:Nat,k≤xs.length∧i = .int .i64 k∧∃ m,wr=w.drewN m) (fun _ i _=>xs.length-(intOf i).toNat)
 case atStart=>exact⟨0,Nat.zero_le _,rfl,0,rfl⟩
 case round =>
  obtain⟨k,hk,rfl,hm⟩:=hrel;by_cases hlt:k<xs.length
  ·obtain⟨b1,o1,rfl,hB1,hbl1,hcs1⟩:=hr1 (by omega);obtain⟨b2,o2,rfl,hB2,hbl2,hcs2⟩:=hr2 (by omega);have hb:Below w.heap.size w wr:=by obtain⟨m,rfl⟩:=hm;exact below_drewN (Below.refl _ _) m
   have hx1:=(bcell hb b1 (o1+k) hbl1).trans (hcs1 k hlt);have hx2:=(bcell hb b2 (o2+k) hbl2).trans (hcs2 k hlt);obtain⟨x,hx⟩:=eI (xs.getD k 0);rw[← hx] at hx1 hx2;have hne:(x != x)=false:=by simp
   have hne':(!(x==x))=false:=by simp
   replace hx:=qh hx;replace hm:=qh hm;clear hcs1 hcs2 hr1 hr2 hb;go_wp2
   go_quiet (fail)
   go_wp2;go_roundw
   case rel=>exact⟨k+1,by omega,by go_num,by obtain⟨m,rfl⟩:=hm.out;exact⟨_,World.drewN_drewN _ _ _⟩⟩
   case measure=>simp[intOf];omega
  clear hr1 hr2;replace hm:=qh hm;go_wp2;go_ret;exact⟨rfl,hm.out⟩
theorem Zb8 (d:DfaD) (a b:Value) (w:World) (h1:DfaR 0 w a d) (h2:DfaR 0 w b d) :
  Calls Try.prog 19 #[a,b] w fun e w'=>e = .returned (.bool true)∧Below w.heap.size w w':=by
 obtain⟨v1,v2,rfl,g1,g2⟩:=h1;obtain⟨u1,u2,rfl,k1,k2⟩:=h2;obtain⟨a1,c1,rfl,hc1,hm1,hr1⟩:=g1.formI;obtain⟨b1,d1,rfl,hd1,hn1,hq1⟩:=k1.formI;have G2:=qh g2;have K2:=qh k2;have hS0:=((St.start w).alloc _ rfl #[.slice a1 d.next.length c1,v2] 45).alloc (w.heap.size+1) (by simp) #[.slice b1 d.next.length d1,u2] 45;have e0:=hS0.cell (v:=.slice a1 d.next.length c1) 0 0 rfl rfl;have f0:=hS0.cell (v:=.slice b1 d.next.length d1) 1 0 rfl rfl;have hne2:((d.next.length:Int) != d.next.length)=false:=by simp
 replace hS0:=qh hS0;have Hhr1:=qh hr1;clear hr1;have Hhq1:=qh hq1;clear hq1;clear g1 g2 k1 k2
 go_enter Try.func19, Try.ntmps19
 go_wp2
 go_loopw [5] (fun i wr=>∃ k:Nat,i = .int .i64 k∧k≤d.next.length∧St w wr [Ent.box w.heap.size #[.slice a1 d.next.length c1,v2] 45,Ent.box (w.heap.size+1) #[.slice b1 d.next.length d1,u2] 45]) (fun i _=>d.next.length-(intOf i).toNat)
 case atStart=>exact⟨0,rfl,Nat.zero_le _,hS0.out⟩
 case round =>
  obtain⟨k,rfl,hk,hS⟩:=hrel;clear e0 f0;by_cases hlt:k<d.next.length
  ·have hkI:(k:Int)<d.next.length:=by omega
   obtain⟨x1,y1,rfl,-,hbl1,hcs1⟩:=Hhr1.out (by omega);obtain⟨x2,y2,rfl,-,hbl2,hcs2⟩:=Hhq1.out (by omega);obtain⟨m1,z1,p1,-,-,p2⟩:=hcs1 k hlt;obtain⟨m2,z2,q1,-,-,q2⟩:=hcs2 k hlt;replace p1:=(bcell hS.bel x1 _ hbl1).trans p1;replace q1:=(bcell hS.bel x2 _ hbl2).trans q1;have P2:=qh p2;have Q2:=qh q2;have e1:=hS.cell (v:=.slice (some ⟨x1,y1,none⟩) d.next.length c1) 0 0 rfl rfl;have f1:=hS.cell (v:=.slice (some ⟨x2,y2,none⟩) d.next.length d1) 1 0 rfl rfl;obtain⟨x,hx⟩:=eJ (d.next.getD k []);rw[hx] at p1 q1 P2 Q2;have HS:=qh hS;replace P2:=qh (P2.out.below HS.out.bel);replace Q2:=qh (Q2.out.below HS.out.bel);have Hhx:=qh hx;clear hx;clear hcs1 hcs2 hS p2 q2;go_wp2_with fail
   go_quiet ((go_at_call 45;exact Zh9 (Zfi x _ _ _ (P2.out.below (below_drewN (Below.refl _ _) _)) (Q2.out.below (below_drewN (Below.refl _ _) _)))))
   go_wp2;go_roundw
   case rel=>exact⟨k+1,by go_num,by omega,HS.out.drewN nq⟩
   case measure=>simp[intOf];omega
  obtain rfl:k=d.next.length:=by omega
  have e1:=hS.cell (v:=.slice a1 d.next.length c1) 0 0 rfl rfl;have e2:=hS.cell (v:=v2) 0 1 rfl rfl;have f2:=hS.cell (v:=u2) 1 1 rfl rfl;have HS:=qh hS;clear hS;go_wp2_with fail;refine(Zd1 d.ends _ _ _ (G2.out.below HS.out.bel) (K2.out.below HS.out.bel)).mono ?_;rintro e w4 ⟨rfl,hb4⟩;have HS4:=qh (HS.out.call hb4);clear hb4;go_wp2;go_ret;exact⟨rfl,HS4.out.bel⟩
end Go.Proofs.Ytfanhfcamblghaa
