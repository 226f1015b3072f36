/-
  The walks over the reference's draws of texts.
  Condition: the argument reads as bytes.
-/
import Derived.Test.YtfgpkadhegdffaaGreatRows
import Derived.Test.YtfgpkadhegdffaaGreatPe45Jt
set_option maxHeartbeats 16000000
set_option maxRecDepth 100000
namespace Go.Proofs.YtfgpkadhegdffaaGreat
open Go.RowKit
theorem Zfx (bs:List Nat) (v:Value) (w:World) (hb:Bytes 0 w v bs) (hlen:bs.length≤100000000) :
  Calls Tryz.prog 33 #[v] w fun e w'=>(∃ (s t:List Nat) (k:Int),isT s∧s.length≤300∧isT t∧t.length≤300∧3≤k∧k≤7∧e = .returned (.tuple #[.string (txB s),.string (txB t),.int .i64 k]))∧Below w.heap.size w w':=by
 have Hb:=qh hb;clear hb
 go_enter Tryz.func33, Tryz.ntmps33
 go_wp2_with fail;refine(Zlv bs v _ Hb.out hlen).mono ?_;rintro e w1 ⟨vb,bs',hl',hB,rfl,hS'⟩;have HB:=qh hB;have HS1:=qh hS';clear hB hS';go_wp2_with fail;refine(Zg2 bs' vb w.heap.size 0 14 w w1 _ HB.out hl' (by omega) (by omega) (St.pack (A:=[RdE w.heap.size vb 0]) (R:=[]) HS1.out)).mono ?_;rintro e w2 ⟨s,p',hs,hsl,hp,rfl,hS2⟩;have HS2:=qh hS2;have Hs:=qh hs;clear hS2 hs HS1;go_wp2_with fail;refine(Zg2 bs' vb w.heap.size p' 14 w _ _ HB.out hl' (by omega) (by omega) HS2.out).mono ?_;rintro e w3 ⟨t,p2,ht,htl,hp2,rfl,hS3⟩;have HS3:=qh hS3;have Ht:=qh ht;clear hS3 ht HS2;go_wp2_with fail;refine(ZaQ bs' vb w.heap.size p2 5 w _ _ HB.out hl' (by omega) (by omega) (by omega) HS3.out).mono ?_;rintro e w4 ⟨k,hk,rfl,hS4⟩;have HS4:=qh hS4;clear hS4 HS3;go_wp2;refine bodyPost_ret (v:=.tuple #[.string (txB s),.string (txB t),.int .i64 (3+(k:Int))]) (by simp[results,Tryz.results33,go_sem]) rfl ?_;exact⟨⟨s,t,3+(k:Int),Hs.out,hsl,Ht.out,htl,by omega,by omega,rfl⟩,HS4.out.bel⟩
theorem Zk0 (d:DfaD) (l:List Nat) (v:Value) (w:World) (ht:isT l) (hll:l.length≤1000) (h:DfaR 0 w v d) (hd:Zag d.next d.ends=true) (q:Bool) (hq:(wdOk l&&accD d (lets l))=q) :
  Calls Tryz.prog 27 #[v,.string (txB l)] w fun e w'=>e = .returned (.bool q)∧Below w.heap.size w w':=by
 cases hwd:wdOk l
 ·obtain rfl:q=false:=by rw[← hq,hwd];rfl
  have H:=qh h;obtain⟨v1,v2,rfl,g1,g2⟩:=h;have hS0:=(St.start w).alloc _ rfl #[v1,v2] 25;have e0:=hS0.cell (v:=v1) 0 0 rfl rfl;have e1:=hS0.cell (v:=v2) 0 1 rfl rfl;replace ht:=qh ht;replace hS0:=qh hS0;have Hhd:=qh hd;clear hd;have Hhwd:=qh hwd;clear hwd;have Hhq:=qh hq;clear hq;clear g1 g2
  go_enter Tryz.func27, Tryz.ntmps27
  go_wp2_with fail;refine(ZbD d _ _ (H.out.below hS0.out.bel) _ Hhd.out).mono ?_;rintro e w1 ⟨rfl,hb1⟩;have HS1:=qh (hS0.out.call hb1);clear hb1 e0 e1;go_wp2_with (go_at_call 63;refine(Zbt l _ ht.out (by omega) _ Hhwd.out).mono ?_;rintro e w' ⟨rfl,rfl⟩);go_ret;exact⟨rfl,HS1.out.bel⟩
 have:=ZhJ d l v w ht hll h hd hwd;rw[hwd,Bool.true_and] at hq
 rwa [hq] at this
theorem ZgF (xs:List Bool) (v1 v2:Value) (w:World) (h1:Bools 0 w v1 xs) (h2:Bools 0 w v2 xs) :
  Calls Tryz.prog 53 #[v1,v2] w fun e w'=>e = .returned (.bool true)∧Below w.heap.size w w':=by
 obtain⟨a1,c1,rfl,hc1,hm1,hr1⟩:=h1.form;obtain⟨a2,c2,rfl,hc2,hm2,hr2⟩:=h2.form;clear h1 h2;have hl:((xs.length:Int) != xs.length)=false:=by simp
 go_enter Tryz.func53, Tryz.ntmps53
 go_wp2
 go_loopw [4,5] (fun r i wr=>∃ k:Nat,k≤xs.length∧i = .int .i64 k∧Below w.heap.size w wr) (fun _ i _=>xs.length-(intOf i).toNat)
 case atStart=>exact⟨0,Nat.zero_le _,rfl,Below.refl _ _⟩
 case round =>
  obtain⟨k,hk,rfl,hb⟩:=hrel;by_cases hlt:k<xs.length
  ·obtain⟨b1,o1,rfl,hB1,hbl1,hcs1⟩:=hr1 (by omega);obtain⟨b2,o2,rfl,hB2,hbl2,hcs2⟩:=hr2 (by omega);have hx1:=(bcell hb b1 (o1+k) hbl1).trans (hcs1 k hlt);have hx2:=(bcell hb b2 (o2+k) hbl2).trans (hcs2 k hlt);obtain⟨x,hx⟩:=eI (xs.getD k false);rw[← hx] at hx1 hx2;have hne:(x != x)=false:=by simp
   have hne':(!(x==x))=false:=by simp
   replace hx:=qh hx;replace hb:=qh hb;clear hcs1 hcs2 hr1 hr2;go_wp2
   go_quiet (fail)
   go_wp2;go_roundw
   case rel=>exact⟨k+1,by omega,by go_num,below_drewN hb.out _⟩
   case measure=>simp[intOf];omega
  clear hr1 hr2;replace hb:=qh hb;go_wp2;go_ret;exact⟨rfl,hb.out⟩
theorem Zme {P:Program} {f:FuncId} {args:Array Value} {w:World} {n:Nat} {v:Value}
  (h:Calls P f args (w.drewN n) fun e w'=>e = .returned v∧∃ m,w'=(w.drewN n).drewN m):Calls P f args (w.drewN n) fun e w''=>e = .returned v∧∃ m,w''=w.drewN m :=
 h.mono fun _ _ ⟨he,_,hm⟩=>⟨he,_,hm.trans (World.drewN_drewN _ _ _)⟩
theorem Zix (xs:List Int) (v1 v2:Value) (w:World) (h1:Ints 0 w v1 xs) (h2:Ints 0 w v2 xs) :
  Calls Tryz.prog 52 #[v1,v2] w fun e w'=>e = .returned (.bool true)∧∃ m,w'=w.drewN m:=by
 obtain⟨a1,c1,rfl,hc1,hm1,hr1⟩:=h1.form;obtain⟨a2,c2,rfl,hc2,hm2,hr2⟩:=h2.form;clear h1 h2;have hl:((xs.length:Int) != xs.length)=false:=by simp
 go_enter Tryz.func52, Tryz.ntmps52
 go_wp2
 go_loopw [4,5] (fun r i wr=>∃ k:Nat,k≤xs.length∧i = .int .i64 k∧∃ m,wr=w.drewN m) (fun _ i _=>xs.length-(intOf i).toNat)
 case atStart=>exact⟨0,Nat.zero_le _,rfl,0,rfl⟩
 case round =>
  obtain⟨k,hk,rfl,hm⟩:=hrel;by_cases hlt:k<xs.length
  ·obtain⟨b1,o1,rfl,hB1,hbl1,hcs1⟩:=hr1 (by omega);obtain⟨b2,o2,rfl,hB2,hbl2,hcs2⟩:=hr2 (by omega);have hb:Below w.heap.size w wr:=by obtain⟨m,rfl⟩:=hm;exact below_drewN (Below.refl _ _) m
   have hx1:=(bcell hb b1 (o1+k) hbl1).trans (hcs1 k hlt);have hx2:=(bcell hb b2 (o2+k) hbl2).trans (hcs2 k hlt);obtain⟨x,hx⟩:=eI (xs.getD k 0);rw[← hx] at hx1 hx2;have hne:(x != x)=false:=by simp
   have hne':(!(x==x))=false:=by simp
   replace hx:=qh hx;replace hm:=qh hm;clear hcs1 hcs2 hr1 hr2 hb;go_wp2
   go_quiet (fail)
   go_wp2;go_roundw
   case rel=>exact⟨k+1,by omega,by go_num,by obtain⟨m,rfl⟩:=hm.out;exact⟨_,World.drewN_drewN _ _ _⟩⟩
   case measure=>simp[intOf];omega
  clear hr1 hr2;replace hm:=qh hm;go_wp2;go_ret;exact⟨rfl,hm.out⟩
theorem ZgG (d:DfaD) (a b:Value) (w:World) (h1:DfaR 0 w a d) (h2:DfaR 0 w b d) :
  Calls Tryz.prog 20 #[a,b] w fun e w'=>e = .returned (.bool true)∧Below w.heap.size w w':=by
 obtain⟨v1,v2,rfl,g1,g2⟩:=h1;obtain⟨u1,u2,rfl,k1,k2⟩:=h2;obtain⟨a1,c1,rfl,hc1,hm1,hr1⟩:=g1.formI;obtain⟨b1,d1,rfl,hd1,hn1,hq1⟩:=k1.formI;have G2:=qh g2;have K2:=qh k2;have hS0:=((St.start w).alloc _ rfl #[.slice a1 d.next.length c1,v2] 25).alloc (w.heap.size+1) (by simp) #[.slice b1 d.next.length d1,u2] 25;have e0:=hS0.cell (v:=.slice a1 d.next.length c1) 0 0 rfl rfl;have f0:=hS0.cell (v:=.slice b1 d.next.length d1) 1 0 rfl rfl;have hne2:((d.next.length:Int) != d.next.length)=false:=by simp
 replace hS0:=qh hS0;have Hhr1:=qh hr1;clear hr1;have Hhq1:=qh hq1;clear hq1;clear g1 g2 k1 k2
 go_enter Tryz.func20, Tryz.ntmps20
 go_wp2
 go_loopw [5] (fun i wr=>∃ k:Nat,i = .int .i64 k∧k≤d.next.length∧St w wr [Ent.box w.heap.size #[.slice a1 d.next.length c1,v2] 25,Ent.box (w.heap.size+1) #[.slice b1 d.next.length d1,u2] 25]) (fun i _=>d.next.length-(intOf i).toNat)
 case atStart=>exact⟨0,rfl,Nat.zero_le _,hS0.out⟩
 case round =>
  obtain⟨k,rfl,hk,hS⟩:=hrel;clear e0 f0;by_cases hlt:k<d.next.length
  ·have hkI:(k:Int)<d.next.length:=by omega
   obtain⟨x1,y1,rfl,-,hbl1,hcs1⟩:=Hhr1.out (by omega);obtain⟨x2,y2,rfl,-,hbl2,hcs2⟩:=Hhq1.out (by omega);obtain⟨m1,z1,p1,-,-,p2⟩:=hcs1 k hlt;obtain⟨m2,z2,q1,-,-,q2⟩:=hcs2 k hlt;replace p1:=(bcell hS.bel x1 _ hbl1).trans p1;replace q1:=(bcell hS.bel x2 _ hbl2).trans q1;have P2:=qh p2;have Q2:=qh q2;have e1:=hS.cell (v:=.slice (some ⟨x1,y1,none⟩) d.next.length c1) 0 0 rfl rfl;have f1:=hS.cell (v:=.slice (some ⟨x2,y2,none⟩) d.next.length d1) 1 0 rfl rfl;obtain⟨x,hx⟩:=eJ (d.next.getD k []);rw[hx] at p1 q1 P2 Q2;have HS:=qh hS;replace P2:=qh (P2.out.below HS.out.bel);replace Q2:=qh (Q2.out.below HS.out.bel);have Hhx:=qh hx;clear hx;clear hcs1 hcs2 hS p2 q2;go_wp2_with fail
   go_quiet ((go_at_call 52;exact Zme (Zix x _ _ _ (P2.out.below (below_drewN (Below.refl _ _) _)) (Q2.out.below (below_drewN (Below.refl _ _) _)))))
   go_wp2;go_roundw
   case rel=>exact⟨k+1,by go_num,by omega,HS.out.drewN nq⟩
   case measure=>simp[intOf];omega
  obtain rfl:k=d.next.length:=by omega
  have e1:=hS.cell (v:=.slice a1 d.next.length c1) 0 0 rfl rfl;have e2:=hS.cell (v:=v2) 0 1 rfl rfl;have f2:=hS.cell (v:=u2) 1 1 rfl rfl;have HS:=qh hS;clear hS;go_wp2_with fail;refine(ZgF d.ends _ _ _ (G2.out.below HS.out.bel) (K2.out.below HS.out.bel)).mono ?_;rintro e w4 ⟨rfl,hb4⟩;have HS4:=qh (HS.out.call hb4);clear hb4;go_wp2;go_ret;exact⟨rfl,HS4.out.bel⟩
theorem Bx.only {lo hi b:Nat} {w w':World} {cs:Array Value} {T:TypeId} (h:Bx w b cs T) (ho:Only lo hi w w') (hd:b<lo∨hi≤b):Bx w' b cs T:=(ho.block b h.lt hd).trans h
theorem DfaO.only {tS tI tB lo hi lo' hi':Nat} {w w':World} {v:Value} {d:DfaD} (h:DfaO tS tI tB lo hi w v d) (ho:Only lo' hi' w w') (hd:hi≤lo'∨hi'≤lo):DfaO tS tI tB lo hi w' v d:=by obtain⟨v1,v2,hv,h1,h2⟩:=h;exact⟨v1,v2,hv,h1.only ho hd,h2.only ho hd⟩
theorem DfaO.below {tS tI tB lo hi:Nat} {w w':World} {v:Value} {d:DfaD} (h:DfaO tS tI tB lo hi w v d) (hb:Below w.heap.size w w'):DfaO tS tI tB lo hi w' v d:=by obtain⟨v1,v2,hv,h1,h2⟩:=h;exact⟨v1,v2,hv,h1.below hb,Own.below h2 hb⟩
theorem Zi3 (bs cs:List Nat) (v u:Value) (w:World) (hb:Bytes 0 w v bs) (hc:Bytes 0 w u cs) :
  Calls Tryz.prog 9 #[v,u] w fun e w'=>e = .returned (.bool true)∧Below w.heap.size w w':=by
 have HB:=qh hb;have HC:=qh hc;obtain⟨av,cv,rfl,hcv1,hcv2,-⟩:=hb.form;obtain⟨au,cu,rfl,hcu1,hcu2,-⟩:=hc.form;clear hb hc;by_cases hlen:1048576<bs.length
 ·have hl2:(1048576:Int)<bs.length:=by omega
  go_enter Tryz.func9, Tryz.ntmps9
  go_wp2;go_ret;exact⟨rfl,Below.refl _ _⟩
 have hl2:¬ (1048576:Int)<bs.length:=by omega
 by_cases hlen2:1048576<cs.length
 ·have hl3:(1048576:Int)<cs.length:=by omega
  go_enter Tryz.func9, Tryz.ntmps9
  go_wp2;go_ret;exact⟨rfl,Below.refl _ _⟩
 have hl3:¬ (1048576:Int)<cs.length:=by omega
 go_enter Tryz.func9, Tryz.ntmps9
 go_wp2_with fail;refine(Zfx bs _ _ HB.out (by omega)).mono ?_;rintro e w1 ⟨⟨s,t,κ,hs,hsl,htt,htl,hκ3,hκ7,rfl⟩,hb1⟩;obtain⟨K,hK⟩:∃ K:Nat,K=40:=⟨_,rfl⟩;obtain⟨o,ho⟩:=Zp9 K s t κ;have hsp:=fun (u:World)=>Zff K hK s t κ o ho u hs htt
 have him:=fun (u:World)=>Zfu K hK s t κ o ho u hs htt
 obtain⟨D,hD⟩:=eJ (o.getD Zbj);have hD2:o.getD zeD=D:=hD;obtain⟨fb,hfb⟩:=eJ (o.isSome);unfold RO at hsp;rw[hD,hfb] at hsp;rw[hD2,hfb] at him;obtain⟨hno,hyes⟩:=ZoH hK ho hD hfb;replace hs:=qh hs;have Hhtt:=qh htt;clear htt;replace ho:=qh ho;replace hK:=qh hK;have Hsp:=qh hsp;have Him:=qh him;have Hhno:=qh hno;clear hno;have Hhyes:=qh hyes;clear hyes;clear hsp him hD hD2 hfb;have HS1:=qh ((St.start w).call hb1);clear hb1;go_wp2_with fail;refine(Him.out _).mono ?_;rintro e w2 ⟨⟨g1,c1,g2,c2,rfl,hx⟩,hb⟩;have HS2:=qh ((HS1.out.call hb).alloc _ rfl #[.slice g1 D.next.length c1,.slice g2 D.ends.length c2] 25);have HX2:=qh (((hx.r).mono (Nat.zero_le _)).below ((Below.refl w2.heap.size w2).alloc (Nat.le_refl _) (.cells #[.slice g1 D.next.length c1,.slice g2 D.ends.length c2] 25)));have HB2:=qh (hb.trans (((Below.refl w2.heap.size w2).alloc (Nat.le_refl _) (.cells #[.slice g1 D.next.length c1,.slice g2 D.ends.length c2] 25)).mono hb.size));clear hb hx;go_wp2_with fail;refine(Hsp.out _).mono ?_;rintro e w3 ⟨x1,y1,x2,y2,rfl,hr,hb⟩;have HS3:=qh ((HS2.out.call hb).alloc _ rfl #[.slice x1 D.next.length y1,.slice x2 D.ends.length y2] 25);have HX3:=qh ((HX2.out.below hb).below ((Below.refl w3.heap.size w3).alloc (Nat.le_refl _) (.cells #[.slice x1 D.next.length y1,.slice x2 D.ends.length y2] 25)))
 have HY3:=qh ((hr.mono (Nat.zero_le _)).below ((Below.refl w3.heap.size w3).alloc (Nat.le_refl _) (.cells #[.slice x1 D.next.length y1,.slice x2 D.ends.length y2] 25)));clear hb hr HX2;have e0:=HS3.out.cell (v:=.slice g1 D.next.length c1) 0 0 rfl rfl;have e1:=HS3.out.cell (v:=.slice g2 D.ends.length c2) 0 1 rfl rfl;have f0:=HS3.out.cell (v:=.slice x1 D.next.length y1) 1 0 rfl rfl;have f1:=HS3.out.cell (v:=.slice x2 D.ends.length y2) 1 1 rfl rfl;go_wp2_with fail;refine(ZgG D _ _ _ HX3.out HY3.out).mono ?_;rintro e w4 ⟨rfl,hb⟩;have HS4:=qh (HS3.out.call hb);have HX4:=qh (HX3.out.below hb);have hff:(fb != fb)=false:=by simp
 clear hb HX3 HY3 HS2 HS3 e0 e1 f0 f1 HB2;cases fb
 ·have hz0:((D.next.length:Int)==0)=true:=by rw[Hhno.out rfl];rfl
  have e0:=HS4.out.cell (v:=.slice g1 D.next.length c1) 0 0 rfl rfl;have e1:=HS4.out.cell (v:=.slice g2 D.ends.length c2) 0 1 rfl rfl;go_wp2_with (go_at_call 21;refine(Zo4 _).mono ?_;rintro e w' ⟨rfl,rfl⟩);go_ret;exact⟨rfl,HS4.out.bel⟩
 obtain⟨ho1,hok,hmin⟩:=Hhyes.out rfl;obtain⟨hκ,halt,hboth,hjoin⟩:=Zoy hK.out (ho1 ▸ ho.out);have Hκ:=qh hκ;have Hhok:=qh hok;clear hok;have Hhmin:=qh hmin;clear hmin;have Hhalt:=qh halt;clear halt;have Hhboth:=qh hboth;clear hboth;have Hhjoin:=qh hjoin;clear hjoin;clear ho1 hκ;go_wp2_with fail;refine(Zj4 cs _ _ (HC.out.below HS4.out.bel) (by omega)).mono ?_;rintro e w5 ⟨l,ht,hl,rfl,hb⟩;have HS5:=qh (HS4.out.call hb);have HX5:=qh (HX4.out.below hb);have Hht:=qh ht;clear ht;clear hb;obtain⟨r1,hr1⟩:=ZfF s l;obtain⟨r2,hr2⟩:=ZfF t l;obtain⟨wd,hwd⟩:=eJ (wdOk l);obtain⟨q,hq⟩:=eJ ((wdOk l&&accD D (lets l)));have hqq:(q==q)=true:=beq_self_eq_true q;have halt':κ=5→q=(r1||r2):=fun e=>hq.symm.trans (Hhalt.out e l r1 r2 hr1 hr2)
 have hboth':κ=6→q=(r1&&r2):=fun e=>hq.symm.trans (Hhboth.out e l r1 r2 hr1 hr2)
 have hfex:∃ f:Nat→Bool,∀ k,AccT s (l.take k) (f k):=⟨fun k=>(ZfF s (l.take k)).choose,fun k=>(ZfF s (l.take k)).choose_spec⟩;have hgex:∃ g:Nat→Bool,∀ k,AccT t (l.drop k) (g k):=⟨fun k=>(ZfF t (l.drop k)).choose,fun k=>(ZfF t (l.drop k)).choose_spec⟩;obtain⟨f,hf⟩:=hfex;obtain⟨g,hg⟩:=hgex;obtain⟨n,hn⟩:=eJ (l.length);have hjoin':κ=4→wd=true→q=anyP (fun k=>f k&&g k) (n+1):=fun e hw=>by rw[← hq,hwd,hw,Bool.true_and,← hn];exact Hhjoin.out e l f g hf hg (hwd.trans hw)
 have hbad:wd=false→q=false:=fun hw=>by rw[← hq,hwd,hw];rfl
 have hn10:n≤10:=by omega
 have hsz:(txB l).size=n:=by rw[Zaw,hn]
 have Hhr1:=qh hr1;clear hr1;have Hhr2:=qh hr2;clear hr2;have Hhq:=qh hq;clear hq;have Hhf:=qh hf;clear hf;have Hhg:=qh hg;clear hg;have Hhalt':=qh halt';clear halt';have Hhboth':=qh hboth';clear hboth';have Hhjoin':=qh hjoin';clear hjoin';have Hhbad:=qh hbad;clear hbad;have Hhwd:=qh hwd;clear hwd;have Hhn:=qh hn;clear hn;clear HS4 HX4;go_wp2_with fail;refine(Zba s l _ r1 Hhr1.out hs.out Hht.out (by omega)).mono ?_;rintro e w6 ⟨rfl,hb6⟩;go_wp2_with fail;refine(Zba t l _ r2 Hhr2.out Hhtt.out Hht.out (by omega)).mono ?_;rintro e w7 ⟨rfl,hb'⟩;have hb7:=qh ((Below.refl w5.heap.size w5).trans (hb6.trans (hb'.mono hb6.size)));clear hb6 hb'
 go_upto_region 13 with fail
 go_cut [15] from 71 to 74 (fun wv wc=>wv = .bool (r1||r2)∧Below w5.heap.size w5 wc)
 case first =>
  cases r1
  ·cases r2
   ·go_wp2;go_meet;exact⟨rfl,hb7.out⟩
   go_wp2;go_meet;exact⟨rfl,hb7.out⟩
  go_wp2;go_meet;exact⟨rfl,hb7.out⟩
 case rest =>
  obtain⟨rfl,hc⟩:=hcut;have hb8:=qh hc;obtain⟨wx,hwx⟩:∃ wx:World,wx=wc:=⟨_,rfl⟩;subst hwx;clear hc hb7
  go_upto_if 76 with fail
  go_cut [15] from 75 to 80 (fun wv wc=>(κ≠4→wv = .bool q)∧Below w5.heap.size w5 wc)
  case first =>
   by_cases h6:κ=6
   ·have hq6:=Hhboth'.out h6;obtain⟨u1,u2,u3⟩:=ZcW h6;replace h6:=qh h6;have Hhq6:=qh hq6;clear hq6;cases r1
    ·go_wp2;go_meet;exact⟨fun _=>by rw[Hhq6.out];rfl,hb8.out⟩
    go_wp2;go_meet;exact⟨fun _=>by rw[Hhq6.out];rfl,hb8.out⟩
   obtain⟨u1,u2,u3,u4⟩:=ZaI h6;have hq5:κ≠4→q=(r1||r2):=fun h4=>Hhalt'.out (by have:=Hκ.out;omega)
   replace h6:=qh h6;have Hhq5:=qh hq5;clear hq5;go_wp2;go_meet;exact⟨fun h=>by rw[Hhq5.out h],hb8.out⟩
  case rest =>
   obtain⟨hwv,hc⟩:=hcut;have hb9:=qh hc;have Hwv:=qh hwv;obtain⟨wy,hwy⟩:∃ wy:World,wy=wc:=⟨_,rfl⟩;subst hwy;clear hc hwv hb8
   go_upto_if 82 with fail
   go_cut [15,16] from 81 to 107 (fun wv _ wc=>wv = .bool q∧Below w5.heap.size w5 wc)
   case first =>
    by_cases h4:κ=4
    ·subst h4;have hqj:=Hhjoin'.out rfl;have Hhqj:=qh hqj;clear hqj;obtain⟨h,hh⟩:∃ h:Nat→Bool,h=fun k=>f k&&g k:=⟨_,rfl⟩
     rw[← hh] at Hhqj;have Hhh:=qh hh;clear hh;go_wp2
     go_loopw [15,16] (fun wv kv wr=>∃ k:Nat,kv = .int .i64 (k:Int)∧wv = .bool (anyP h k)∧k≤n+1∧(wd=false→k=0)∧Below w5.heap.size w5 wr) (fun _ kv _=>n+1-(intOf kv).toNat)
     case atStart=>exact⟨0,rfl,rfl,by omega,fun _=>rfl,hb9.out⟩
     case round =>
      obtain⟨k,rfl,rfl,hkn,hk0,hb⟩:=hrel;have hbr:=qh hb;have Hhk0:=qh hk0;clear hk0;clear hb;by_cases hlt:k≤n
      ·have hkI:(k:Int)≤(n:Int):=by omega
       have hwk:IntKind.i64.wrap ((k:Int)+1)=(k:Int)+1:=IntWalk.i64_in _ (by omega);cases wd
       ·have hk00:=Hhk0.out rfl;have hqf:=Hhbad.out rfl;subst hk00;subst hqf;go_wp2_with (go_at_call 34;refine(Zbq l _ Hht.out (by omega) false Hhwd.out).mono ?_;rintro e w' ⟨rfl,rfl⟩);go_meet;exact⟨rfl,hbr.out⟩
       have hfk:=Hhf.out k;have hgk:=Hhg.out k;have hst:anyP h (k+1)=(anyP h k||(f k&&g k)):=by rw[anyP,Hhh.out]
       obtain⟨y,hy⟩:=eJ (anyP h k);obtain⟨fk,hfe⟩:∃ x,f k=x:=⟨_,rfl⟩;obtain⟨gk,hge⟩:∃ x,g k=x:=⟨_,rfl⟩;rw[hy] at hst ⊢;rw[hfe,hge] at hst;rw[hfe] at hfk;rw[hge] at hgk;have c0:=cutH (txB l) (txB (l.take k)) l k rfl (by rw[Hhn.out];omega) rfl;have c1:=cutL (txB l) (txB (l.drop k)) l k rfl (by rw[Hhn.out];omega) rfl;have HT1:=qh (fun u:World=>Zba s (l.take k) u fk hfk hs.out (fun b hb=>Hht.out b (List.mem_of_mem_take hb)) (by rw[List.length_take];omega));have HT2:=qh (fun u:World=>Zba t (l.drop k) u gk hgk Hhtt.out (fun b hb=>Hht.out b (List.mem_of_mem_drop hb)) (by rw[List.length_drop];omega));have Hhst:=qh hst;clear hst;have Hhy:=qh hy;clear hy;have Hhfe:=qh hfe;clear hfe;have Hhge:=qh hge;clear hge;clear hfk hgk;cases y
       ·cases fk
        ·go_wp2_with (first
          | (go_at_call 34;refine(Zbq l _ Hht.out (by omega) true Hhwd.out).mono ?_;rintro e w' ⟨rfl,rfl⟩)
          | (go_at_call 32;with_reducible refine(HT1.out _).mono ?_;rintro e wz ⟨rfl,hbz⟩;have hbw:=qh (hbr.out.trans (hbz.mono hbr.out.size));clear hbz))
         go_roundw
         case rel=>exact⟨k+1,rfl,by rw[Hhst.out];rfl,by omega,fun h=>(by cases h),hbw.out⟩
         case measure=>simp[intOf];omega
        go_wp2_with (first
         | (go_at_call 34;refine(Zbq l _ Hht.out (by omega) true Hhwd.out).mono ?_;rintro e w' ⟨rfl,rfl⟩)
         | (go_at_call 32;with_reducible refine(HT1.out _).mono ?_;rintro e wz ⟨rfl,hbz⟩;have hbw:=qh (hbr.out.trans (hbz.mono hbr.out.size));clear hbz)
         | (go_at_call 32;with_reducible refine(HT2.out _).mono ?_;rintro e wz' ⟨rfl,hbz⟩;have hbv:=qh (hbw.out.trans (hbz.mono hbw.out.size));clear hbz))
        go_roundw
        case rel=>exact⟨k+1,rfl,by rw[Hhst.out];cases gk<;>rfl,by omega,fun h=>(by cases h),hbv.out⟩
        case measure=>simp[intOf];omega
       go_wp2_with (go_at_call 34;refine(Zbq l _ Hht.out (by omega) true Hhwd.out).mono ?_;rintro e w' ⟨rfl,rfl⟩);go_roundw
       case rel=>exact⟨k+1,rfl,by rw[Hhst.out];rfl,by omega,fun h=>(by cases h),hbr.out⟩
       case measure=>simp[intOf];omega
      obtain rfl:k=n+1:=by omega
      have hkI:¬ ((n+1:Nat):Int)≤(n:Int):=by omega
      have hwd1:wd=true:=by
       cases wd with
       | true=>rfl
       | false=>have:=Hhk0.out rfl;omega
      have hqe:=Hhqj.out hwd1;subst hwd1;have Hhqe:=qh hqe;clear hqe;go_wp2;go_meet;exact⟨by rw[Hhqe.out],hbr.out⟩
    obtain⟨u1,u2,u3,u4⟩:=ZaI h4;have hwv:=Hwv.out h4;subst hwv;replace h4:=qh h4;go_wp2;go_meet;exact⟨rfl,hb9.out⟩
   case rest =>
    obtain⟨rfl,hc⟩:=hcut;obtain⟨w9,hw9⟩:∃ w9:World,w9=wc:=⟨_,rfl⟩;subst hw9;have HS9:=qh (HS5.out.call hc);have HX9:=qh (HX5.out.below hc);clear hc hb9 Hwv HS5 HX5;have D0:=qh (HS9.out.cell (v:=.slice g1 D.next.length c1) 0 0 rfl rfl);have D1:=qh (HS9.out.cell (v:=.slice g2 D.ends.length c2) 0 1 rfl rfl);have HltD:=qh (HS9.out.boxlt 0 rfl).2;go_wp2;refine wp_region_any (by kernel_rfl) ?_
    refine Zau (fun A listed a w'=>∃ (l0 l1 l2 l3 l4 l5 l6 l7 l8 l9 l10 l11:Bool) (ax1:Option Addr) (cx1:Nat) (ax2:Option Addr) (cx2:Nat) (vb:Nat) (vh:Nat),listed=#[l0,l1,l2,l3,l4,l5,l6,l7,l8,l9,l10,l11] ∧
      a=⟨((((((((((((A.tmps.setIfInBounds 108 (if l0=true then .agg #[.slice g1 D.next.length c1,.slice g2 D.ends.length c2] else A.tmps.getD 108 undef)).setIfInBounds 109 (if l1=true then .string (txB l) else A.tmps.getD 109 undef)).setIfInBounds 110 (if l2=true then .bool q else A.tmps.getD 110 undef)).setIfInBounds 111 (if l3=true then .bool q else A.tmps.getD 111 undef)).setIfInBounds 112 (if l4=true then .bool true else A.tmps.getD 112 undef)).setIfInBounds 113 (if l5=true then .bool true else A.tmps.getD 113 undef)).setIfInBounds 114 (if l6=true then .agg #[.slice g1 D.next.length c1,.slice g2 D.ends.length c2] else A.tmps.getD 114 undef)).setIfInBounds 115 (if l7=true then .agg #[.slice ax1 D.next.length cx1,.slice ax2 D.ends.length cx2] else A.tmps.getD 115 undef)).setIfInBounds 116 (if l8=true then .agg #[.slice g1 D.next.length c1,.slice g2 D.ends.length c2] else A.tmps.getD 116 undef)).setIfInBounds 117 (if l9=true then .bool true else A.tmps.getD 117 undef)).setIfInBounds 118 (if l10=true then .bool true else A.tmps.getD 118 undef)).setIfInBounds 4 (.bool l11)),A.defers⟩ ∧
      St w9 w' [(if l7=true then DfaV vb vh (.slice ax1 D.next.length cx1) (.slice ax2 D.ends.length cx2) D else Ent.nil)]) ?_ ?_ ?_
    ·rintro listed a w' ⟨l0,l1,l2,l3,l4,l5,l6,l7,l8,l9,l10,l11,ax1,cx1,ax2,cx2,vb,vh,rfl,rfl,hS⟩ i hi;obtain⟨hun,o,ho,hall⟩:=mem_ready.1 hi;have hlt:=(Array.getElem?_eq_some_iff.1 ho).1;refine wpOp_step ho (fun K hK => ?_);clear hi;have HS:=qh hS;clear hS;simp only[List.setIfInBounds_toArray,List.set_cons_zero,List.set_cons_succ,Array.getD_eq_getD_getElem?,List.getElem?_toArray,List.getElem?_cons_zero,List.getElem?_cons_succ,Option.getD_some];obtain h|h|h|h|h|h|h|h|h|h|h|h:i=0∨i=1∨i=2∨i=3∨i=4∨i=5∨i=6∨i=7∨i=8∨i=9∨i=10∨i=11:=by simp at hlt;omega
     all_goals subst h
     all_goals simp only[List.getElem?_toArray,List.getElem?_cons_zero,List.getElem?_cons_succ,Option.some.injEq] at ho
     all_goals subst ho
     all_goals simp[Region.binds] at hun hall
     ·subst hun;have e0:=(bcell HS.out.bel (w2.heap.size) (0) HltD.out).trans D0.out;have e1:=(bcell HS.out.bel (w2.heap.size) (1) HltD.out).trans D1.out;go_simp;exact hK _ _ ⟨true,l1,l2,l3,l4,l5,l6,l7,l8,l9,l10,l11,ax1,cx1,ax2,cx2,vb,vh,rfl,(by simp),HS.out⟩
     ·subst hun;go_simp;exact hK _ _ ⟨l0,true,l2,l3,l4,l5,l6,l7,l8,l9,l10,l11,ax1,cx1,ax2,cx2,vb,vh,rfl,(by simp),HS.out⟩
     ·obtain⟨rfl,rfl⟩:=hall;subst hun;go_simp
      go_at_call 27
      refine(Zk0 D l _ _ Hht.out (by omega) (HX9.out.below HS.out.bel) Hhok.out _ Hhq.out).mono ?_;rintro e u1 ⟨rfl,hb⟩;have hS2:=HS.out.call hb;have HhS2:=qh hS2;clear hS2;go_simp;exact hK _ _ ⟨true,true,true,l3,l4,l5,l6,l7,l8,l9,l10,l11,ax1,cx1,ax2,cx2,vb,vh,rfl,(by simp),HhS2.out⟩
     ·subst hun;go_simp;exact hK _ _ ⟨l0,l1,l2,true,l4,l5,l6,l7,l8,l9,l10,l11,ax1,cx1,ax2,cx2,vb,vh,rfl,(by simp),HS.out⟩
     ·obtain⟨rfl,rfl⟩:=hall;subst hun;go_simp;exact hK _ _ ⟨l0,l1,true,true,true,l5,l6,l7,l8,l9,l10,l11,ax1,cx1,ax2,cx2,vb,vh,rfl,(by simp),HS.out⟩
     ·obtain⟨rfl,rfl⟩:=hall;subst hun;go_simp;exact hK _ _ ⟨l0,l1,true,l3,true,true,l6,l7,l8,l9,l10,l11,ax1,cx1,ax2,cx2,vb,vh,rfl,(by simp),HS.out⟩
     ·obtain rfl:=hall;subst hun;have e0:=(bcell HS.out.bel (w2.heap.size) (0) HltD.out).trans D0.out;have e1:=(bcell HS.out.bel (w2.heap.size) (1) HltD.out).trans D1.out;go_simp;exact hK _ _ ⟨l0,l1,l2,l3,l4,true,true,l7,l8,l9,l10,l11,ax1,cx1,ax2,cx2,vb,vh,rfl,(by simp),HS.out⟩
     ·obtain⟨rfl,rfl⟩:=hall;subst hun;go_simp
      go_at_call 31
      refine(ZfX D D Hhmin.out _ _ (HX9.out.below HS.out.bel)).mono ?_;rintro e u1 ⟨z1,z2,z3,z4,rfl,hr,hb⟩;have hS2:=(HS.out.dfaV hb hr).pick [1] (by decide);have HhS2:=qh hS2;clear hS2;go_simp;exact hK _ _ ⟨l0,l1,l2,l3,l4,true,true,true,l8,l9,l10,l11,z1,z2,z3,z4,w'.heap.size,u1.heap.size,rfl,(by simp),HhS2.out⟩
     ·obtain rfl:=hall;subst hun;have e0:=(bcell HS.out.bel (w2.heap.size) (0) HltD.out).trans D0.out;have e1:=(bcell HS.out.bel (w2.heap.size) (1) HltD.out).trans D1.out;go_simp;exact hK _ _ ⟨l0,l1,l2,l3,l4,true,l6,l7,true,l9,l10,l11,ax1,cx1,ax2,cx2,vb,vh,rfl,(by simp),HS.out⟩
     ·obtain⟨rfl,rfl,-,rfl⟩:=hall;subst hun;go_simp
      go_at_call 20
      refine(ZgG D _ _ _ (HS.out.dfaVr 0 rfl) (HX9.out.below HS.out.bel)).mono ?_;rintro e u1 ⟨rfl,hb⟩;have hS2:=HS.out.call hb;have HhS2:=qh hS2;clear hS2;go_simp;exact hK _ _ ⟨l0,l1,l2,l3,l4,true,l6,true,true,true,l10,l11,ax1,cx1,ax2,cx2,vb,vh,rfl,(by simp),HhS2.out⟩
     ·obtain⟨rfl,rfl⟩:=hall;subst hun;go_simp;exact hK _ _ ⟨l0,l1,l2,l3,l4,true,l6,l7,l8,true,true,l11,ax1,cx1,ax2,cx2,vb,vh,rfl,(by simp),HS.out⟩
     obtain⟨rfl,rfl,rfl,rfl,rfl,rfl,rfl,rfl,rfl,rfl,rfl,-⟩:=hall;subst hun;go_simp;exact hK _ _ ⟨true,true,true,true,true,true,true,true,true,true,true,true,ax1,cx1,ax2,cx2,vb,vh,rfl,(by simp),HS.out⟩
    ·rintro listed a w' ⟨l0,l1,l2,l3,l4,l5,l6,l7,l8,l9,l10,l11,ax1,cx1,ax2,cx2,vb,vh,rfl,rfl,hS⟩ hr;have hall:=ZaU (by kernel_rfl) rfl hr;obtain rfl:l0=true:=by simpa using hall 0 (by simp)
     obtain rfl:l1=true:=by simpa using hall 1 (by simp)
     obtain rfl:l2=true:=by simpa using hall 2 (by simp)
     obtain rfl:l3=true:=by simpa using hall 3 (by simp)
     obtain rfl:l4=true:=by simpa using hall 4 (by simp)
     obtain rfl:l5=true:=by simpa using hall 5 (by simp)
     obtain rfl:l6=true:=by simpa using hall 6 (by simp)
     obtain rfl:l7=true:=by simpa using hall 7 (by simp)
     obtain rfl:l8=true:=by simpa using hall 8 (by simp)
     obtain rfl:l9=true:=by simpa using hall 9 (by simp)
     obtain rfl:l10=true:=by simpa using hall 10 (by simp)
     obtain rfl:l11=true:=by simpa using hall 11 (by simp)
     clear hall hr ;simp only[↓reduceIte] at hS ⊢;simp only[List.setIfInBounds_toArray,List.set_cons_zero,List.set_cons_succ,Array.getD_eq_getD_getElem?,List.getElem?_toArray,List.getElem?_cons_zero,List.getElem?_cons_succ,Option.getD_some];have HSf:=qh hS;clear hS;go_wp2;go_ret;exact⟨rfl,HS9.out.bel.trans (HSf.out.bel.mono HS9.out.bel.size)⟩
    refine⟨false,false,false,false,false,false,false,false,false,false,false,false,none,0,none,0,0,0,rfl,(by simp),?_⟩;exact(St.start w9).drew.pick [0] (by decide)
end Go.Proofs.YtfgpkadhegdffaaGreat
namespace Go.Proofs.YtfgpkadhegdffaaGreat
open Go.ChangeShapes Go.WideShapes Go.ChangeAt Go.RowKit Go.Joins
theorem Tryz.own:ownKnob Tryz.prog.godebug=none:=by kernel_rfl
section
variable {H:Type} {enc:TypeId × Value→H} {W:World}
end
end Go.Proofs.YtfgpkadhegdffaaGreat
namespace Go.Proofs.YtfgpkadhegdffaaGreat
open Go.ChangeShapes Go.WideShapes Go.ChangeAt Go.RowKit Go.Joins
theorem Tryz.cellsByte:Tryz.prog.cellsOf 5 = 1:=by kernel_rfl
theorem Tryz.recLBytes:Tryz.prog.readableRec 36 = true:=by kernel_rfl
theorem Tryz.rowLBytes:(36:TypeId)<Tryz.prog.types.size:=of_decide_eq_true (by kernel_rfl)
section
variable {H:Type} {enc:TypeId × Value→H} {W:World}
theorem ZgP {held:Bool} {v:Value} {d:DataW H} {p:List MemPlace} (h:DataW.Trod enc Tryz.prog W 0 (fun _=>true) held 36 v d p) (hv:v.cells.toList=[v]):∃ bs,Bytes 0 W v bs:=by obtain⟨fuel,hf⟩:=h;obtain⟨u,bs,hu,hx⟩:=ZjB Tryz.underlying36 Tryz.underlying5 Tryz.cellsByte hf;rw[hv] at hu;simp only[List.cons.injEq,and_true] at hu;subst hu;exact⟨bs,hx⟩
end
end Go.Proofs.YtfgpkadhegdffaaGreat
