/-
  The walk over the laws' comparison of two automata, where both are the same.
  Conditions: both arguments are readable.
-/
import Derived.Test.YtfanhfcamblghaaPq27Jh
import Derived.Test.YtfanhfcamblghaaPq35Mn
import Derived.Test.YtfanhfcamblghaaPq41Jh
set_option maxHeartbeats 4000000
set_option maxRecDepth 100000
namespace Go.Proofs.Ytfanhfcamblghaa
open Go.RowKit
theorem Ze7 (xs:List Bool) (v1 v2:Value) (w:World) (h1:Bools 0 w v1 xs) (h2:Bools 0 w v2 xs) :
  Calls Try.prog 63 #[v1,v2] w fun e w'=>e = .returned (.bool true)∧Below w.heap.size w w':=by
 obtain⟨a1,c1,rfl,hc1,hm1,hr1⟩:=h1.form;obtain⟨a2,c2,rfl,hc2,hm2,hr2⟩:=h2.form;clear h1 h2;have hl:((xs.length:Int) != xs.length)=false:=by simp
 go_enter Try.func63, Try.ntmps63
 go_wp2
 go_loopw [4,5] (fun r i wr=>∃ k:Nat,k≤xs.length∧i = .int .i64 k∧Below w.heap.size w wr) (fun _ i _=>xs.length-(intOf i).toNat)
 case atStart=>exact⟨0,Nat.zero_le _,rfl,Below.refl _ _⟩
 case round =>
  obtain⟨k,hk,rfl,hb⟩:=hrel;by_cases hlt:k<xs.length
  ·obtain⟨b1,o1,rfl,hB1,hbl1,hcs1⟩:=hr1 (by omega);obtain⟨b2,o2,rfl,hB2,hbl2,hcs2⟩:=hr2 (by omega);have hx1:=(bcell hb b1 (o1+k) hbl1).trans (hcs1 k hlt);have hx2:=(bcell hb b2 (o2+k) hbl2).trans (hcs2 k hlt);obtain⟨x,hx⟩:=eI (xs.getD k false);rw[← hx] at hx1 hx2;have hne:(x != x)=false:=by simp
   have hne':(!(x==x))=false:=by simp
   replace hx:=qh hx;replace hb:=qh hb;clear hcs1 hcs2 hr1 hr2;go_wp2
   go_quiet (fail)
   go_wp2;go_roundw
   case rel=>exact⟨k+1,by omega,by go_num,below_drewN hb.out _⟩
   case measure=>simp[intOf];omega
  clear hr1 hr2;replace hb:=qh hb;go_wp2;go_ret;exact⟨rfl,hb.out⟩
theorem Zi9 {P:Program} {f:FuncId} {args:Array Value} {w:World} {n:Nat} {v:Value}
  (h:Calls P f args (w.drewN n) fun e w'=>e = .returned v∧∃ m,w'=(w.drewN n).drewN m):Calls P f args (w.drewN n) fun e w''=>e = .returned v∧∃ m,w''=w.drewN m :=
 h.mono fun _ _ ⟨he,_,hm⟩=>⟨he,_,hm.trans (World.drewN_drewN _ _ _)⟩
theorem Zgs (xs:List Int) (v1 v2:Value) (w:World) (h1:Ints 0 w v1 xs) (h2:Ints 0 w v2 xs) :
  Calls Try.prog 45 #[v1,v2] w fun e w'=>e = .returned (.bool true)∧∃ m,w'=w.drewN m:=by
 obtain⟨a1,c1,rfl,hc1,hm1,hr1⟩:=h1.form;obtain⟨a2,c2,rfl,hc2,hm2,hr2⟩:=h2.form;clear h1 h2;have hl:((xs.length:Int) != xs.length)=false:=by simp
 go_enter Try.func45, Try.ntmps45
 go_wp2
 go_loopw [4,5] (fun r i wr=>∃ k:Nat,k≤xs.length∧i = .int .i64 k∧∃ m,wr=w.drewN m) (fun _ i _=>xs.length-(intOf i).toNat)
 case atStart=>exact⟨0,Nat.zero_le _,rfl,0,rfl⟩
 case round =>
  obtain⟨k,hk,rfl,hm⟩:=hrel;by_cases hlt:k<xs.length
  ·obtain⟨b1,o1,rfl,hB1,hbl1,hcs1⟩:=hr1 (by omega);obtain⟨b2,o2,rfl,hB2,hbl2,hcs2⟩:=hr2 (by omega);have hb:Below w.heap.size w wr:=by obtain⟨m,rfl⟩:=hm;exact below_drewN (Below.refl _ _) m
   have hx1:=(bcell hb b1 (o1+k) hbl1).trans (hcs1 k hlt);have hx2:=(bcell hb b2 (o2+k) hbl2).trans (hcs2 k hlt);obtain⟨x,hx⟩:=eI (xs.getD k 0);rw[← hx] at hx1 hx2;have hne:(x != x)=false:=by simp
   have hne':(!(x==x))=false:=by simp
   replace hx:=qh hx;replace hm:=qh hm;clear hcs1 hcs2 hr1 hr2 hb;go_wp2
   go_quiet (fail)
   go_wp2;go_roundw
   case rel=>exact⟨k+1,by omega,by go_num,by obtain⟨m,rfl⟩:=hm.out;exact⟨_,World.drewN_drewN _ _ _⟩⟩
   case measure=>simp[intOf];omega
  clear hr1 hr2;replace hm:=qh hm;go_wp2;go_ret;exact⟨rfl,hm.out⟩
theorem ZhS (d:DfaD) (a b:Value) (w:World) (h1:DfaR 0 w a d) (h2:DfaR 0 w b d) :
  Calls Try.prog 19 #[a,b] w fun e w'=>e = .returned (.bool true)∧Below w.heap.size w w':=by
 obtain⟨v1,v2,rfl,g1,g2⟩:=h1;obtain⟨u1,u2,rfl,k1,k2⟩:=h2;obtain⟨a1,c1,rfl,hc1,hm1,hr1⟩:=g1.formI;obtain⟨b1,d1,rfl,hd1,hn1,hq1⟩:=k1.formI;have G2:=qh g2;have K2:=qh k2;have hS0:=((St.start w).alloc _ rfl #[.slice a1 d.next.length c1,v2] 45).alloc (w.heap.size+1) (by simp) #[.slice b1 d.next.length d1,u2] 45;have e0:=hS0.cell (v:=.slice a1 d.next.length c1) 0 0 rfl rfl;have f0:=hS0.cell (v:=.slice b1 d.next.length d1) 1 0 rfl rfl;have hne2:((d.next.length:Int) != d.next.length)=false:=by simp
 replace hS0:=qh hS0;have Hhr1:=qh hr1;clear hr1;have Hhq1:=qh hq1;clear hq1;clear g1 g2 k1 k2
 go_enter Try.func19, Try.ntmps19
 go_wp2
 go_loopw [5] (fun i wr=>∃ k:Nat,i = .int .i64 k∧k≤d.next.length∧St w wr [Ent.box w.heap.size #[.slice a1 d.next.length c1,v2] 45,Ent.box (w.heap.size+1) #[.slice b1 d.next.length d1,u2] 45]) (fun i _=>d.next.length-(intOf i).toNat)
 case atStart=>exact⟨0,rfl,Nat.zero_le _,hS0.out⟩
 case round =>
  obtain⟨k,rfl,hk,hS⟩:=hrel;clear e0 f0;by_cases hlt:k<d.next.length
  ·have hkI:(k:Int)<d.next.length:=by omega
   obtain⟨x1,y1,rfl,-,hbl1,hcs1⟩:=Hhr1.out (by omega);obtain⟨x2,y2,rfl,-,hbl2,hcs2⟩:=Hhq1.out (by omega);obtain⟨m1,z1,p1,-,-,p2⟩:=hcs1 k hlt;obtain⟨m2,z2,q1,-,-,q2⟩:=hcs2 k hlt;replace p1:=(bcell hS.bel x1 _ hbl1).trans p1;replace q1:=(bcell hS.bel x2 _ hbl2).trans q1;have P2:=qh p2;have Q2:=qh q2;have e1:=hS.cell (v:=.slice (some ⟨x1,y1,none⟩) d.next.length c1) 0 0 rfl rfl;have f1:=hS.cell (v:=.slice (some ⟨x2,y2,none⟩) d.next.length d1) 1 0 rfl rfl;obtain⟨x,hx⟩:=eJ (d.next.getD k []);rw[hx] at p1 q1 P2 Q2;have HS:=qh hS;replace P2:=qh (P2.out.below HS.out.bel);replace Q2:=qh (Q2.out.below HS.out.bel);have Hhx:=qh hx;clear hx;clear hcs1 hcs2 hS p2 q2;go_wp2_with fail
   go_quiet ((go_at_call 45;exact Zi9 (Zgs x _ _ _ (P2.out.below (below_drewN (Below.refl _ _) _)) (Q2.out.below (below_drewN (Below.refl _ _) _)))))
   go_wp2;go_roundw
   case rel=>exact⟨k+1,by go_num,by omega,HS.out.drewN nq⟩
   case measure=>simp[intOf];omega
  obtain rfl:k=d.next.length:=by omega
  have e1:=hS.cell (v:=.slice a1 d.next.length c1) 0 0 rfl rfl;have e2:=hS.cell (v:=v2) 0 1 rfl rfl;have f2:=hS.cell (v:=u2) 1 1 rfl rfl;have HS:=qh hS;clear hS;go_wp2_with fail;refine(Ze7 d.ends _ _ _ (G2.out.below HS.out.bel) (K2.out.below HS.out.bel)).mono ?_;rintro e w4 ⟨rfl,hb4⟩;have HS4:=qh (HS.out.call hb4);clear hb4;go_wp2;go_ret;exact⟨rfl,HS4.out.bel⟩
def DfaV (B H:Nat) (v1 v2:Value) (D:DfaD):Ent:=⟨fun k=>B≤k∧k<H,fun u=>∃ w:World,w.heap.size=H∧DfaR B w (.agg #[v1,v2]) D∧∀ k,B≤k→k<H→u.heap[k]? = w.heap[k]?,
 fun _ _ ⟨w,h1,h2,h3⟩ hk=>⟨w,h1,h2,fun k p q=>(hk k ⟨p,q⟩).trans (h3 k p q)⟩⟩
theorem St.dfaV {w0 w w':World} {L:List Ent} (h:St w0 w L) (hb:Below w.heap.size w w') {v1 v2:Value} {D:DfaD} (hr:DfaR w.heap.size w' (.agg #[v1,v2]) D):St w0 w' (L++[DfaV w.heap.size w'.heap.size v1 v2 D]) :=
 h.add hb _ ⟨w',rfl,hr,fun _ _ _=>rfl⟩ fun _ hk=>hk
theorem St.dfaVr {w0 w:World} {L:List Ent} (h:St w0 w L) (i:Nat) {B H:Nat} {v1 v2:Value} {D:DfaD} (hx:L[i]? = some (DfaV B H v1 v2 D)):DfaR 0 w (.agg #[v1,v2]) D:=by
 have hE:=h.has i _ hx;obtain⟨⟨w',h1,⟨x1,x2,hv,⟨vs,h2,h3⟩,h4⟩,h5⟩,hf⟩:=hE;simp only[Value.agg.injEq,Array.mk.injEq,List.cons.injEq,and_true] at hv;obtain⟨rfl,rfl⟩:=hv;by_cases hlt:B<H
 ·have hs:w'.heap.size≤w.heap.size:=by have:H-1<w.heap.size:=(hf (H-1) (show B≤H-1∧H-1<H by omega)).2;omega
  have hk:∀ k,B≤k→k<w'.heap.size→w.heap[k]? = w'.heap[k]?:=fun k p q=>h5 k p (by omega)
  exact⟨_,_,rfl,⟨vs,h2.keptJ (Nat.zero_le _) hs hk,fun i hi=>Sl.keptJ (h3 i hi) (Nat.zero_le _) hs hk⟩,Sl.keptJ h4 (Nat.zero_le _) hs hk⟩
 have hno:∀ {v:Value} {n size:Nat} {cs:List Value},Sl B w' v n size cs→0<size→Sl 0 w v n size cs:=fun {v n size cs} hs hz=>by obtain⟨g1,a,cap,g2,g3,g4,g5⟩:=hs;refine⟨g1,a,cap,g2,g3,g4,fun hn => ?_⟩;obtain⟨b,off,-,p,q,-⟩:=g5 hn;omega
 exact⟨_,_,rfl,⟨vs,hno h2 (by omega),fun i hi=>hno (h3 i hi) (by omega)⟩,hno h4 (by omega)⟩
def RDs (D:DfaD) (w:World) (e:Ending) (w':World):Prop:=∃ a1 c1 a2 c2,e = .returned (.agg #[.slice a1 D.next.length c1,.slice a2 D.ends.length c2])∧DfaR w.heap.size w' (.agg #[.slice a1 D.next.length c1,.slice a2 D.ends.length c2]) D∧Below w.heap.size w w'
def minQ (d:DfaD):DfaD:=if Za2 d.next d.ends=true then minD d else⟨[],[]⟩
theorem Zn7 (w:World) (B:Nat):DfaR B w (.agg #[.slice none 0 0,.slice none 0 0]) ⟨[],[]⟩:=(ZeU w B 0 0 0).r
theorem ZcH (d:DfaD) (D:DfaD) (hD:minQ d=D) (v:Value) (w:World) (h:DfaR 0 w v d) :
  Calls Try.prog 20 #[v] w fun e w'=>RDs D w e w':=by
 have H:=qh h;obtain⟨v1,v2,rfl,g1,g2⟩:=h;have hS0:=((St.start w).alloc _ rfl #[v1,v2] 45).alloc (w.heap.size+1) (by simp) #[.slice none 0 0,.slice none 0 0] 45;have e0:=hS0.cell (v:=v1) 0 0 rfl rfl;have e1:=hS0.cell (v:=v2) 0 1 rfl rfl;replace hS0:=qh hS0;clear g1 g2;cases hok:Za2 d.next d.ends
 ·have hz:D=⟨[],[]⟩:=by rw[← hD];unfold minQ;rw[if_neg (by rw[hok];simp)]
  subst hz;have Hhok:=qh hok;clear hok;clear hD
  go_enter Try.func20, Try.ntmps20
  go_wp2_with fail;refine(ZcI d _ _ (H.out.below hS0.out.bel) _ Hhok.out).mono ?_;rintro e w1 ⟨rfl,hb1⟩;have HS1:=qh (hS0.out.call hb1);clear hb1 e0 e1;have f0:=HS1.out.fr 1 0 rfl;have f1:=HS1.out.fr 1 1 rfl;have k0:=HS1.out.cell (v:=.slice none 0 0) 1 0 rfl rfl;have k1:=HS1.out.cell (v:=.slice none 0 0) 1 1 rfl rfl;go_wp2;have hq:=(HS1.out.set 1 rfl 0 (.slice none 0 0)).set 1 rfl 1 (.slice none 0 0);have q0:=hq.cell (v:=.slice none 0 0) 1 0 rfl rfl;have q1:=hq.cell (v:=.slice none 0 0) 1 1 rfl rfl;refine bodyPost_ret (v:=.agg #[.slice none 0 0,.slice none 0 0]) (by simp[results,Try.results20,go_sem,q0,q1]) rfl ?_;exact⟨none,0,none,0,rfl,Zn7 _ _,hq.bel⟩
 have hz:minD d=D:=by rw[← hD];unfold minQ;rw[if_pos hok]
 have Hhok:=qh hok;clear hok;have Hz:=qh hz;clear hD hz
 go_enter Try.func20, Try.ntmps20
 go_wp2_with fail;refine(ZcI d _ _ (H.out.below hS0.out.bel) _ Hhok.out).mono ?_;rintro e w1 ⟨rfl,hb1⟩;have HS1:=qh (hS0.out.call hb1);clear hb1 e0 e1;have e0:=HS1.out.cell (v:=v1) 0 0 rfl rfl;have e1:=HS1.out.cell (v:=v2) 0 1 rfl rfl;go_wp2_with fail;refine(Zh8 d _ _ Hhok.out (H.out.below HS1.out.bel)).mono ?_;rintro e w2 ⟨a1,c1,a2,c2,rfl,hdo,hb2⟩;rw[Hz.out] at hdo;rw[Hz.out];have HS2:=qh (HS1.out.call hb2);have HDr:=qh hdo.r;have hB1:=(HS1.out.boxlt 1 rfl).2;have hsz:=HS1.out.size;clear hb2 hdo e0 e1;have f0:=HS2.out.fr 1 0 rfl;have f1:=HS2.out.fr 1 1 rfl;have k0:=HS2.out.cell (v:=.slice none 0 0) 1 0 rfl rfl;have k1:=HS2.out.cell (v:=.slice none 0 0) 1 1 rfl rfl;go_wp2;have hq:=(HS2.out.set 1 rfl 0 (.slice a1 D.next.length c1)).set 1 rfl 1 (.slice a2 D.ends.length c2);have q0:=hq.cell (v:=.slice a1 D.next.length c1) 1 0 rfl rfl;have q1:=hq.cell (v:=.slice a2 D.ends.length c2) 1 1 rfl rfl;refine bodyPost_ret (v:=.agg #[.slice a1 D.next.length c1,.slice a2 D.ends.length c2]) (by simp[results,Try.results20,go_sem,q0,q1]) rfl ?_;exact⟨a1,c1,a2,c2,rfl,((HDr.out.far hB1 0 _).far hB1 1 _).mono hsz,hq.bel⟩
end Go.Proofs.Ytfanhfcamblghaa
