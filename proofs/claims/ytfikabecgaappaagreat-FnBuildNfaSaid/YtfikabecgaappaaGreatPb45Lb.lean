/-
  The walks over the program's CompileExpr and StateCount, and over the reference's StateCount.
  Condition: the list of parts reads as such.
-/
import Derived.Test.YtfikabecgaappaaGreatPb44Cmp
set_option maxHeartbeats 8000000
set_option maxRecDepth 100000
namespace Go.Proofs.YtfikabecgaappaaGreat
open Go.RowKit
theorem ZdN (K:Nat) (hK:K=40) (es:List (Int × Int)) (o:Option DfaD) (ho:Zo1 K es o) (v:Value) (w:World) (h:Pairs 0 w v es) :
  Calls Tryz.prog 13 #[v] w fun e w'=>RTt (o.getD zeD) o.isSome w.heap.size e w'∧Below w.heap.size w w':=by
 have H:=qh h;have HS0:=qh ((St.start w).alloc _ rfl #[.slice none 0 0,.slice none 0 0] 37);clear h;rcases ho with⟨hok,t,ht,rfl⟩|⟨hok,rfl⟩
 ·have hrun:runC K es []=(ZaE K t).map fun d=>[d]:=by rw[← ht];exact Zkx hK t
  have hmin:∀ d,ZaE K t=some d→minD d=d:=fun d h=>Zh0 hK t h
  obtain⟨o,ho⟩:=eJ (ZaE K t);rw[ho] at hrun hmin;rw[ho];have Hc:=qh (show ∀ u:World,Below w.heap.size w u→Calls Tryz.prog 47 #[v] u fun e w'=>RTt (o.getD zeD) o.isSome u.heap.size e w'∧Below u.heap.size u w' from fun u hb=>Ze7 K hK es o hrun hmin v u hok (H.out.below hb));obtain⟨D,hD⟩:=eJ (o.getD zeD);obtain⟨fb,hfb⟩:=eJ (o.isSome);rw[hD,hfb] at Hc;rw[hD,hfb];replace hok:=qh hok;clear hrun hmin ho ht hD hfb
  go_enter Tryz.func13, Tryz.ntmps13
  go_wp2_with fail;refine(ZaU es v _ (H.out.below HS0.out.bel) _ hok.out).mono ?_;rintro e w1 ⟨rfl,hb1⟩;have HS1:=qh (HS0.out.call hb1);clear hb1;go_wp2_with fail;refine(Hc.out _ HS1.out.bel).mono ?_;rintro e w2 ⟨⟨a1,c1,a2,c2,rfl,hown⟩,hb2⟩;have hS5:=HS1.out.call hb2;have f0:=hS5.fr 0 0 rfl;have f1:=hS5.fr 0 1 rfl;have k0:=hS5.cell (v:=.slice none 0 0) 0 0 rfl rfl;have k1:=hS5.cell (v:=.slice none 0 0) 0 1 rfl rfl;have hDM:=DMem.of hown HS1.out.size;have hb0:=hS5.box 0 rfl;have HS5:=qh hS5;have HDM:=qh hDM;replace hb0:=qh hb0;clear hS5 hown hb2 hDM;go_wp2;have hq:=(HS5.out.set 0 rfl 0 (.slice a1 D.next.length c1)).set 0 rfl 1 (.slice a2 D.ends.length c2);have q0:=hq.cell (v:=.slice a1 D.next.length c1) 0 0 rfl rfl;have q1:=hq.cell (v:=.slice a2 D.ends.length c2) 0 1 rfl rfl;have hm:=(HDM.out.set hb0.out 0 (.slice a1 D.next.length c1)).set (hb0.out.set 0 _) 1 (.slice a2 D.ends.length c2);refine bodyPost_ret (v:=.tuple #[.agg #[.slice a1 D.next.length c1,.slice a2 D.ends.length c2],.bool fb]) (by simp[results,Tryz.results13,go_sem,q0,q1]) rfl ⟨?_,hq.bel⟩;exact⟨a1,c1,a2,c2,rfl,_,_,rfl,hm.1,hm.2⟩
 replace hok:=qh hok
 go_enter Tryz.func13, Tryz.ntmps13
 go_wp2_with fail;refine(ZaU es v _ (H.out.below HS0.out.bel) _ hok.out).mono ?_;rintro e w1 ⟨rfl,hb1⟩;have HS5:=qh (HS0.out.call hb1);clear hb1;have f0:=HS5.out.fr 0 0 rfl;have f1:=HS5.out.fr 0 1 rfl;have k0:=HS5.out.cell (v:=.slice none 0 0) 0 0 rfl rfl;have k1:=HS5.out.cell (v:=.slice none 0 0) 0 1 rfl rfl;go_wp2;have hq:=(HS5.out.set 0 rfl 0 (.slice none 0 0)).set 0 rfl 1 (.slice none 0 0);have q0:=hq.cell (v:=.slice none 0 0) 0 0 rfl rfl;have q1:=hq.cell (v:=.slice none 0 0) 0 1 rfl rfl;refine bodyPost_ret (v:=.tuple #[.agg #[.slice none 0 0,.slice none 0 0],.bool false]) (by simp[results,Tryz.results13,go_sem,q0,q1]) rfl ⟨?_,hq.bel⟩;exact⟨none,0,none,0,rfl,Zhf _ _ _ _ _⟩
end Go.Proofs.YtfikabecgaappaaGreat
namespace Go.Proofs.YtfikabecgaappaaGreat
open Go.RowKit
theorem ZeS (xs ys:List Int) (v1 v2:Value) (w:World) (h1:Ints 0 w v1 xs) (h2:Ints 0 w v2 ys) (r:Bool) (hr:decide (xs=ys)=r) :
  Calls Tryz.prog 42 #[v1,v2] w fun e w'=>e = .returned (.bool r)∧Below w.heap.size w w':=by
 obtain⟨a1,c1,rfl,hc1,hm1,hr1⟩:=h1.form;obtain⟨a2,c2,rfl,hc2,hm2,hr2⟩:=h2.form;clear h1 h2;replace hr:=qh hr;by_cases hlen:xs.length=ys.length
 ·have hl:((xs.length:Int) != ys.length)=false:=by rw[ZmZ];simpa using hlen
  have Hhlen:=qh hlen;clear hlen
  go_enter Tryz.func42, Tryz.ntmps42
  go_wp2
  go_loopw [4,5] (fun r i wr=>∃ k:Nat,k≤xs.length∧i = .int .i64 k∧xs.take k=ys.take k∧Below w.heap.size w wr) (fun _ i _=>xs.length-(intOf i).toNat)
  case atStart=>exact⟨0,Nat.zero_le _,rfl,rfl,Below.refl _ _⟩
  case round =>
   obtain⟨k,hk,rfl,htk,hb⟩:=hrel;have Hhtk:=qh htk;clear htk;by_cases hlt:k<xs.length
   ·have hlt2:k<ys.length:=by have:=Hhlen.out;omega
    obtain⟨b1,o1,rfl,hB1,hbl1,hcs1⟩:=hr1 (by omega);obtain⟨b2,o2,rfl,hB2,hbl2,hcs2⟩:=hr2 (by omega);have hx1:=(bcell hb b1 (o1+k) hbl1).trans (hcs1 k hlt);have hx2:=(bcell hb b2 (o2+k) hbl2).trans (hcs2 k hlt2);obtain⟨x,hx⟩:=eI (xs.getD k 0);obtain⟨y,hy⟩:=eI (ys.getD k 0);rw[← hx] at hx1;rw[← hy] at hx2;have Hhx:=qh hx;clear hx;have Hhy:=qh hy;clear hy;replace hb:=qh hb;clear hcs1 hcs2 hr1 hr2;by_cases he:x=y
    ·have hne:(x != y)=false:=by simpa using he
     have hne':(!(x==y))=false:=by simpa using he
     have Hhe:=qh he;clear he;go_wp2
     go_quiet (fail)
     go_wp2;go_roundw
     case rel=>exact⟨k+1,by omega,by go_num,ZeR (d:=0) hlt hlt2 Hhtk.out (by rw[← Hhx.out,← Hhy.out];exact Hhe.out),below_drewN hb.out _⟩
     case measure=>simp[intOf];omega
    have hne:(x != y)=true:=by simpa using he
    have hne':(!(x==y))=true:=by simpa using he
    have Hhe:=qh he;clear he;go_wp2
    go_quiet (fail)
    go_wp2;go_ret;exact⟨by rw[← hr.out,decide_eq_false (Zg0 (k:=k) (d:=0) (by rw[← Hhx.out,← Hhy.out];exact Hhe.out))];rfl,below_drewN hb.out _⟩
   clear hr1 hr2;replace hb:=qh hb;go_wp2;go_ret;exact⟨by rw[← hr.out,decide_eq_true (ZkV Hhlen.out (by omega) Hhtk.out)];rfl,hb.out⟩
 have hl:((xs.length:Int) != ys.length)=true:=by rw[ZmZ];simpa using hlen
 have Hhlen:=qh hlen;clear hlen;clear hr1 hr2
 go_enter Tryz.func42, Tryz.ntmps42
 go_wp2;go_ret;exact⟨by rw[← hr.out,decide_eq_false (fun h=>Hhlen.out (by rw[h]))];rfl,Below.refl _ _⟩
theorem Tryz.plainMove:Tryz.prog.underlying 72 = some (.struct (Tryz.prog.fieldsOf 72)):=by kernel_rfl
theorem Tryz.moveFields : (Tryz.prog.fieldsOf 72).toList.map (fun f => (f.name == "_", f.type, f.offset)) = [(false, 3, 0), (false, 3, 1), (false, 3, 2)] := by kernel_rfl
theorem Tryz.guardMove:Tryz.prog.eqGuardType Tryz.prog.depth 72 = false:=by kernel_rfl
theorem Tryz.heldMove:Tryz.prog.stoodInHeld 72 = false:=by kernel_rfl
theorem Zmz {P:Program} {ti:TypeId} {fs:List Field} (d:Nat) (x1 x2 x3 y1 y2 y3:Int) (w:World) (hi:P.underlying ti=some (.int .i64))
  (hf : fs.map (fun f => (f.name == "_", f.type, f.offset)) = [(false, ti, 0), (false, ti, 1), (false, ti, 2)]) :
  (Op.eqFields (d+1) #[.int .i64 x1,.int .i64 x2,.int .i64 x3] #[.int .i64 y1,.int .i64 y2,.int .i64 y3] fs).run P w = .ok (x1==y1&&(x2==y2&&x3==y3)) w:=by
 obtain⟨f,g,h,rfl⟩:∃ f g h,fs=[f,g,h]:=by
  have hl:fs.length=3:=by simpa using congrArg List.length hf
  match fs with
  | []=>simp at hl
  | [_]=>simp at hl
  | [_,_]=>simp at hl
  | [f,g,h]=>exact⟨f,g,h,rfl⟩
  | _::_::_::_::_=>simp at hl
 simp only[List.map_cons,List.map_nil,List.cons.injEq,Prod.mk.injEq,and_true] at hf
 obtain⟨⟨f1,f2,f3⟩,⟨g1,g2,g3⟩,h1,h2,h3⟩:=hf
 have f1' : f.name ≠ "_" := by simpa using f1
 have g1' : g.name ≠ "_" := by simpa using g1
 have h1' : h.name ≠ "_" := by simpa using h1
 simp only[Op.eqFields,f1',g1',h1',f2,f3,g2,g3,h2,h3,ne_eq,not_false_eq_true,if_true]
 cases e1:x1==y1<;>cases e2:x2==y2<;>cases e3:x3==y3<;>simp[go_sem,hi,e1,e2,e3,part,isAgg,run_underlying hi]
@[go_sem high] theorem Tryz.neqMove (x1 x2 x3:Int) (w:World):(binOp .neq 72 (.agg #[.int .i64 x1,.int .i64 x2,.int .i64 x3]) (.agg #[.int .i64 x1,.int .i64 x2,.int .i64 x3])).run Tryz.prog w = .ok (.bool false) w:=by rw[run_neq_struct,show(10000:Nat)=9998+1+1 from rfl,run_equalIn_struct w _ _ _ _ Tryz.plainMove Tryz.heldMove,Zmz (ti:=3) _ _ _ _ _ _ _ _ Tryz.underlying3 Tryz.moveFields];simp
@[go_sem high] theorem Tryz.neqMoveGuard (x y:Operand) (xs ys:Array Value) (w:World):(eqGuard .neq 72 x y (.agg xs) (.agg ys)).run Tryz.prog w = .ok () w:=run_eqGuard_agg _ _ _ _ _ _ _ Tryz.guardMove
theorem Zjb (n:NfaD) (a b:Value) (w:World) (h1:NfaR 0 w a n) (h2:NfaR 0 w b n) :
  Calls Tryz.prog 9 #[a,b] w fun e w'=>e = .returned (.bool true)∧Below w.heap.size w w':=by
 obtain⟨v1,v2,v3,rfl,g1,g2,g3,hs0,hs1⟩:=h1;obtain⟨u1,u2,u3,rfl,k1,k2,k3,-,-⟩:=h2;obtain⟨a1,c1,rfl,hc1,hm1,hr1⟩:=g1.form;obtain⟨b1,d1,rfl,hd1,hn1,hq1⟩:=k1.form;obtain⟨ns,hns⟩:=eI (n.states);rw[← hns];have G2:=qh g2;have G3:=qh g3;have K2:=qh k2;have K3:=qh k3;have hS0:=((St.start w).alloc _ rfl #[.int .i64 ns,.slice a1 n.moves.length c1,v2,v3] 28).alloc (w.heap.size+1) (by simp) #[.int .i64 ns,.slice b1 n.moves.length d1,u2,u3] 28;have e0:=hS0.cell (v:=.int .i64 ns) 0 0 rfl rfl;have e1:=hS0.cell (v:=.slice a1 n.moves.length c1) 0 1 rfl rfl;have f0:=hS0.cell (v:=.int .i64 ns) 1 0 rfl rfl;have f1:=hS0.cell (v:=.slice b1 n.moves.length d1) 1 1 rfl rfl;have hne:(ns != ns)=false:=by simp
 have hne2:((n.moves.length:Int) != n.moves.length)=false:=by simp
 replace hS0:=qh hS0;have Hhns:=qh hns;clear hns;have Hhr1:=qh hr1;clear hr1;have Hhq1:=qh hq1;clear hq1;clear g1 g2 g3 k1 k2 k3
 go_enter Tryz.func9, Tryz.ntmps9
 go_wp2
 go_loopw [5] (fun i wr=>∃ k:Nat,i = .int .i64 k∧k≤n.moves.length∧St w wr [Ent.box w.heap.size #[.int .i64 ns,.slice a1 n.moves.length c1,v2,v3] 28,Ent.box (w.heap.size+1) #[.int .i64 ns,.slice b1 n.moves.length d1,u2,u3] 28]) (fun i _=>n.moves.length-(intOf i).toNat)
 case atStart=>exact⟨0,rfl,Nat.zero_le _,hS0.out⟩
 case round =>
  obtain⟨k,rfl,hk,hS⟩:=hrel;clear e0 e1 f0 f1;by_cases hlt:k<n.moves.length
  ·have hkI:(k:Int)<n.moves.length:=by omega
   obtain⟨x1,y1,rfl,-,hbl1,hcs1⟩:=Hhr1.out (by omega);obtain⟨x2,y2,rfl,-,hbl2,hcs2⟩:=Hhq1.out (by omega);obtain⟨p1,p2,p3⟩:=hcs1 k hlt;obtain⟨q1,q2,q3⟩:=hcs2 k hlt;replace p1:=(bcell hS.bel x1 _ hbl1).trans p1;replace p2:=(bcell hS.bel x1 _ hbl1).trans p2;replace p3:=(bcell hS.bel x1 _ hbl1).trans p3;replace q1:=(bcell hS.bel x2 _ hbl2).trans q1;replace q2:=(bcell hS.bel x2 _ hbl2).trans q2;replace q3:=(bcell hS.bel x2 _ hbl2).trans q3;have e1:=hS.cell (v:=.slice (some ⟨x1,y1,none⟩) n.moves.length c1) 0 1 rfl rfl;have f1:=hS.cell (v:=.slice (some ⟨x2,y2,none⟩) n.moves.length d1) 1 1 rfl rfl;obtain⟨x,hx⟩:=eJ (n.moves.getD k (0,0,0));rw[hx] at p1 p2 p3 q1 q2 q3;obtain⟨f,l,t⟩:=x;simp only at p1 p2 p3 q1 q2 q3;have Hhx:=qh hx;clear hx;replace hS:=qh hS;clear hcs1 hcs2;go_wp2_with fail
   go_quiet (fail)
   go_wp2;go_roundw
   case rel=>exact⟨k+1,by go_num,by omega,hS.out.drewN nq⟩
   case measure=>simp[intOf];omega
  obtain rfl:k=n.moves.length:=by omega
  have e1:=hS.cell (v:=.slice a1 n.moves.length c1) 0 1 rfl rfl;have e2:=hS.cell (v:=v2) 0 2 rfl rfl;have e3:=hS.cell (v:=v3) 0 3 rfl rfl;have f2:=hS.cell (v:=u2) 1 2 rfl rfl;have f3:=hS.cell (v:=u3) 1 3 rfl rfl;have HS:=qh hS;clear hS;go_wp2_with fail;refine(ZeS n.firsts n.firsts _ _ _ (G2.out.below HS.out.bel) (K2.out.below HS.out.bel) true (by simp)).mono ?_;rintro e w4 ⟨rfl,hb4⟩;have HS4:=qh (HS.out.call hb4);clear hb4 e2 e3 f2 f3;have e3:=HS4.out.cell (v:=v3) 0 3 rfl rfl;have f3:=HS4.out.cell (v:=u3) 1 3 rfl rfl;go_wp2_with fail;refine(ZeS n.ends n.ends _ _ _ (G3.out.below HS4.out.bel) (K3.out.below HS4.out.bel) true (by simp)).mono ?_;rintro e w5 ⟨rfl,hb5⟩;have HS5:=qh (HS4.out.call hb5);clear hb5;go_wp2;go_ret;exact⟨rfl,HS5.out.bel⟩
theorem ZfI (xs:List Bool) (v1 v2:Value) (w:World) (h1:Bools 0 w v1 xs) (h2:Bools 0 w v2 xs) :
  Calls Tryz.prog 56 #[v1,v2] w fun e w'=>e = .returned (.bool true)∧Below w.heap.size w w':=by
 obtain⟨a1,c1,rfl,hc1,hm1,hr1⟩:=h1.form;obtain⟨a2,c2,rfl,hc2,hm2,hr2⟩:=h2.form;clear h1 h2;have hl:((xs.length:Int) != xs.length)=false:=by simp
 go_enter Tryz.func56, Tryz.ntmps56
 go_wp2
 go_loopw [4,5] (fun r i wr=>∃ k:Nat,k≤xs.length∧i = .int .i64 k∧Below w.heap.size w wr) (fun _ i _=>xs.length-(intOf i).toNat)
 case atStart=>exact⟨0,Nat.zero_le _,rfl,Below.refl _ _⟩
 case round =>
  obtain⟨k,hk,rfl,hb⟩:=hrel;by_cases hlt:k<xs.length
  ·obtain⟨b1,o1,rfl,hB1,hbl1,hcs1⟩:=hr1 (by omega);obtain⟨b2,o2,rfl,hB2,hbl2,hcs2⟩:=hr2 (by omega);have hx1:=(bcell hb b1 (o1+k) hbl1).trans (hcs1 k hlt);have hx2:=(bcell hb b2 (o2+k) hbl2).trans (hcs2 k hlt);obtain⟨x,hx⟩:=eI (xs.getD k false);rw[← hx] at hx1 hx2;have hne:(x != x)=false:=by simp
   have hne':(!(x==x))=false:=by simp
   replace hx:=qh hx;replace hb:=qh hb;clear hcs1 hcs2 hr1 hr2;go_wp2
   go_quiet (fail)
   go_wp2;go_roundw
   case rel=>exact⟨k+1,by omega,by go_num,below_drewN hb.out _⟩
   case measure=>simp[intOf];omega
  clear hr1 hr2;replace hb:=qh hb;go_wp2;go_ret;exact⟨rfl,hb.out⟩
theorem ZkB {P:Program} {f:FuncId} {args:Array Value} {w:World} {n:Nat} {v:Value}
  (h:Calls P f args (w.drewN n) fun e w'=>e = .returned v∧∃ m,w'=(w.drewN n).drewN m):Calls P f args (w.drewN n) fun e w''=>e = .returned v∧∃ m,w''=w.drewN m :=
 h.mono fun _ _ ⟨he,_,hm⟩=>⟨he,_,hm.trans (World.drewN_drewN _ _ _)⟩
theorem Zhp (xs:List Int) (v1 v2:Value) (w:World) (h1:Ints 0 w v1 xs) (h2:Ints 0 w v2 xs) :
  Calls Tryz.prog 42 #[v1,v2] w fun e w'=>e = .returned (.bool true)∧∃ m,w'=w.drewN m:=by
 obtain⟨a1,c1,rfl,hc1,hm1,hr1⟩:=h1.form;obtain⟨a2,c2,rfl,hc2,hm2,hr2⟩:=h2.form;clear h1 h2;have hl:((xs.length:Int) != xs.length)=false:=by simp
 go_enter Tryz.func42, Tryz.ntmps42
 go_wp2
 go_loopw [4,5] (fun r i wr=>∃ k:Nat,k≤xs.length∧i = .int .i64 k∧∃ m,wr=w.drewN m) (fun _ i _=>xs.length-(intOf i).toNat)
 case atStart=>exact⟨0,Nat.zero_le _,rfl,0,rfl⟩
 case round =>
  obtain⟨k,hk,rfl,hm⟩:=hrel;by_cases hlt:k<xs.length
  ·obtain⟨b1,o1,rfl,hB1,hbl1,hcs1⟩:=hr1 (by omega);obtain⟨b2,o2,rfl,hB2,hbl2,hcs2⟩:=hr2 (by omega);have hb:Below w.heap.size w wr:=by obtain⟨m,rfl⟩:=hm;exact below_drewN (Below.refl _ _) m
   have hx1:=(bcell hb b1 (o1+k) hbl1).trans (hcs1 k hlt);have hx2:=(bcell hb b2 (o2+k) hbl2).trans (hcs2 k hlt);obtain⟨x,hx⟩:=eI (xs.getD k 0);rw[← hx] at hx1 hx2;have hne:(x != x)=false:=by simp
   have hne':(!(x==x))=false:=by simp
   replace hx:=qh hx;replace hm:=qh hm;clear hcs1 hcs2 hr1 hr2 hb;go_wp2
   go_quiet (fail)
   go_wp2;go_roundw
   case rel=>exact⟨k+1,by omega,by go_num,by obtain⟨m,rfl⟩:=hm.out;exact⟨_,World.drewN_drewN _ _ _⟩⟩
   case measure=>simp[intOf];omega
  clear hr1 hr2;replace hm:=qh hm;go_wp2;go_ret;exact⟨rfl,hm.out⟩
theorem Zjc (d:DfaD) (a b:Value) (w:World) (h1:DfaR 0 w a d) (h2:DfaR 0 w b d) :
  Calls Tryz.prog 17 #[a,b] w fun e w'=>e = .returned (.bool true)∧Below w.heap.size w w':=by
 obtain⟨v1,v2,rfl,g1,g2⟩:=h1;obtain⟨u1,u2,rfl,k1,k2⟩:=h2;obtain⟨a1,c1,rfl,hc1,hm1,hr1⟩:=g1.formI;obtain⟨b1,d1,rfl,hd1,hn1,hq1⟩:=k1.formI;have G2:=qh g2;have K2:=qh k2;have hS0:=((St.start w).alloc _ rfl #[.slice a1 d.next.length c1,v2] 37).alloc (w.heap.size+1) (by simp) #[.slice b1 d.next.length d1,u2] 37;have e0:=hS0.cell (v:=.slice a1 d.next.length c1) 0 0 rfl rfl;have f0:=hS0.cell (v:=.slice b1 d.next.length d1) 1 0 rfl rfl;have hne2:((d.next.length:Int) != d.next.length)=false:=by simp
 replace hS0:=qh hS0;have Hhr1:=qh hr1;clear hr1;have Hhq1:=qh hq1;clear hq1;clear g1 g2 k1 k2
 go_enter Tryz.func17, Tryz.ntmps17
 go_wp2
 go_loopw [5] (fun i wr=>∃ k:Nat,i = .int .i64 k∧k≤d.next.length∧St w wr [Ent.box w.heap.size #[.slice a1 d.next.length c1,v2] 37,Ent.box (w.heap.size+1) #[.slice b1 d.next.length d1,u2] 37]) (fun i _=>d.next.length-(intOf i).toNat)
 case atStart=>exact⟨0,rfl,Nat.zero_le _,hS0.out⟩
 case round =>
  obtain⟨k,rfl,hk,hS⟩:=hrel;clear e0 f0;by_cases hlt:k<d.next.length
  ·have hkI:(k:Int)<d.next.length:=by omega
   obtain⟨x1,y1,rfl,-,hbl1,hcs1⟩:=Hhr1.out (by omega);obtain⟨x2,y2,rfl,-,hbl2,hcs2⟩:=Hhq1.out (by omega);obtain⟨m1,z1,p1,-,-,p2⟩:=hcs1 k hlt;obtain⟨m2,z2,q1,-,-,q2⟩:=hcs2 k hlt;replace p1:=(bcell hS.bel x1 _ hbl1).trans p1;replace q1:=(bcell hS.bel x2 _ hbl2).trans q1;have P2:=qh p2;have Q2:=qh q2;have e1:=hS.cell (v:=.slice (some ⟨x1,y1,none⟩) d.next.length c1) 0 0 rfl rfl;have f1:=hS.cell (v:=.slice (some ⟨x2,y2,none⟩) d.next.length d1) 1 0 rfl rfl;obtain⟨x,hx⟩:=eJ (d.next.getD k []);rw[hx] at p1 q1 P2 Q2;have HS:=qh hS;replace P2:=qh (P2.out.below HS.out.bel);replace Q2:=qh (Q2.out.below HS.out.bel);have Hhx:=qh hx;clear hx;clear hcs1 hcs2 hS p2 q2;go_wp2_with fail
   go_quiet ((go_at_call 42;exact ZkB (Zhp x _ _ _ (P2.out.below (below_drewN (Below.refl _ _) _)) (Q2.out.below (below_drewN (Below.refl _ _) _)))))
   go_wp2;go_roundw
   case rel=>exact⟨k+1,by go_num,by omega,HS.out.drewN nq⟩
   case measure=>simp[intOf];omega
  obtain rfl:k=d.next.length:=by omega
  have e1:=hS.cell (v:=.slice a1 d.next.length c1) 0 0 rfl rfl;have e2:=hS.cell (v:=v2) 0 1 rfl rfl;have f2:=hS.cell (v:=u2) 1 1 rfl rfl;have HS:=qh hS;clear hS;go_wp2_with fail;refine(ZfI d.ends _ _ _ (G2.out.below HS.out.bel) (K2.out.below HS.out.bel)).mono ?_;rintro e w4 ⟨rfl,hb4⟩;have HS4:=qh (HS.out.call hb4);clear hb4;go_wp2;go_ret;exact⟨rfl,HS4.out.bel⟩
theorem ZgQ (u v:List Nat):txB u++txB v=txB (u++v):=by apply ByteArray.ext;simp[txB,ByteArray.data_append]
theorem Zlb (u:List Nat) {v:ByteArray} {l:List Nat} (hv:v=txB l):txB u++v=txB (u++l):=by rw[hv,ZgQ]
theorem Zhg (c:Nat) (hc:c<3):strOfNums [97+(c:Int)]=txB [97+c]:=by
 obtain rfl|rfl|rfl:c=0∨c=1∨c=2:=by omega
 all_goals rfl
theorem Zn2 (c:Nat) (hc:c<3) (w:World) (b cap:Nat) (h:w.cell? ⟨b,0,none⟩=some (.int .u8 (97+(c:Int)))) :
  (convert 22 9 (.slice (some ⟨b,0,none⟩) 1 cap)).run Tryz.prog w = .ok (.string (txB [97+c])) w:=by
 rw[← Zhg c hc]
 exact run_convert_bytes_arg w 22 5 Tryz.underlying22 Tryz.underlying5 b 0 1 cap [97+(c:Int)] rfl (fun i hi=>by
  obtain rfl:i=0:=by omega
  simpa using h) 9 Tryz.underlying9
theorem Zk8 (c:Nat) (hc:c<3):IntKind.u8.wrap (97+(c:Int))=97+(c:Int):=by
 obtain rfl|rfl|rfl:c=0∨c=1∨c=2:=by omega
 all_goals rfl
theorem Zm6 (u:List Nat) (v:ByteArray) (hu:u.length≤1000) (hv:v.size≤1000):(∀ w':World,(Op.stringOp .add (txB u) v).run Tryz.prog w' = .ok (.string (txB u++v)) w')∧¬ 9223372036854775807<(txB u).size+v.size:=by have h:=ZcX u;exact⟨fun w'=>run_string_add_sum w' _ _ (by omega),by omega⟩
theorem ZhK {l:List Nat} {c:Nat} (h:isT l) (hc:c<256):isT (l++[c]):=fun b hb=>by
 rcases List.mem_append.1 hb with hb|hb
 ·exact h b hb
 rw[List.mem_singleton.1 hb];exact hc
theorem Ziw (bs:List Nat) (vb:Value) (b p n:Nat) (w0 w:World) (X:Ent) (hb:Bytes 0 w0 vb bs) (hlen:bs.length≤2000) (hp:p≤800000) (hn1:n≤10000) (hS:St w0 w [RdE b vb p,X]) :
  Calls Tryz.prog 44 #[.pointer (some ⟨b,0,none⟩),.int .i64 ((n:Nat):Int)] w fun e w'=>∃ (l:List Nat) (p':Nat),isT l∧l.length≤10∧p'≤p+20∧e = .returned (.string (txB l))∧St w0 w' [RdE b vb p',X]:=by
 have Hb:=qh hb;have HS:=qh hS;clear hb hS
 go_enter Tryz.func44, Tryz.ntmps44
 go_wp2_with fail;refine(ZaG bs vb b p 9 w0 _ _ Hb.out hlen (by omega) (by omega) (by omega) HS.out).mono ?_;rintro e w1 ⟨k0,hk0,rfl,hS1⟩;have HS1:=qh hS1;clear hS1;go_wp2
 go_loopw [5,6] (fun vs vk wr=>∃ (k pq:Nat) (l:List Nat),vk = .int .i64 k∧vs = .string (txB l)∧l.length+k≤8∧pq+k≤p+9∧isT l∧St w0 wr [RdE b vb pq,X])
  (fun _ vk _=>(intOf vk).toNat)
 case atStart=>exact⟨k0,p+1,[],rfl,rfl,by simp;omega,by omega,(fun b hb=>by cases hb),HS1.out⟩
 case round =>
  obtain⟨k,pq,l,rfl,rfl,hk,hpq,ht,hS⟩:=hrel;have HS2:=qh hS;have Ht:=qh ht;clear hS ht;by_cases hlt:0<k
  ·go_wp2_with fail;refine(ZaG bs vb b pq 3 w0 _ _ Hb.out hlen (by omega) (by omega) (by omega) HS2.out).mono ?_;rintro e w2 ⟨c,hc,rfl,hS3⟩;have HS3:=qh (hS3.alloc_ (.cells #[.int .u8 (97+(c:Int))] 5));have hw1:IntKind.i64.wrap (97+(c:Int))=97+(c:Int):=IntWalk.i64_in _ (by omega);have hw2:=Zk8 c hc;have hcv:=Zn2 c hc (w2.alloc (.cells #[.int .u8 (97+(c:Int))] 5)) w2.heap.size 1 (Zk5 _ _ _ 0);obtain⟨hadd,hnlt⟩:=Zm6 l (txB [97+c]) (by omega) (by rw[ZcX];simp);clear hS3;go_wp2;go_roundw
   case rel =>refine⟨k-1,pq+1,l++[97+c],by congr 1;omega,by rw[ZgQ],by rw[List.length_append];simp;omega,by omega,ZhK Ht.out (by omega),HS3.out⟩
   case measure=>simp[intOf];omega
  have hz:((0:Int)<(k:Int))=False:=by simp;omega
  have hz2:(0<k)=False:=by simp;omega
  clear hlt;go_wp2_with fail;refine(ZhD bs vb b pq n w0 _ _ Hb.out hlen (by omega) hn1 HS2.out).mono ?_;rintro e w2 ⟨q,p2,hp2,rfl,hS3⟩;have HS3:=qh hS3;clear hS3;cases q
  ·go_wp2;go_ret;exact⟨l,p2,Ht.out,by omega,by omega,rfl,HS3.out⟩
  obtain⟨hadd1,hnlt1⟩:=Zm6 l { data:=#[100] } (by omega) (by decide);obtain⟨hadd2,hnlt2⟩:=Zm6 l { data:=#[65] } (by omega) (by decide);obtain⟨u1,hu1⟩:∃ u1,u1=txB l++{ data:=#[100] }:=⟨_,rfl⟩;obtain⟨u2,hu2⟩:∃ u2,u2=txB l++{ data:=#[65] }:=⟨_,rfl⟩;rw[← hu1] at hadd1;rw[← hu2] at hadd2;have he1:u1=txB (l++[100]):=by rw[hu1];exact Zlb l rfl
  have he2:u2=txB (l++[65]):=by rw[hu2];exact Zlb l rfl
  have HS4:=qh (HS3.out.alloc _ rfl #[.string u1,.string u2,.string { data:=#[97,97,97,97,97,97,97,97,97] }] 9);replace hu1:=qh hu1;have Hhu2:=qh hu2;clear hu2;replace he1:=qh he1;have Hhe2:=qh he2;clear he2;go_wp2_with fail;refine(ZaG bs vb b p2 3 w0 _ _ Hb.out hlen (by omega) (by omega) (by omega) (St.pack (A:=[RdE b vb p2]) (R:=[X,Ent.box w2.heap.size #[.string u1,.string u2,.string { data:=#[97,97,97,97,97,97,97,97,97] }] 9]) HS4.out)).mono ?_;rintro e w5 ⟨j,hj,rfl,hSp⟩;have HS5:=qh (St.unpack (A:=[RdE b vb p2]) (A':=[RdE b vb (p2+1)]) (R:=[X,Ent.box w2.heap.size #[.string u1,.string u2,.string { data:=#[97,97,97,97,97,97,97,97,97] }] 9]) HS4.out hSp);have c0:=HS5.out.cell (v:=.string u1) 2 0 rfl rfl;have c1:=HS5.out.cell (v:=.string u2) 2 1 rfl rfl;have c2:=HS5.out.cell (v:=.string { data:=#[97,97,97,97,97,97,97,97,97] }) 2 2 rfl rfl;clear hSp;obtain rfl|rfl|rfl:j=0∨j=1∨j=2:=by omega
  ·go_wp2;go_ret;exact⟨l++[100],p2+1,ZhK Ht.out (by omega),by rw[List.length_append];simp;omega,by omega,by rw[he1.out];rfl,HS5.out.pick [0,1] (by decide)⟩
  ·go_wp2;go_ret;exact⟨l++[65],p2+1,ZhK Ht.out (by omega),by rw[List.length_append];simp;omega,by omega,by rw[Hhe2.out];rfl,HS5.out.pick [0,1] (by decide)⟩
  go_wp2;go_ret;exact⟨[97,97,97,97,97,97,97,97,97],p2+1,(fun b hb=>by simp at hb;omega),by decide,by omega,rfl,HS5.out.pick [0,1] (by decide)⟩
theorem Zjt (bs:List Nat) (vb:Value) (b p n:Nat) (w0 w:World) (X:Ent) (hb:Bytes 0 w0 vb bs) (hlen:bs.length≤2000) (hp:p≤10000) (hn1:n≤10000) (hS:St w0 w [RdE b vb p,X]) :
  Calls Tryz.prog 44 #[.pointer (some ⟨b,0,none⟩),.int .i64 ((n:Nat):Int)] w fun e w'=>∃ (l:List Nat) (p':Nat),isT l∧l.length≤10∧e = .returned (.string (txB l))∧St w0 w' [RdE b vb p',X] :=
 (Ziw bs vb b p n w0 w X hb hlen (by omega) hn1 hS).mono fun _ _ ⟨l,p',h1,h2,_,h4,h5⟩=>⟨l,p',h1,h2,h4,h5⟩
theorem ZiP (bs:List Nat) (v:Value) (w:World) (hb:Bytes 0 w v bs) (hlen:bs.length≤100000000) :
  Calls Tryz.prog 11 #[v] w fun e w'=>∃ l:List Nat,isT l∧l.length≤10∧e = .returned (.string (txB l))∧Below w.heap.size w w':=by
 have Hb:=qh hb;clear hb
 go_enter Tryz.func11, Tryz.ntmps11
 go_wp2_with fail;refine(Znp bs v _ Hb.out hlen).mono ?_;rintro e w1 ⟨vb,bs',hl',hB,rfl,hS'⟩;have HB:=qh hB;have HS1:=qh hS';clear hB hS';go_wp2_with fail;refine(Zjt bs' vb w.heap.size 0 9 w w1 _ HB.out hl' (by omega) (by omega) (St.pack (A:=[RdE w.heap.size vb 0]) (R:=[]) HS1.out)).mono ?_;rintro e w2 ⟨l,p',ht,hl,rfl,hS2⟩;have HS2:=qh hS2;have Ht:=qh ht;clear hS2 ht;go_wp2;go_ret;exact⟨l,Ht.out,hl,rfl,HS2.out.bel⟩
theorem Bx.only {lo hi b:Nat} {w w':World} {cs:Array Value} {T:TypeId} (h:Bx w b cs T) (ho:Only lo hi w w') (hd:b<lo∨hi≤b):Bx w' b cs T:=(ho.block b h.lt hd).trans h
theorem DfaO.only {tS tI tB lo hi lo' hi':Nat} {w w':World} {v:Value} {d:DfaD} (h:DfaO tS tI tB lo hi w v d) (ho:Only lo' hi' w w') (hd:hi≤lo'∨hi'≤lo):DfaO tS tI tB lo hi w' v d:=by obtain⟨v1,v2,hv,h1,h2⟩:=h;exact⟨v1,v2,hv,h1.only ho hd,h2.only ho hd⟩
theorem DfaO.below {tS tI tB lo hi:Nat} {w w':World} {v:Value} {d:DfaD} (h:DfaO tS tI tB lo hi w v d) (hb:Below w.heap.size w w'):DfaO tS tI tB lo hi w' v d:=by obtain⟨v1,v2,hv,h1,h2⟩:=h;exact⟨v1,v2,hv,h1.below hb,Own.below h2 hb⟩
end Go.Proofs.YtfikabecgaappaaGreat
