/-
  The walks over the program's sets of states: has, with, setOf, list.
  Conditions: the set is a number below 2 to the 40th, the second word of it is 0; the states lie below 128.
  The walks over the program's closing and stepping of sets of states: close, step, first, ends.
  Conditions: the automaton reads as such, its moves run between states below 40; the set is a number below 2 to the 40th.
  The walks over the program's first set of states and its test for an end.
  Conditions: the automaton reads as such, its states below 40; the set is a number below 2 to the 40th.
-/
import Derived.Test.YtfanhfcamblghaaPq03Mk
set_option maxHeartbeats 4000000
set_option maxRecDepth 100000
namespace Go.Proofs.Ytfanhfcamblghaa
open Go.RowKit
abbrev setC (v:Nat):Value:=.agg #[.int .u64 (v:Int),.int .u64 0]
theorem ZiU (v s:Nat) (hv:v<2 ^ 40):(bits BinOp.and IntKind.u64 ((v:Int) / 2 ^ s) 1==1)=v.testBit s:=by
 have e:((v:Int) / 2 ^ s)=((v / 2 ^ s:Nat):Int):=by simp
 have hle:v / 2 ^ s≤v:=Nat.div_le_self _ _;rw[e,Nat.testBit_eq_decide_div_mod_eq]
 generalize v / 2 ^ s=q at hle ⊢
 rw[and_one_u64 _ (by omega) (by omega),Bool.eq_iff_iff];simp;omega
theorem ZnA (v s:Nat) (hv:v<2 ^ 40) (hs:s<40):bits BinOp.or IntKind.u64 (v:Int) (IntKind.u64.wrap (2 ^ s))=((adj v s:Nat):Int):=by
 have e:((2:Int) ^ s)=((2 ^ s:Nat):Int):=by simp
 have hle:2 ^ s<2 ^ 40:=Nat.pow_lt_pow_right (by omega) hs;unfold adj
 generalize 2 ^ s=q at hle e ⊢
 rw[e,IntKind.wrap_u64,Int.emod_eq_of_lt (by omega) (by omega),u64_or_nat _ _ (by omega) (by omega)]
theorem ZnM {s:Nat} (h:40≤s):2 ^ 40≤2 ^ s:=Nat.pow_le_pow_right (by omega) h
theorem Zc5 (v s:Nat) (hv:v<2 ^ 40) (hs:s<128) (w:World) (r:Bool) (hr:v.testBit s=r) :
  Calls Try.prog 99 #[setC v,.int .i64 s] w fun e w'=>e = .returned (.bool r)∧Below w.heap.size w w':=by
 by_cases h:s<64
 ·have h1:(s:Int) / 64=0:=by omega
  have h2:(s:Int) % 64=s:=by omega
  have h3:s / 64=0:=by omega
  replace hr:=qh hr;have Hhv:=qh hv;clear hv
  go_enter Try.func99, Try.ntmps99
  go_wp2;go_ret;exact⟨Zcs (by rw[← hr.out];exact ZiU v s Hhv.out),(Below.refl _ _).alloc (Nat.le_refl _) _⟩
 have h1:(s:Int) / 64=1:=by omega
 have h2:(s:Int) % 64=((s-64:Nat):Int):=by omega
 have h3:s / 64=1:=by omega
 have hf:v.testBit s=false:=Nat.testBit_lt_two_pow (Nat.lt_of_lt_of_le hv (ZnM (by omega)));rw[hf] at hr;have hz:(bits BinOp.and IntKind.u64 0 1==1)=false:=by have:=ZiU 0 0 (by omega);simpa using this
 replace hr:=qh hr;have Hhv:=qh hv;clear hv;replace hf:=qh hf
 go_enter Try.func99, Try.ntmps99
 go_wp2;go_ret;exact⟨Zcs hr.out,(Below.refl _ _).alloc (Nat.le_refl _) _⟩
theorem Zdj (v s:Nat) (hv:v<2 ^ 40) (hs:s<40) (w:World) :
  Calls Try.prog 132 #[setC v,.int .i64 s] w fun e w'=>e = .returned (setC (adj v s))∧Below w.heap.size w w':=by
 have h1:(s:Int) / 64=0:=by omega
 have h2:(s:Int) % 64=s:=by omega
 have h3:s / 64=0:=by omega
 replace hv:=qh hv
 go_enter Try.func132, Try.ntmps132
 go_wp2
 go_region
 go_wp2;refine bodyPost_ret (v:=setC (adj v s)) (by simp[results,Try.results132,go_sem,ZnA v s hv.out hs]) rfl ⟨rfl,?_⟩;exact((((Below.refl _ _).alloc (Nat.le_refl _) _).alloc (by simp) _).drew)
theorem ZjY {l:List Int} {k:Nat} (hk:k<l.length):setV (l.take (k+1))=adj (setV (l.take k)) (l.getD k 0).toNat:=by unfold setV;exact Zck _ _ hk 0
theorem ZjZ (l:List Int) (v:Value) (w:World) (hl:inN 40 l) (hn:l.length≤1000000) (h:Ints 0 w v l) :
  Calls Try.prog 131 #[v] w fun e w'=>e = .returned (setC (setV l))∧Below w.heap.size w w':=by
 obtain⟨a1,c1,rfl,hc1,hm1,hr1⟩:=h.form;replace hr1:=qh hr1;replace hl:=qh hl;clear h
 go_enter Try.func131, Try.ntmps131
 go_wp2
 go_loopw [8] (fun i wr=>∃ k:Nat,k≤l.length∧i = .int .i64 k∧Below w.heap.size w wr∧Bx wr w.heap.size #[.int .u64 0,.int .u64 0] 87 ∧ Bx wr (w.heap.size+1) #[.int .u64 (setV (l.take k):Nat),.int .u64 0] 87)
  (fun i _=>l.length-(intOf i).toNat)
 case atStart=>exact⟨0,Nat.zero_le _,rfl,((Below.refl _ _).alloc (Nat.le_refl _) _).alloc (by simp) _,(Bx.new w _ _).alloc _,by simpa [setV] using Bx.new (w.alloc (.cells #[.int .u64 0,.int .u64 0] 87)) #[.int .u64 0,.int .u64 0] 87⟩
 case round =>
  obtain⟨k,hk,rfl,hb,x0,x1⟩:=hrel;have hlt40:setV (l.take k)<2 ^ 40:=Zd2 (fun s hs=>hl.out s (List.mem_of_mem_take hs));obtain⟨V,hV⟩:=eI (setV (l.take k));rw[← hV] at x1 hlt40;have c0:=x1.cell 0;have c1':=x1.cell 1;simp only[List.getElem?_toArray,List.getElem?_cons_zero,List.getElem?_cons_succ] at c0 c1';replace hV:=qh hV;have Hhb:=qh hb;clear hb;by_cases hlt:k<l.length
  ·obtain⟨b1,o1,rfl,-,hbl,hcs⟩:=hr1.out (by omega);have hc:=(bcell Hhb.out b1 _ hbl).trans (hcs k hlt);obtain⟨s0,s1⟩:=hl.out _ (memD (d:=0) hlt);obtain⟨s,hs⟩:=Int.eq_ofNat_of_zero_le s0;rw[hs] at hc s1;have Hhs:=qh hs;clear hs;have Hx0:=qh x0;clear x0;have Hx1:=qh x1;clear x1;have Hhlt40:=qh hlt40;clear hlt40;clear hcs;go_wp2_with fail;refine(Zdj V s Hhlt40.out (by omega) _).mono ?_;rintro e w2 ⟨rfl,hb2⟩;have y0:=Hx0.out.below hb2 Hx0.out.lt;have y1:=Hx1.out.below hb2 Hx1.out.lt;have hb3:=Hhb.out.trans (hb2.mono Hhb.out.size);have d0:=y1.cell 0;have d1:=y1.cell 1;have e0:=y1.fr 0;have e1:=y1.fr 1;simp only[List.getElem?_toArray,List.getElem?_cons_zero,List.getElem?_cons_succ] at d0 d1;have Hy0:=qh y0;clear y0;have Hy1:=qh y1;clear y1;have Hhb3:=qh hb3;clear hb3;clear c0 c1' hb2;go_wp2;go_roundw
   case rel =>refine⟨k+1,by omega,by go_num,(Hhb3.out.setCell (by simp) _).setCell (by simp) _,(Hy0.out.set_ne _ _ (by simp)).set_ne _ _ (by simp),?_⟩;have:=(Hy1.out.set 0 (.int .u64 (adj V s:Nat))).set 1 (.int .u64 0);rw[ZjY hlt,← hV.out,Hhs.out];simpa using this
   case measure=>simp[intOf];omega
  obtain rfl:k=l.length:=by omega
  rw[List.take_length] at hV;have f0:=x0.fr 0;have f1:=x0.fr 1;have d0:=x0.cell 0;have d1:=x0.cell 1;simp only[List.getElem?_toArray,List.getElem?_cons_zero,List.getElem?_cons_succ] at d0 d1;have Hx0:=qh x0;clear x0;have Hx1:=qh x1;clear x1;go_wp2;have q:=(Hx0.out.set 0 (.int .u64 (V:Nat))).set 1 (.int .u64 0);have q0:=q.cell 0;have q1:=q.cell 1;simp only[List.getElem?_toArray,List.getElem?_cons_zero,List.getElem?_cons_succ,List.setIfInBounds_toArray,List.set_cons_zero,List.set_cons_succ] at q0 q1;refine bodyPost_ret (v:=setC V) (by simp[results,Try.results131,go_sem,q0,q1]) rfl ⟨by rw[hV.out],(Hhb.out.setCell (by simp) _).setCell (by simp) _⟩
end Go.Proofs.Ytfanhfcamblghaa
namespace Go.Proofs.Ytfanhfcamblghaa
open Go.RowKit
abbrev nfaC (n:NfaD) (v1 v2 v3:Value):Array Value:=#[.int .i64 n.states,v1,v2,v3]
theorem Zeo (n:NfaD) (x:Nat) (v1 v2 v3:Value) (w:World) (hm:mvIn 40 n.moves) (hml:n.moves.length≤1000000) (hx:x<2 ^ 40) (h:Moves 0 w v1 n.moves) :
  Calls Try.prog 130 #[.agg (nfaC n v1 v2 v3),setC x] w fun e w'=>e = .returned (setC (clV 40 n.moves x))∧Below w.heap.size w w':=by
 obtain⟨a1,c1,rfl,hc1,hm1,hr1⟩:=h.form;obtain⟨ms,hms⟩:=eI (n.moves);rw[← hms] at hm hml hc1 hr1;rw[← hms];replace hr1:=qh hr1;replace hm:=qh hm;have Hhx:=qh hx;clear hx;have Hhms:=qh hms;clear hms;clear h
 go_enter Try.func130, Try.ntmps130
 go_wp2
 go_loopg [5] 42 (fun g ag wr=>∃ j:Nat,g=42-j∧(∃ ab:Bool,ag = .bool ab∧ab=(decide (j=0) || !decide (clIt ms x j=clIt ms x (j-1))))∧Below w.heap.size w wr ∧
   Bx wr w.heap.size (nfaC n (.slice a1 ms.length c1) v2 v3) 28 ∧ Bx wr (w.heap.size+1) #[.int .u64 (clIt ms x j:Nat),.int .u64 0] 87 ∧ Bx wr (w.heap.size+1+1) #[.int .u64 0,.int .u64 0] 87)
 case atStart =>
  refine⟨0,rfl,⟨true,rfl,by simp⟩,(((Below.refl _ _).alloc (Nat.le_refl _) _).alloc (by simp) _).alloc (by simp;omega) _,((Bx.new w _ _).alloc _).alloc _,?_,?_⟩
  ·simpa [clIt] using (Bx.new (w.alloc (.cells (nfaC n (.slice a1 ms.length c1) v2 v3) 28)) #[.int .u64 (x:Int),.int .u64 0] 87).alloc (.cells #[.int .u64 0,.int .u64 0] 87)
  simpa using Bx.new ((w.alloc (.cells (nfaC n (.slice a1 ms.length c1) v2 v3) 28)).alloc (.cells #[.int .u64 (x:Int),.int .u64 0] 87)) #[.int .u64 0,.int .u64 0] 87
 case round =>
  obtain⟨j,rfl,⟨ab,rfl,hab⟩,hb,x0,x1,x2⟩:=hrel;obtain⟨wo,hwo⟩:∃ wo:World,wo=wr:=⟨_,rfl⟩;subst hwo;have c1':=x0.cell 1;simp only[nfaC,List.getElem?_toArray,List.getElem?_cons_zero,List.getElem?_cons_succ] at c1';replace hab:=qh hab;have Hhb:=qh hb;clear hb;have Hx0:=qh x0;clear x0;have Hx1:=qh x1;clear x1;have Hx2:=qh x2;clear x2;cases ab
  ·have hj:clIt ms x (j-1+1)=clIt ms x (j-1)∧j-1+1=j:=by
    have h:=hab.out;simp at h;have:j-1+1=j:=by omega
    rw[this];exact⟨h.2,rfl⟩
   have hv:clIt ms x j=clV 40 ms x:=by rw[ZnY hm.out hj.1,← hj.1,hj.2]
   have y1:=Hx1.out;rw[hv] at y1;have d0:=y1.cell 0;have d1:=y1.cell 1;have e0:=Hx2.out.cell 0;have e1:=Hx2.out.cell 1;have f0:=Hx2.out.fr 0;have f1:=Hx2.out.fr 1;simp only[List.getElem?_toArray,List.getElem?_cons_zero,List.getElem?_cons_succ] at d0 d1 e0 e1;obtain⟨V,hV⟩:=eI (clV 40 ms x);rw[← hV] at d0;have Hhj:=qh hj;clear hj;have Hhv:=qh hv;clear hv;replace hV:=qh hV;clear y1;go_wp2;have q:=(Hx2.out.set 0 (.int .u64 (V:Nat))).set 1 (.int .u64 0);have q0:=q.cell 0;have q1:=q.cell 1;simp only[List.getElem?_toArray,List.getElem?_cons_zero,List.getElem?_cons_succ,List.setIfInBounds_toArray,List.set_cons_zero,List.set_cons_succ] at q0 q1;refine bodyPost_ret (v:=setC V) (by simp[results,Try.results130,go_sem,q0,q1]) rfl ⟨by rw[hV.out],(Hhb.out.setCell (by simp;omega) _).setCell (by simp;omega) _⟩
  obtain⟨X,hX⟩:=eI (clIt ms x j);have HhX:=qh hX;clear hX;go_wp2
  go_loopw [5,12] (fun ag i wi=>∃ k:Nat,k≤ms.length∧i = .int .i64 k∧(∃ ab:Bool,ag = .bool ab∧ab = !decide ((ms.take k).foldl Zax X=X))∧Below w.heap.size w wi ∧
    Bx wi w.heap.size (nfaC n (.slice a1 ms.length c1) v2 v3) 28 ∧ Bx wi (w.heap.size+1) #[.int .u64 ((ms.take k).foldl Zax X:Nat),.int .u64 0] 87 ∧ Bx wi (w.heap.size+1+1) #[.int .u64 0,.int .u64 0] 87)
   (fun _ i _=>ms.length-(intOf i).toNat)
  case atStart=>exact⟨0,Nat.zero_le _,rfl,⟨false,rfl,by simp⟩,Hhb.out,Hx0.out,by rw[HhX.out];exact Hx1.out,Hx2.out⟩
  case round =>
   obtain⟨k,hk,rfl,⟨ag,rfl,hag⟩,hbi,y0,y1,y2⟩:=hrel;obtain⟨C,hC⟩:=eI ((ms.take k).foldl Zax X);have hC40:C<2 ^ 40:=by rw[hC];exact Zdh _ (fun v=>v<2 ^ 40) (fun v m hmm hv=>Zhz hm.out hmm hv) (by rw[HhX.out];exact Zeh hm.out Hhx.out j) k
   rw[← hC] at y1 hag;clear c1';by_cases hlt:k<ms.length
   ·obtain⟨b1,o1,rfl,-,hbl,hcs⟩:=hr1.out (by omega);obtain⟨p1,p2,p3⟩:=hcs k hlt;replace p1:=(bcell hbi b1 _ hbl).trans p1;replace p2:=(bcell hbi b1 _ hbl).trans p2;replace p3:=(bcell hbi b1 _ hbl).trans p3;have hmm:=hm.out _ (memD (d:=(0,0,0)) hlt);have hsucc:=Zck Zax X hlt (0,0,0);rw[← hC] at hsucc;have hne1:=Zlb (v:=X) hm.out hlt;have hne2:=ZfU (v:=X) hm.out hlt;rw[← hC] at hne1 hne2;obtain⟨m,hmd⟩:=eI (ms.getD k (0,0,0));rw[← hmd] at p1 p2 p3 hmm hsucc hne1;obtain⟨f,l,t⟩:=m;simp only at p1 p2 p3 hmm;obtain⟨⟨f0,f1⟩,t0,t1⟩:=hmm;obtain⟨f,rfl⟩:=Int.eq_ofNat_of_zero_le f0;obtain⟨t,rfl⟩:=Int.eq_ofNat_of_zero_le t0;have hal:=(Below.refl wr.heap.size wr).alloc (Nat.le_refl _) (.cells #[.int .i64 (f:Int),.int .i64 l,.int .i64 (t:Int)] 34);have z0:=y0.below hal y0.lt;have z1:=y1.below hal y1.lt;have z2:=y2.below hal y2.lt;have z3:=Bx.new wr #[.int .i64 (f:Int),.int .i64 l,.int .i64 (t:Int)] 34;have hB:=hbi.alloc hbi.size (.cells #[.int .i64 (f:Int),.int .i64 l,.int .i64 (t:Int)] 34);have d0:=z1.cell 0;have d1:=z1.cell 1;simp only[List.getElem?_toArray,List.getElem?_cons_zero,List.getElem?_cons_succ] at d0 d1;have hkk:(k:Int)<ms.length:=by omega
    have Hstay:=qh (fun (h:Zax C ((f:Int),l,(t:Int))=C)=>(show(ms.take (k+1)).foldl Zax X=C from hsucc.trans h));have HhC:=qh hC;clear hC;replace hC40:=qh hC40;have Hhag:=qh hag;clear hag;have Hhsucc:=qh hsucc;clear hsucc;have Hhne1:=qh hne1;clear hne1;have Hhne2:=qh hne2;clear hne2;have Hhmd:=qh hmd;clear hmd;have Hhbi:=qh hbi;clear hbi;have Hy0:=qh y0;clear y0;have Hy1:=qh y1;clear y1;have Hy2:=qh y2;clear y2;have Hhal:=qh hal;clear hal;have Hz0:=qh z0;clear z0;have Hz1:=qh z1;clear z1;have Hz2:=qh z2;clear z2;have Hz3:=qh z3;clear z3;replace hB:=qh hB;clear hcs;by_cases hl:l = -1
    ·subst hl;cases hf:C.testBit f
     all_goals
      have Hhf:=qh hf;clear hf;go_wp2_with fail;refine(Zc5 C f hC40.out (by omega) _ _ Hhf.out).mono ?_;rintro e w2 ⟨rfl,hb2⟩;have q0:=Hz0.out.below hb2 Hz0.out.lt;have q1:=Hz1.out.below hb2 Hz1.out.lt;have q2:=Hz2.out.below hb2 Hz2.out.lt;have q3:=Hz3.out.below hb2 Hz3.out.lt;have hB2:=hB.out.trans (hb2.mono hB.out.size);have Hq0:=qh q0;clear q0;have Hq1:=qh q1;clear q1;have Hq2:=qh q2;clear q2;have Hq3:=qh q3;clear q3;have HhB2:=qh hB2;clear hB2;clear hb2 d0 d1
     ·have hst:=Hstay.out (by unfold Zax;simp[Hhf.out]);have Hhst:=qh hst;clear hst;go_wp2;go_roundw
      case rel=>exact⟨k+1,by omega,by go_num,⟨ag,rfl,by rw[Hhst.out];exact Hhag.out⟩,HhB2.out,Hq0.out,by rw[Hhst.out];exact Hq1.out,Hq2.out⟩
      case measure=>simp[intOf];omega
     have d0:=Hq1.out.cell 0;have d1:=Hq1.out.cell 1;have d2:=Hq3.out.cell 2;simp only[List.getElem?_toArray,List.getElem?_cons_zero,List.getElem?_cons_succ] at d0 d1 d2;cases ht:C.testBit t
     all_goals
      have Hht:=qh ht;clear ht;go_wp2_with fail;refine(Zc5 C t hC40.out (by omega) _ _ Hht.out).mono ?_;rintro e w3 ⟨rfl,hb3⟩;have r0:=Hq0.out.below hb3 Hq0.out.lt;have r1:=Hq1.out.below hb3 Hq1.out.lt;have r2:=Hq2.out.below hb3 Hq2.out.lt;have r3:=Hq3.out.below hb3 Hq3.out.lt;have hB3:=HhB2.out.trans (hb3.mono HhB2.out.size);have Hr0:=qh r0;clear r0;have Hr1:=qh r1;clear r1;have Hr2:=qh r2;clear r2;have Hr3:=qh r3;clear r3;have HhB3:=qh hB3;clear hB3;clear hb3 d0 d1 d2
     ·have d0:=Hr1.out.cell 0;have d1:=Hr1.out.cell 1;have d2:=Hr3.out.cell 2;simp only[List.getElem?_toArray,List.getElem?_cons_zero,List.getElem?_cons_succ] at d0 d1 d2;go_wp2_with fail;refine(Zdj C t hC40.out (by omega) _).mono ?_;rintro e w4 ⟨rfl,hb4⟩;have s0:=Hr0.out.below hb4 Hr0.out.lt;have s1:=Hr1.out.below hb4 Hr1.out.lt;have s2:=Hr2.out.below hb4 Hr2.out.lt;have hB4:=HhB3.out.trans (hb4.mono HhB3.out.size);have g0:=s1.cell 0;have g1:=s1.cell 1;have i0:=s1.fr 0;have i1:=s1.fr 1;simp only[List.getElem?_toArray,List.getElem?_cons_zero,List.getElem?_cons_succ] at g0 g1;have Hs0:=qh s0;clear s0;have Hs1:=qh s1;clear s1;have Hs2:=qh s2;clear s2;have HhB4:=qh hB4;clear hB4;clear hb4 d0 d1 d2;go_wp2;go_roundw
      case rel =>
       have hcm:Zax C ((f:Int),-1,(t:Int))=adj C t:=by unfold Zax;simp[Hhf.out,Hht.out]
       have hne:Zax C ((f:Int),-1,(t:Int))≠C:=by rw[hcm];intro e;have:=ZcA C t t;rw[e,Hht.out] at this;simp at this
       have hs2:(ms.take (k+1)).foldl Zax X=adj C t:=Hhsucc.out.trans hcm;refine⟨k+1,by omega,by go_num,⟨true,rfl,?_⟩,(HhB4.out.setCell (by simp) _).setCell (by simp) _,(Hs0.out.set_ne _ _ (by simp)).set_ne _ _ (by simp),?_,(Hs2.out.set_ne _ _ (by simp)).set_ne _ _ (by simp)⟩
       ·rw[decide_eq_false (Hhne1.out hne)];rfl
       rw[hs2];have:=(Hs1.out.set 0 (.int .u64 (adj C t:Nat))).set 1 (.int .u64 0);simpa using this
      case measure=>simp[intOf];omega
     have hst:=Hstay.out (by unfold Zax;simp[Hhf.out,Hht.out]);have Hhst:=qh hst;clear hst;go_wp2;go_roundw
     case rel=>exact⟨k+1,by omega,by go_num,⟨ag,rfl,by rw[Hhst.out];exact Hhag.out⟩,HhB3.out,Hr0.out,by rw[Hhst.out];exact Hr1.out,Hr2.out⟩
     case measure=>simp[intOf];omega
    have hst:=Hstay.out (by unfold Zax;simp[hl]);have hl1:(l == -1)=false:=by simpa using hl
    have Hhst:=qh hst;clear hst;have Hhl:=qh hl;clear hl;go_wp2;go_roundw
    case rel=>exact⟨k+1,by omega,by go_num,⟨ag,rfl,by rw[Hhst.out];exact Hhag.out⟩,hB.out,Hz0.out,by rw[Hhst.out];exact Hz1.out,Hz2.out⟩
    case measure=>simp[intOf];omega
   obtain rfl:k=ms.length:=by omega
   rw[List.take_length] at hC;have hn:C=clIt ms x (j+1):=by rw[hC,HhX.out];rfl
   have hjn:C≠X→j<40:=fun hne=>Zgf hm.out (by rw[← hn,← HhX.out];exact hne)
   have hj0:j<42:=by
    by_cases h0:j=0
    ·omega
    have h:=hab.out;simp[h0] at h;have:=Zgf (k:=j-1) hm.out (by rw[show j-1+1=j by omega];exact h);omega
   have HhC:=qh hC;clear hC;have Hhn:=qh hn;clear hn;have Hhjn:=qh hjn;clear hjn;have Hhag:=qh hag;clear hag;have Hhbi:=qh hbi;clear hbi;have Hy0:=qh y0;clear y0;have Hy1:=qh y1;clear y1;have Hy2:=qh y2;clear y2;go_wp2
   go_roundg (42-(j+1))
   case measure=>omega
   case rel =>refine⟨j+1,rfl,⟨ag,rfl,?_⟩,Hhbi.out,Hy0.out,by rw[← Hhn.out];exact Hy1.out,Hy2.out⟩;rw[Hhag.out,← Hhn.out,show j+1-1=j by omega,← HhX.out];simp
theorem Zf2 {v:Nat} {c:Int} {u:Nat} {m:Int × Int × Int} (h:(decide (m.2.1=c)&&v.testBit m.1.toNat)=false):Zbo v c u m=u:=by unfold Zbo;simp[h]
theorem Zfk (n:NfaD) (x:Nat) (c:Int) (v1 v2 v3:Value) (w:World) (hm:mvIn 40 n.moves) (hml:n.moves.length≤1000000) (hx:x<2 ^ 40) (h:Moves 0 w v1 n.moves) :
  Calls Try.prog 101 #[.agg (nfaC n v1 v2 v3),setC x,.int .i64 c] w fun e w'=>e = .returned (setC (stV 40 n.moves x c))∧Below w.heap.size w w':=by
 have HM:=qh h;obtain⟨a1,c1,rfl,hc1,hm1,hr1⟩:=h.form;have hml2:=hml;have hr2:=hr1;have hm2:=hm;obtain⟨ms,hms⟩:=eI (n.moves);rw[← hms] at hm2 hml2 hc1 hr2;have hst:stV 40 n.moves x c=clV 40 ms (ms.foldl (Zbo x c) 0):=by rw[hms];rfl
 have hst40:ms.foldl (Zbo x c) 0<2 ^ 40:=ZbM _ (fun v=>v<2 ^ 40) (fun _ _ hmm hv=>Zdu hm2 hmm hv) (Nat.two_pow_pos 40);obtain⟨ln,hln⟩:=eI (ms.length);have hlnn:ln=n.moves.length:=by rw[hln,hms]
 rw[← hlnn] at HM;rw[← hlnn];rw[← hln] at hc1 hr2 hml2;replace hr2:=qh hr2;replace hm:=qh hm;have Hhm2:=qh hm2;clear hm2;have Hhx:=qh hx;clear hx;have Hhms:=qh hms;clear hms;have Hhst:=qh hst;clear hst;have Hhst40:=qh hst40;clear hst40;replace hln:=qh hln;have Hhlnn:=qh hlnn;clear hlnn;clear h hr1
 go_enter Try.func101, Try.ntmps101
 go_wp2
 go_loopw [13] (fun i wi=>∃ k:Nat,k≤ln∧i = .int .i64 k∧Below w.heap.size w wi ∧
   Bx wi w.heap.size (nfaC n (.slice a1 ln c1) v2 v3) 28 ∧ Bx wi (w.heap.size+1) #[.int .u64 (x:Int),.int .u64 0] 87 ∧ Bx wi (w.heap.size+1+1) #[.int .u64 0,.int .u64 0] 87 ∧ Bx wi (w.heap.size+1+1+1) #[.int .u64 ((ms.take k).foldl (Zbo x c) 0:Nat),.int .u64 0] 87)
  (fun i _=>ln-(intOf i).toNat)
 case atStart =>
  refine⟨0,Nat.zero_le _,rfl,((((Below.refl _ _).alloc (Nat.le_refl _) _).alloc (by simp) _).alloc (by simp;omega) _).alloc (by simp;omega) _,(((Bx.new w _ _).alloc _).alloc _).alloc _,?_,?_,?_⟩
  ·simpa using ((Bx.new (w.alloc (.cells (nfaC n (.slice a1 ln c1) v2 v3) 28)) #[.int .u64 (x:Int),.int .u64 0] 87).alloc (.cells #[.int .u64 0,.int .u64 0] 87)).alloc (.cells #[.int .u64 0,.int .u64 0] 87)
  ·simpa using (Bx.new ((w.alloc (.cells (nfaC n (.slice a1 ln c1) v2 v3) 28)).alloc (.cells #[.int .u64 (x:Int),.int .u64 0] 87)) #[.int .u64 0,.int .u64 0] 87).alloc (.cells #[.int .u64 0,.int .u64 0] 87)
  simpa using Bx.new (((w.alloc (.cells (nfaC n (.slice a1 ln c1) v2 v3) 28)).alloc (.cells #[.int .u64 (x:Int),.int .u64 0] 87)).alloc (.cells #[.int .u64 0,.int .u64 0] 87)) #[.int .u64 0,.int .u64 0] 87
 case round =>
  obtain⟨k,hk,rfl,hbi,y0,y1,y2,y3⟩:=hrel;obtain⟨C,hC⟩:=eI ((ms.take k).foldl (Zbo x c) 0);have hC40:C<2 ^ 40:=by rw[hC];exact Zdh _ (fun v=>v<2 ^ 40) (fun v m hmm hv=>Zdu Hhm2.out hmm hv) (Nat.two_pow_pos 40) k
  rw[← hC] at y3;by_cases hlt:k<ln
  ·have hlt':k<ms.length:=by rw[← hln.out];exact hlt
   obtain⟨b1,o1,rfl,-,hbl,hcs⟩:=hr2.out (by omega);obtain⟨p1,p2,p3⟩:=hcs k hlt;replace p1:=(bcell hbi b1 _ hbl).trans p1;replace p2:=(bcell hbi b1 _ hbl).trans p2;replace p3:=(bcell hbi b1 _ hbl).trans p3;have hmm:=Hhm2.out _ (memD (d:=(0,0,0)) hlt');have hsucc:=Zck (Zbo x c) 0 hlt' (0,0,0);rw[← hC] at hsucc;obtain⟨m,hmd⟩:=eI (ms.getD k (0,0,0));rw[← hmd] at p1 p2 p3 hmm hsucc;obtain⟨f,l,t⟩:=m;simp only at p1 p2 p3 hmm;obtain⟨⟨f0,f1⟩,t0,t1⟩:=hmm;obtain⟨f,rfl⟩:=Int.eq_ofNat_of_zero_le f0;obtain⟨t,rfl⟩:=Int.eq_ofNat_of_zero_le t0;have hal:=(Below.refl wr.heap.size wr).alloc (Nat.le_refl _) (.cells #[.int .i64 (f:Int),.int .i64 l,.int .i64 (t:Int)] 34);have z0:=y0.below hal y0.lt;have z1:=y1.below hal y1.lt;have z2:=y2.below hal y2.lt;have z4:=y3.below hal y3.lt;have z3:=Bx.new wr #[.int .i64 (f:Int),.int .i64 l,.int .i64 (t:Int)] 34;have hB:=hbi.alloc hbi.size (.cells #[.int .i64 (f:Int),.int .i64 l,.int .i64 (t:Int)] 34);have d0:=z1.cell 0;have d1:=z1.cell 1;simp only[List.getElem?_toArray,List.getElem?_cons_zero,List.getElem?_cons_succ] at d0 d1;have hkk:(k:Int)<ln:=by omega
   replace hC:=qh hC;have HhC40:=qh hC40;clear hC40;have Hhsucc:=qh hsucc;clear hsucc;have Hhmd:=qh hmd;clear hmd;have Hhbi:=qh hbi;clear hbi;have Hy0:=qh y0;clear y0;have Hy1:=qh y1;clear y1;have Hy2:=qh y2;clear y2;have Hy3:=qh y3;clear y3;have Hhal:=qh hal;clear hal;have Hz0:=qh z0;clear z0;have Hz1:=qh z1;clear z1;have Hz2:=qh z2;clear z2;have Hz3:=qh z3;clear z3;have Hz4:=qh z4;clear z4;replace hB:=qh hB;clear hcs;by_cases hl:l=c
   ·subst hl;cases hf:x.testBit f
    all_goals
     have Hhf:=qh hf;clear hf;go_wp2_with fail;refine(Zc5 x f Hhx.out (by omega) _ _ Hhf.out).mono ?_;rintro e w2 ⟨rfl,hb2⟩;have q0:=Hz0.out.below hb2 Hz0.out.lt;have q1:=Hz1.out.below hb2 Hz1.out.lt;have q2:=Hz2.out.below hb2 Hz2.out.lt;have q3:=Hz3.out.below hb2 Hz3.out.lt;have q4:=Hz4.out.below hb2 Hz4.out.lt;have hB2:=hB.out.trans (hb2.mono hB.out.size);have Hq0:=qh q0;clear q0;have Hq1:=qh q1;clear q1;have Hq2:=qh q2;clear q2;have Hq3:=qh q3;clear q3;have Hq4:=qh q4;clear q4;have HhB2:=qh hB2;clear hB2;clear hb2 d0 d1
    ·have hst:=Hhsucc.out.trans (Zf2 (by simp[Hhf.out]));have Hhst:=qh hst;clear hst;go_wp2;go_roundw
     case rel=>exact⟨k+1,by omega,by go_num,HhB2.out,Hq0.out,Hq1.out,Hq2.out,by rw[Hhst.out];exact Hq4.out⟩
     case measure=>simp[intOf];omega
    have d0:=Hq4.out.cell 0;have d1:=Hq4.out.cell 1;have d2:=Hq3.out.cell 2;simp only[List.getElem?_toArray,List.getElem?_cons_zero,List.getElem?_cons_succ] at d0 d1 d2;go_wp2_with fail;refine(Zdj C t HhC40.out (by omega) _).mono ?_;rintro e w4 ⟨rfl,hb4⟩;have s0:=Hq0.out.below hb4 Hq0.out.lt;have s1:=Hq1.out.below hb4 Hq1.out.lt;have s2:=Hq2.out.below hb4 Hq2.out.lt;have s4:=Hq4.out.below hb4 Hq4.out.lt;have hB4:=HhB2.out.trans (hb4.mono HhB2.out.size);have g0:=s4.cell 0;have g1:=s4.cell 1;have i0:=s4.fr 0;have i1:=s4.fr 1;simp only[List.getElem?_toArray,List.getElem?_cons_zero,List.getElem?_cons_succ] at g0 g1;have Hs0:=qh s0;clear s0;have Hs1:=qh s1;clear s1;have Hs2:=qh s2;clear s2;have Hs4:=qh s4;clear s4;have HhB4:=qh hB4;clear hB4;clear hb4 d0 d1 d2;go_wp2;go_roundw
    case rel =>
     have hcm:Zbo x l C ((f:Int),l,(t:Int))=adj C t:=by unfold Zbo;simp[Hhf.out]
     have hs2:=Hhsucc.out.trans hcm;refine⟨k+1,by omega,by go_num,(HhB4.out.setCell (by simp;omega) _).setCell (by simp;omega) _,(Hs0.out.set_ne _ _ (show w.heap.size≠w.heap.size+1+1+1 by omega)).set_ne _ _ (show w.heap.size≠w.heap.size+1+1+1 by omega),(Hs1.out.set_ne _ _ (show w.heap.size+1≠w.heap.size+1+1+1 by omega)).set_ne _ _ (show w.heap.size+1≠w.heap.size+1+1+1 by omega),(Hs2.out.set_ne _ _ (show w.heap.size+1+1≠w.heap.size+1+1+1 by omega)).set_ne _ _ (show w.heap.size+1+1≠w.heap.size+1+1+1 by omega),?_⟩;rw[hs2];have:=(Hs4.out.set 0 (.int .u64 (adj C t:Nat))).set 1 (.int .u64 0);simpa using this
    case measure=>simp[intOf];omega
   have hst:=Hhsucc.out.trans (Zf2 (by simp[hl]));have hl1:(l==c)=false:=by simpa using hl
   have Hhst:=qh hst;clear hst;have Hhl:=qh hl;clear hl;go_wp2;go_roundw
   case rel=>exact⟨k+1,by omega,by go_num,hB.out,Hz0.out,Hz1.out,Hz2.out,by rw[Hhst.out];exact Hz4.out⟩
   case measure=>simp[intOf];omega
  have hkn:(ms.take k).foldl (Zbo x c) 0=ms.foldl (Zbo x c) 0:=by rw[List.take_of_length_le (by rw[← hln.out];omega)]
  have hkl:k=ln:=by omega
  have HM':=qh (HM.out.below hbi);have d0:=y0.cell 0;have d1:=y0.cell 1;have d2:=y0.cell 2;have d3:=y0.cell 3;have e0:=y3.cell 0;have e1:=y3.cell 1;simp only[nfaC,List.getElem?_toArray,List.getElem?_cons_zero,List.getElem?_cons_succ] at d0 d1 d2 d3 e0 e1;replace hC:=qh hC;have Hhkn:=qh hkn;clear hkn;have Hhbi:=qh hbi;clear hbi;have Hy0:=qh y0;clear y0;have Hy1:=qh y1;clear y1;have Hy2:=qh y2;clear y2;have Hy3:=qh y3;clear y3;have HhC40:=qh hC40;clear hC40;have Hhkl:=qh hkl;clear hkl;go_wp2_with fail;refine(Zeo n C (.slice a1 ln c1) v2 v3 _ hm.out (by omega) HhC40.out HM'.out).mono ?_;rintro e w2 ⟨rfl,hb2⟩;have q2:=Hy2.out.below hb2 Hy2.out.lt;have hB2:=Hhbi.out.trans (hb2.mono Hhbi.out.size);have g0:=q2.cell 0;have g1:=q2.cell 1;have i0:=q2.fr 0;have i1:=q2.fr 1;simp only[List.getElem?_toArray,List.getElem?_cons_zero,List.getElem?_cons_succ] at g0 g1;obtain⟨V,hV⟩:=eI (clV 40 n.moves C);rw[← hV];have hVs:V=stV 40 n.moves x c:=by rw[hV,Hhst.out,Hhms.out,hC.out,Hhkn.out,Hhms.out]
  have Hq2:=qh q2;clear q2;have HhB2:=qh hB2;clear hB2;have HhV:=qh hV;clear hV;have HhVs:=qh hVs;clear hVs;clear hb2 d0 d1 d2 d3 e0 e1;go_wp2;have q:=(Hq2.out.set 0 (.int .u64 (V:Nat))).set 1 (.int .u64 0);have q0:=q.cell 0;have q1:=q.cell 1;simp only[List.getElem?_toArray,List.getElem?_cons_zero,List.getElem?_cons_succ,List.setIfInBounds_toArray,List.set_cons_zero,List.set_cons_succ] at q0 q1;refine bodyPost_ret (v:=setC V) (by simp[results,Try.results101,go_sem,q0,q1]) rfl ⟨by rw[HhVs.out],(HhB2.out.setCell (by simp;omega) _).setCell (by simp;omega) _⟩
end Go.Proofs.Ytfanhfcamblghaa
namespace Go.Proofs.Ytfanhfcamblghaa
open Go.RowKit
def fstV (n:NfaD):Nat:=clV 40 n.moves (setV n.firsts)
def endV (n:NfaD) (x:Nat):Bool:=n.ends.any fun s=>x.testBit s.toNat
theorem ZbT (n:NfaD) (v1 v2 v3:Value) (w:World) (hm:mvIn 40 n.moves) (hml:n.moves.length≤1000000) (hs:inN 40 n.firsts) (hsl:n.firsts.length≤1000000) (h1:Moves 0 w v1 n.moves) (h2:Ints 0 w v2 n.firsts) :
  Calls Try.prog 100 #[.agg (nfaC n v1 v2 v3)] w fun e w'=>e = .returned (setC (fstV n))∧Below w.heap.size w w':=by
 obtain⟨V,hV⟩:=eI (fstV n);rw[← hV];obtain⟨W,hW⟩:=eI (((w.alloc (.cells (nfaC n v1 v2 v3) 28)).alloc (.cells #[.int .u64 0,.int .u64 0] 87)));have hWB:Below w.heap.size w W:=by rw[hW];exact((Below.refl _ _).alloc (Nat.le_refl _) _).alloc (by simp) _
 have x0:Bx W w.heap.size (nfaC n v1 v2 v3) 28:=by rw[hW];exact(Bx.new w _ _).alloc _
 have x1:Bx W (w.heap.size+1) #[.int .u64 0,.int .u64 0] 87:=by rw[hW];simpa using (Bx.new (w.alloc (.cells (nfaC n v1 v2 v3) 28)) #[.int .u64 0,.int .u64 0] 87)
 have hl0:=x0.lt;have c0:=x0.cell 0;have c1:=x0.cell 1;have c2:=x0.cell 2;have c3:=x0.cell 3;simp only[nfaC,List.getElem?_toArray,List.getElem?_cons_zero,List.getElem?_cons_succ] at c0 c1 c2 c3;have Hk:=qh (fun (w':World) (h:Below W.drew.heap.size W.drew w')=>(show w'.cell? ⟨w.heap.size,0,none⟩=some (.int .i64 n.states)∧w'.cell? ⟨w.heap.size,1,none⟩=some v1∧w'.cell? ⟨w.heap.size,2,none⟩=some v2∧w'.cell? ⟨w.heap.size,3,none⟩=some v3 from⟨(bcell h _ _ hl0).trans c0,(bcell h _ _ hl0).trans c1,(bcell h _ _ hl0).trans c2,(bcell h _ _ hl0).trans c3⟩))
 have HF:=qh (fun (w':World) (h:Below W.drew.heap.size W.drew w')=>(show Bx w' (w.heap.size+1) #[.int .u64 0,.int .u64 0] 87 ∧ w'.cell? ⟨w.heap.size+1,0,none⟩=some (.int .u64 0)∧w'.cell? ⟨w.heap.size+1,1,none⟩=some (.int .u64 0)∧w'.frozen? ⟨w.heap.size+1,0,none⟩=false∧w'.frozen? ⟨w.heap.size+1,1,none⟩=false from
  have q:=x1.drew.below h x1.lt
  ⟨q,q.cell 0,q.cell 1,q.fr 0,q.fr 1⟩))
 have H1:=qh (h1.below hWB.drew);have H2:=qh (h2.below hWB.drew);replace hV:=qh hV;have Hhm:=qh hm;clear hm;have Hhs:=qh hs;clear hs;have HhWB:=qh hWB;clear hWB;have Hx0W:=qh hW;clear hW;have Hx0:=qh x0;clear x0;have Hx1:=qh x1;clear x1;clear h1 h2
 go_enter Try.func100, Try.ntmps100
 go_wp2_with fail;rw[← Hx0W.out]
 go_region_held3 (fun w'=>w'.cell? ⟨w.heap.size,0,none⟩=some (.int .i64 n.states)∧w'.cell? ⟨w.heap.size,1,none⟩=some v1∧w'.cell? ⟨w.heap.size,2,none⟩=some v2∧w'.cell? ⟨w.heap.size,3,none⟩=some v3)
  (first|go_keep|exact Hk.out _ hq0|exact Hk.out _ hq1)
  (first
   | (go_at_call 131;(with_reducible refine(ZjZ n.firsts _ _ Hhs.out hsl H2.out).mono ?_);rintro e u0 ⟨rfl,hq0⟩)
   | (go_at_call 130;(with_reducible refine(Zeo n _ _ _ _ _ Hhm.out hml (Zd2 Hhs.out) (H1.out.below hq0)).mono ?_);rintro e u1 ⟨rfl,hb1⟩;have hq1:=hq0.trans (hb1.mono hq0.size);obtain⟨y1,g0,g1,i0,i1⟩:=HF.out u1 hq1))
 go_wp2;have hVe:clV 40 n.moves (setV n.firsts)=V:=hV.out.symm;rw[hVe];have q:=(y1.set 0 (.int .u64 (V:Nat))).set 1 (.int .u64 0);have q0:=q.cell 0;have q1:=q.cell 1;simp only[List.getElem?_toArray,List.getElem?_cons_zero,List.getElem?_cons_succ,List.setIfInBounds_toArray,List.set_cons_zero,List.set_cons_succ] at q0 q1;refine bodyPost_ret (v:=setC V) (by simp[results,Try.results100,go_sem,q0,q1]) rfl ⟨rfl,?_⟩;exact((HhWB.out.drew.trans (hq1.mono HhWB.out.drew.size)).setCell (by simp) _).setCell (by simp) _
theorem Zez (xs:List Int) (v:Value) (x:Nat) (w:World) (hx:x<2 ^ 40) (hs:inN 40 xs) (h1:Ints 0 w v xs) :
  Calls Try.prog 129 #[v,.func (.func 99) #[setC x] #[]] w fun e w'=>e = .returned (.int .i64 (Zbn (fun s=>x.testBit s.toNat) xs))∧Below w.heap.size w w':=by
 obtain⟨a1,c1,rfl,hc1,hm1,hr1⟩:=h1.form;replace hs:=qh hs;replace hr1:=qh hr1;clear h1
 go_enter Try.func129, Try.ntmps129
 go_wp2
 go_loopw [4,8] (fun r i wr=>∃ k:Nat,k≤xs.length∧i = .int .i64 k∧(xs.take k).any (fun s=>x.testBit s.toNat)=false∧Below w.heap.size w wr) (fun _ i _=>xs.length-(intOf i).toNat)
 case atStart=>exact⟨0,Nat.zero_le _,rfl,rfl,Below.refl _ _⟩
 case round =>
  obtain⟨k,hk,rfl,htk,hb⟩:=hrel;have Hhtk:=qh htk;clear htk;by_cases hlt:k<xs.length
  ·obtain⟨b1,o1,rfl,hB1,hbl1,hcs1⟩:=hr1.out (by omega);have hx1:=(bcell hb b1 (o1+k) hbl1).trans (hcs1 k hlt);have hin:=hs.out (xs.getD k 0) (memD (d:=0) hlt);obtain⟨s,hss⟩:=eI (xs.getD k 0);rw[← hss] at hx1 hin;obtain⟨s0,s1⟩:=hin;obtain⟨s,rfl⟩:=Int.eq_ofNat_of_zero_le s0;have Hhss:=qh hss;clear hss;replace hb:=qh hb;clear hcs1 hB1;cases hbd:x.testBit s
   all_goals
    have Hhbd:=qh hbd;clear hbd;go_wp2_with (go_at_call 99;refine(Zc5 x s hx (by omega) _ _ Hhbd.out).mono ?_;rintro e w' ⟨rfl,hb'⟩;have Hb':=qh (hb.out.trans (hb'.mono hb.out.size));clear hb')
   ·go_roundw
    case rel=>exact⟨k+1,by omega,by go_num,ZeS (d:=0) hlt Hhtk.out (by rw[← Hhss.out];exact Hhbd.out),Hb'.out⟩
    case measure=>simp[intOf];omega
   go_ret;exact⟨ZcQ (by rw[ZbW (d:=0) hlt Hhtk.out (by rw[← Hhss.out];exact Hhbd.out)]),Hb'.out⟩
  replace hb:=qh hb;go_wp2;go_ret;exact⟨ZcQ (by rw[ZbA (by omega) Hhtk.out]),hb.out⟩
theorem Zdr (xs:List Int) (v:Value) (x:Nat) (w:World) (hx:x<2 ^ 40) (hs:inN 40 xs) (h1:Ints 0 w v xs) (r:Bool) (hr:xs.any (fun s=>x.testBit s.toNat)=r) :
  Calls Try.prog 98 #[v,.func (.func 99) #[setC x] #[]] w fun e w'=>e = .returned (.bool r)∧Below w.heap.size w w':=by
 obtain⟨a1,c1,hv,-⟩:=h1.form;have H1:=qh h1;subst hv;clear h1;replace hr:=qh hr
 go_enter Try.func98, Try.ntmps98
 go_wp2_with (go_at_call 129;refine(Zez xs _ x _ hx hs H1.out).mono ?_;rintro e w' ⟨rfl,hb'⟩;replace hb':=qh hb');go_ret;exact⟨Zcs (by rw[← hr.out,ZbX]),hb'.out⟩
theorem Zfl (n:NfaD) (x:Nat) (v1 v2 v3:Value) (w:World) (hx:x<2 ^ 40) (hs:inN 40 n.ends) (h3:Ints 0 w v3 n.ends) (r:Bool) (hr:endV n x=r) :
  Calls Try.prog 54 #[.agg (nfaC n v1 v2 v3),setC x] w fun e w'=>e = .returned (.bool r)∧Below w.heap.size w w':=by
 have H3:=qh h3;replace hr:=qh hr;have Hhs:=qh hs;clear hs;clear h3
 go_enter Try.func54, Try.ntmps54
 go_wp2_with (go_at_call 98;refine(Zdr n.ends v3 x _ hx Hhs.out (H3.out.below (((Below.refl _ _).alloc (Nat.le_refl _) _).alloc (by simp) _)) _ hr.out).mono ?_;rintro e w' ⟨rfl,hb'⟩;replace hb':=qh hb');go_ret;exact⟨rfl,(((Below.refl _ _).alloc (Nat.le_refl _) _).alloc (by simp) _).trans (hb'.out.mono (by simp;omega))⟩
def FlagsAt (w:World) (v:Value) (m x:Nat):Prop:=∃ B g cap,v = .slice (some ⟨g,0,none⟩) m cap∧w.ownsRow B 4 1 v m (boolCells (flags m x))
theorem FlagsAt.below {w w':World} {v:Value} {m x:Nat} (h:FlagsAt w v m x) (hb:Below w.heap.size w w'):FlagsAt w' v m x:=by obtain⟨B,g,cap,hv,h⟩:=h;exact⟨B,g,cap,hv,(Own.below (Zae h) hb).1⟩
theorem Zd8 {m:Nat} {ms:List (Int × Int × Int)} (h:mvIn m ms) (hm:m≤40):mvIn 40 ms:=fun x hx=>by have:=h x hx;omega
def BoolSS (B:Nat) (w:World) (v:Value) (xss:List (List Bool)):Prop :=
 ∃ vs:List Value,Sl B w v xss.length 1 vs∧∀ i,i<xss.length→Bools B w (vs.getD i undef) (xss.getD i [])
theorem BoolSS.below {B:Nat} {w w':World} {v:Value} {xss:List (List Bool)} (h:BoolSS B w v xss) (he:Below w.heap.size w w'):BoolSS B w' v xss:=by obtain⟨vs,h1,h2⟩:=h;exact⟨vs,h1.below he,fun i hi=>(h2 i hi).below he⟩
theorem BoolSS.form {B:Nat} {w:World} {v:Value} {xss:List (List Bool)} (h:BoolSS B w v xss):∃ a cap,v = .slice a xss.length cap∧xss.length≤cap∧cap≤9223372036854775807 ∧
  (0<xss.length→∃ b off,a=some ⟨b,off,none⟩∧b<w.heap.size∧∀ i,i<xss.length→∃ a' cap',w.cell? ⟨b,off+i,none⟩=some (.slice a' (xss.getD i []).length cap')∧Bools B w (.slice a' (xss.getD i []).length cap') (xss.getD i [])):=by
 obtain⟨vs,⟨hl,a,cap,hv,h1,h2,h3⟩,hr⟩:=h;refine⟨a,cap,hv,h1,h2,fun hn => ?_⟩;obtain⟨b,off,ha,hb,hlt,hc⟩:=h3 hn;refine⟨b,off,ha,hlt,fun i hi => ?_⟩;obtain⟨a',cap',hv',-⟩:=(hr i hi).form;refine⟨a',cap',?_,?_⟩
 ·rw[hc i (by omega),← hv'];simp at hl;simp[show i<vs.length by omega]
 rw[← hv'];exact hr i hi
theorem Zaj {w:World} {B e n:Nat} {v:Value} {xs:List Int} (hr:w.ownsRow B e 1 v n (intCells xs)):Ints 0 w v xs:=by
 have e1:n=xs.length:=by have:=hr.1;simp at this;omega
 subst e1;exact((Zae hr).sl (by omega)).mono (Nat.zero_le _)
theorem St.rowAt {w0 w:World} {L:List Ent} (h:St w0 w L) (i:Nat) {es e g n cap:Nat} {vs:List Value} {css:List (List Value)} (hx:L[i]? = some (Ent.rows es e (.slice (some ⟨g,0,none⟩) n cap) vs css)) (hn:css.length=n) {k:Nat} (hk:k<n) :
  ∃ a c,w.cell? ⟨g,k,none⟩=some (.slice a (css.getD k []).length c)∧w.ownsRow w0.heap.size e 1 (.slice a (css.getD k []).length c) (css.getD k []).length (css.getD k [])∧(css.getD k []).length≤c∧c≤9223372036854775807∧n≤cap∧cap≤9223372036854775807∧g<w.heap.size:=by
 obtain⟨p1,p2,-⟩:=h.rows i hx;subst hn;have hv:vs.length=css.length:=by have:=p1.1;omega
 have h2:=p2 k hk;have hc:=p1.cellAt k (by omega);have hgl:=(p1.lt g rfl).2
 obtain⟨a,c,hva,h3,h4⟩:∃ a c,vs.getD k undef = .slice a (css.getD k []).length c∧(css.getD k []).length≤c∧c≤9223372036854775807:=by
  rcases h2.2 with⟨h5,h6⟩|⟨g',cap',cur,h5,-,-,h6,h7,-⟩
  ·exact⟨none,0,by rw[h5,h6],by omega,by omega⟩
  exact⟨_,_,h5,h6,h7⟩
 rw[hva] at h2;refine⟨a,c,?_,h2,h3,h4,?_⟩
 ·rw[hc,← hva];simp[show k<vs.length by omega]
 rcases p1.2 with⟨h5,-⟩|⟨g',cap',cur,h5,-,-,h6,h7,-⟩
 ·cases h5
 simp only[Value.slice.injEq,true_and] at h5;obtain⟨-,rfl⟩:=h5;exact⟨h6,h7,hgl⟩
def Zng (S:List (List Bool)) (x:List Bool):Int:=if x∈S then(Zat S x:Int) else -1
end Go.Proofs.Ytfanhfcamblghaa
