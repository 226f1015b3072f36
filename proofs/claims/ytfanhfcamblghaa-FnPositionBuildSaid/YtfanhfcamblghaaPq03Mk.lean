/-
  The walks over the checks of automata with choices: the program's and the reference's.
  Conditions: the arguments read as such data; the number of states handed to the check of a list is from 0 to 40.
  The walks over the program's and the reference's validity of an automaton with choices.
  Conditions: the automaton reads as such.
  The walk over the reference's check of automata with choices: NfaValid.
  Conditions: the automaton reads as such.
-/
import Derived.Test.YtfanhfcamblghaaPq02Mc
set_option maxHeartbeats 3200000
set_option maxRecDepth 100000
namespace Go.Proofs.Ytfanhfcamblghaa
open Go.RowKit
def okAt (l:List Int) (n:Int) (j:Nat):Bool:=inB (l.getD j 0) 0 (n-1)&&(decide (j=0)||decide (l.getD (j-1) 0<l.getD j 0))
def stOk (l:List Int) (n:Int):Bool:=(List.range l.length).all (okAt l n)
def mvOk (n:Int) (m:Int × Int × Int):Bool:=inB m.1 0 (n-1)&&inB m.2.2 0 (n-1)&&inB m.2.1 (-1) 2
def Zaq (n:NfaD):Bool:=inB n.states 0 40&&decide (n.moves.length≤400)&&stOk n.firsts n.states&&stOk n.ends n.states&&n.moves.all (mvOk n.states)
theorem Zim {l:List Int} {n:Int} {k:Nat} (hk:k<l.length) (h:okAt l n k=false):stOk l n=false:=by unfold stOk;rw[List.all_eq_false];exact⟨k,List.mem_range.2 hk,by rw[h];simp⟩
theorem Zd3 {p:Nat→Bool} {k:Nat} (h:(List.range k).all p=true) (hp:p k=true):(List.range (k+1)).all p=true:=by rw[List.range_succ,List.all_append,h];simp[hp]
theorem Zbe (xs:List Int) (v:Value) (n:Int) (w:World) (hn:0≤n∧n≤40) (h:Ints 0 w v xs) (r:Bool) (hr:stOk xs n=r) :
  Calls Try.prog 49 #[v,.int .i64 n] w fun e w'=>e = .returned (.bool r)∧w=w':=by
 obtain⟨a1,c1,rfl,hc1,hm1,hr1⟩:=h.form;obtain⟨hn0,hn1⟩:=hn;clear h;replace hr:=qh hr
 go_enter Try.func49, Try.ntmps49
 go_wp2
 go_loop [4,9] (fun r i=>∃ k:Nat,k≤xs.length∧i = .int .i64 k∧(List.range k).all (okAt xs n)=true) (fun _ i=>xs.length-(intOf i).toNat)
 case atStart=>exact⟨0,Nat.zero_le _,rfl,rfl⟩
 case round =>
  obtain⟨k,hk,rfl,hall⟩:=hrel;replace hall:=qh hall;by_cases hlt:k<xs.length
  ·obtain⟨b1,o1,rfl,hB1,hbl1,hcs1⟩:=hr1 (by omega);have hx1:=hcs1 k hlt;obtain⟨x,hxx⟩:=eI (xs.getD k 0);rw[← hxx] at hx1;cases hin:inB x 0 (n-1)
   ·have Hhin:=qh hin;clear hin;have Hhxx:=qh hxx;clear hxx;clear hcs1 hr1;go_wp2_with (go_at_call 48;refine(Zas _ _ _ _ _ Hhin.out).mono ?_;rintro e w' ⟨rfl,rfl⟩);go_ret;exact⟨by rw[← hr.out,Zim hlt (by unfold okAt;rw[← Hhxx.out,Hhin.out];rfl)];rfl,rfl⟩
   have Hhin:=qh hin;clear hin;cases k with
   | zero =>
    have Hhxx:=qh hxx;clear hxx;simp only[Nat.add_zero] at hx1;clear hcs1 hr1;go_wp2_with (go_at_call 48;refine(Zas _ _ _ _ _ Hhin.out).mono ?_;rintro e w' ⟨rfl,rfl⟩)
    go_round
    case rel=>exact⟨1,by omega,by go_num,Zd3 hall.out (by unfold okAt;rw[← Hhxx.out,Hhin.out];rfl)⟩
    case measure=>simp[intOf];omega
   | succ j =>
    have hx0:=hcs1 j (by omega);obtain⟨y,hyy⟩:=eI (xs.getD j 0);rw[← hyy] at hx0;have Hhxx:=qh hxx;clear hxx;have Hhyy:=qh hyy;clear hyy;clear hcs1 hr1;have hjl:(j:Int)<xs.length:=by omega
    by_cases hyx:y<x
    ·go_wp2_with (go_at_call 48;refine(Zas _ _ _ _ _ Hhin.out).mono ?_;rintro e w' ⟨rfl,rfl⟩)
     go_round
     case rel=>exact⟨j+1+1,by omega,by go_num,Zd3 hall.out (by unfold okAt;rw[Nat.add_sub_cancel,← Hhxx.out,← Hhyy.out,Hhin.out,decide_eq_true hyx];simp)⟩
     case measure=>simp[intOf];omega
    go_wp2_with (go_at_call 48;refine(Zas _ _ _ _ _ Hhin.out).mono ?_;rintro e w' ⟨rfl,rfl⟩);go_ret;exact⟨by rw[← hr.out,Zim hlt (by unfold okAt;rw[Nat.add_sub_cancel,← Hhxx.out,← Hhyy.out,Hhin.out,decide_eq_false (show ¬ y<x by omega)];simp)];rfl,rfl⟩
  clear hr1;obtain rfl:k=xs.length:=by omega
  go_wp2;go_ret;exact⟨by rw[← hr.out,stOk,hall.out];rfl,rfl⟩
def badM (n:Int) (m:Int × Int × Int):Bool:=!mvOk n m
theorem ZdF (x:Int × Int × Int) (n:Int) (b:Nat) (w:World) (hn:0≤n∧n≤40) (hb:b<w.heap.size) (hc:w.cell? ⟨b,0,none⟩=some (.int .i64 n)) (r:Bool) (hr:badM n x=r) :
  Calls Try.prog 51 #[.agg #[.int .i64 x.1,.int .i64 x.2.1,.int .i64 x.2.2],.pointer (some ⟨b,0,none⟩)] w fun e w'=>e = .returned (.bool r)∧∃ o,w'=w.alloc o:=by
 obtain⟨x1,x2,x3⟩:=x;obtain⟨hn0,hn1⟩:=hn;replace hr:=qh hr;cases h1:inB x1 0 (n-1)
 ·replace h1:=qh h1
  go_enter Try.func51, Try.ntmps51
  go_wp2_with (go_at_call 48;(with_reducible refine(Zas _ _ _ _ _ h1.out).mono ?_);rintro e w' ⟨rfl,rfl⟩);go_ret;exact⟨by rw[← hr.out,badM,mvOk,h1.out];rfl,_,rfl⟩
 cases h2:inB x3 0 (n-1)
 ·replace h1:=qh h1;have Hh2:=qh h2;clear h2
  go_enter Try.func51, Try.ntmps51
  go_wp2_with (first|(go_at_call 48;(with_reducible refine(Zas _ _ _ _ _ h1.out).mono ?_);rintro e w' ⟨rfl,rfl⟩)|(go_at_call 48;(with_reducible refine(Zas _ _ _ _ _ Hh2.out).mono ?_);rintro e w' ⟨rfl,rfl⟩));go_ret;exact⟨by rw[← hr.out,badM,mvOk,h1.out,Hh2.out];rfl,_,rfl⟩
 cases h3:inB x2 (-1) 2
 all_goals
  replace h1:=qh h1;have Hh2:=qh h2;clear h2;have Hh3:=qh h3;clear h3
  go_enter Try.func51, Try.ntmps51
  go_wp2_with (first|(go_at_call 48;(with_reducible refine(Zas _ _ _ _ _ h1.out).mono ?_);rintro e w' ⟨rfl,rfl⟩)|(go_at_call 48;(with_reducible refine(Zas _ _ _ _ _ Hh2.out).mono ?_);rintro e w' ⟨rfl,rfl⟩)|(go_at_call 48;(with_reducible refine(Zas _ _ _ _ _ Hh3.out).mono ?_);rintro e w' ⟨rfl,rfl⟩));go_ret;exact⟨by rw[← hr.out,badM,mvOk,h1.out,Hh2.out,Hh3.out];rfl,_,rfl⟩
theorem Zfu (xs:List (Int × Int × Int)) (v:Value) (n:Int) (b:Nat) (w:World) (hn:0≤n∧n≤40) (hbb:b<w.heap.size) (hc:w.cell? ⟨b,0,none⟩=some (.int .i64 n)) (h1:Moves 0 w v xs) :
  Calls Try.prog 95 #[v,.func (.func 51) #[] #[.pointer (some ⟨b,0,none⟩)]] w fun e w'=>e = .returned (.int .i64 (Zbn (badM n) xs))∧Below w.heap.size w w':=by
 obtain⟨a1,c1,rfl,hc1,hm1,hr1⟩:=h1.form;clear h1
 go_enter Try.func95, Try.ntmps95
 go_wp2
 go_loopw [4,8] (fun r i wr=>∃ k:Nat,k≤xs.length∧i = .int .i64 k∧(xs.take k).any (badM n)=false∧Below w.heap.size w wr) (fun _ i _=>xs.length-(intOf i).toNat)
 case atStart=>exact⟨0,Nat.zero_le _,rfl,rfl,Below.refl _ _⟩
 case round =>
  obtain⟨k,hk,rfl,htk,hb⟩:=hrel;replace htk:=qh htk;have hc':=(bcell hb b 0 hbb).trans hc;have hbb':b<wr.heap.size:=Nat.lt_of_lt_of_le hbb hb.size;have Hc':=qh hc';clear hc';by_cases hlt:k<xs.length
  ·obtain⟨b1,o1,rfl,hB1,hbl1,hcs1⟩:=hr1 (by omega);have hx1:=(bcell hb b1 (o1+k*3) hbl1).trans (hcs1 k hlt).1;have hx2:=(bcell hb b1 (o1+k*3+1) hbl1).trans (hcs1 k hlt).2.1;have hx3:=(bcell hb b1 (o1+k*3+2) hbl1).trans (hcs1 k hlt).2.2;have hsz:=hb.size;obtain⟨x,hxx⟩:=eI (xs.getD k (0,0,0));rw[← hxx] at hx1 hx2 hx3;have Hhxx:=qh hxx;clear hxx;replace hb:=qh hb;clear hcs1 hr1;cases hbd:badM n x
   ·have Hhbd:=qh hbd;clear hbd;go_wp2_with (go_at_call 51;refine(ZdF x n b _ hn hbb' Hc'.out _ Hhbd.out).mono ?_;rintro e w' ⟨rfl,o,rfl⟩);go_roundw
    case rel=>exact⟨k+1,by omega,by go_num,ZeS (d:=(0,0,0)) hlt htk.out (by rw[← Hhxx.out];exact Hhbd.out),hb.out.alloc hsz _⟩
    case measure=>simp[intOf];omega
   have Hhbd:=qh hbd;clear hbd;go_wp2_with (go_at_call 51;refine(ZdF x n b _ hn hbb' Hc'.out _ Hhbd.out).mono ?_;rintro e w' ⟨rfl,o,rfl⟩);go_ret;exact⟨ZcQ (by rw[ZbW (d:=(0,0,0)) hlt htk.out (by rw[← Hhxx.out];exact Hhbd.out)]),hb.out.alloc hsz _⟩
  clear hr1;replace hb:=qh hb;go_wp2;go_ret;exact⟨ZcQ (by rw[ZbA (by omega) htk.out]),hb.out⟩
theorem ZdU (xs:List (Int × Int × Int)) (v:Value) (n:Int) (b:Nat) (w:World) (hn:0≤n∧n≤40) (hbb:b<w.heap.size) (hc:w.cell? ⟨b,0,none⟩=some (.int .i64 n)) (h1:Moves 0 w v xs) (r:Bool) (hr:xs.any (badM n)=r) :
  Calls Try.prog 50 #[v,.func (.func 51) #[] #[.pointer (some ⟨b,0,none⟩)]] w fun e w'=>e = .returned (.bool r)∧Below w.heap.size w w':=by
 obtain⟨a1,c1,hv,-⟩:=h1.form;have H1:=qh h1;subst hv;clear h1;replace hr:=qh hr
 go_enter Try.func50, Try.ntmps50
 go_wp2_with (go_at_call 95;refine(Zfu xs _ n b _ hn hbb hc H1.out).mono ?_;rintro e w' ⟨rfl,hb'⟩;replace hb':=qh hb');go_ret;exact⟨Zcs (by rw[← hr.out,ZbX]),hb'.out⟩
end Go.Proofs.Ytfanhfcamblghaa
namespace Go.Proofs.Ytfanhfcamblghaa
open Go.RowKit
theorem Zku {n:Int} {ms:List (Int × Int × Int)}:ms.any (badM n) = !ms.all (mvOk n):=by
 induction ms with
 | nil=>rfl
 | cons m ms ih=>rw[List.any_cons,List.all_cons,ih];simp[badM]
theorem Zac (d:NfaD) (v:Value) (w:World) (h:NfaR 0 w v d) (r:Bool) (hr:Zaq d=r) :
  Calls Try.prog 12 #[v] w fun e w'=>e = .returned (.bool r)∧Below w.heap.size w w':=by
 obtain⟨states,moves,firsts,ends⟩:=d;obtain⟨v1,v2,v3,rfl,h1,h2,h3,hb1,hb2⟩:=h;simp only at h1 h2 h3 hb1 hb2;unfold Zaq at hr;simp only at hr;have H1:=qh h1;have H2:=qh h2;have H3:=qh h3;obtain⟨a1,c1,rfl,hc1,hm1,-⟩:=h1.form;clear h1 h2 h3;obtain⟨W,hW⟩:=eI (w.alloc (.cells #[.int .i64 states,.slice a1 moves.length c1,v2,v3] 28));have hB:Below w.heap.size w W:=by rw[hW];exact(Below.refl _ _).alloc (Nat.le_refl _) _
 have x0:Bx W w.heap.size #[.int .i64 states,.slice a1 moves.length c1,v2,v3] 28:=by rw[hW];exact Bx.new w _ _
 have hlt:=x0.lt;have d0:=x0.cell 0;have d1:=x0.cell 1;have d2:=x0.cell 2;have d3:=x0.cell 3;simp only[List.getElem?_toArray,List.getElem?_cons_zero,List.getElem?_cons_succ] at d0 d1 d2 d3;replace hW:=qh hW;replace hB:=qh hB;have Hx0:=qh x0;clear x0
 go_enter Try.func12, Try.ntmps12
 cases hA:inB states 0 40
 ·rw[hA] at hr;replace hA:=qh hA;have Hhr:=qh hr;clear hr;go_wp2_with fail;rw[← hW.out];go_wp2_with (go_at_call 48;refine(Zas _ _ _ _ _ hA.out).mono ?_;rintro e w' ⟨rfl,rfl⟩);go_ret;exact⟨by rw[← Hhr.out];rfl,hB.out⟩
 have hin:0≤states∧states≤40:=by simpa [inB] using hA
 obtain⟨hs0,hs1⟩:=hin;rw[hA] at hr;replace hA:=qh hA;by_cases hL:moves.length≤400
 ·have hL1:decide ((moves.length:Int)>400)=false:=by simp;omega
  rw[decide_eq_true hL] at hr;cases hC:stOk firsts states
  ·rw[hC] at hr;have HhC:=qh hC;clear hC;have Hhr:=qh hr;clear hr;go_wp2_with fail;rw[← hW.out];go_wp2_with (first|(go_at_call 48;refine(Zas _ _ _ _ _ hA.out).mono ?_;rintro e w' ⟨rfl,rfl⟩)|(go_at_call 49;(with_reducible refine(Zbe firsts _ _ _ ⟨hs0,hs1⟩ (H2.out.below hB.out) _ HhC.out).mono ?_);rintro e w' ⟨rfl,rfl⟩));go_ret;exact⟨by rw[← Hhr.out];rfl,hB.out⟩
  rw[hC] at hr;have HhC:=qh hC;clear hC;cases hD:stOk ends states
  ·rw[hD] at hr;have HhD:=qh hD;clear hD;have Hhr:=qh hr;clear hr;go_wp2_with fail;rw[← hW.out];go_wp2_with (first|(go_at_call 48;refine(Zas _ _ _ _ _ hA.out).mono ?_;rintro e w' ⟨rfl,rfl⟩)|(go_at_call 49;(with_reducible refine(Zbe firsts v2 _ _ ⟨hs0,hs1⟩ (H2.out.below hB.out) _ HhC.out).mono ?_);rintro e w' ⟨rfl,rfl⟩)|(go_at_call 49;(with_reducible refine(Zbe ends v3 _ _ ⟨hs0,hs1⟩ (H3.out.below hB.out) _ HhD.out).mono ?_);rintro e w' ⟨rfl,rfl⟩));go_ret;exact⟨by rw[← Hhr.out];rfl,hB.out⟩
  rw[hD] at hr;have HhD:=qh hD;clear hD;cases hE:moves.any (badM states)
  all_goals
   have hE':=hE;rw[Zku] at hE';have HhE:=qh hE;clear hE;have HhE':=qh hE';clear hE';have Hhr:=qh hr;clear hr;go_wp2_with fail;rw[← hW.out];go_wp2_with (first|(go_at_call 48;refine(Zas _ _ _ _ _ hA.out).mono ?_;rintro e w' ⟨rfl,rfl⟩)|(go_at_call 49;(with_reducible refine(Zbe firsts v2 _ _ ⟨hs0,hs1⟩ (H2.out.below hB.out) _ HhC.out).mono ?_);rintro e w' ⟨rfl,rfl⟩)|(go_at_call 49;(with_reducible refine(Zbe ends v3 _ _ ⟨hs0,hs1⟩ (H3.out.below hB.out) _ HhD.out).mono ?_);rintro e w' ⟨rfl,rfl⟩)|(go_at_call 50;refine(ZdU moves _ states w.heap.size _ ⟨hs0,hs1⟩ hlt d0 (H1.out.below hB.out) _ HhE.out).mono ?_;rintro e w' ⟨rfl,hb'⟩;replace hb':=qh hb'));go_ret;exact⟨by rw[← Hhr.out];simpa using HhE'.out,hB.out.trans (hb'.out.mono hB.out.size)⟩
 have hL1:decide ((moves.length:Int)>400)=true:=by simp;omega
 rw[decide_eq_false hL] at hr;have Hhr:=qh hr;clear hr;go_wp2_with fail;rw[← hW.out];go_wp2_with (go_at_call 48;refine(Zas _ _ _ _ _ hA.out).mono ?_;rintro e w' ⟨rfl,rfl⟩);go_ret;exact⟨by rw[← Hhr.out];rfl,hB.out⟩
end Go.Proofs.Ytfanhfcamblghaa
namespace Go.Proofs.Ytfanhfcamblghaa
open Go.RowKit
end Go.Proofs.Ytfanhfcamblghaa
namespace Go.Proofs.Ytfanhfcamblghaa
open Go.RowKit Go.Maps
theorem Zgp {l:List Int} {m:Int} (h:stOk l m=true) {j:Nat} (hj:j<l.length):(0≤l.getD j 0∧l.getD j 0≤m-1)∧(0<j→l.getD (j-1) 0<l.getD j 0):=by
 unfold stOk at h;rw[List.all_eq_true] at h;have h1:=h j (List.mem_range.2 hj);unfold okAt at h1;rw[Bool.and_eq_true,Bool.or_eq_true] at h1;obtain⟨h1,h2⟩:=h1;refine⟨by simpa [inB] using h1,fun h0 => ?_⟩;rcases h2 with h2|h2
 ·have:=of_decide_eq_true h2;omega
 exact of_decide_eq_true h2
theorem ZjW {l:List Int} {m:Int} (h:stOk l m=true):∀ j,j<l.length→(j:Int)≤l.getD j 0
 | 0,hj=>(Zgp h hj).1.1
 | j+1,hj=>by have h1:=ZjW h j (by omega);have h2:=(Zgp h hj).2 (by omega);rw[Nat.add_sub_cancel] at h2;omega
theorem Zf1 {l:List Int} {m:Nat} (h:stOk l (m:Int)=true):inN m l∧l.length≤m:=by
 refine⟨fun s hs => ?_,?_⟩
 ·obtain⟨j,hj,e⟩:=List.getElem_of_mem hs;have:=(Zgp h hj).1;rw[ZcB hj,e] at this;omega
 rcases Nat.eq_zero_or_pos l.length with h0|h0
 ·omega
 have h1:=ZjW h (l.length-1) (by omega);have h2:=(Zgp h (j:=l.length-1) (by omega)).1.2;omega
theorem Zao {n:NfaD} (h:Zaq n=true):∃ m:Nat,n.states=(m:Int)∧m≤40∧mvIn m n.moves∧n.moves.length≤400∧inN m n.firsts∧n.firsts.length≤40∧inN m n.ends∧n.ends.length≤40:=by
 unfold Zaq at h;simp only[Bool.and_eq_true] at h;obtain⟨⟨⟨⟨h1,h2⟩,h3⟩,h4⟩,h5⟩:=h;have h1:0≤n.states∧n.states≤40:=by simpa [inB] using h1
 obtain⟨m,hm⟩:=Int.eq_ofNat_of_zero_le h1.1;rw[hm] at h3 h4 h5;have f3:=Zf1 h3;have f4:=Zf1 h4;refine⟨m,hm,by omega,fun x hx => ?_,of_decide_eq_true h2,f3.1,by omega,f4.1,by omega⟩;rw[List.all_eq_true] at h5;have:=h5 x hx;unfold mvOk at this;simp only[Bool.and_eq_true,inB,decide_eq_true_eq] at this;omega
theorem Zbc (l:List Int) (x:Int):intCells (l++[x])=intCells l++[.int .i64 x]:=by simp[intCells]
theorem ZgC {k:IntKind} {x:Int}:∀ u∈[Value.int k x],u.oneCell'=true:=by intro u hu;simp only[List.mem_singleton] at hu;subst hu;rfl
theorem Zau {w:World} {B e:Nat} {v:Value} {xs:List (Int × Int × Int)} (hr:w.ownsRow B e 3 v xs.length (xs.flatMap Zab)):Moves 0 w v xs :=
 ((Zae hr).sl (by omega)).mono (Nat.zero_le _)
theorem Zah {w:World} {B e:Nat} {v:Value} {xs:List Int} (hr:w.ownsRow B e 1 v xs.length (intCells xs)):Ints 0 w v xs :=
 ((Zae hr).sl (by omega)).mono (Nat.zero_le _)
theorem St.moves {w0 w:World} {L:List Ent} (h:St w0 w L) (i:Nat) {e:Nat} {v:Value} {xs:List (Int × Int × Int)} (hx:L[i]? = some (Ent.row e 3 v xs.length (xs.flatMap Zab))):Moves 0 w v xs:=Zau (h.row i hx)
theorem Try.infoMv:(Try.prog.info? 34).map (fun i=>(i.zero,i.size,i.bytes))=some (some (.agg #[.int .i64 0,.int .i64 0,.int .i64 0]),3,24):=by kernel_rfl
theorem Zf4 {s c x:Int}:∀ u∈[Value.int .i64 s,Value.int .i64 c,Value.int .i64 x],u.oneCell'=true:=by intro u hu;simp at hu;rcases hu with rfl|rfl|rfl<;>rfl
end Go.Proofs.Ytfanhfcamblghaa
namespace Go.Proofs.Ytfanhfcamblghaa
open Go.RowKit
section
variable {P:Program} (w:World)
theorem Zfg {w:World} {base e size n:Nat} {v:Value} {xs:List Value} (h:w.ownsRow base e size v n xs):∃ a cap,v = .slice a n cap∧n≤cap:=by
 rcases h.2 with⟨h1,h2⟩|⟨g',cap',cur,h1,-,-,h4,-⟩
 ·exact⟨none,0,by rw[h1,h2],by omega⟩
 exact⟨_,cap',h1,h4⟩
theorem Zgw (t ty:TypeId) (base:Nat) (e:TypeId) (i:TypeInfo) (z:Value) (size bytes:Nat) (ht:P.underlying t=some (.slice e)) (hi:P.info? e=some i) (hz:i.zero=some z)
  (hsize:i.size=size) (hby:i.bytes=bytes) (hzs:z.cells.size=size) (hsz:0<size)
  (v:Value) (n:Nat) (xs:List Value) (hown:w.ownsRow base e size v n xs) (x:Value) (m:Nat) (news:List Value) (hx:Sl 0 w x m size news) (h1:∀ u∈news,u.oneCell'=true)
  (h63:n+m≤maxLen) (hbytes:(n+m)*bytes≤140737488355328) (hbase:base≤w.heap.size) :
  ∃ a' cap w',(Builtin.append_ #[t,t] ty #[v,x]).run P w = .ok (.slice a' (n+m) cap) w'∧w'.ownsRow base e size (.slice a' (n+m) cap) (n+m) (xs++news)∧w.grownBy w' v.ownBlock ∧
   (∀ k,(Value.slice a' (n+m) cap).ownBlock=some k→v.ownBlock=some k∨w.heap.size≤k):=by
 obtain⟨hl,a,cap,rfl,hle,hm,hc⟩:=hx;cases a with
 | some ad =>
  have hnews:∀ j u,news[j]? = some u→w.cell? (ad.add j)=some u:=fun j u hj=>by
   have hjl:=(List.getElem?_eq_some_iff.1 hj).1
   have hm0:0<m:=by
    rcases Nat.eq_zero_or_pos m with h0|h0
    ·rw[h0] at hl;omega
    exact h0
   obtain⟨b,off,ha,-,-,hcs⟩:=hc hm0;simp only[Option.some.injEq] at ha;subst ha;rw[← hj,← hcs j (by omega),← Go.WideShapes.add_plain]
  obtain⟨v',w',hr,h2,h3,-,h5⟩:=run_append_own_at (P:=P) w base t ty e i z size bytes ht hi hz hsize hby hzs hsz v n xs hown ad m cap news hl hnews h1 h63 hbytes hbase;obtain⟨a',cap',rfl,-⟩:=Zfg h2;refine⟨a',cap',w',hr,h2,h3,fun k hk => ?_⟩;rcases h5 with h5|h5
  ·exact Or.inl (by rw[← h5];exact hk)
  rw[h5] at hk;exact Or.inr (by simp only[Option.some.injEq] at hk;omega)
 | none =>
  have hm0:m=0:=by
   rcases Nat.eq_zero_or_pos m with h0|h0
   ·exact h0
   obtain⟨b,off,ha,-⟩:=hc h0;cases ha
  subst hm0;have hnil:news=[]:=List.eq_nil_of_length_eq_zero (by omega);subst hnil;obtain⟨a',cap',rfl,hlc⟩:=Zfg hown;subst hsize;refine⟨a',cap',w,run_append_nothing w t t ty e i ht hi a' n cap' hlc _ (Src.ofNil w ht cap),by simpa using hown,⟨rfl,rfl,rfl,Nat.le_refl _,fun _ _ _=>rfl⟩,fun k hk=>Or.inl hk⟩
theorem ZgZ {o:Oper} {a:Act} {K:Act→World→Prop} {Q:Exit→Act→World→Prop} (s x:Operand) (t:TypeId)
  (ho:o.op = .call { callee:=.builtin .append,args:=#[s,x],argTypes:=#[t,t] })
  (base:Nat) (e:TypeId) (i:TypeInfo) (z:Value) (size bytes:Nat) (ht:P.underlying t=some (.slice e)) (hi:P.info? e=some i) (hz:i.zero=some z)
  (hsize:i.size=size) (hby:i.bytes=bytes) (hzs:z.cells.size=size) (hsz:0<size)
  (v:Value) (n:Nat) (xs:List Value) (hs:a.eval s=v) (hown:w.ownsRow base e size v n xs)
  (y:Value) (m:Nat) (news:List Value) (hy:a.eval x=y) (hx:Sl 0 w y m size news) (h1:∀ u∈news,u.oneCell'=true)
  (h63:n+m≤maxLen) (hbytes:(n+m)*bytes≤140737488355328) (hbase:base≤w.heap.size)
  (h:∀ a' cap w',w'.ownsRow base e size (.slice a' (n+m) cap) (n+m) (xs++news)→w.grownBy w' v.ownBlock→(∀ k,(Value.slice a' (n+m) cap).ownBlock=some k→v.ownBlock=some k∨w.heap.size≤k)→K (a.put o.dst (.slice a' (n+m) cap)) w'):o.wp P a w K Q:=by
 obtain⟨a',cap,w',hr,h2,h3,h4⟩:=Zgw (P:=P) w t o.type base e i z size bytes ht hi hz hsize hby hzs hsz v n xs hown y m news hx h1 h63 hbytes hbase;unfold Oper.wp execOp;simp only[ho,resolve,invoke,builtin,Sem.run_bind,Sem.run_pure,Result.andThen_ok,List.map_toArray,List.map_cons,List.map_nil,hs,hy,hr];exact h a' cap w' h2 h3 h4
theorem Zay {ops:Array Oper} {rest:List Oper} {o:Oper} {a:Act} {Q:Exit→Act→World→Prop} (hgd:o.guard=none) (s x:Operand) (t:TypeId)
  (ho:o.op = .call { callee:=.builtin .append,args:=#[s,x],argTypes:=#[t,t] })
  (base:Nat) (e:TypeId) (i:TypeInfo) (z:Value) (size bytes:Nat) (ht:P.underlying t=some (.slice e)) (hi:P.info? e=some i) (hz:i.zero=some z)
  (hsize:i.size=size) (hby:i.bytes=bytes) (hzs:z.cells.size=size) (hsz:0<size)
  (v:Value) (n:Nat) (xs:List Value) (hs:a.eval s=v) (hown:w.ownsRow base e size v n xs)
  (y:Value) (m:Nat) (news:List Value) (hy:a.eval x=y) (hx:Sl 0 w y m size news) (h1:∀ u∈news,u.oneCell'=true)
  (h63:n+m≤maxLen) (hbytes:(n+m)*bytes≤140737488355328) (hbase:base≤w.heap.size)
  (h:∀ a' cap w',w'.ownsRow base e size (.slice a' (n+m) cap) (n+m) (xs++news)→w.grownBy w' v.ownBlock→(∀ k,(Value.slice a' (n+m) cap).ownBlock=some k→v.ownBlock=some k∨w.heap.size≤k)→wpList P ops Q rest (a.put o.dst (.slice a' (n+m) cap)) w'):wpList P ops Q (o::rest) a w :=
 wpList_plain hgd fun _ hK=>ZgZ w s x t ho base e i z size bytes ht hi hz hsize hby hzs hsz v n xs hs hown y m news hy hx h1 h63 hbytes hbase fun a' cap w' h2 h3 h4=>hK _ _ (h a' cap w' h2 h3 h4)
end
theorem ZmX {xs:List Int}:∀ u∈intCells xs,u.oneCell'=true:=fun u hu=>by obtain⟨x,-,rfl⟩:=List.mem_map.1 hu;simp[Value.oneCell']
theorem Ziy {xs:List (Int × Int)}:∀ u∈xs.flatMap Zap,u.oneCell'=true:=fun u hu=>by obtain⟨x,-,hx⟩:=List.mem_flatMap.1 hu;simp only[Zap,List.mem_cons,List.not_mem_nil,or_false] at hx;rcases hx with rfl|rfl<;>simp[Value.oneCell']
theorem St.appS {w0 w w':World} {L:List Ent} (h:St w0 w L) (i:Nat) {B e size n m cap:Nat} {a':Option Addr} {v:Value} {cs cs':List Value} (hx:L[i]? = some (Ent.row e size v n cs)) (hown:w'.ownsRow B e size (.slice a' m cap) m cs') (hg:w.grownBy w' v.ownBlock)
  (hat:∀ k,(Value.slice a' m cap).ownBlock=some k→v.ownBlock=some k∨w.heap.size≤k):St w0 w' (L.set i (Ent.row e size (.slice a' m cap) m cs')):=h.grow i hx hg hown hat
end Go.Proofs.Ytfanhfcamblghaa
namespace Go.Proofs.Ytfanhfcamblghaa
open Go.RowKit Go.Maps
def fitI (x:Int):Prop:=-9223372036854775808≤x∧x≤9223372036854775807
theorem ZmF {x:Int} (h:fitI x):(Lit.int .i64 x).wf=true:=WalkArith.wf_i64 h
theorem Try.laidOut:laidOutB Try.prog=true:=by kernel_rfl
theorem Zgb:5+1≤10000:=by omega
def Zcv (p:Int × Int):Value:=.agg #[.int .i64 p.1,.int .i64 p.2]
theorem ZhX:∀ x y:Int × Int,Zcv x=Zcv y→x=y:=by rintro⟨a,b⟩ ⟨c,d⟩ h;simp only[Zcv,Value.agg.injEq] at h;have h1:=congrArg (fun (l:Array Value)=>l[0]?) h;have h2:=congrArg (fun (l:Array Value)=>l[1]?) h;simp at h1 h2;rw[h1,h2]
theorem Zfs {P:Program} {t:TypeId} {D:Nat} {x:Int} (ht:P.underlying t=some (.int .i64)) (hx:fitI x):P.keyLits (D+1) t [.int .i64 x]=some [.int .i64 x]:=by unfold Program.keyLits;rw[ht];simp[ZmF hx]
end Go.Proofs.Ytfanhfcamblghaa
namespace Go.Proofs.Ytfanhfcamblghaa
open Go.RowKit Go.Maps
end Go.Proofs.Ytfanhfcamblghaa
namespace Go.Proofs.Ytfanhfcamblghaa
open Go.RowKit Go.Maps
end Go.Proofs.Ytfanhfcamblghaa
namespace Go.Proofs.Ytfanhfcamblghaa
open Go.RowKit
theorem Try.infoInt:(Try.prog.info? 3).map (fun i=>(i.zero,i.size,i.bytes))=some (some (.int .i64 0),1,8):=by kernel_rfl
theorem Try.infoBool:(Try.prog.info? 4).map (fun i=>(i.zero,i.size,i.bytes))=some (some (.bool false),1,1):=by kernel_rfl
theorem Try.infoInts:(Try.prog.info? 26).map (fun i=>(i.zero,i.size,i.bytes))=some (some (.slice none 0 0),1,24):=by kernel_rfl
end Go.Proofs.Ytfanhfcamblghaa
namespace Go.Proofs.Ytfanhfcamblghaa
open Go.RowKit Go.Maps
section
variable {α:Type}
structure ExW (kt sz:Nat) (enc:α→Value) (cel:α→List Value) (B B1 B2 B4 hi:Nat) (w:World) (met:List α) (rows:List (List Int)) (ends:List Bool) (vm vn ve:Value):Prop where
 m:w.ownsRow B kt sz vm met.length (met.flatMap cel)
 n:MapL Try.prog kt enc w B2 (numbered met)
 r:Bx w B1 #[.slice none 0 0,.slice none 0 0] 45
 d:Bx w B4 #[vn,ve] 45
 nx:OIntSS 26 3 B hi w vn rows
 en:w.ownsRow B 4 1 ve ends.length (boolCells ends)
 ne:B1≠B4
variable {kt sz B B1 B2 B4 hi:Nat} {enc:α→Value} {cel:α→List Value} {w w':World} {met:List α} {rows:List (List Int)} {ends:List Bool} {vm vn ve:Value}
theorem ExW.below (h:ExW kt sz enc cel B B1 B2 B4 hi w met rows ends vm vn ve) (hb:Below w.heap.size w w'):ExW kt sz enc cel B B1 B2 B4 hi w' met rows ends vm vn ve :=
 ⟨(Own.below (Zae h.m) hb).1,h.n.below hb,h.r.below hb h.r.lt,h.d.below hb h.d.lt,h.nx.below hb,(Own.below (Zae h.en) hb).1,h.ne⟩
end
end Go.Proofs.Ytfanhfcamblghaa
namespace Go.Proofs.Ytfanhfcamblghaa
open Go.RowKit
structure Touch (e lo hi:Nat) (w w':World):Prop where
 os:w'.os=w.os
 tape:w'.tape=w.tape
 output:w'.output=w.output
 size:w.heap.size≤w'.heap.size
 block:∀ k,k<w.heap.size→((k<lo∨hi≤k)∨∀ cur fr,w.heap[k]? ≠ some (.cells cur e fr))→w'.heap[k]? = w.heap[k]?
theorem Touch.refl (e lo hi:Nat) (w:World):Touch e lo hi w w:=⟨rfl,rfl,rfl,Nat.le_refl _,fun _ _ _=>rfl⟩
theorem Touch.trans {e lo hi:Nat} {a b c:World} (h:Touch e lo hi a b) (k:Touch e lo hi b c):Touch e lo hi a c:=by
 refine⟨k.os.trans h.os,k.tape.trans h.tape,k.output.trans h.output,Nat.le_trans h.size k.size,fun i hi hh => ?_⟩;have e1:=h.block i hi hh;refine(k.block i (Nat.lt_of_lt_of_le hi h.size) ?_).trans e1;rcases hh with hh|hh
 ·exact .inl hh
 exact .inr (by rw[e1];exact hh)
theorem Touch.only {e lo hi:Nat} {a b:World} (h:Touch e lo hi a b):Only lo hi a b:=⟨h.os,h.tape,h.output,h.size,fun k hk hh=>h.block k hk (.inl hh)⟩
theorem Own.lt' {lo hi e size n:Nat} {w:World} {v:Value} {cs:List Value} (h:Own lo hi w e size v n cs):w.ownsRow lo e size v n cs:=h.1
theorem OIntSS.row {es e lo hi:Nat} {w w':World} {v:Value} {xss:List (List Int)} {vs:List Value} {x:List Int} {j:Nat} (hne:es≠e)
  (h1:Own lo hi w es 1 v xss.length vs) (h2:∀ i,i<xss.length→OInts e lo hi w (vs.getD i undef) (xss.getD i []))
  (h3:∀ i j k,i<j→j<xss.length→(vs.getD i undef).ownBlock=some k→(vs.getD j undef).ownBlock≠some k)
  (hj:j<xss.length) (hx:OInts e lo hi w' (vs.getD j undef) x) (hg:w.grownBy w' (vs.getD j undef).ownBlock) :
  Own lo hi w' es 1 v (xss.set j x).length vs∧(∀ i,i<(xss.set j x).length→OInts e lo hi w' (vs.getD i undef) ((xss.set j x).getD i [])) ∧
   (∀ i j' k,i<j'→j'<(xss.set j x).length→(vs.getD i undef).ownBlock=some k→(vs.getD j' undef).ownBlock≠some k):=by
 have ha:ZbQ w (vs.getD j undef).ownBlock es:=Zam (Own.lt' (h2 j hj)) (Ne.symm hne);rw[List.length_set];refine⟨h1.grown hg ha,fun i hi => ?_,h3⟩;by_cases hij:j=i
 ·subst hij;have:(xss.set j x).getD j []=x:=by simp[hj]
  rw[this];exact hx
 have:(xss.set j x).getD i []=xss.getD i []:=by simp[List.getElem?_set_ne hij]
 rw[this];refine Own.kept (h2 i hi) fun k hk=>hg.block k (Own.lt (h2 i hi) k hk).2.2 fun hr => ?_
 rcases Nat.lt_or_gt_of_ne hij with hlt|hgt
 ·exact h3 j i k hlt hi hr.symm hk
 exact h3 i j k hgt hj hk hr.symm
end Go.Proofs.Ytfanhfcamblghaa
