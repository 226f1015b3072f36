/-
  The walks over the program's isPlain and leafNfa.
  Conditions: the parts read as such; the leaf is a valid part without operands.
-/
import Derived.Test.YtfanhfcamblghaaPq10Lp
import Derived.Test.YtfanhfcamblghaaPq12Lm
set_option maxHeartbeats 1600000
namespace Go.Proofs.Ytfanhfcamblghaa
open Go.RowKit
def badP (p:Int × Int):Bool:=decide (p.1=6)||decide (p.1=7)
theorem Zkf (es:List (Int × Int)):es.any badP = !Zaw es:=by
 unfold Zaw
 induction es with
 | nil=>rfl
 | cons p es ih=>rw[List.any_cons,List.all_cons,ih];simp[badP]
theorem Zes (k l:Int) (w:World) (r:Bool) (hr:badP (k,l)=r) :
  Calls Try.prog 87 #[.agg #[.int .i64 k,.int .i64 l]] w fun e w'=>e = .returned (.bool r)∧Below w.heap.size w w':=by
 have HS:=qh ((St.start w).alloc w.heap.size rfl #[.int .i64 k,.int .i64 l] 72);have e0:=HS.out.cell (v:=.int .i64 k) 0 0 rfl rfl;unfold badP at hr;by_cases h6:k=6
 ·obtain⟨q1,q2,q3⟩:=Za0 h6;rw[decide_eq_true h6] at hr;subst hr;replace h6:=qh h6
  go_enter Try.func87, Try.ntmps87
  go_wp2;go_ret;exact⟨rfl,HS.out.bel⟩
 obtain⟨q1,q2,q3,q4⟩:=Zan h6;rw[decide_eq_false h6,Bool.false_or] at hr;replace h6:=qh h6;by_cases h7:k=7
 ·obtain⟨p1,p2,p3⟩:=Za0 h7;rw[decide_eq_true h7] at hr;subst hr;have Hh7:=qh h7;clear h7
  go_enter Try.func87, Try.ntmps87
  go_wp2;go_ret;exact⟨rfl,HS.out.bel⟩
 obtain⟨p1,p2,p3,p4⟩:=Zan h7;rw[decide_eq_false h7] at hr;subst hr;have Hh7:=qh h7;clear h7
 go_enter Try.func87, Try.ntmps87
 go_wp2;go_ret;exact⟨rfl,HS.out.bel⟩
theorem Zft (es:List (Int × Int)) (v:Value) (w:World) (h1:Pairs 0 w v es) :
  Calls Try.prog 123 #[v,.func (.func 87) #[] #[]] w fun e w'=>e = .returned (.int .i64 (Zbn badP es))∧Below w.heap.size w w':=by
 obtain⟨a1,c1,rfl,hc1,hm1,hr1⟩:=h1.form;clear h1
 go_enter Try.func123, Try.ntmps123
 go_wp2
 go_loopw [4,8] (fun r i wr=>∃ k:Nat,k≤es.length∧i = .int .i64 k∧(es.take k).any badP=false∧Below w.heap.size w wr) (fun _ i _=>es.length-(intOf i).toNat)
 case atStart=>exact⟨0,Nat.zero_le _,rfl,rfl,Below.refl _ _⟩
 case round =>
  obtain⟨k,hk,rfl,htk,hb⟩:=hrel;have HB:=qh hb;replace htk:=qh htk;clear hb;by_cases hlt:k<es.length
  ·obtain⟨b1,o1,rfl,-,hbl1,hcs1⟩:=hr1 (by omega);obtain⟨g1,g2⟩:=hcs1 k hlt;have hkI:(k:Int)<(es.length:Int):=by omega
   have k1:=(bcell HB.out b1 _ hbl1).trans g1;have k2:=(bcell HB.out b1 _ hbl1).trans g2;obtain⟨x,hxx⟩:=eI (es.getD k (0,0));rw[← hxx] at k1 k2;obtain⟨p1,p2⟩:=x;simp only at k1 k2;have Hhxx:=qh hxx;clear hxx;clear hcs1 hr1 g1 g2;cases hbd:badP (p1,p2)
   ·have Hv:=qh (fun u=>Zes p1 p2 u _ hbd);replace hbd:=qh hbd;go_wp2_with (go_at_call 87;refine(Hv.out _).mono ?_;rintro e w' ⟨rfl,hb2⟩;have HB2:=qh (HB.out.trans (hb2.mono HB.out.size));clear hb2);go_roundw
    case rel=>exact⟨k+1,by omega,by go_num,ZeS (d:=(0,0)) hlt htk.out (by rw[← Hhxx.out];exact hbd.out),HB2.out⟩
    case measure=>simp[intOf];omega
   have Hv:=qh (fun u=>Zes p1 p2 u _ hbd);replace hbd:=qh hbd;go_wp2_with (go_at_call 87;refine(Hv.out _).mono ?_;rintro e w' ⟨rfl,hb2⟩;have HB2:=qh (HB.out.trans (hb2.mono HB.out.size));clear hb2);go_ret;exact⟨ZcQ (by rw[ZbW (d:=(0,0)) hlt htk.out (by rw[← Hhxx.out];exact hbd.out)]),HB2.out⟩
  have hkI:¬ (k:Int)<(es.length:Int):=by omega
  clear hr1;go_wp2;go_ret;exact⟨ZcQ (by rw[ZbA (by omega) htk.out]),HB.out⟩
theorem ZdT (es:List (Int × Int)) (v:Value) (w:World) (h1:Pairs 0 w v es) (r:Bool) (hr:es.any badP=r) :
  Calls Try.prog 86 #[v,.func (.func 87) #[] #[]] w fun e w'=>e = .returned (.bool r)∧Below w.heap.size w w':=by
 obtain⟨a1,c1,hv,-⟩:=h1.form;have H1:=qh h1;subst hv;clear h1;replace hr:=qh hr
 go_enter Try.func86, Try.ntmps86
 go_wp2_with (go_at_call 123;refine(Zft es _ _ H1.out).mono ?_;rintro e w' ⟨rfl,hb2⟩;replace hb2:=qh hb2);go_ret;exact⟨Zcs (by rw[← hr.out,ZbX]),hb2.out⟩
theorem Zbi (es:List (Int × Int)) (v:Value) (w:World) (h:Pairs 0 w v es) (r:Bool) (hr:(exOk es&&Zaw es)=r) :
  Calls Try.prog 30 #[v] w fun e w'=>e = .returned (.bool r)∧Below w.heap.size w w':=by
 have H:=qh h;obtain⟨a1,c1,hv,-⟩:=h.form;subst hv;clear h;cases hx:exOk es with
 | false =>
  rw[hx,Bool.false_and] at hr;subst hr;have Hv:=qh (fun v u h=>ZaL es v u h false hx);clear hx
  go_enter Try.func30, Try.ntmps30
  go_wp2_with (go_at_call 52;refine(Hv.out _ _ H.out).mono ?_;rintro e w1 ⟨rfl,hb1⟩;replace hb1:=qh hb1);go_ret;exact⟨rfl,hb1.out⟩
 | true =>
  rw[hx,Bool.true_and] at hr;have hb:=Zkf es;rw[hr] at hb;have Hv:=qh (fun v u h=>ZaL es v u h true hx);have Hc:=qh (fun v u h=>ZdT es v u h _ hb);clear hx hb hr;cases r with
  | true =>
   go_enter Try.func30, Try.ntmps30
   go_wp2_with (first
    | (go_at_call 52;refine(Hv.out _ _ H.out).mono ?_;rintro e w1 ⟨rfl,hb1⟩;replace hb1:=qh hb1)
    | (go_at_call 86;refine(Hc.out _ _ (H.out.below hb1.out)).mono ?_;rintro e w2 ⟨rfl,hb2⟩;have HB2:=qh (hb1.out.trans (hb2.mono hb1.out.size));clear hb2))
   go_ret;exact⟨rfl,HB2.out⟩
  | false =>
   go_enter Try.func30, Try.ntmps30
   go_wp2_with (first
    | (go_at_call 52;refine(Hv.out _ _ H.out).mono ?_;rintro e w1 ⟨rfl,hb1⟩;replace hb1:=qh hb1)
    | (go_at_call 86;refine(Hc.out _ _ (H.out.below hb1.out)).mono ?_;rintro e w2 ⟨rfl,hb2⟩;have HB2:=qh (hb1.out.trans (hb2.mono hb1.out.size));clear hb2))
   go_ret;exact⟨rfl,HB2.out⟩
end Go.Proofs.Ytfanhfcamblghaa
