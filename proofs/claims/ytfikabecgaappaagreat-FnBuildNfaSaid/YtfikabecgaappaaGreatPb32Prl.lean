/-
  The walks over the program's isPlain and leafNfa.
  Conditions: the parts read as such; the leaf is a valid part without operands.
-/
import Derived.Test.YtfikabecgaappaaGreatPb12Lm
import Derived.Test.YtfikabecgaappaaGreatPb25Wlg
import Derived.Test.YtfikabecgaappaaGreatPb28Im
import Derived.Test.YtfikabecgaappaaGreatPb31Ivs
set_option maxHeartbeats 4000000
set_option maxRecDepth 100000
namespace Go.Proofs.YtfikabecgaappaaGreat
open Go.RowKit
def ZcG (p:Int × Int):NfaD:=if p.1=1 then zeN else if p.1=2 then epsN else⟨2,[(0,p.2,1)],[0],[1]⟩
def badP (p:Int × Int):Bool:=decide (p.1=6)||decide (p.1=7)
theorem ZlO (es:List (Int × Int)):es.any badP = !Zay es:=by
 unfold Zay
 induction es with
 | nil=>rfl
 | cons p es ih=>rw[List.any_cons,List.all_cons,ih];simp[badP]
theorem ZeZ (k l:Int) (w:World) (r:Bool) (hr:badP (k,l)=r) :
  Calls Tryz.prog 78 #[.agg #[.int .i64 k,.int .i64 l]] w fun e w'=>e = .returned (.bool r)∧Below w.heap.size w w':=by
 have HS:=qh ((St.start w).alloc w.heap.size rfl #[.int .i64 k,.int .i64 l] 57);have e0:=HS.out.cell (v:=.int .i64 k) 0 0 rfl rfl;unfold badP at hr;by_cases h6:k=6
 ·obtain⟨q1,q2,q3⟩:=Zbh h6;rw[decide_eq_true h6] at hr;subst hr;replace h6:=qh h6
  go_enter Tryz.func78, Tryz.ntmps78
  go_wp2;go_ret;exact⟨rfl,HS.out.bel⟩
 obtain⟨q1,q2,q3,q4⟩:=Zaz h6;rw[decide_eq_false h6,Bool.false_or] at hr;replace h6:=qh h6;by_cases h7:k=7
 ·obtain⟨p1,p2,p3⟩:=Zbh h7;rw[decide_eq_true h7] at hr;subst hr;have Hh7:=qh h7;clear h7
  go_enter Tryz.func78, Tryz.ntmps78
  go_wp2;go_ret;exact⟨rfl,HS.out.bel⟩
 obtain⟨p1,p2,p3,p4⟩:=Zaz h7;rw[decide_eq_false h7] at hr;subst hr;have Hh7:=qh h7;clear h7
 go_enter Tryz.func78, Tryz.ntmps78
 go_wp2;go_ret;exact⟨rfl,HS.out.bel⟩
theorem Zgd (es:List (Int × Int)) (v:Value) (w:World) (h1:Pairs 0 w v es) :
  Calls Tryz.prog 123 #[v,.func (.func 78) #[] #[]] w fun e w'=>e = .returned (.int .i64 (ZbI badP es))∧Below w.heap.size w w':=by
 obtain⟨a1,c1,rfl,hc1,hm1,hr1⟩:=h1.form;clear h1
 go_enter Tryz.func123, Tryz.ntmps123
 go_wp2
 go_loopw [4,8] (fun r i wr=>∃ k:Nat,k≤es.length∧i = .int .i64 k∧(es.take k).any badP=false∧Below w.heap.size w wr) (fun _ i _=>es.length-(intOf i).toNat)
 case atStart=>exact⟨0,Nat.zero_le _,rfl,rfl,Below.refl _ _⟩
 case round =>
  obtain⟨k,hk,rfl,htk,hb⟩:=hrel;have HB:=qh hb;replace htk:=qh htk;clear hb;by_cases hlt:k<es.length
  ·obtain⟨b1,o1,rfl,-,hbl1,hcs1⟩:=hr1 (by omega);obtain⟨g1,g2⟩:=hcs1 k hlt;have hkI:(k:Int)<(es.length:Int):=by omega
   have k1:=(bcell HB.out b1 _ hbl1).trans g1;have k2:=(bcell HB.out b1 _ hbl1).trans g2;obtain⟨x,hxx⟩:=eI (es.getD k (0,0));rw[← hxx] at k1 k2;obtain⟨p1,p2⟩:=x;simp only at k1 k2;have Hhxx:=qh hxx;clear hxx;clear hcs1 hr1 g1 g2;cases hbd:badP (p1,p2)
   ·have Hv:=qh (fun u=>ZeZ p1 p2 u _ hbd);replace hbd:=qh hbd;go_wp2_with (go_at_call 78;refine(Hv.out _).mono ?_;rintro e w' ⟨rfl,hb2⟩;have HB2:=qh (HB.out.trans (hb2.mono HB.out.size));clear hb2);go_roundw
    case rel=>exact⟨k+1,by omega,by go_num,Zep (d:=(0,0)) hlt htk.out (by rw[← Hhxx.out];exact hbd.out),HB2.out⟩
    case measure=>simp[intOf];omega
   have Hv:=qh (fun u=>ZeZ p1 p2 u _ hbd);replace hbd:=qh hbd;go_wp2_with (go_at_call 78;refine(Hv.out _).mono ?_;rintro e w' ⟨rfl,hb2⟩;have HB2:=qh (HB.out.trans (hb2.mono HB.out.size));clear hb2);go_ret;exact⟨ZcE (by rw[ZbX (d:=(0,0)) hlt htk.out (by rw[← Hhxx.out];exact hbd.out)]),HB2.out⟩
  have hkI:¬ (k:Int)<(es.length:Int):=by omega
  clear hr1;go_wp2;go_ret;exact⟨ZcE (by rw[ZbH (by omega) htk.out]),HB.out⟩
theorem Zeh (es:List (Int × Int)) (v:Value) (w:World) (h1:Pairs 0 w v es) (r:Bool) (hr:es.any badP=r) :
  Calls Tryz.prog 77 #[v,.func (.func 78) #[] #[]] w fun e w'=>e = .returned (.bool r)∧Below w.heap.size w w':=by
 obtain⟨a1,c1,hv,-⟩:=h1.form;have H1:=qh h1;subst hv;clear h1;replace hr:=qh hr
 go_enter Tryz.func77, Tryz.ntmps77
 go_wp2_with (go_at_call 123;refine(Zgd es _ _ H1.out).mono ?_;rintro e w' ⟨rfl,hb2⟩;replace hb2:=qh hb2);go_ret;exact⟨ZbA (by rw[← hr.out,ZbY]),hb2.out⟩
theorem Zgc (es:List (Int × Int)) (v:Value) (w:World) (h:Pairs 0 w v es) (r:Bool) (hr:(exOk es&&Zay es)=r) :
  Calls Tryz.prog 30 #[v] w fun e w'=>e = .returned (.bool r)∧Below w.heap.size w w':=by
 have H:=qh h;obtain⟨a1,c1,hv,-⟩:=h.form;subst hv;clear h;cases hx:exOk es with
 | false =>
  rw[hx,Bool.false_and] at hr;subst hr;have Hv:=qh (fun v u h=>ZaU es v u h false hx);clear hx
  go_enter Tryz.func30, Tryz.ntmps30
  go_wp2_with (go_at_call 46;refine(Hv.out _ _ H.out).mono ?_;rintro e w1 ⟨rfl,hb1⟩;replace hb1:=qh hb1);go_ret;exact⟨rfl,hb1.out⟩
 | true =>
  rw[hx,Bool.true_and] at hr;have hb:=ZlO es;rw[hr] at hb;have Hv:=qh (fun v u h=>ZaU es v u h true hx);have Hc:=qh (fun v u h=>Zeh es v u h _ hb);clear hx hb hr;cases r with
  | true =>
   go_enter Tryz.func30, Tryz.ntmps30
   go_wp2_with (first
    | (go_at_call 46;refine(Hv.out _ _ H.out).mono ?_;rintro e w1 ⟨rfl,hb1⟩;replace hb1:=qh hb1)
    | (go_at_call 77;refine(Hc.out _ _ (H.out.below hb1.out)).mono ?_;rintro e w2 ⟨rfl,hb2⟩;have HB2:=qh (hb1.out.trans (hb2.mono hb1.out.size));clear hb2))
   go_ret;exact⟨rfl,HB2.out⟩
  | false =>
   go_enter Tryz.func30, Tryz.ntmps30
   go_wp2_with (first
    | (go_at_call 46;refine(Hv.out _ _ H.out).mono ?_;rintro e w1 ⟨rfl,hb1⟩;replace hb1:=qh hb1)
    | (go_at_call 77;refine(Hc.out _ _ (H.out.below hb1.out)).mono ?_;rintro e w2 ⟨rfl,hb2⟩;have HB2:=qh (hb1.out.trans (hb2.mono hb1.out.size));clear hb2))
   go_ret;exact⟨rfl,HB2.out⟩
theorem Zjq (k z:Int) (w:World) (hk:k=1∨k=2∨k=3) :
  Calls Tryz.prog 35 #[.agg #[.int .i64 k,.int .i64 z]] w fun e w'=>RNfaS (ZcG (k,z)) w e w':=by
 have HS0:=qh (((St.start w).alloc w.heap.size rfl #[.int .i64 k,.int .i64 z] 57).alloc (w.heap.size+1) (by simp) #[.int .i64 0,.slice none 0 0,.slice none 0 0,.slice none 0 0] 28)
 go_enter Tryz.func35, Tryz.ntmps35
 go_upto_region 1 with fail
 obtain⟨W,hW⟩:=eI ((w.alloc (.cells #[.int .i64 k,.int .i64 z] 57)).alloc (.cells #[.int .i64 0,.slice none 0 0,.slice none 0 0,.slice none 0 0] 28));rw[← hW] at HS0 ⊢;clear hW;rcases hk with rfl|rfl|rfl
 ·have e:ZcG (1,z)=zeN:=if_pos rfl;replace e:=qh e;have HSA:=qh (HS0.out);have e0:=HS0.out.cell (v:=.int .i64 1) 0 0 rfl rfl;have e1:=HS0.out.cell (v:=.int .i64 z) 0 1 rfl rfl;have f0:=HSA.out.fr 1 0 rfl;have f1:=HSA.out.fr 1 1 rfl;have f2:=HSA.out.fr 1 2 rfl;have f3:=HSA.out.fr 1 3 rfl;have k0:=HSA.out.cell (v:=.int .i64 0) 1 0 rfl rfl;have k1:=HSA.out.cell (v:=.slice none 0 0) 1 1 rfl rfl;have k2:=HSA.out.cell (v:=.slice none 0 0) 1 2 rfl rfl;have k3:=HSA.out.cell (v:=.slice none 0 0) 1 3 rfl rfl;go_wp2;have hq:=((((HSA.out.set 1 rfl 0 (.int .i64 0)).set 1 rfl 1 (.slice none 0 0)).set 1 rfl 2 (.slice none 0 0)).set 1 rfl 3 (.slice none 0 0));have q0:=hq.cell (v:=.int .i64 0) 1 0 rfl rfl;have q1:=hq.cell (v:=.slice none 0 0) 1 1 rfl rfl;have q2:=hq.cell (v:=.slice none 0 0) 1 2 rfl rfl;have q3:=hq.cell (v:=.slice none 0 0) 1 3 rfl rfl;refine bodyPost_ret (v:=.agg #[.int .i64 0,.slice none 0 0,.slice none 0 0,.slice none 0 0]) (by simp[results,Tryz.results35,go_sem,q0,q1,q2,q3]) rfl ?_;rw[e.out];exact⟨_,_,_,_,_,_,rfl,((((St.start w).call hq.bel).nilRow 72 3).nilRow 3 1).nilRow 3 1⟩
 ·have e:ZcG (2,z)=epsN:=by unfold ZcG;rw[if_neg (by show ¬ (2:Int)=1;omega),if_pos rfl]
  replace e:=qh e;have HSA:=qh ((((HS0.out.alloc (W.heap.size) (by simp) #[.int .i64 0] 3).boxrow 2 1 1 [.int .i64 0] rfl rfl (by unfold maxLen;omega)).alloc (W.heap.size+1) (by simp) #[.int .i64 0] 3).boxrow 3 1 1 [.int .i64 0] rfl rfl (by unfold maxLen;omega));have e0:=HS0.out.cell (v:=.int .i64 2) 0 0 rfl rfl;have e1:=HS0.out.cell (v:=.int .i64 z) 0 1 rfl rfl;have f0:=HSA.out.fr 1 0 rfl;have f1:=HSA.out.fr 1 1 rfl;have f2:=HSA.out.fr 1 2 rfl;have f3:=HSA.out.fr 1 3 rfl;have k0:=HSA.out.cell (v:=.int .i64 0) 1 0 rfl rfl;have k1:=HSA.out.cell (v:=.slice none 0 0) 1 1 rfl rfl;have k2:=HSA.out.cell (v:=.slice none 0 0) 1 2 rfl rfl;have k3:=HSA.out.cell (v:=.slice none 0 0) 1 3 rfl rfl;go_wp2;have hq:=((((HSA.out.set 1 rfl 0 (.int .i64 1)).set 1 rfl 1 (.slice none 0 0)).set 1 rfl 2 (.slice (some ⟨W.heap.size,0,none⟩) 1 1)).set 1 rfl 3 (.slice (some ⟨W.heap.size+1,0,none⟩) 1 1));have q0:=hq.cell (v:=.int .i64 1) 1 0 rfl rfl;have q1:=hq.cell (v:=.slice none 0 0) 1 1 rfl rfl;have q2:=hq.cell (v:=.slice (some ⟨W.heap.size,0,none⟩) 1 1) 1 2 rfl rfl;have q3:=hq.cell (v:=.slice (some ⟨W.heap.size+1,0,none⟩) 1 1) 1 3 rfl rfl;refine bodyPost_ret (v:=.agg #[.int .i64 1,.slice none 0 0,.slice (some ⟨W.heap.size,0,none⟩) 1 1,.slice (some ⟨W.heap.size+1,0,none⟩) 1 1]) (by simp[results,Tryz.results35,go_sem,q0,q1,q2,q3]) rfl ?_;rw[e.out];exact⟨_,_,_,_,_,_,rfl,(hq.nilRow 72 3).pick [4,2,3] (by decide)⟩
 have e:ZcG (3,z)=⟨2,[(0,z,1)],[0],[1]⟩:=by unfold ZcG;rw[if_neg (by show ¬ (3:Int)=1;omega),if_neg (by show ¬ (3:Int)=2;omega)]
 replace e:=qh e;have HSA:=qh ((((((HS0.out.alloc (W.heap.size) (by simp) #[.int .i64 0,.int .i64 z,.int .i64 1] 72).boxrow 2 1 3 [.int .i64 0,.int .i64 z,.int .i64 1] rfl rfl (by unfold maxLen;omega)).alloc (W.heap.size+1) (by simp) #[.int .i64 0] 3).boxrow 3 1 1 [.int .i64 0] rfl rfl (by unfold maxLen;omega)).alloc (W.heap.size+1+1) (by simp) #[.int .i64 1] 3).boxrow 4 1 1 [.int .i64 1] rfl rfl (by unfold maxLen;omega));have e0:=HS0.out.cell (v:=.int .i64 3) 0 0 rfl rfl;have e1:=HS0.out.cell (v:=.int .i64 z) 0 1 rfl rfl;have f0:=HSA.out.fr 1 0 rfl;have f1:=HSA.out.fr 1 1 rfl;have f2:=HSA.out.fr 1 2 rfl;have f3:=HSA.out.fr 1 3 rfl;have k0:=HSA.out.cell (v:=.int .i64 0) 1 0 rfl rfl;have k1:=HSA.out.cell (v:=.slice none 0 0) 1 1 rfl rfl;have k2:=HSA.out.cell (v:=.slice none 0 0) 1 2 rfl rfl;have k3:=HSA.out.cell (v:=.slice none 0 0) 1 3 rfl rfl;go_wp2;have hq:=((((HSA.out.set 1 rfl 0 (.int .i64 2)).set 1 rfl 1 (.slice (some ⟨W.heap.size,0,none⟩) 1 1)).set 1 rfl 2 (.slice (some ⟨W.heap.size+1,0,none⟩) 1 1)).set 1 rfl 3 (.slice (some ⟨W.heap.size+1+1,0,none⟩) 1 1));have q0:=hq.cell (v:=.int .i64 2) 1 0 rfl rfl;have q1:=hq.cell (v:=.slice (some ⟨W.heap.size,0,none⟩) 1 1) 1 1 rfl rfl;have q2:=hq.cell (v:=.slice (some ⟨W.heap.size+1,0,none⟩) 1 1) 1 2 rfl rfl;have q3:=hq.cell (v:=.slice (some ⟨W.heap.size+1+1,0,none⟩) 1 1) 1 3 rfl rfl
 refine bodyPost_ret (v:=.agg #[.int .i64 2,.slice (some ⟨W.heap.size,0,none⟩) 1 1,.slice (some ⟨W.heap.size+1,0,none⟩) 1 1,.slice (some ⟨W.heap.size+1+1,0,none⟩) 1 1]) (by simp[results,Tryz.results35,go_sem,q0,q1,q2,q3]) rfl ?_;rw[e.out];exact⟨_,_,_,_,_,_,rfl,hq.pick [2,3,4] (by decide)⟩
def optN (q:NfaD × Bool):Option NfaD:=if q.2=true then some q.1 else none
def Zcm (k:Int) (a b:NfaD):Option NfaD:=if k=5 then optN (Zbx a b) else optN (Zb4 a b)
def bldE:Ex→Option NfaD
 | .zero=>some (ZcG (1,0))
 | .one=>some (ZcG (2,0))
 | .ltr c=>some (ZcG (3,(c.val:Int)))
 | .join a b=>(bldE a).bind fun x=>(bldE b).bind fun y=>Zcm 4 x y
 | .alt a b=>(bldE a).bind fun x=>(bldE b).bind fun y=>Zcm 5 x y
 | .star a=>(bldE a).bind fun x=>optN (Zbk x)
 | .both _ _=>none
 | .neg _=>none
def ZdB:Ex→Prop
 | .join a b=>ZdB a∧ZdB b
 | .alt a b=>ZdB a∧ZdB b
 | .star a=>ZdB a
 | .both _ _=>False
 | .neg _=>False
 | _=>True
theorem Zeu:∀ (t:Ex),Zay t.post=true→ZdB t:=by
 intro t;have ap:∀ (x y:List (Int × Int)),Zay (x++y)=(Zay x&&Zay y):=fun x y=>List.all_append
 induction t with
 | zero=>exact fun _=>trivial
 | one=>exact fun _=>trivial
 | ltr c=>exact fun _=>trivial
 | join a b ha hb =>intro h;have h:Zay (a.post++b.post++[(4,0)])=true:=h;rw[ap,ap,Bool.and_eq_true,Bool.and_eq_true] at h;exact⟨ha h.1.1,hb h.1.2⟩
 | alt a b ha hb =>intro h;have h:Zay (a.post++b.post++[(5,0)])=true:=h;rw[ap,ap,Bool.and_eq_true,Bool.and_eq_true] at h;exact⟨ha h.1.1,hb h.1.2⟩
 | both a b ha hb =>intro h;have h:Zay (a.post++b.post++[(6,0)])=true:=h;rw[ap,Bool.and_eq_true] at h;exact absurd h.2 (by decide)
 | neg a ha =>intro h;have h:Zay (a.post++[(7,0)])=true:=h;rw[ap,Bool.and_eq_true] at h;exact absurd h.2 (by decide)
 | star a ha =>intro h;have h:Zay (a.post++[(8,0)])=true:=h;rw[ap,Bool.and_eq_true] at h;exact ha h.1
def Ze2 (p:Int × Int) (st:List NfaD):Option (List NfaD) :=
 if Zad p=0 then some (ZcG p::st)
 else if Zad p=1 then
  match st with
  | a::r=>(optN (Zbk a)).map (·::r)
  | []=>none
 else
  match st with
  | b::a::r=>(Zcm p.1 a b).map (·::r)
  | _=>none
def runB:List (Int × Int)→List NfaD→Option (List NfaD)
 | [],st=>some st
 | p::ps,st=>(Ze2 p st).bind (runB ps)
theorem ZlD:∀ (t:Ex) (rest:List (Int × Int)) (st:List NfaD),ZdB t→runB (t.post++rest) st=(bldE t).bind fun d=>runB rest (d::st):=by
 intro t
 induction t with
 | zero=>exact fun rest st _=>rfl
 | one=>exact fun rest st _=>rfl
 | ltr c =>
  intro rest st _;have e:Ze2 (3,(c.val:Int)) st=some (ZcG (3,(c.val:Int))::st):=by unfold Ze2;rw[if_pos (ZdW c)]
  show(Ze2 (3,(c.val:Int)) st).bind (runB rest)=_;rw[e];rfl
 | join a b ha hb =>
  intro rest st hp;show runB ((a.post++b.post++[(4,0)])++rest) st=_;rw[List.append_assoc,List.append_assoc,ha _ _ hp.1];show _=((bldE a).bind fun x=>(bldE b).bind fun y=>Zcm 4 x y).bind _;cases hx:bldE a with
  | none=>rfl
  | some x =>
   show runB (b.post++([(4,0)]++rest)) (x::st)=((bldE b).bind fun y=>Zcm 4 x y).bind _;rw[hb _ _ hp.2];cases hy:bldE b with
   | none=>rfl
   | some y =>show((Zcm 4 x y).map (·::st)).bind (runB rest)=(Zcm 4 x y).bind _;cases Zcm 4 x y<;>rfl
 | alt a b ha hb =>
  intro rest st hp;show runB ((a.post++b.post++[(5,0)])++rest) st=_;rw[List.append_assoc,List.append_assoc,ha _ _ hp.1];show _=((bldE a).bind fun x=>(bldE b).bind fun y=>Zcm 5 x y).bind _;cases hx:bldE a with
  | none=>rfl
  | some x =>
   show runB (b.post++([(5,0)]++rest)) (x::st)=((bldE b).bind fun y=>Zcm 5 x y).bind _;rw[hb _ _ hp.2];cases hy:bldE b with
   | none=>rfl
   | some y =>show((Zcm 5 x y).map (·::st)).bind (runB rest)=(Zcm 5 x y).bind _;cases Zcm 5 x y<;>rfl
 | both a b ha hb=>exact fun rest st hp=>hp.elim
 | neg a ha=>exact fun rest st hp=>hp.elim
 | star a ha =>
  intro rest st hp;show runB ((a.post++[(8,0)])++rest) st=_;rw[List.append_assoc,ha _ _ hp];show _=((bldE a).bind fun x=>optN (Zbk x)).bind _;cases hx:bldE a with
  | none=>rfl
  | some x =>show((optN (Zbk x)).map (·::st)).bind (runB rest)=(optN (Zbk x)).bind _;cases optN (Zbk x)<;>rfl
theorem Zky (t:Ex) (h:ZdB t):runB t.post []=(bldE t).map fun d=>[d]:=by have h:=ZlD t [] [] h;rw[List.append_nil] at h;rw[h];cases bldE t<;>rfl
theorem ZlR {a n:NfaD} (h:optN (Zbk a)=some n):Zal a=true∧Zal n=true∧n=Zbj a:=by
 unfold optN Zbk limN at h;by_cases h1:Zal a=true
 ·rw[if_pos h1] at h;by_cases h2:Zal (Zbj a)=true
  ·rw[if_pos h2,if_pos rfl] at h;obtain rfl:=Option.some.inj h;exact⟨h1,h2,rfl⟩
  rw[if_neg h2,if_neg (by decide)] at h;cases h
 rw[if_neg h1,if_neg (by decide)] at h;cases h
theorem ZlS {a b n:NfaD} (h:optN (Zb4 a b)=some n):Zal a=true∧Zal b=true∧Zal n=true∧n=ZbL a b:=by
 unfold optN at h
 split at h
 ·rename_i h1;obtain rfl:=Option.some.inj h;obtain⟨g1,g2,g3,g4⟩:=ZkK (p:=a) (q:=b) (X:=(Zb4 a b).1) (by rw[← h1]);exact⟨g1,g2,g3,g4⟩
 cases h
theorem ZlT {a b n:NfaD} (h:optN (Zbx a b)=some n):Zal a=true∧Zal b=true∧Zal n=true∧n=ZcH a b:=by
 unfold optN at h
 split at h
 ·rename_i h1;obtain rfl:=Option.some.inj h;obtain⟨g1,g2,g3,g4⟩:=ZkY (p:=a) (q:=b) (X:=(Zbx a b).1) (by rw[← h1]);exact⟨g1,g2,g3,g4⟩
 cases h
theorem ZoE {c:Nat} {s t:Int} {x:List Nat} (h:Pth [(0,(c:Int),1)] s x t):(s=0→(x=[]∧t=0)∨(x=[c]∧t=1))∧(s=1→x=[]∧t=1):=by
 induction h with
 | here s=>exact⟨fun h => .inl ⟨rfl,h⟩,fun h=>⟨rfl,h⟩⟩
 | eps hm _ ih =>simp only[List.mem_singleton,Prod.mk.injEq] at hm;omega
 | step hm _ ih =>simp only[List.mem_singleton,Prod.mk.injEq] at hm;obtain⟨rfl,h2,rfl⟩:=hm;obtain⟨h3,rfl⟩:=ih.2 rfl;refine⟨fun _ => .inr ⟨?_,rfl⟩,fun h=>by omega⟩;rw[h3];congr 1;omega
theorem ZoG {p:Int × Int} (h:p.1=3→0≤p.2∧p.2≤2) (h1:p.1=1∨p.1=2∨p.1=3):Zal (ZcG p)=true:=by
 obtain⟨k,x⟩:=p;simp only at h h1;rcases h1 with rfl|rfl|rfl
 ·rw[show ZcG (1,x)=zeN from if_pos rfl];decide
 ·rw[show ZcG (2,x)=epsN by unfold ZcG;rw[if_neg (by show ¬ (2:Int)=1;omega),if_pos rfl]];decide
 obtain⟨h2,h3⟩:=h rfl;obtain rfl|rfl|rfl:x=0∨x=1∨x=2:=by omega
 all_goals decide
theorem Zh5:∀ (t:Ex) (n:NfaD),ZdB t→bldE t=some n→Zal n=true∧∀ x,isW x→(accP n x↔memE t x):=by
 intro t
 induction t with
 | zero =>intro n _ h;obtain rfl:=Option.some.inj h;refine⟨by decide,fun x _=>⟨fun ⟨f,hf,_⟩ => ?_,fun h=>h.elim⟩⟩;exact absurd hf (List.not_mem_nil)
 | one =>intro n _ h;obtain rfl:=Option.some.inj h;exact⟨by decide,fun x _=>(ZbK Zok x).symm.trans (ZoR x)⟩
 | ltr c =>
  intro n _ h;obtain rfl:=Option.some.inj h;refine⟨ZoG (fun _=>by have:=c.isLt;omega) (.inr (.inr rfl)),fun x _=>⟨?_,?_⟩⟩
  ·rintro⟨f,hf,e,he,hw⟩;obtain rfl:f=0:=List.mem_singleton.1 hf;obtain rfl:e=1:=List.mem_singleton.1 he;rcases(ZoE hw).1 rfl with⟨-,h⟩|⟨h,-⟩
   ·omega
   exact h
  intro h;obtain rfl:x=[c.val]:=h;exact⟨0,List.mem_singleton.2 rfl,1,List.mem_singleton.2 rfl,.step (List.mem_singleton.2 rfl) (.here _)⟩
 | join a b ha hb =>
  intro n hp h;have h:((bldE a).bind fun x=>(bldE b).bind fun y=>Zcm 4 x y)=some n:=h;rw[Option.bind_eq_some_iff] at h;obtain⟨A,hA,h⟩:=h;rw[Option.bind_eq_some_iff] at h;obtain⟨B,hB,h⟩:=h;obtain⟨h1,h2,h3,rfl⟩:=ZlS (show optN (Zb4 A B)=some n from h);obtain⟨-,iA⟩:=ha A hp.1 hA;obtain⟨-,iB⟩:=hb B hp.2 hB;obtain⟨sa,ea,-,hpm,-,hpf,-,hpe,-⟩:=Zai h1;obtain⟨sb,eb,-,hqm,-,hqf,-,hqe,-⟩:=Zai h2;refine⟨h3,fun x hx => ?_⟩;rw[ZiB ea hpm hqm hpf hpe hqf hqe];show _↔∃ u v,x=u++v∧memE a u∧memE b v;constructor
  ·rintro⟨u,v,rfl,hu,hv⟩;exact⟨u,v,rfl,(iA u (Zdx hx)).1 hu,(iB v (ZcO hx)).1 hv⟩
  rintro⟨u,v,rfl,hu,hv⟩;exact⟨u,v,rfl,(iA u (Zdx hx)).2 hu,(iB v (ZcO hx)).2 hv⟩
 | alt a b ha hb =>intro n hp h;have h:((bldE a).bind fun x=>(bldE b).bind fun y=>Zcm 5 x y)=some n:=h;rw[Option.bind_eq_some_iff] at h;obtain⟨A,hA,h⟩:=h;rw[Option.bind_eq_some_iff] at h;obtain⟨B,hB,h⟩:=h;obtain⟨h1,h2,h3,rfl⟩:=ZlT (show optN (Zbx A B)=some n from h);obtain⟨-,iA⟩:=ha A hp.1 hA;obtain⟨-,iB⟩:=hb B hp.2 hB;refine⟨h3,fun x hx => ?_⟩;refine(ZbK h3 x).symm.trans ?_;rw[ZkX h1 h2 h3,Bool.or_eq_true,ZbK h1,ZbK h2];exact or_congr (iA x hx) (iB x hx)
 | both a b ha hb=>exact fun n hp=>hp.elim
 | neg a ha=>exact fun n hp=>hp.elim
 | star a ha =>intro n hp h;have h:((bldE a).bind fun x=>optN (Zbk x))=some n:=h;rw[Option.bind_eq_some_iff] at h;obtain⟨A,hA,h⟩:=h;obtain⟨h1,h3,rfl⟩:=ZlR h;obtain⟨-,iA⟩:=ha A hp hA;obtain⟨sa,ea,-,hpm,-,hpf,-,hpe,-⟩:=Zai h1;refine⟨h3,fun x hx => ?_⟩;rw[Zif ea hpm hpf hpe];exact StarL.congr (fun u hu=>iA u hu) hx
theorem Zn7 {K:Nat} (hK:K=40) {t:Ex} (hp:ZdB t) {n:NfaD} (hn:bldE t=some n) {D C:DfaD} (hD:detK K n=some D) (hC:ZaE K t=some C) (hDo:Zak D.next D.ends=true):minD D=C:=by
 obtain⟨hok,hl⟩:=Zh5 t n hp hn;have e:minD D=minD C:=Zis (ZaP hDo) (ZaP (Zcz hK t hC)) fun w hw=>by rw[Bool.eq_iff_iff,Zki hD hw,ZbK hok,ZmG hK t hC w hw];exact hl w hw
 rw[e,Zh0 hK t hC]
end Go.Proofs.YtfikabecgaappaaGreat
namespace Go.Proofs.YtfikabecgaappaaGreat
def bnd:Ex→Nat
 | .alt _ _=>1
 | .both _ _=>2
 | .join _ _=>3
 | .neg _=>4
 | .star _=>5
 | _=>6
def brk (l:Nat) (a:Ex) (x:List Nat):List Nat:=if bnd a<l then 40::(x++[41]) else x
def prE:Ex→List Nat
 | .zero=>[48]
 | .one=>[49]
 | .ltr c=>[97+c.val]
 | .join a b=>brk 3 a (prE a)++brk 4 b (prE b)
 | .alt a b=>brk 1 a (prE a)++124::brk 2 b (prE b)
 | .both a b=>brk 2 a (prE a)++38::brk 3 b (prE b)
 | .neg a=>33::brk 4 a (prE a)
 | .star a=>brk 5 a (prE a)++[42]
/-! The reader. -/
abbrev PS:Type:=List (Int × Int) × List Nat × Bool
def Zpq (p:Int × Int) (st:List Ex):Option (List Ex) :=
 if p.1=1 then some (.zero::st) else if p.1=2 then some (.one::st) else if p.1=3 then some (.ltr (Fin.ofNat 3 p.2.toNat)::st)
 else if p.1=7 then(match st with|a::st=>some (.neg a::st)|[]=>none)
 else if p.1=8 then(match st with|a::st=>some (.star a::st)|[]=>none)
 else match st with
  | b::a::st=>if p.1=4 then some (.join a b::st) else if p.1=5 then some (.alt a b::st) else some (.both a b::st)
  | _=>none
def Zem:List (Int × Int)→List Ex→Option (List Ex)
 | [],st=>some st
 | p::r,st=>(Zpq p st).bind (Zem r)
theorem Zk3:∀ (t:Ex) (r:List (Int × Int)) (st:List Ex),Zem (t.post++r) st=Zem r (t::st):=by
 intro t
 induction t with
 | zero=>intro r st;rfl
 | one=>intro r st;rfl
 | ltr c =>
  intro r st;obtain⟨c,hc⟩:=c;obtain rfl|rfl|rfl:c=0∨c=1∨c=2:=by omega
  all_goals rfl
 | neg a ha=>intro r st;show Zem (a.post++[(7,0)]++r) st=_;rw[List.append_assoc,ha];rfl
 | star a ha=>intro r st;show Zem (a.post++[(8,0)]++r) st=_;rw[List.append_assoc,ha];rfl
 | join a b ha hb=>intro r st;show Zem (a.post++b.post++[(4,0)]++r) st=_;rw[List.append_assoc,List.append_assoc,ha,hb];rfl
 | alt a b ha hb=>intro r st;show Zem (a.post++b.post++[(5,0)]++r) st=_;rw[List.append_assoc,List.append_assoc,ha,hb];rfl
 | both a b ha hb=>intro r st;show Zem (a.post++b.post++[(6,0)]++r) st=_;rw[List.append_assoc,List.append_assoc,ha,hb];rfl
def Zld (e:List (Int × Int)):Option Ex:=match Zem e [] with
 | some [t]=>some t
 | _=>none
theorem Zfw (t:Ex):Zld t.post=some t:=by have:=Zk3 t [] [];rw[List.append_nil] at this;unfold Zld;rw[this];rfl
theorem Zfj {t u:Ex} (h:t.post=u.post):t=u:=by have h1:=Zfw t;rw[h,Zfw u] at h1;exact(Option.some.inj h1).symm
def Zpm (e:List (Int × Int)):List Nat:=if exOk e=true then(match Zld e with|some t=>prE t|none=>[]) else []
def yesR (x:PS) (s:List Nat):Prop:=x.2.2=false∧x.2.1=[]∧Zpm x.1=s
instance (x:PS) (s:List Nat):Decidable (yesR x s):=by unfold yesR;infer_instance
/-! How much is read. -/
/-! What is left is an end of what was there. -/
end Go.Proofs.YtfikabecgaappaaGreat
