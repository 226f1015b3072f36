/-
  The walks over the reference's draws of texts.
  Condition: the argument reads as bytes.
-/
import Derived.Test.YtfgpkadhegdffaaPt18Ry
import Derived.Test.YtfgpkadhegdffaaPt22Jt
set_option maxHeartbeats 16000000
set_option maxRecDepth 100000
namespace Go.Proofs.Ytfgpkadhegdffaa
open Go.RowKit
theorem ZbK (bs:List Nat) (v:Value) (w:World) (hb:Bytes 0 w v bs) (hlen:bs.length≤100000000) :
  Calls Try.prog 28 #[v] w fun e w'=>(∃ (s l:List Nat),isT s∧s.length≤300∧isT l∧l.length≤10∧e = .returned (.tuple #[.string (txB s),.string (txB l)]))∧Below w.heap.size w w':=by
 have Hb:=qh hb;clear hb
 go_enter Try.func28, Try.ntmps28
 go_wp2_with fail;refine(Zgh bs v _ Hb.out hlen).mono ?_;rintro e w1 ⟨vb,bs',hl',hB,rfl,hS'⟩;have HB:=qh hB;have HS1:=qh hS';clear hB hS';go_wp2_with fail;refine(Zee bs' vb w.heap.size 0 12 w w1 _ HB.out hl' (by omega) (by omega) (St.pack (A:=[RdE w.heap.size vb 0]) (R:=[]) HS1.out)).mono ?_;rintro e w2 ⟨s,p',hs,hsl,hp,rfl,hS2⟩;have HS2:=qh hS2;have Hs:=qh hs;clear hS2 hs HS1;go_wp2_with fail;refine(ZdI bs' vb w.heap.size p' 12 w _ _ HB.out hl' (by omega) (by omega) HS2.out).mono ?_;rintro e w3 ⟨l,p2,ht,htl,hp2,rfl,hS3⟩;have HS3:=qh hS3;have Ht:=qh ht;clear hS3 ht HS2;go_wp2;refine bodyPost_ret (v:=.tuple #[.string (txB s),.string (txB l)]) (by simp[results,Try.results28,go_sem]) rfl ?_;exact⟨⟨s,l,Hs.out,hsl,Ht.out,htl,rfl⟩,HS3.out.bel⟩
theorem Zc4 (bs:List Nat) (v:Value) (w:World) (hb:Bytes 0 w v bs) :
  Calls Try.prog 7 #[v] w fun e w'=>e = .returned (.bool true)∧Below w.heap.size w w':=by
 have HB:=qh hb;obtain⟨av,cv,rfl,hcv1,hcv2,-⟩:=hb.form;clear hb;by_cases hlen:1048576<bs.length
 ·have hl2:(1048576:Int)<bs.length:=by omega
  go_enter Try.func7, Try.ntmps7
  go_wp2;go_ret;exact⟨rfl,Below.refl _ _⟩
 have hl2:¬ (1048576:Int)<bs.length:=by omega
 go_enter Try.func7, Try.ntmps7
 go_wp2_with fail;refine(ZbK bs _ _ HB.out (by omega)).mono ?_;rintro e w1 ⟨⟨s,l,hs,hsl,hl,hll,rfl⟩,hb1⟩;obtain⟨r,hr⟩:=ZfU s l;have HW:=qh hb1;have hrr:(r==r)=true:=beq_self_eq_true r;have hrn:(r != r)=false:=by simp
 replace hs:=qh hs;replace hl:=qh hl;have Hhr:=qh hr;clear hr;clear hb1;go_wp2_with fail;refine(Za1 s l _ r Hhr.out hs.out hl.out (by omega)).mono ?_;rintro e w2 ⟨rfl,hb⟩;have HW2:=qh (HW.out.trans (hb.mono HW.out.size));clear hb;go_wp2_with fail;refine(ZaY s l _ r Hhr.out hs.out hl.out (by omega)).mono ?_;rintro e w3 ⟨rfl,hb⟩;have HW3:=qh (HW2.out.trans (hb.mono HW2.out.size));clear hb;go_wp2_with fail;refine(Zbo s _ hs.out).mono ?_;rintro e w4 (⟨hn,rfl,hb⟩|⟨es,a,c,hn,rfl,hS⟩)
 ·have hrf:r=false:=by
   rcases Hhr.out with⟨-,h⟩|⟨es,h,-⟩
   ·exact h
   rw[hn] at h;cases h
  subst hrf;have HW4:=qh (HW3.out.trans (hb.mono HW3.out.size));clear hb hn;go_wp2_with (go_at_call 14;refine(ZdR _).mono ?_;rintro e w' ⟨rfl,rfl⟩);go_ret;exact⟨rfl,HW4.out⟩
 have hro:AccO es l r:=by
  rcases Hhr.out with⟨h,-⟩|⟨es',h,h2⟩
  ·rw[hn] at h;cases h
  rw[hn] at h;obtain rfl:=Option.some.inj h;exact h2
 have HP:=qh (Zag (hS.row 0 rfl));have HW4:=qh (HW3.out.trans (hS.bel.mono HW3.out.size));have Hro:=qh hro;clear hn hS hro
 go_wp2_with (first
  | (go_at_call 24;refine(Za2 es l _ _ r Hro.out HP.out hl.out (by omega)).mono ?_;rintro e w5 ⟨rfl,hb⟩;have HW5:=qh (HW4.out.trans (hb.mono HW4.out.size));clear hb)
  | (go_at_call 14;refine(ZdR _).mono ?_;rintro e w' ⟨rfl,rfl⟩))
 go_ret;exact⟨rfl,HW5.out⟩
end Go.Proofs.Ytfgpkadhegdffaa
