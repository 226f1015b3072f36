/-
  The walk over the reference's l2Empty, by the tree.
  Condition: the expression reads as such.
-/
import Derived.Test.YtehmjmjedopkkaaGreatPd20Smk
set_option maxHeartbeats 8000000
namespace Go.Proofs.YtehmjmjedopkkaaGreat
open Go.RowKit
def EmpS (t:Ex):Prop:=∀ (v:Value) (w:World),Pairs 0 w v t.post→∀ r,hasE t=r→Calls Tryz.prog 103 #[v] w fun e w'=>e = .returned (.bool r)∧Below w.heap.size w w'
theorem ZnC (ta tb:Ex) (h60:(Ex.join ta tb).post.length≤60) (hta:EmpS ta) (htb:EmpS tb):EmpS (Ex.join ta tb):=by
 intro v w h r hr;obtain⟨rta,hrta⟩:∃ r,hasE ta=r:=⟨_,rfl⟩;obtain⟨rtb,hrtb⟩:∃ r,hasE tb=r:=⟨_,rfl⟩;rw[show hasE (Ex.join ta tb)=(hasE ta&&hasE tb) from rfl,hrta,hrtb] at hr;have hok:=Zaq _ h60;have Hh:=qh h;have hP:=h;rw[show(Ex.join ta tb).post=(ta.post++tb.post)++[(4,0)] from rfl] at hP;obtain⟨bb,off,cap,rfl,hc1,hc2,hbl,hcell⟩:=Za7 hP;obtain⟨m,hm⟩:=eI ((ta.post++tb.post).length);rw[← hm] at hc1 hcell Hh;rw[← hm];have hmI:m≤59:=by rw[hm];simp[Ex.post] at h60 ⊢;omega
 have Hcell:=qh hcell;have hw1:IntKind.i64.wrap ((m:Int)+1-1)=(m:Int):=by rw[IntWalk.i64_in _ (by omega)];omega
 have HTA:=qh (fun (v:Value) (w:World) (hp:Pairs 0 w v ta.post)=>hta v w hp rta hrta);have HTB:=qh (fun (v:Value) (w:World) (hp:Pairs 0 w v tb.post)=>htb v w hp rtb hrtb);replace hm:=qh hm;have Hhok:=qh hok;clear hok;clear h hP hcell hta hrta htb hrtb
 go_enter Tryz.func103, Tryz.ntmps103
 go_wp2_with fail;refine(Zas _ _ _ Hhok.out Hh.out).mono ?_;rintro e w2 ⟨vx,vy,xs,ys,hsp,rfl,hx,hy,hb2⟩;obtain⟨rfl,rfl⟩:=Zcg (a:=ta) (b:=tb) (p:=(4,0)) ZcW hsp;have HX:=qh hx;have HY:=qh hy;have HB2:=qh hb2;obtain⟨k1,k2⟩:=Hcell.out _ hb2;clear hsp hx hy hb2;subst hr;cases rta
 ·go_wp2_with fail;refine(HTA.out _ _ (HX.out)).mono ?_;rintro e w3 ⟨rfl,hb3⟩;have HB3b:=qh hb3;have HB3:=qh (HB2.out.trans (hb3.mono HB2.out.size));clear hb3;go_wp2;go_ret;exact⟨rfl,HB3.out⟩
 go_wp2_with fail;refine(HTA.out _ _ (HX.out)).mono ?_;rintro e w3 ⟨rfl,hb3⟩;have HB3b:=qh hb3;have HB3:=qh (HB2.out.trans (hb3.mono HB2.out.size));clear hb3;cases rtb
 ·go_wp2_with fail;refine(HTB.out _ _ (HY.out.below HB3b.out)).mono ?_;rintro e w4 ⟨rfl,hb4⟩;have HB4b:=qh hb4;have HB4:=qh (HB3.out.trans (hb4.mono HB3.out.size));clear hb4;go_wp2;go_ret;exact⟨rfl,HB4.out⟩
 go_wp2_with fail;refine(HTB.out _ _ (HY.out.below HB3b.out)).mono ?_;rintro e w4 ⟨rfl,hb4⟩;have HB4b:=qh hb4;have HB4:=qh (HB3.out.trans (hb4.mono HB3.out.size));clear hb4;go_wp2;go_ret;exact⟨rfl,HB4.out⟩
theorem ZnD (ta tb:Ex) (h60:(Ex.both ta tb).post.length≤60) (hta:EmpS ta) (htb:EmpS tb):EmpS (Ex.both ta tb):=by
 intro v w h r hr;obtain⟨rta,hrta⟩:∃ r,hasE ta=r:=⟨_,rfl⟩;obtain⟨rtb,hrtb⟩:∃ r,hasE tb=r:=⟨_,rfl⟩;rw[show hasE (Ex.both ta tb)=(hasE ta&&hasE tb) from rfl,hrta,hrtb] at hr;have hok:=Zaq _ h60;have Hh:=qh h;have hP:=h;rw[show(Ex.both ta tb).post=(ta.post++tb.post)++[(6,0)] from rfl] at hP;obtain⟨bb,off,cap,rfl,hc1,hc2,hbl,hcell⟩:=Za7 hP;obtain⟨m,hm⟩:=eI ((ta.post++tb.post).length);rw[← hm] at hc1 hcell Hh;rw[← hm];have hmI:m≤59:=by rw[hm];simp[Ex.post] at h60 ⊢;omega
 have Hcell:=qh hcell;have hw1:IntKind.i64.wrap ((m:Int)+1-1)=(m:Int):=by rw[IntWalk.i64_in _ (by omega)];omega
 have HTA:=qh (fun (v:Value) (w:World) (hp:Pairs 0 w v ta.post)=>hta v w hp rta hrta);have HTB:=qh (fun (v:Value) (w:World) (hp:Pairs 0 w v tb.post)=>htb v w hp rtb hrtb);replace hm:=qh hm;have Hhok:=qh hok;clear hok;clear h hP hcell hta hrta htb hrtb
 go_enter Tryz.func103, Tryz.ntmps103
 go_wp2_with fail;refine(Zas _ _ _ Hhok.out Hh.out).mono ?_;rintro e w2 ⟨vx,vy,xs,ys,hsp,rfl,hx,hy,hb2⟩;obtain⟨rfl,rfl⟩:=Zcg (a:=ta) (b:=tb) (p:=(6,0)) ZcX hsp;have HX:=qh hx;have HY:=qh hy;have HB2:=qh hb2;obtain⟨k1,k2⟩:=Hcell.out _ hb2;clear hsp hx hy hb2;subst hr;cases rta
 ·go_wp2_with fail;refine(HTA.out _ _ (HX.out)).mono ?_;rintro e w3 ⟨rfl,hb3⟩;have HB3b:=qh hb3;have HB3:=qh (HB2.out.trans (hb3.mono HB2.out.size));clear hb3;go_wp2;go_ret;exact⟨rfl,HB3.out⟩
 go_wp2_with fail;refine(HTA.out _ _ (HX.out)).mono ?_;rintro e w3 ⟨rfl,hb3⟩;have HB3b:=qh hb3;have HB3:=qh (HB2.out.trans (hb3.mono HB2.out.size));clear hb3;cases rtb
 ·go_wp2_with fail;refine(HTB.out _ _ (HY.out.below HB3b.out)).mono ?_;rintro e w4 ⟨rfl,hb4⟩;have HB4b:=qh hb4;have HB4:=qh (HB3.out.trans (hb4.mono HB3.out.size));clear hb4;go_wp2;go_ret;exact⟨rfl,HB4.out⟩
 go_wp2_with fail;refine(HTB.out _ _ (HY.out.below HB3b.out)).mono ?_;rintro e w4 ⟨rfl,hb4⟩;have HB4b:=qh hb4;have HB4:=qh (HB3.out.trans (hb4.mono HB3.out.size));clear hb4;go_wp2;go_ret;exact⟨rfl,HB4.out⟩
theorem ZoK (ta tb:Ex) (h60:(Ex.alt ta tb).post.length≤60) (hta:EmpS ta) (htb:EmpS tb):EmpS (Ex.alt ta tb):=by
 intro v w h r hr;obtain⟨rta,hrta⟩:∃ r,hasE ta=r:=⟨_,rfl⟩;obtain⟨rtb,hrtb⟩:∃ r,hasE tb=r:=⟨_,rfl⟩;rw[show hasE (Ex.alt ta tb)=(hasE ta||hasE tb) from rfl,hrta,hrtb] at hr;have hok:=Zaq _ h60;have Hh:=qh h;have hP:=h;rw[show(Ex.alt ta tb).post=(ta.post++tb.post)++[(5,0)] from rfl] at hP;obtain⟨bb,off,cap,rfl,hc1,hc2,hbl,hcell⟩:=Za7 hP;obtain⟨m,hm⟩:=eI ((ta.post++tb.post).length);rw[← hm] at hc1 hcell Hh;rw[← hm];have hmI:m≤59:=by rw[hm];simp[Ex.post] at h60 ⊢;omega
 have Hcell:=qh hcell;have hw1:IntKind.i64.wrap ((m:Int)+1-1)=(m:Int):=by rw[IntWalk.i64_in _ (by omega)];omega
 have HTA:=qh (fun (v:Value) (w:World) (hp:Pairs 0 w v ta.post)=>hta v w hp rta hrta);have HTB:=qh (fun (v:Value) (w:World) (hp:Pairs 0 w v tb.post)=>htb v w hp rtb hrtb);replace hm:=qh hm;have Hhok:=qh hok;clear hok;clear h hP hcell hta hrta htb hrtb
 go_enter Tryz.func103, Tryz.ntmps103
 go_wp2_with fail;refine(Zas _ _ _ Hhok.out Hh.out).mono ?_;rintro e w2 ⟨vx,vy,xs,ys,hsp,rfl,hx,hy,hb2⟩;obtain⟨rfl,rfl⟩:=Zcg (a:=ta) (b:=tb) (p:=(5,0)) Zd0 hsp;have HX:=qh hx;have HY:=qh hy;have HB2:=qh hb2;obtain⟨k1,k2⟩:=Hcell.out _ hb2;clear hsp hx hy hb2;subst hr;cases rta
 ·go_wp2_with fail;refine(HTA.out _ _ (HX.out)).mono ?_;rintro e w3 ⟨rfl,hb3⟩;have HB3b:=qh hb3;have HB3:=qh (HB2.out.trans (hb3.mono HB2.out.size));clear hb3;cases rtb
  ·go_wp2_with fail;refine(HTB.out _ _ (HY.out.below HB3b.out)).mono ?_;rintro e w4 ⟨rfl,hb4⟩;have HB4b:=qh hb4;have HB4:=qh (HB3.out.trans (hb4.mono HB3.out.size));clear hb4;go_wp2;go_ret;exact⟨rfl,HB4.out⟩
  go_wp2_with fail;refine(HTB.out _ _ (HY.out.below HB3b.out)).mono ?_;rintro e w4 ⟨rfl,hb4⟩;have HB4b:=qh hb4;have HB4:=qh (HB3.out.trans (hb4.mono HB3.out.size));clear hb4;go_wp2;go_ret;exact⟨rfl,HB4.out⟩
 go_wp2_with fail;refine(HTA.out _ _ (HX.out)).mono ?_;rintro e w3 ⟨rfl,hb3⟩;have HB3b:=qh hb3;have HB3:=qh (HB2.out.trans (hb3.mono HB2.out.size));clear hb3;go_wp2;go_ret;exact⟨rfl,HB3.out⟩
theorem ZoI (ta:Ex) (h60:(Ex.neg ta).post.length≤60) (hta:EmpS ta):EmpS (Ex.neg ta):=by
 intro v w h r hr;obtain⟨rta,hrta⟩:∃ r,hasE ta=r:=⟨_,rfl⟩;rw[show hasE (Ex.neg ta)=(!hasE ta) from rfl,hrta] at hr;have hok:=Zaq _ h60;have Hh:=qh h;have hP:=h;rw[show(Ex.neg ta).post=(ta.post)++[(7,0)] from rfl] at hP;obtain⟨bb,off,cap,rfl,hc1,hc2,hbl,hcell⟩:=Za7 hP;obtain⟨m,hm⟩:=eI ((ta.post).length);rw[← hm] at hc1 hcell Hh;rw[← hm];have hmI:m≤59:=by rw[hm];simp[Ex.post] at h60 ⊢;omega
 have Hcell:=qh hcell;have hw1:IntKind.i64.wrap ((m:Int)+1-1)=(m:Int):=by rw[IntWalk.i64_in _ (by omega)];omega
 have HTA:=qh (fun (v:Value) (w:World) (hp:Pairs 0 w v ta.post)=>hta v w hp rta hrta);replace hm:=qh hm;have Hhok:=qh hok;clear hok;clear h hP hcell hta hrta
 go_enter Tryz.func103, Tryz.ntmps103
 go_wp2_with fail;refine(Zas _ _ _ Hhok.out Hh.out).mono ?_;rintro e w2 ⟨vx,vy,xs,ys,hsp,rfl,hx,hy,hb2⟩;obtain⟨rfl,rfl⟩:=Zdc (a:=ta) (p:=(7,0)) ZdZ hsp;have HX:=qh hx;have HY:=qh hy;have HB2:=qh hb2;obtain⟨k1,k2⟩:=Hcell.out _ hb2;clear hsp hx hy hb2;subst hr;go_wp2_with fail;refine(HTA.out _ _ (HX.out)).mono ?_;rintro e w3 ⟨rfl,hb3⟩;have HB3b:=qh hb3;have HB3:=qh (HB2.out.trans (hb3.mono HB2.out.size));clear hb3;go_wp2;go_ret;exact⟨rfl,HB3.out⟩
theorem ZnB (ta:Ex) (h60:(Ex.star ta).post.length≤60):EmpS (Ex.star ta):=by
 intro v w h r hr;rw[show hasE (Ex.star ta)=true from rfl] at hr;have hok:=Zaq _ h60;have Hh:=qh h;have hP:=h;rw[show(Ex.star ta).post=(ta.post)++[(8,0)] from rfl] at hP;obtain⟨bb,off,cap,rfl,hc1,hc2,hbl,hcell⟩:=Za7 hP;obtain⟨m,hm⟩:=eI ((ta.post).length);rw[← hm] at hc1 hcell Hh;rw[← hm];have hmI:m≤59:=by rw[hm];simp[Ex.post] at h60 ⊢;omega
 have Hcell:=qh hcell;have hw1:IntKind.i64.wrap ((m:Int)+1-1)=(m:Int):=by rw[IntWalk.i64_in _ (by omega)];omega
 replace hm:=qh hm;have Hhok:=qh hok;clear hok;clear h hP hcell
 go_enter Tryz.func103, Tryz.ntmps103
 go_wp2_with fail;refine(Zas _ _ _ Hhok.out Hh.out).mono ?_;rintro e w2 ⟨vx,vy,xs,ys,hsp,rfl,hx,hy,hb2⟩;obtain⟨rfl,rfl⟩:=Zdc (a:=ta) (p:=(8,0)) ZcV hsp;have HX:=qh hx;have HY:=qh hy;have HB2:=qh hb2;obtain⟨k1,k2⟩:=Hcell.out _ hb2;clear hsp hx hy hb2;subst hr;go_wp2;go_ret;exact⟨rfl,HB2.out⟩
theorem ZnA:EmpS (Ex.zero):=by
 intro v w h r hr;rw[show hasE (Ex.zero)=false from rfl] at hr;have h60:(Ex.zero).post.length≤60:=by show 1≤60;decide
 have hok:=Zaq _ h60;have Hh:=qh h;have hP:=h;rw[show(Ex.zero).post=(([]:List (Int × Int)))++[(1,0)] from rfl] at hP;obtain⟨bb,off,cap,rfl,hc1,hc2,hbl,hcell⟩:=Za7 hP;obtain⟨m,hm⟩:=eI ((([]:List (Int × Int))).length);rw[← hm] at hc1 hcell Hh;rw[← hm];have hmI:m≤59:=by rw[hm];simp[Ex.post] at h60 ⊢
 have Hcell:=qh hcell;have hw1:IntKind.i64.wrap ((m:Int)+1-1)=(m:Int):=by rw[IntWalk.i64_in _ (by omega)];omega
 replace hm:=qh hm;have Hhok:=qh hok;clear hok;clear h hP hcell
 go_enter Tryz.func103, Tryz.ntmps103
 go_wp2_with fail;refine(Zas _ _ _ Hhok.out Hh.out).mono ?_;rintro e w2 ⟨vx,vy,xs,ys,hsp,rfl,hx,hy,hb2⟩;obtain⟨rfl,rfl⟩:=ZbE Zb5 hsp;have HX:=qh hx;have HY:=qh hy;have HB2:=qh hb2;obtain⟨k1,k2⟩:=Hcell.out _ hb2;clear hsp hx hy hb2;subst hr;go_wp2;go_ret;exact⟨rfl,HB2.out⟩
theorem ZoH:EmpS (Ex.one):=by
 intro v w h r hr;rw[show hasE (Ex.one)=true from rfl] at hr;have h60:(Ex.one).post.length≤60:=by show 1≤60;decide
 have hok:=Zaq _ h60;have Hh:=qh h;have hP:=h;rw[show(Ex.one).post=(([]:List (Int × Int)))++[(2,0)] from rfl] at hP;obtain⟨bb,off,cap,rfl,hc1,hc2,hbl,hcell⟩:=Za7 hP;obtain⟨m,hm⟩:=eI ((([]:List (Int × Int))).length);rw[← hm] at hc1 hcell Hh;rw[← hm];have hmI:m≤59:=by rw[hm];simp[Ex.post] at h60 ⊢
 have Hcell:=qh hcell;have hw1:IntKind.i64.wrap ((m:Int)+1-1)=(m:Int):=by rw[IntWalk.i64_in _ (by omega)];omega
 replace hm:=qh hm;have Hhok:=qh hok;clear hok;clear h hP hcell
 go_enter Tryz.func103, Tryz.ntmps103
 go_wp2_with fail;refine(Zas _ _ _ Hhok.out Hh.out).mono ?_;rintro e w2 ⟨vx,vy,xs,ys,hsp,rfl,hx,hy,hb2⟩;obtain⟨rfl,rfl⟩:=ZbE Zb4 hsp;have HX:=qh hx;have HY:=qh hy;have HB2:=qh hb2;obtain⟨k1,k2⟩:=Hcell.out _ hb2;clear hsp hx hy hb2;subst hr;go_wp2;go_ret;exact⟨rfl,HB2.out⟩
theorem ZoJ (ch:Fin 3):EmpS (Ex.ltr ch):=by
 intro v w h r hr;rw[show hasE (Ex.ltr ch)=false from rfl] at hr;have h60:(Ex.ltr ch).post.length≤60:=by show 1≤60;decide
 have hok:=Zaq _ h60;have Hh:=qh h;have hP:=h;rw[show(Ex.ltr ch).post=(([]:List (Int × Int)))++[(3,(ch.val:Int))] from rfl] at hP;obtain⟨bb,off,cap,rfl,hc1,hc2,hbl,hcell⟩:=Za7 hP;obtain⟨m,hm⟩:=eI ((([]:List (Int × Int))).length);rw[← hm] at hc1 hcell Hh;rw[← hm];have hmI:m≤59:=by rw[hm];simp[Ex.post] at h60 ⊢
 have Hcell:=qh hcell;have hw1:IntKind.i64.wrap ((m:Int)+1-1)=(m:Int):=by rw[IntWalk.i64_in _ (by omega)];omega
 replace hm:=qh hm;have Hhok:=qh hok;clear hok;clear h hP hcell
 go_enter Tryz.func103, Tryz.ntmps103
 go_wp2_with fail;refine(Zas _ _ _ Hhok.out Hh.out).mono ?_;rintro e w2 ⟨vx,vy,xs,ys,hsp,rfl,hx,hy,hb2⟩;obtain⟨rfl,rfl⟩:=ZbE (ZbN ch) hsp;have HX:=qh hx;have HY:=qh hy;have HB2:=qh hb2;obtain⟨k1,k2⟩:=Hcell.out _ hb2;clear hsp hx hy hb2;subst hr;go_wp2;go_ret;exact⟨rfl,HB2.out⟩
theorem Zdo:∀ t:Ex,t.post.length≤60→EmpS t:=by
 intro t
 induction t with
 | zero=>exact fun _=>ZnA
 | one=>exact fun _=>ZoH
 | ltr c=>exact fun _=>ZoJ c
 | join a b ha hb=>exact fun h=>ZnC a b h (ha (by simp[Ex.post] at h;omega)) (hb (by simp[Ex.post] at h;omega))
 | alt a b ha hb=>exact fun h=>ZoK a b h (ha (by simp[Ex.post] at h;omega)) (hb (by simp[Ex.post] at h;omega))
 | both a b ha hb=>exact fun h=>ZnD a b h (ha (by simp[Ex.post] at h;omega)) (hb (by simp[Ex.post] at h;omega))
 | neg a ha=>exact fun h=>ZoI a h (ha (by simp[Ex.post] at h;omega))
 | star a ha=>exact fun h=>ZnB a h
end Go.Proofs.YtehmjmjedopkkaaGreat
