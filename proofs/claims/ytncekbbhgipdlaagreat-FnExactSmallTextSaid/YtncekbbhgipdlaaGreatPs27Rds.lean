/-
  The walks over the reference's l4Level, l4Print, by the tree, and over ExprText: what they answer is textL.
  Conditions: the expression reads as such.
-/
import Derived.Test.YtncekbbhgipdlaaGreatPs26Rdx
set_option maxHeartbeats 8000000
set_option maxRecDepth 100000
namespace Go.Proofs.YtncekbbhgipdlaaGreat
open Go.RowKit
theorem Za5 (t:Ex) (v:Value) (w:World) (h60:t.post.length≤60) (h:Pairs 0 w v t.post) (r:Int) (hr:(bnd t:Int)-1=r):Calls Tryz.prog 81 #[v] w fun e w'=>e = .returned (.int .i64 r)∧w=w':=by
 obtain⟨pre,p,hpost,hb⟩:=Zja t;rw[hpost] at h;obtain⟨bb,off,cap,rfl,hc1,hc2,hbl,hcell⟩:=ZbM h;have hpl:pre.length≤59:=by rw[hpost] at h60;simp at h60;omega
 obtain⟨m,hm⟩:=eI (pre.length);rw[← hm] at hc1 hcell hpl;rw[← hm];obtain⟨k1,k2⟩:=hcell w (Below.refl _ _);obtain⟨k,x⟩:=p;have hw1:IntKind.i64.wrap ((m:Int)+1-1)=(m:Int):=by rw[IntWalk.i64_in _ (by omega)];omega
 have hr2:bnK k-1=r:=by rw[← hr,← hb]
 unfold bnK at hr2;replace hm:=qh hm;have Hhpost:=qh hpost;clear hpost;replace hb:=qh hb;have Hhr:=qh hr;clear hr;clear h hcell
 go_enter Tryz.func81, Tryz.ntmps81
 by_cases h5:k=5
 ·rw[if_pos h5] at hr2;subst hr2;subst h5;go_wp2;go_ret;exact⟨rfl,rfl⟩
 rw[if_neg h5] at hr2;by_cases h6:k=6
 ·rw[if_pos h6] at hr2;subst hr2;subst h6;go_wp2;go_ret;exact⟨rfl,rfl⟩
 rw[if_neg h6] at hr2;by_cases h4:k=4
 ·rw[if_pos h4] at hr2;subst hr2;subst h4;go_wp2;go_ret;exact⟨rfl,rfl⟩
 rw[if_neg h4] at hr2;by_cases h7:k=7
 ·rw[if_pos h7] at hr2;subst hr2;subst h7;go_wp2;go_ret;exact⟨rfl,rfl⟩
 rw[if_neg h7] at hr2;by_cases h8:k=8
 ·rw[if_pos h8] at hr2;subst hr2;subst h8;go_wp2;go_ret;exact⟨rfl,rfl⟩
 rw[if_neg h8] at hr2;subst hr2;go_wp2;go_ret;exact⟨rfl,rfl⟩
def PrC (t:Ex):Prop:=∀ (l:Nat) (v:Value) (w:World),Pairs 0 w v t.post→Calls Tryz.prog 43 #[v,.int .i64 (l:Int)] w fun e w'=>e = .returned (.string (txB (brk (l+1) t (prE t))))∧Below w.heap.size w w'
def Pr0 (t:Ex):Prop:=∀ (l:Nat) (v:Value) (w:World),l+1≤bnd t→Pairs 0 w v t.post→Calls Tryz.prog 43 #[v,.int .i64 (l:Int)] w fun e w'=>e = .returned (.string (txB (prE t)))∧Below w.heap.size w w'
theorem ZcC (t:Ex) (h60:t.post.length≤60) (h0:Pr0 t):PrC t:=by
 intro l v w h;have hbd:=Zkh t;have hlen:=ZaY t;have hx:=qh (show Calls Tryz.prog 43 #[v,.int .i64 0] w fun e w'=>e = .returned (.string (txB (prE t)))∧Below w.heap.size w w' from h0 0 v w (by omega) h);obtain⟨B,hB⟩:=eJ (bnd t);have HBND:=qh (show((bnd t:Nat):Int)-1=(B:Int)-1 by rw[hB]);have Hh:=qh h;unfold brk;by_cases hlt:bnd t<l+1
 ·rw[if_pos hlt];rw[hB] at hlt hbd;have hltI:(B:Int)-1<(l:Int):=by omega
  obtain⟨T,hTT⟩:=eJ (prE t);rw[hTT] at hx hlen ⊢;obtain⟨add1,n1⟩:=ZbU [40] T { data:=#[40] } (txB T) rfl rfl (by simp;omega);obtain⟨add2,n2⟩:=ZbU ([40]++T) [41] (txB ([40]++T)) { data:=#[41] } rfl rfl (by simp;omega);have e2:[40]++T++[41]=40::(T++[41]):=by simp
  rw[e2] at add2;obtain⟨s1,hs1⟩:=eJ (txB ([40]++T));rw[hs1] at add1 add2 n2;replace hs1:=qh hs1;replace e2:=qh e2;have HhB:=qh hB;clear hB;have HhTT:=qh hTT;clear hTT;clear h
  go_enter Tryz.func43, Tryz.ntmps43
  go_wp2_with (first
   | (go_at_call 81;refine(Za5 _ _ _ h60 Hh.out ((B:Int)-1) HBND.out).mono ?_;rintro e w' ⟨rfl,rfl⟩)
   | (go_at_call 43;refine(hx.out).mono ?_;rintro e w1 ⟨rfl,hb1⟩))
  go_ret;exact⟨rfl,hb1⟩
 rw[if_neg hlt];exact h0 l v w (by omega) h
theorem Zlm:Pr0 (.zero):=by
 intro l v w hl h;have hl:l≤5:=by have h2:l+1≤6:=hl;omega
 have h60:(Ex.zero).post.length≤60:=by simp[Ex.post]
 have hok:=Zau _ h60;have Hh:=qh h;have HBND:=qh (show((bnd (Ex.zero):Nat):Int)-1=5 from rfl);obtain⟨bb,off,cap,rfl,hc1,hc2,hbl,hcell⟩:=ZbM (pre:=[]) (p:=(1,0)) h;simp only[List.length_nil,Nat.zero_add,Nat.zero_mul,Nat.add_zero] at hc1 hcell Hh;simp only[List.length_nil,Nat.zero_add];have Hcell:=qh hcell;have hlI:(l:Int)≤5:=by omega
 replace hok:=qh hok;clear h hcell hl
 go_enter Tryz.func43, Tryz.ntmps43
 go_wp2_with (first
  | (go_at_call 81;refine(Za5 _ _ _ h60 Hh.out 5 HBND.out).mono ?_;rintro e w' ⟨rfl,rfl⟩)
  | (go_at_call 82;refine(ZaC _ _ _ hok.out Hh.out).mono ?_;rintro e w1 ⟨vx,vy,xs,ys,hsp,rfl,hx,hy,hb1⟩;obtain⟨k1,k2⟩:=Hcell.out _ hb1;have HS1:=qh (((St.start w).call hb1).alloc w1.heap.size rfl #[.int .i64 1,.int .i64 0] 62);clear hb1 hx hy hsp))
 go_ret;exact⟨rfl,HS1.out.bel⟩
theorem Zmx:Pr0 (.one):=by
 intro l v w hl h;have hl:l≤5:=by have h2:l+1≤6:=hl;omega
 have h60:(Ex.one).post.length≤60:=by simp[Ex.post]
 have hok:=Zau _ h60;have Hh:=qh h;have HBND:=qh (show((bnd (Ex.one):Nat):Int)-1=5 from rfl);obtain⟨bb,off,cap,rfl,hc1,hc2,hbl,hcell⟩:=ZbM (pre:=[]) (p:=(2,0)) h;simp only[List.length_nil,Nat.zero_add,Nat.zero_mul,Nat.add_zero] at hc1 hcell Hh;simp only[List.length_nil,Nat.zero_add];have Hcell:=qh hcell;have hlI:(l:Int)≤5:=by omega
 replace hok:=qh hok;clear h hcell hl
 go_enter Tryz.func43, Tryz.ntmps43
 go_wp2_with (first
  | (go_at_call 81;refine(Za5 _ _ _ h60 Hh.out 5 HBND.out).mono ?_;rintro e w' ⟨rfl,rfl⟩)
  | (go_at_call 82;refine(ZaC _ _ _ hok.out Hh.out).mono ?_;rintro e w1 ⟨vx,vy,xs,ys,hsp,rfl,hx,hy,hb1⟩;obtain⟨k1,k2⟩:=Hcell.out _ hb1;have HS1:=qh (((St.start w).call hb1).alloc w1.heap.size rfl #[.int .i64 2,.int .i64 0] 62);clear hb1 hx hy hsp))
 go_ret;exact⟨rfl,HS1.out.bel⟩
theorem Zmz (c:Nat) (hc:c<3):Pr0 (.ltr ⟨c,hc⟩):=by
 intro l v w hl h;have hl:l≤5:=by have h2:l+1≤6:=hl;omega
 have h60:(Ex.ltr ⟨c,hc⟩).post.length≤60:=by simp[Ex.post]
 have hok:=Zau _ h60;have Hh:=qh h;have HBND:=qh (show((bnd (Ex.ltr ⟨c,hc⟩):Nat):Int)-1=5 from rfl);obtain⟨bb,off,cap,rfl,hc1,hc2,hbl,hcell⟩:=ZbM (pre:=[]) (p:=(3,(c:Int))) h;simp only[List.length_nil,Nat.zero_add,Nat.zero_mul,Nat.add_zero] at hc1 hcell Hh;simp only[List.length_nil,Nat.zero_add];have Hcell:=qh hcell;have hpr:txB (prE (.ltr ⟨c,hc⟩))=txB [97+c]:=rfl;rw[hpr];have hw2:=Zl1 c hc;have hw1:IntKind.i64.wrap (97+(c:Int))=97+(c:Int):=IntWalk.i64_in _ (by omega);replace hpr:=qh hpr;have hlI:(l:Int)≤5:=by omega
 replace hok:=qh hok;clear h hcell hl
 go_enter Tryz.func43, Tryz.ntmps43
 go_wp2_with (first
  | (go_at_call 81;refine(Za5 _ _ _ h60 Hh.out 5 HBND.out).mono ?_;rintro e w' ⟨rfl,rfl⟩)
  | (go_at_call 82;refine(ZaC _ _ _ hok.out Hh.out).mono ?_;rintro e w1 ⟨vx,vy,xs,ys,hsp,rfl,hx,hy,hb1⟩;obtain⟨k1,k2⟩:=Hcell.out _ hb1;have HS1:=qh (((St.start w).call hb1).alloc w1.heap.size rfl #[.int .i64 3,.int .i64 (c:Int)] 62);have hcv:=ZoM c hc ((w1.alloc (.cells #[.int .i64 3,.int .i64 (c:Int)] 62)).alloc (.cells #[.int .u8 (97+(c:Int))] 5)) (w1.heap.size+1) 1 (by simp);have HS2:=qh (HS1.out.alloc_ (.cells #[.int .u8 (97+(c:Int))] 5));clear hb1 hx hy hsp))
 go_ret;exact⟨rfl,HS2.out.bel⟩
theorem Zmy (a:Ex) (h60:(Ex.neg a).post.length≤60) (ha:PrC a):Pr0 (.neg a):=by
 intro l v w hl h;have hl:l≤3:=by have h2:l+1≤4:=hl;omega
 have hok:=Zau _ h60;have Hh:=qh h;have HBND:=qh (show((bnd (Ex.neg a):Nat):Int)-1=3 from rfl);have hP:=h;rw[show(Ex.neg a).post=(a.post)++[(7,0)] from rfl] at hP;obtain⟨bb,off,cap,rfl,hc1,hc2,hbl,hcell⟩:=ZbM hP;have hpl:a.post.length≤59:=by simp[Ex.post] at h60;omega
 have hla:=ZaY a;have hba:=ZaM 4 a (prE a);obtain⟨m,hm⟩:=eI (a.post.length);rw[← hm] at hc1 hcell hpl Hh hla;rw[← hm];have Hcell:=qh hcell;have hw1:IntKind.i64.wrap ((m:Int)+1-1)=(m:Int):=by rw[IntWalk.i64_in _ (by omega)];omega
 obtain⟨A,hA⟩:=eI (brk 4 a (prE a));have hpr:prE (.neg a)=[33]++A:=by rw[hA];simp[prE]
 rw[hpr];have HA:=qh (fun (v:Value) (u:World) (hu:Pairs 0 u v a.post)=>(show Calls Tryz.prog 43 #[v,.int .i64 3] u fun e w'=>e = .returned (.string (txB A))∧Below u.heap.size u w' by have:=ha 3 v u hu;rw[← hA] at this;exact this));rw[← hA] at hba;obtain⟨add1,n1⟩:=ZbU [33] A { data:=#[33] } (txB A) rfl rfl (by simp;omega);obtain⟨s1,hs1⟩:=eJ (txB ([33]++A));rw[hs1] at add1;rw[hs1];replace hs1:=qh hs1;replace hA:=qh hA;have Hhpr:=qh hpr;clear hpr;have Hhm:=qh hm;clear hm;have Hhok:=qh hok;clear hok;have hlI:(l:Int)≤3:=by omega
 clear h hP hcell ha hba hla hl
 go_enter Tryz.func43, Tryz.ntmps43
 go_wp2_with (first
  | (go_at_call 81;refine(Za5 _ _ _ h60 Hh.out 3 HBND.out).mono ?_;rintro e w' ⟨rfl,rfl⟩)
  | (go_at_call 82;refine(ZaC _ _ _ Hhok.out Hh.out).mono ?_;rintro e w1 ⟨vx,vy,xs,ys,hsp,rfl,hx,hy,hb1⟩;have hsp2:=Zdm (a:=a) (p:=(7,0)) Zgd hsp;obtain⟨rfl,rfl⟩:=hsp2;obtain⟨k1,k2⟩:=Hcell.out _ hb1;have HS1:=qh (((St.start w).call hb1).alloc w1.heap.size rfl #[.int .i64 7,.int .i64 0] 62);have HX:=qh (hx.below ((Below.refl w1.heap.size w1).alloc (Nat.le_refl _) (.cells #[.int .i64 7,.int .i64 0] 62)));clear hb1 hx hy hsp)
  | (go_at_call 43;(with_reducible refine(HA.out _ _ HX.out).mono ?_);rintro e w2 ⟨rfl,hb2⟩;have HS2:=qh (HS1.out.call hb2);clear hb2))
 go_ret;exact⟨rfl,HS2.out.bel⟩
theorem Zln (a:Ex) (h60:(Ex.star a).post.length≤60) (ha:PrC a):Pr0 (.star a):=by
 intro l v w hl h;have hl:l≤4:=by have h2:l+1≤5:=hl;omega
 have hok:=Zau _ h60;have Hh:=qh h;have HBND:=qh (show((bnd (Ex.star a):Nat):Int)-1=4 from rfl);have hP:=h;rw[show(Ex.star a).post=(a.post)++[(8,0)] from rfl] at hP;obtain⟨bb,off,cap,rfl,hc1,hc2,hbl,hcell⟩:=ZbM hP;have hpl:a.post.length≤59:=by simp[Ex.post] at h60;omega
 have hla:=ZaY a;have hba:=ZaM 5 a (prE a);obtain⟨m,hm⟩:=eI (a.post.length);rw[← hm] at hc1 hcell hpl Hh hla;rw[← hm];have Hcell:=qh hcell;have hw1:IntKind.i64.wrap ((m:Int)+1-1)=(m:Int):=by rw[IntWalk.i64_in _ (by omega)];omega
 obtain⟨A,hA⟩:=eI (brk 5 a (prE a));have hpr:prE (.star a)=A++[42]:=by rw[hA];simp[prE]
 rw[hpr];have HA:=qh (fun (v:Value) (u:World) (hu:Pairs 0 u v a.post)=>(show Calls Tryz.prog 43 #[v,.int .i64 4] u fun e w'=>e = .returned (.string (txB A))∧Below u.heap.size u w' by have:=ha 4 v u hu;rw[← hA] at this;exact this));rw[← hA] at hba;obtain⟨add1,n1⟩:=ZbU A [42] (txB A) { data:=#[42] } rfl rfl (by simp;omega);obtain⟨s1,hs1⟩:=eJ (txB (A++[42]));rw[hs1] at add1;rw[hs1];replace hs1:=qh hs1;replace hA:=qh hA;have Hhpr:=qh hpr;clear hpr;have Hhm:=qh hm;clear hm;have Hhok:=qh hok;clear hok;have hlI:(l:Int)≤4:=by omega
 clear h hP hcell ha hba hla hl
 go_enter Tryz.func43, Tryz.ntmps43
 go_wp2_with (first
  | (go_at_call 81;refine(Za5 _ _ _ h60 Hh.out 4 HBND.out).mono ?_;rintro e w' ⟨rfl,rfl⟩)
  | (go_at_call 82;refine(ZaC _ _ _ Hhok.out Hh.out).mono ?_;rintro e w1 ⟨vx,vy,xs,ys,hsp,rfl,hx,hy,hb1⟩;have hsp2:=Zdm (a:=a) (p:=(8,0)) Zd1 hsp;obtain⟨rfl,rfl⟩:=hsp2;obtain⟨k1,k2⟩:=Hcell.out _ hb1;have HS1:=qh (((St.start w).call hb1).alloc w1.heap.size rfl #[.int .i64 8,.int .i64 0] 62);have HX:=qh (hx.below ((Below.refl w1.heap.size w1).alloc (Nat.le_refl _) (.cells #[.int .i64 8,.int .i64 0] 62)));clear hb1 hx hy hsp)
  | (go_at_call 43;(with_reducible refine(HA.out _ _ HX.out).mono ?_);rintro e w2 ⟨rfl,hb2⟩;have HS2:=qh (HS1.out.call hb2);clear hb2))
 go_ret;exact⟨rfl,HS2.out.bel⟩
theorem Zlo (a b:Ex) (h60:(Ex.join a b).post.length≤60) (ha:PrC a) (hb:PrC b):Pr0 (.join a b):=by
 intro l v w hl h;have hl:l≤2:=by have h2:l+1≤3:=hl;omega
 have hok:=Zau _ h60;have Hh:=qh h;have HBND:=qh (show((bnd (Ex.join a b):Nat):Int)-1=2 from rfl);have hP:=h;rw[show(Ex.join a b).post=(a.post++b.post)++[(4,0)] from rfl] at hP;obtain⟨bb,off,cap,rfl,hc1,hc2,hbl,hcell⟩:=ZbM hP
 have hpl:(a.post++b.post).length≤59:=by
  have h1:(Ex.join a b).post.length=(a.post++b.post).length+1:=by simp[Ex.post];omega
  omega
 have hla:=ZaY a;have hlb:=ZaY b;have hba:=ZaM 3 a (prE a);have hbb:=ZaM 4 b (prE b);have hab:a.post.length+b.post.length≤59:=by simpa using hpl
 obtain⟨m,hm⟩:=eI ((a.post++b.post).length);rw[← hm] at hc1 hcell hpl Hh;rw[← hm];have Hcell:=qh hcell;have hw1:IntKind.i64.wrap ((m:Int)+1-1)=(m:Int):=by rw[IntWalk.i64_in _ (by omega)];omega
 obtain⟨A,hA⟩:=eI (brk 3 a (prE a));obtain⟨B,hB⟩:=eI (brk 4 b (prE b));have hpr:prE (.join a b)=(A++[])++B:=by rw[hA,hB];simp[prE]
 rw[hpr];have HA:=qh (fun (v:Value) (u:World) (hu:Pairs 0 u v a.post)=>(show Calls Tryz.prog 43 #[v,.int .i64 2] u fun e w'=>e = .returned (.string (txB A))∧Below u.heap.size u w' by have:=ha 2 v u hu;rw[← hA] at this;exact this));have HB:=qh (fun (v:Value) (u:World) (hu:Pairs 0 u v b.post)=>(show Calls Tryz.prog 43 #[v,.int .i64 3] u fun e w'=>e = .returned (.string (txB B))∧Below u.heap.size u w' by have:=hb 3 v u hu;rw[← hB] at this;exact this));rw[← hA] at hba;rw[← hB] at hbb;obtain⟨add2,n2⟩:=ZbU A B (txB A) (txB B) rfl rfl (by omega);rw[List.append_nil];obtain⟨s2,hs2⟩:=eJ (txB (A++B));rw[hs2] at add2;rw[hs2];replace hs2:=qh hs2;replace hA:=qh hA;have HhB:=qh hB;clear hB;have Hhpr:=qh hpr;clear hpr;have Hhm:=qh hm;clear hm;have Hhok:=qh hok;clear hok;have hlI:(l:Int)≤2:=by omega
 clear h hP hcell ha hb hba hbb hla hlb hl
 go_enter Tryz.func43, Tryz.ntmps43
 go_wp2_with (first
  | (go_at_call 81;refine(Za5 _ _ _ h60 Hh.out 2 HBND.out).mono ?_;rintro e w' ⟨rfl,rfl⟩)
  | (go_at_call 82;refine(ZaC _ _ _ Hhok.out Hh.out).mono ?_;rintro e w1 ⟨vx,vy,xs,ys,hsp,rfl,hx,hy,hb1⟩;have hsp2:=Zdl (a:=a) (b:=b) (p:=(4,0)) Zd2 hsp;obtain⟨rfl,rfl⟩:=hsp2;obtain⟨k1,k2⟩:=Hcell.out _ hb1;have HS1:=qh (((St.start w).call hb1).alloc w1.heap.size rfl #[.int .i64 4,.int .i64 0] 62);have HX:=qh (hx.below ((Below.refl w1.heap.size w1).alloc (Nat.le_refl _) (.cells #[.int .i64 4,.int .i64 0] 62)));have HY:=qh (hy.below ((Below.refl w1.heap.size w1).alloc (Nat.le_refl _) (.cells #[.int .i64 4,.int .i64 0] 62)));clear hb1 hx hy hsp)
  | (go_at_call 43;(with_reducible refine(HA.out _ _ HX.out).mono ?_);rintro e w2 ⟨rfl,hb2⟩;have HS2:=qh (HS1.out.call hb2);have HY2:=qh (HY.out.below hb2);clear hb2)
  | (go_at_call 43;(with_reducible refine(HB.out _ _ HY2.out).mono ?_);rintro e w3 ⟨rfl,hb3⟩;have HS3:=qh (HS2.out.call hb3);clear hb3))
 go_ret;exact⟨rfl,HS3.out.bel⟩
theorem ZmA (a b:Ex) (h60:(Ex.alt a b).post.length≤60) (ha:PrC a) (hb:PrC b):Pr0 (.alt a b):=by
 intro l v w hl h;have hl:l≤0:=by have h2:l+1≤1:=hl;omega
 have hok:=Zau _ h60;have Hh:=qh h;have HBND:=qh (show((bnd (Ex.alt a b):Nat):Int)-1=0 from rfl);have hP:=h;rw[show(Ex.alt a b).post=(a.post++b.post)++[(5,0)] from rfl] at hP;obtain⟨bb,off,cap,rfl,hc1,hc2,hbl,hcell⟩:=ZbM hP
 have hpl:(a.post++b.post).length≤59:=by
  have h1:(Ex.alt a b).post.length=(a.post++b.post).length+1:=by simp[Ex.post];omega
  omega
 have hla:=ZaY a;have hlb:=ZaY b;have hba:=ZaM 1 a (prE a);have hbb:=ZaM 2 b (prE b);have hab:a.post.length+b.post.length≤59:=by simpa using hpl
 obtain⟨m,hm⟩:=eI ((a.post++b.post).length);rw[← hm] at hc1 hcell hpl Hh;rw[← hm];have Hcell:=qh hcell;have hw1:IntKind.i64.wrap ((m:Int)+1-1)=(m:Int):=by rw[IntWalk.i64_in _ (by omega)];omega
 obtain⟨A,hA⟩:=eI (brk 1 a (prE a));obtain⟨B,hB⟩:=eI (brk 2 b (prE b));have hpr:prE (.alt a b)=(A++[124])++B:=by rw[hA,hB];simp[prE]
 rw[hpr];have HA:=qh (fun (v:Value) (u:World) (hu:Pairs 0 u v a.post)=>(show Calls Tryz.prog 43 #[v,.int .i64 0] u fun e w'=>e = .returned (.string (txB A))∧Below u.heap.size u w' by have:=ha 0 v u hu;rw[← hA] at this;exact this));have HB:=qh (fun (v:Value) (u:World) (hu:Pairs 0 u v b.post)=>(show Calls Tryz.prog 43 #[v,.int .i64 1] u fun e w'=>e = .returned (.string (txB B))∧Below u.heap.size u w' by have:=hb 1 v u hu;rw[← hB] at this;exact this));rw[← hA] at hba;rw[← hB] at hbb;obtain⟨add1,n1⟩:=ZbU A [124] (txB A) { data:=#[124] } rfl rfl (by simp;omega);obtain⟨add2,n2⟩:=ZbU (A++[124]) B (txB (A++[124])) (txB B) rfl rfl (by simp;omega);obtain⟨s1,hs1⟩:=eJ (txB (A++[124]));obtain⟨s2,hs2⟩:=eJ (txB ((A++[124])++B));rw[hs1] at add1 add2 n2;rw[hs2] at add2;rw[hs2];replace hs1:=qh hs1;have Hhs2:=qh hs2;clear hs2;replace hA:=qh hA;have HhB:=qh hB;clear hB;have Hhpr:=qh hpr;clear hpr;have Hhm:=qh hm;clear hm;have Hhok:=qh hok;clear hok;have hlI:(l:Int)≤0:=by omega
 clear h hP hcell ha hb hba hbb hla hlb hl
 go_enter Tryz.func43, Tryz.ntmps43
 go_wp2_with (first
  | (go_at_call 81;refine(Za5 _ _ _ h60 Hh.out 0 HBND.out).mono ?_;rintro e w' ⟨rfl,rfl⟩)
  | (go_at_call 82;refine(ZaC _ _ _ Hhok.out Hh.out).mono ?_;rintro e w1 ⟨vx,vy,xs,ys,hsp,rfl,hx,hy,hb1⟩;have hsp2:=Zdl (a:=a) (b:=b) (p:=(5,0)) Zge hsp;obtain⟨rfl,rfl⟩:=hsp2;obtain⟨k1,k2⟩:=Hcell.out _ hb1;have HS1:=qh (((St.start w).call hb1).alloc w1.heap.size rfl #[.int .i64 5,.int .i64 0] 62);have HX:=qh (hx.below ((Below.refl w1.heap.size w1).alloc (Nat.le_refl _) (.cells #[.int .i64 5,.int .i64 0] 62)));have HY:=qh (hy.below ((Below.refl w1.heap.size w1).alloc (Nat.le_refl _) (.cells #[.int .i64 5,.int .i64 0] 62)));clear hb1 hx hy hsp)
  | (go_at_call 43;(with_reducible refine(HA.out _ _ HX.out).mono ?_);rintro e w2 ⟨rfl,hb2⟩;have HS2:=qh (HS1.out.call hb2);have HY2:=qh (HY.out.below hb2);clear hb2)
  | (go_at_call 43;(with_reducible refine(HB.out _ _ HY2.out).mono ?_);rintro e w3 ⟨rfl,hb3⟩;have HS3:=qh (HS2.out.call hb3);clear hb3))
 go_ret;exact⟨rfl,HS3.out.bel⟩
theorem Zlp (a b:Ex) (h60:(Ex.both a b).post.length≤60) (ha:PrC a) (hb:PrC b):Pr0 (.both a b):=by
 intro l v w hl h;have hl:l≤1:=by have h2:l+1≤2:=hl;omega
 have hok:=Zau _ h60;have Hh:=qh h;have HBND:=qh (show((bnd (Ex.both a b):Nat):Int)-1=1 from rfl);have hP:=h;rw[show(Ex.both a b).post=(a.post++b.post)++[(6,0)] from rfl] at hP;obtain⟨bb,off,cap,rfl,hc1,hc2,hbl,hcell⟩:=ZbM hP
 have hpl:(a.post++b.post).length≤59:=by
  have h1:(Ex.both a b).post.length=(a.post++b.post).length+1:=by simp[Ex.post];omega
  omega
 have hla:=ZaY a;have hlb:=ZaY b;have hba:=ZaM 2 a (prE a);have hbb:=ZaM 3 b (prE b);have hab:a.post.length+b.post.length≤59:=by simpa using hpl
 obtain⟨m,hm⟩:=eI ((a.post++b.post).length);rw[← hm] at hc1 hcell hpl Hh;rw[← hm];have Hcell:=qh hcell;have hw1:IntKind.i64.wrap ((m:Int)+1-1)=(m:Int):=by rw[IntWalk.i64_in _ (by omega)];omega
 obtain⟨A,hA⟩:=eI (brk 2 a (prE a));obtain⟨B,hB⟩:=eI (brk 3 b (prE b));have hpr:prE (.both a b)=(A++[38])++B:=by rw[hA,hB];simp[prE]
 rw[hpr];have HA:=qh (fun (v:Value) (u:World) (hu:Pairs 0 u v a.post)=>(show Calls Tryz.prog 43 #[v,.int .i64 1] u fun e w'=>e = .returned (.string (txB A))∧Below u.heap.size u w' by have:=ha 1 v u hu;rw[← hA] at this;exact this));have HB:=qh (fun (v:Value) (u:World) (hu:Pairs 0 u v b.post)=>(show Calls Tryz.prog 43 #[v,.int .i64 2] u fun e w'=>e = .returned (.string (txB B))∧Below u.heap.size u w' by have:=hb 2 v u hu;rw[← hB] at this;exact this));rw[← hA] at hba;rw[← hB] at hbb;obtain⟨add1,n1⟩:=ZbU A [38] (txB A) { data:=#[38] } rfl rfl (by simp;omega);obtain⟨add2,n2⟩:=ZbU (A++[38]) B (txB (A++[38])) (txB B) rfl rfl (by simp;omega);obtain⟨s1,hs1⟩:=eJ (txB (A++[38]));obtain⟨s2,hs2⟩:=eJ (txB ((A++[38])++B));rw[hs1] at add1 add2 n2;rw[hs2] at add2;rw[hs2];replace hs1:=qh hs1;have Hhs2:=qh hs2;clear hs2;replace hA:=qh hA;have HhB:=qh hB;clear hB;have Hhpr:=qh hpr;clear hpr;have Hhm:=qh hm;clear hm;have Hhok:=qh hok;clear hok;have hlI:(l:Int)≤1:=by omega
 clear h hP hcell ha hb hba hbb hla hlb hl
 go_enter Tryz.func43, Tryz.ntmps43
 go_wp2_with (first
  | (go_at_call 81;refine(Za5 _ _ _ h60 Hh.out 1 HBND.out).mono ?_;rintro e w' ⟨rfl,rfl⟩)
  | (go_at_call 82;refine(ZaC _ _ _ Hhok.out Hh.out).mono ?_;rintro e w1 ⟨vx,vy,xs,ys,hsp,rfl,hx,hy,hb1⟩;have hsp2:=Zdl (a:=a) (b:=b) (p:=(6,0)) Zd3 hsp;obtain⟨rfl,rfl⟩:=hsp2;obtain⟨k1,k2⟩:=Hcell.out _ hb1;have HS1:=qh (((St.start w).call hb1).alloc w1.heap.size rfl #[.int .i64 6,.int .i64 0] 62);have HX:=qh (hx.below ((Below.refl w1.heap.size w1).alloc (Nat.le_refl _) (.cells #[.int .i64 6,.int .i64 0] 62)));have HY:=qh (hy.below ((Below.refl w1.heap.size w1).alloc (Nat.le_refl _) (.cells #[.int .i64 6,.int .i64 0] 62)));clear hb1 hx hy hsp)
  | (go_at_call 43;(with_reducible refine(HA.out _ _ HX.out).mono ?_);rintro e w2 ⟨rfl,hb2⟩;have HS2:=qh (HS1.out.call hb2);have HY2:=qh (HY.out.below hb2);clear hb2)
  | (go_at_call 43;(with_reducible refine(HB.out _ _ HY2.out).mono ?_);rintro e w3 ⟨rfl,hb3⟩;have HS3:=qh (HS2.out.call hb3);clear hb3))
 go_ret;exact⟨rfl,HS3.out.bel⟩
theorem ZmB:∀ t:Ex,t.post.length≤60→PrC t:=by
 intro t
 induction t with
 | zero=>exact fun h=>ZcC _ h Zlm
 | one=>exact fun h=>ZcC _ h Zmx
 | ltr c=>exact fun h=>ZcC _ h (Zmz c.val c.isLt)
 | neg a ha =>
  intro h;have h1:a.post.length≤60:=by simp[Ex.post] at h;omega
  exact ZcC _ h (Zmy a h (ha h1))
 | star a ha =>
  intro h;have h1:a.post.length≤60:=by simp[Ex.post] at h;omega
  exact ZcC _ h (Zln a h (ha h1))
 | join a b ha hb =>
  intro h;have h1:a.post.length≤60∧b.post.length≤60:=by simp[Ex.post] at h;omega
  exact ZcC _ h (Zlo a b h (ha h1.1) (hb h1.2))
 | alt a b ha hb =>
  intro h;have h1:a.post.length≤60∧b.post.length≤60:=by simp[Ex.post] at h;omega
  exact ZcC _ h (ZmA a b h (ha h1.1) (hb h1.2))
 | both a b ha hb =>
  intro h;have h1:a.post.length≤60∧b.post.length≤60:=by simp[Ex.post] at h;omega
  exact ZcC _ h (Zlp a b h (ha h1.1) (hb h1.2))
theorem Zbt (es:List (Int × Int)) (v:Value) (w:World) (hl:es.length≤1000) (h:Pairs 0 w v es) :
  Calls Tryz.prog 18 #[v] w fun e w'=>e = .returned (.string (txB (ZdQ es)))∧Below w.heap.size w w':=by
 cases hok:exOk es
 ·rw[ZfD hok];have Hhok:=qh hok;clear hok
  go_enter Tryz.func18, Tryz.ntmps18
  go_wp2_with (go_at_call 42;refine(Zbj es _ _ (by omega) h _ Hhok.out).mono ?_;rintro e w1 ⟨rfl,hb⟩;replace hb:=qh hb);go_ret;exact⟨rfl,hb.out⟩
 obtain⟨t,rfl,hl2,ht⟩:=ZfC hok;rw[ht];have HT:=qh (fun (u:World) (hu:Pairs 0 u v t.post)=>(show Calls Tryz.prog 43 #[v,.int .i64 0] u fun e w'=>e = .returned (.string (txB (prE t)))∧Below u.heap.size u w' by have:=ZmB t hl2 0 v u hu;rw[show brk (0+1) t (prE t)=prE t from Zgc t] at this;exact this));have Hh:=qh h;have Hhok:=qh hok;clear hok;have Hht:=qh ht;clear ht;clear h
 go_enter Tryz.func18, Tryz.ntmps18
 go_wp2_with (first
  | (go_at_call 42;refine(Zbj t.post _ _ (by omega) Hh.out _ Hhok.out).mono ?_;rintro e w1 ⟨rfl,hb⟩;replace hb:=qh hb)
  | (go_at_call 43;refine(HT.out _ (Hh.out.below hb.out)).mono ?_;rintro e w2 ⟨rfl,hb2⟩;have Hb2:=qh hb2;clear hb2))
 go_ret;exact⟨rfl,hb.out.trans (Hb2.out.mono hb.out.size)⟩
def endI (S:List Nat) (x:PS):Int:=if x.2.2=true then -1 else((S.length-x.2.1.length:Nat):Int)
def RRs (S:List Nat) (x:PS) (w:World) (e:Ending) (w':World):Prop:=∃ a c,e = .returned (.tuple #[.slice a x.1.length c,.int .i64 (endI S x)])∧St w w' [Ent.row 62 2 (.slice a x.1.length c) x.1.length (x.1.flatMap Zaa)]
def Zkm (n:Nat):Prop:=∀ (l:Nat) (S:List Nat) (i:Nat) (w:World),1≤l→l≤6→fuP l (S.drop i)≤n→S.length≤120→isT S→i≤S.length→Calls Tryz.prog 41 #[.string (txB S),.int .i64 (i:Int),.int .i64 ((l:Int)-1)] w fun e w'=>RRs S (rdP jS n l (S.drop i)) w e w'
theorem Zcb {S:List Nat} {i c:Nat} {r:List Nat} (h:S.drop i=c::r):i<S.length∧S.getD i 0=c∧S.drop (i+1)=r∧S.length=i+1+r.length:=by
 have hl:=congrArg List.length h;rw[List.length_drop,List.length_cons] at hl;have hi:i<S.length:=by omega
 rw[List.drop_eq_getElem_cons hi] at h;obtain⟨h1,h2⟩:=List.cons.inj h;exact⟨hi,by simp[hi,h1],h2,by omega⟩
theorem ZkW {S:List Nat} {i:Nat} (h:S.drop i=[]) (hi:i≤S.length):i=S.length:=by have hl:=congrArg List.length h;rw[List.length_drop,List.length_nil] at hl;omega
theorem ZjE {S q:List Nat} (h:q <:+ S):S.drop (S.length-q.length)=q∧S.length-q.length≤S.length:=⟨(ZnU h).symm,by omega⟩
theorem RRs.nil (S:List Nat) (q:List Nat) {w w':World} {a:Option Addr} {c:Nat} (hS:St w w' [Ent.row 62 2 (.slice a 0 c) 0 []]):RRs S ([],q,true) w (.returned (.tuple #[.slice a 0 c,.int .i64 (-1)])) w':=⟨a,c,rfl,hS⟩
theorem Zfd {w0 w:World} {L:List Ent} (h:St w0 w L):St w0 (w.alloc (.cells #[] 62)) (L++[Ent.row 62 2 (.slice (some ⟨w.heap.size,0,none⟩) 0 0) 0 []]):=by have h1:=(h.alloc w.heap.size rfl #[] 62).boxrow (b:=w.heap.size) (T:=62) L.length 0 2 [] (by simp) rfl (by unfold maxLen;omega);simpa using h1
theorem Zqa (n:Nat) (hC:Zkm n) (S:List Nat) (i:Nat) (w:World) (hn:fuP 6 (S.drop i)≤n+1) (hl:S.length≤120) (ht:isT S) (hi:i≤S.length) :
  Calls Tryz.prog 41 #[.string (txB S),.int .i64 (i:Int),.int .i64 5] w fun e w'=>RRs S (rdP jS (n+1) 6 (S.drop i)) w e w':=by
 have hs:=ZaG S;have Hht:=qh ht;have HN:=qh (Zfd (St.start w));cases hr:S.drop i with
 | nil =>
  have hil:=ZkW hr hi;have hilI:(S.length:Int)≤(i:Int):=by omega
  show Calls _ _ _ _ fun e w'=>RRs S ([],[],true) w e w'
  have Hhr:=qh hr;clear hr;replace hil:=qh hil;clear hi hn
  go_enter Tryz.func41, Tryz.ntmps41
  go_wp2;refine bodyPost_ret (v:=.tuple #[.slice (some ⟨w.heap.size,0,none⟩) 0 0,.int .i64 (-1)]) (by simp[results,Tryz.results41,go_sem]) rfl ?_;exact RRs.nil S [] HN.out
 | cons c r1 =>
  obtain⟨hi1,hc,hd1,hlen⟩:=Zcb hr;have hc256:c<256:=by rw[← hc];exact ht _ (Zcz hi1)
  have hrd:rdP jS (n+1) 6 (c::r1)=match Ze7 c with|some p=>([p],r1,false)|none=>if c=40 then brkP (rdP jS n 1 r1) else([],r1,true):=rfl
  have hiI:(i:Int)<(S.length:Int):=by omega
  have hw1:IntKind.i64.wrap ((i:Int)+1)=(i:Int)+1:=IntWalk.i64_in _ (by omega);have hend:endI S ([((3:Int),(0:Int))],r1,false)=(i:Int)+1:=by unfold endI;simp;omega
  have hix:=fun u=>ZbE (l:=S) (i:=i) (by omega) Hht.out u
  rw[hc] at hix;have Hhr:=qh hr;clear hr;replace hc:=qh hc;have Hhd1:=qh hd1;clear hd1;by_cases c48:c=48
  ·subst c48;rw[show rdP jS (n+1) 6 (48::r1)=([(1,0)],r1,false) from hrd];have HS:=qh (((St.start w).alloc w.heap.size rfl #[.int .i64 1,.int .i64 0] 62).boxrow 0 1 2 [.int .i64 1,.int .i64 0] rfl rfl (by unfold maxLen;omega));have Hend:=qh hend;have Hhrd:=qh hrd;clear hrd;clear hend hn hi
   go_enter Tryz.func41, Tryz.ntmps41
   go_wp2;refine bodyPost_ret (v:=.tuple #[.slice (some ⟨w.heap.size,0,none⟩) 1 1,.int .i64 ((i:Int)+1)]) (by simp[results,Tryz.results41,go_sem]) rfl ?_;exact⟨_,_,by rw[show endI S ([(1,0)],r1,false)=(i:Int)+1 from Hend.out];rfl,HS.out⟩
  by_cases c49:c=49
  ·subst c49;rw[show rdP jS (n+1) 6 (49::r1)=([(2,0)],r1,false) from hrd];have HS:=qh (((St.start w).alloc w.heap.size rfl #[.int .i64 2,.int .i64 0] 62).boxrow 0 1 2 [.int .i64 2,.int .i64 0] rfl rfl (by unfold maxLen;omega));have Hend:=qh hend;have Hhrd:=qh hrd;clear hrd;clear hend hn hi
   go_enter Tryz.func41, Tryz.ntmps41
   go_wp2;refine bodyPost_ret (v:=.tuple #[.slice (some ⟨w.heap.size,0,none⟩) 1 1,.int .i64 ((i:Int)+1)]) (by simp[results,Tryz.results41,go_sem]) rfl ?_;exact⟨_,_,by rw[show endI S ([(2,0)],r1,false)=(i:Int)+1 from Hend.out];rfl,HS.out⟩
  have n1:((c:Int)=48)=False:=by simp;omega
  have n2:((c:Int)=49)=False:=by simp;omega
  by_cases cl:97≤c∧c≤99
  ·have hp:Ze7 c=some (3,(c:Int)-97):=by unfold Ze7;rw[if_neg c48,if_neg c49,if_pos cl]
   rw[hp] at hrd;rw[hrd];have g1:(97:Int)≤(c:Int):=by omega
   have g2:(c:Int)<100:=by omega
   have hwa:IntKind.u8.wrap ((c:Int)-97)=(c:Int)-97:=IntWalk.u8_in _ (by omega);have hwb:IntKind.i64.wrap ((c:Int)-97)=(c:Int)-97:=IntWalk.i64_in _ (by omega);have HS:=qh (((St.start w).alloc w.heap.size rfl #[.int .i64 3,.int .i64 ((c:Int)-97)] 62).boxrow 0 1 2 [.int .i64 3,.int .i64 ((c:Int)-97)] rfl rfl (by unfold maxLen;omega));have Hend:=qh hend;have Hhrd:=qh hrd;clear hrd;have Hhp:=qh hp;clear hp;clear hend hn hi
   go_enter Tryz.func41, Tryz.ntmps41
   go_wp2;refine bodyPost_ret (v:=.tuple #[.slice (some ⟨w.heap.size,0,none⟩) 1 1,.int .i64 ((i:Int)+1)]) (by simp[results,Tryz.results41,go_sem]) rfl ?_;exact⟨_,_,by rw[show endI S ([(3,(c:Int)-97)],r1,false)=(i:Int)+1 from Hend.out];rfl,HS.out⟩
  have hp:Ze7 c=none:=by unfold Ze7;rw[if_neg c48,if_neg c49,if_neg cl]
  rw[hp] at hrd;have hcmp:(c:Int)<97∨(97≤(c:Int)∧100≤(c:Int)):=by omega
  have Hhp:=qh hp;clear hp;by_cases c40:c=40
  ·subst c40;rw[show rdP jS (n+1) 6 (40::r1)=brkP (rdP jS n 1 r1) from hrd];have hC1:=hC 1 S (i+1) w (by omega) (by omega) (by rw[Hhd1.out];unfold fuP at hn ⊢;rw[Hhr.out] at hn;simp at hn;omega) hl ht (by omega);rw[Hhd1.out] at hC1;have hsuf:=(ZdT jS n 1 r1).trans (by rw[← Hhd1.out];exact List.drop_suffix _ _:r1 <:+ S);obtain⟨x,hx⟩:=eJ (rdP jS n 1 r1);rw[hx] at hC1 hsuf ⊢;obtain⟨es,q,fl⟩:=x;have HC1:=qh (show Calls Tryz.prog 41 #[.string (txB S),.int .i64 ((i:Int)+1),.int .i64 0] w fun e w'=>RRs S (es,q,fl) w e w' from hC1);obtain⟨hq1,hq2⟩:=ZjE hsuf;simp only at hq1 hq2;have Hhrd:=qh hrd;clear hrd;have Hhx:=qh hx;clear hx;clear hC1 hn hi n1 n2 c48 c49 cl hcmp hend hsuf;cases fl with
   | true =>
    have hb:brkP (es,q,true)=([],q,true):=by cases q<;>rfl
    rw[hb];replace hb:=qh hb;clear hq1 hq2
    go_enter Tryz.func41, Tryz.ntmps41
    go_wp2_with (go_at_call 41;refine(HC1.out).mono ?_;rintro e w1 ⟨a1,c1,rfl,hS1⟩;have HN1:=qh ((Zfd hS1).pick [1] (by decide));simp only[show endI S (es,q,true) = -1 from rfl];clear hS1);refine bodyPost_ret (v:=.tuple #[.slice (some ⟨w1.heap.size,0,none⟩) 0 0,.int .i64 (-1)]) (by simp[results,Tryz.results41,go_sem]) rfl ?_;exact RRs.nil S q HN1.out
   | false =>
    cases q with
    | nil =>
     have he:endI S (es,[],false)=(S.length:Int):=rfl;clear hq1 hq2
     go_enter Tryz.func41, Tryz.ntmps41
     go_wp2_with (go_at_call 41;refine(HC1.out).mono ?_;rintro e w1 ⟨a1,c1,rfl,hS1⟩;have HN1:=qh ((Zfd hS1).pick [1] (by decide));simp only[he];clear hS1);refine bodyPost_ret (v:=.tuple #[.slice (some ⟨w1.heap.size,0,none⟩) 0 0,.int .i64 (-1)]) (by simp[results,Tryz.results41,go_sem]) rfl ?_;exact RRs.nil S [] HN1.out
    | cons d q =>
     obtain⟨hj1,hjc,hjd,hjl⟩:=Zcb hq1;obtain⟨j,hj⟩:=eJ (S.length-(d::q).length);rw[hj] at hj1 hjc hjd hjl;have he:endI S (es,d::q,false)=(j:Int):=by unfold endI;simp only[Bool.false_eq_true,if_false,hj]
     have hjI:(j:Int)<(S.length:Int):=by omega
     have hw2:IntKind.i64.wrap ((j:Int)+1)=(j:Int)+1:=IntWalk.i64_in _ (by omega);have hjx:=fun u=>ZbE (l:=S) (i:=j) (by omega) Hht.out u
     rw[hjc] at hjx;have hend2:endI S (es,q,false)=(j:Int)+1:=by unfold endI;simp only[Bool.false_eq_true,if_false];omega
     have Hend2:=qh hend2;have Hhj:=qh hj;clear hj;have Hhjc:=qh hjc;clear hjc;have Hhjd:=qh hjd;clear hjd;have Hhjl:=qh hjl;clear hjl;clear hq1 hq2 hend2;by_cases h41:d=41
     ·subst h41
      go_enter Tryz.func41, Tryz.ntmps41
      go_wp2_with (go_at_call 41;refine(HC1.out).mono ?_;rintro e w1 ⟨a1,c1,rfl,hS1⟩;have HS1:=qh hS1;simp only[he];clear hS1);refine bodyPost_ret (v:=.tuple #[.slice a1 es.length c1,.int .i64 ((j:Int)+1)]) (by simp[results,Tryz.results41,go_sem]) rfl ?_;exact⟨a1,c1,by rw[show brkP (es,41::q,false)=(es,q,false) from rfl,Hend2.out],HS1.out⟩
     have hb:brkP (es,d::q,false)=([],d::q,true):=if_neg h41;rw[hb];have n4:((d:Int) != 41)=true:=by simp;omega
     replace hb:=qh hb
     go_enter Tryz.func41, Tryz.ntmps41
     go_wp2_with (go_at_call 41;refine(HC1.out).mono ?_;rintro e w1 ⟨a1,c1,rfl,hS1⟩;have HN1:=qh ((Zfd hS1).pick [1] (by decide));simp only[he];clear hS1);refine bodyPost_ret (v:=.tuple #[.slice (some ⟨w1.heap.size,0,none⟩) 0 0,.int .i64 (-1)]) (by simp[results,Tryz.results41,go_sem]) rfl ?_;exact RRs.nil S (d::q) HN1.out
  rw[if_neg c40] at hrd;rw[hrd];have n3:((c:Int)=40)=False:=by simp;omega
  have Hhrd:=qh hrd;clear hrd;clear hend hn hi;rcases hcmp with g1|⟨g1,g2⟩
  ·go_enter Tryz.func41, Tryz.ntmps41
   go_wp2;refine bodyPost_ret (v:=.tuple #[.slice (some ⟨w.heap.size,0,none⟩) 0 0,.int .i64 (-1)]) (by simp[results,Tryz.results41,go_sem]) rfl ?_;exact RRs.nil S r1 HN.out
  go_enter Tryz.func41, Tryz.ntmps41
  go_wp2;refine bodyPost_ret (v:=.tuple #[.slice (some ⟨w.heap.size,0,none⟩) 0 0,.int .i64 (-1)]) (by simp[results,Tryz.results41,go_sem]) rfl ?_;exact RRs.nil S r1 HN.out
end Go.Proofs.YtncekbbhgipdlaaGreat
