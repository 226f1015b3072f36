/-
  The walk over the program's ExprOf.
  Condition: the automaton reads as such.
-/
import Derived.Test.YtncekbbhgipdlaaGreatPs23Cmp
import Derived.Test.YtncekbbhgipdlaaGreatPs31Xpi
set_option maxHeartbeats 8000000
set_option maxRecDepth 100000
namespace Go.Proofs.YtncekbbhgipdlaaGreat
open Go.RowKit
def kleO (d:DfaD):Prop:=Zah d.next d.ends=true∧kleP (minD d)
def Zgv (d:DfaD) (L:List (Int × Int)) (b:Bool):Prop:=(kleO d→b=true∧L=(kleE (minD d) (minD d).next.length).post)∧(¬ kleO d→b=false∧L=[])
theorem ZlF (d:DfaD):∃ L b,Zgv d L b:=by
 by_cases h:kleO d
 ·exact⟨_,true,fun _=>⟨rfl,rfl⟩,fun h'=>absurd h h'⟩
 exact⟨[],false,fun h'=>absurd h' h,fun _=>⟨rfl,rfl⟩⟩
def RPe (L:List (Int × Int)) (b:Bool) (w:World) (e:Ending) (w':World):Prop:=∃ g c,e = .returned (.tuple #[.slice g L.length c,.bool b])∧Pairs 0 w' (.slice g L.length c) L∧Below w.heap.size w w'
theorem Zhc (d:DfaD) (L:List (Int × Int)) (b:Bool) (hA:Zgv d L b) (v:Value) (w:World) (h:DfaR 0 w v d) :
  Calls Tryz.prog 25 #[v] w fun e w'=>RPe L b w e w':=by
 have H:=qh h;obtain⟨v1,v2,rfl,g1,g2⟩:=h;have hS0:=(St.start w).alloc _ rfl #[v1,v2] 44;have e0:=hS0.cell (v:=v1) 0 0 rfl rfl;have e1:=hS0.cell (v:=v2) 0 1 rfl rfl;have HA:=qh hA;replace hS0:=qh hS0;clear g1 g2 hA;cases hok:Zah d.next d.ends
 ·obtain⟨rfl,rfl⟩:=HA.out.2 (fun h=>by have:=h.1;rw[hok] at this;exact absurd this (by decide));have Hhok:=qh hok;clear hok
  go_enter Tryz.func25, Tryz.ntmps25
  go_wp2_with fail;refine(Zdg d _ _ (H.out.below hS0.out.bel) _ Hhok.out).mono ?_;rintro e w1 ⟨rfl,hb1⟩;have HS1:=qh (hS0.out.call hb1);clear hb1 e0 e1;go_wp2
  go_ret2
  exact⟨none,0,rfl,ZdJ,HS1.out.bel⟩
 have hmo:=Zi5 hok;have Hhok:=qh hok;clear hok
 go_enter Tryz.func25, Tryz.ntmps25
 go_wp2_with fail;refine(Zdg d _ _ (H.out.below hS0.out.bel) _ Hhok.out).mono ?_;rintro e w1 ⟨rfl,hb1⟩;have HS1:=qh (hS0.out.call hb1);clear hb1 e0 e1;have e0:=HS1.out.cell (v:=v1) 0 0 rfl rfl;have e1:=HS1.out.cell (v:=v2) 0 1 rfl rfl;go_wp2_with fail;refine(ZbC d _ _ Hhok.out (H.out.below HS1.out.bel)).mono ?_;rintro e w2 ⟨a1,c1,a2,c2,rfl,hdo,hb2⟩;have HS2:=qh (HS1.out.call hb2);have HDr:=qh (hdo.r.mono (Nat.zero_le _));clear hb2 hdo e0 e1;go_wp2_with fail;refine(ZlL (minD d) _ _ hmo HDr.out).mono ?_;rintro e w3 ⟨g,m,c,q,rfl,hy,hn,hb3⟩;have HS3:=qh (HS2.out.call hb3);clear hb3;by_cases hp:kleP (minD d)
 ·obtain⟨rfl,rfl,hP⟩:=hy hp;obtain⟨rfl,rfl⟩:=HA.out.1 ⟨Hhok.out,hp⟩;have HP:=qh hP;clear hP hy hn;go_wp2
  go_ret2
  exact⟨g,c,rfl,HP.out,HS3.out.bel⟩
 obtain rfl:=hn hp;obtain⟨rfl,rfl⟩:=HA.out.2 (fun h=>hp h.2);clear hy hn;go_wp2
 go_ret2
 exact⟨none,0,rfl,ZdJ,HS3.out.bel⟩
end Go.Proofs.YtncekbbhgipdlaaGreat
namespace Go.Proofs.YtncekbbhgipdlaaGreat
theorem StarL.first {L:List Nat→Prop} {w:List Nat} (h:StarL L w):w=[]∨∃ u v,u≠[]∧w=u++v∧L u∧StarL L v:=by
 obtain⟨ws,rfl,hs⟩:=h
 induction ws with
 | nil=>exact .inl rfl
 | cons u ws ih =>
  by_cases hu:u=[]
  ·subst hu;exact ih fun x hx=>hs x (by simp[hx])
  exact .inr ⟨u,ws.flatten,hu,rfl,hs u (by simp),ws,rfl,fun x hx=>hs x (by simp[hx])⟩
end Go.Proofs.YtncekbbhgipdlaaGreat
namespace Go.Proofs.YtncekbbhgipdlaaGreat
open Go.RowKit
theorem ZkL {d:DfaD} {L:List (Int × Int)} {b:Bool} (hA:Zgv d L b) (hb:b=true):Zah d.next d.ends=true∧∃ t:Ex,t.post=L∧L.length≤60∧∀ w,isW w→(memE t w↔accD d w=true):=by
 by_cases h:kleO d
 ·have hL:=(hA.1 h).2;have hf:=ZaJ h.1;refine⟨h.1,_,hL.symm,by rw[hL];exact h.2.2,fun w hw => ?_⟩;rw[Zow (ZkR hf) hw,ZmS hf hw]
 rw[(hA.2 h).1] at hb;cases hb
theorem Zov {d:DfaD} {L:List (Int × Int)} {b:Bool} (hA:Zgv d L b) (hb:b=false):L=[]:=by
 by_cases h:kleO d
 ·rw[(hA.1 h).1] at hb;cases hb
 exact(hA.2 h).2
theorem Zps {d:DfaD} {L:List (Int × Int)} {b:Bool} (hA:Zgv d L b):L.length≤60:=by
 cases b with
 | true =>obtain⟨-,t,-,h,-⟩:=ZkL hA rfl;exact h
 | false=>rw[Zov hA rfl];exact Nat.zero_le _
def Zmj (A B:List Nat):List Nat:=if B.length<A.length then B else A
def Zpb (K:Nat) (s T:List Nat) (ok:Bool):Prop:=(Zch s=none∧T=[]∧ok=false) ∨
 ∃ (t:Ex) (o:Option DfaD),Zch s=some t.post∧t.post.length≤60∧Zaq K t=o∧ok=true ∧
  ((o=none∧T=prE (simE t))∨∃ (D:DfaD) (L:List (Int × Int)) (b:Bool),o=some D∧Zgv D L b∧T=if b=true then Zmj (prE (simE t)) (ZdQ L) else prE (simE t))
theorem ZnY (K:Nat) (s:List Nat):∃ T ok,Zpb K s T ok:=by
 cases h:Zch s with
 | none=>exact⟨[],false,.inl ⟨h,rfl,rfl⟩⟩
 | some es =>
  have hok:=Zn8 h;obtain⟨t,rfl⟩:=parse hok;have h60:=(Zbk hok).2.2.2;cases ho:Zaq K t with
  | none=>exact⟨_,true,.inr ⟨t,none,h,h60,ho,rfl,.inl ⟨rfl,rfl⟩⟩⟩
  | some D =>obtain⟨L,b,hA⟩:=ZlF D;exact⟨_,true,.inr ⟨t,some D,h,h60,ho,rfl,.inr ⟨D,L,b,rfl,hA,rfl⟩⟩⟩
theorem Zpg {es:List (Int × Int)} {w w':World} {e:Ending} (h:RPo es w e w'):RPr es w e w':=by obtain⟨a,c,rfl,hS⟩:=h;exact⟨_,rfl,Zad (hS.row 0 rfl),hS.bel⟩
theorem ZmQ (k z:Int) (xs ys:List (Int × Int)):(mkL k z xs ys).length≤xs.length+ys.length+1:=by
 have h1:(xs++ys++[(k,z)]).length=xs.length+ys.length+1:=by rw[List.length_append,List.length_append];rfl
 have h2:(xs.take (xs.length-1)).length≤xs.length:=by rw[List.length_take];omega
 unfold mkL
 repeat' split
 all_goals first|omega|(show 1≤_;omega)
theorem Zdc (es A B A' B':List (Int × Int)) (k z:Int) (hok:exOk es=true) (hsp:∀ xs ys,splits es xs ys→xs=A∧ys=B) (hl:es.getD (es.length-1) (0,0)=(k,z))
  (hA:1≤A.length→∀ (v:Value) (w:World),Pairs 0 w v A→Calls Tryz.prog 44 #[v] w fun e w'=>RPr A' w e w') (hA0:A=[]→A'=[])
  (hB:1≤B.length→∀ (v:Value) (w:World),Pairs 0 w v B→Calls Tryz.prog 44 #[v] w fun e w'=>RPr B' w e w') (hB0:B=[]→B'=[]) (hBA:A=[]→B=[])
  (hne:k=7∨k=8→1≤A'.length) (hlA:A'.length≤1000) (hlB:B'.length≤1000) (v:Value) (w:World) (h:Pairs 0 w v es) :
  Calls Tryz.prog 44 #[v] w fun e w'=>RPo (mkL k z A' B') w e w':=by
 obtain⟨-,-,hn1,hn60⟩:=Zbk hok;obtain⟨a,c,rfl,hc1,hc2,hrd⟩:=h.form;obtain⟨b,o,rfl,-,hbl,hcs⟩:=hrd (by omega);obtain⟨m,hm⟩:∃ m,es.length=m+1:=⟨es.length-1,by omega⟩;obtain⟨g1,g2⟩:=hcs m (by omega);rw[show es.length-1=m by omega] at hl;rw[hl] at g1 g2;simp only at g1 g2;have hlI:(es.length:Int)-1=(m:Int):=by omega
 have hmI:(m:Int)<es.length:=by omega
 have hmw:IntKind.i64.wrap (m:Int)=(m:Int):=IntWalk.i64_in _ (by omega);obtain⟨i0,hi,hz0,hz1,hz2⟩:=info_parts Tryz.infoPt;have hml:=ZmQ k z A' B';obtain⟨M,hM⟩:=eJ (mkL k z A' B');rw[hM] at hml;rw[hM];have hml2:M.length≤10000:=by omega
 clear hml;replace hM:=qh hM;have HP:=qh h;have G1:=qh g1;have G2:=qh g2;have HA:=qh hA;have HB:=qh hB;have Hhi:=qh hi;clear hi;have Hhz0:=qh hz0;clear hz0;have Hhz1:=qh hz1;clear hz1;have Hhz2:=qh hz2;clear hz2;have Hhok:=qh hok;clear hok;have Hhm:=qh hm;clear hm;have Hhl:=qh hl;clear hl;clear h hrd hcs g1 g2 hA hB
 go_enter Tryz.func44, Tryz.ntmps44
 go_wp2_with fail;refine(ZaC es _ _ Hhok.out HP.out).mono ?_;rintro e w2 ⟨vx,vy,xs,ys,hspl,rfl,hpx,hpy,hb2⟩;obtain⟨rfl,rfl⟩:=hsp xs ys hspl;have Hpx:=qh hpx;have Hpy:=qh hpy;have HS2:=qh ((St.start w).call hb2);obtain⟨ax,cx,rfl,-⟩:=hpx.form;obtain⟨ay,cy,rfl,-⟩:=hpy.form;clear hsp hspl hpx hpy hb2;obtain⟨nx,hnx⟩:∃ n,n=xs.length:=⟨_,rfl⟩;obtain⟨ny,hny⟩:∃ n,n=ys.length:=⟨_,rfl⟩;rw[← hnx] at Hpx ⊢;rw[← hny] at Hpy ⊢;have Hhnx:=qh hnx;clear hnx;have Hhny:=qh hny;clear hny;by_cases hA1:nx=0
 ·have hB1:ny=0:=by have h1:=hBA (List.eq_nil_of_length_eq_zero (by have:=Hhnx.out;omega));rw[Hhny.out,h1];rfl
  subst hA1;subst hB1;have hAe:xs=[]:=List.eq_nil_of_length_eq_zero (by have:=Hhnx.out;omega);have HPa:Hid (Pairs 0 w2 (.slice ax 0 cx) A'):=qh (by rw[hA0 hAe,← hAe];exact Hpx.out);clear hAe;have hBe:ys=[]:=List.eq_nil_of_length_eq_zero (by have:=Hhny.out;omega)
  have HPb:Hid (Pairs 0 w2 (.slice ay 0 cy) B'):=qh (by rw[hB0 hBe,← hBe];exact Hpy.out);clear hBe;have HSr:=qh (HS2.out.newRow0 62 2);have k1:=(bcell HSr.out.bel b _ hbl).trans G1.out;have k2:=(bcell HSr.out.bel b _ hbl).trans G2.out;have hmk:=ZdK k z A' B' (.slice ax 0 cx) (.slice ay 0 cy) _ (by omega) (by omega) hne (HPa.out.below ((Below.refl w2.heap.size w2).alloc (Nat.le_refl _) (.cells #[] 62))) (HPb.out.below ((Below.refl w2.heap.size w2).alloc (Nat.le_refl _) (.cells #[] 62)));rw[hM.out] at hmk;have Hmk:=qh hmk;clear hmk;go_wp2_with fail;refine(Hmk.out).mono ?_;rintro e w8 ⟨v8,rfl,hp8,hb8⟩;obtain⟨a8,c8,rfl,-⟩:=hp8.form;have HS8:=qh (HSr.out.call hb8);have HP8:Hid (Sl 0 w8 (.slice a8 M.length c8) M.length 2 (M.flatMap Zaa)):=qh hp8;clear hb8 hp8 HSr HS2 k1 k2;go_wp2_with (at_builtin;refine Zal _ rfl _ _ _ rfl _ 62 i0 (.agg #[.int .i64 0,.int .i64 0]) 2 16 Tryz.underlying28 Hhi.out Hhz0.out Hhz1.out Hhz2.out rfl (by omega) _ 0 _ rfl (HS8.out.row 0 rfl) _ M.length (M.flatMap Zaa) rfl HP8.out Zds (by unfold maxLen;omega) (by omega) HS8.out.size ?_;intro a9 c9 w9 hown hgrow hat;have hS:=(HS8.out.appS 0 rfl hown hgrow hat).pick [0] (by decide);simp only[Nat.zero_add,List.nil_append] at hS;(try simp only[Nat.zero_add]);have HS9:=qh hS;clear hown hgrow hat hS);go_ret;exact⟨_,_,rfl,HS9.out⟩
 have hAI:(0:Int)<(nx:Int):=by omega
 go_wp2_with fail;refine(HA.out (by have:=Hhnx.out;have:=Hhny.out;omega) _ _ Hpx.out).mono ?_;rintro e w3 ⟨va,rfl,hp,hb⟩;have HS3:=qh (HS2.out.call hb);have HPa:=qh hp;have Hpy3:=qh (Hpy.out.below hb);clear hp hb;by_cases hB1:ny=0
 ·subst hB1;have hBe:ys=[]:=List.eq_nil_of_length_eq_zero (by have:=Hhny.out;omega);have HPb:Hid (Pairs 0 w3 (.slice ay 0 cy) B'):=qh (by rw[hB0 hBe,← hBe];exact Hpy3.out);clear hBe;have HSr:=qh (HS3.out.newRow0 62 2);have k1:=(bcell HSr.out.bel b _ hbl).trans G1.out;have k2:=(bcell HSr.out.bel b _ hbl).trans G2.out;have hmk:=ZdK k z A' B' va (.slice ay 0 cy) _ (by omega) (by omega) hne (HPa.out.below ((Below.refl w3.heap.size w3).alloc (Nat.le_refl _) (.cells #[] 62))) (HPb.out.below ((Below.refl w3.heap.size w3).alloc (Nat.le_refl _) (.cells #[] 62)));rw[hM.out] at hmk;have Hmk:=qh hmk;clear hmk;go_wp2_with fail;refine(Hmk.out).mono ?_;rintro e w8 ⟨v8,rfl,hp8,hb8⟩;obtain⟨a8,c8,rfl,-⟩:=hp8.form;have HS8:=qh (HSr.out.call hb8);have HP8:Hid (Sl 0 w8 (.slice a8 M.length c8) M.length 2 (M.flatMap Zaa)):=qh hp8;clear hb8 hp8 HSr HS3 k1 k2;go_wp2_with (at_builtin;refine Zal _ rfl _ _ _ rfl _ 62 i0 (.agg #[.int .i64 0,.int .i64 0]) 2 16 Tryz.underlying28 Hhi.out Hhz0.out Hhz1.out Hhz2.out rfl (by omega) _ 0 _ rfl (HS8.out.row 0 rfl) _ M.length (M.flatMap Zaa) rfl HP8.out Zds (by unfold maxLen;omega) (by omega) HS8.out.size ?_;intro a9 c9 w9 hown hgrow hat;have hS:=(HS8.out.appS 0 rfl hown hgrow hat).pick [0] (by decide);simp only[Nat.zero_add,List.nil_append] at hS;(try simp only[Nat.zero_add]);have HS9:=qh hS;clear hown hgrow hat hS);go_ret;exact⟨_,_,rfl,HS9.out⟩
 have hBI:(0:Int)<(ny:Int):=by omega
 go_wp2_with fail;refine(HB.out (by have:=Hhnx.out;have:=Hhny.out;omega) _ _ Hpy3.out).mono ?_;rintro e w4 ⟨vb,rfl,hp,hb⟩;have HS4:=qh (HS3.out.call hb);have HPb:=qh hp;have HPa4:=qh (HPa.out.below hb);clear hp hb;have HSr:=qh (HS4.out.newRow0 62 2);have k1:=(bcell HSr.out.bel b _ hbl).trans G1.out;have k2:=(bcell HSr.out.bel b _ hbl).trans G2.out;have hmk:=ZdK k z A' B' va vb _ (by omega) (by omega) hne (HPa4.out.below ((Below.refl w4.heap.size w4).alloc (Nat.le_refl _) (.cells #[] 62))) (HPb.out.below ((Below.refl w4.heap.size w4).alloc (Nat.le_refl _) (.cells #[] 62)));rw[hM.out] at hmk;have Hmk:=qh hmk;clear hmk;go_wp2_with fail;refine(Hmk.out).mono ?_;rintro e w8 ⟨v8,rfl,hp8,hb8⟩;obtain⟨a8,c8,rfl,-⟩:=hp8.form;have HS8:=qh (HSr.out.call hb8);have HP8:Hid (Sl 0 w8 (.slice a8 M.length c8) M.length 2 (M.flatMap Zaa)):=qh hp8;clear hb8 hp8 HSr HS4 k1 k2;go_wp2_with (at_builtin;refine Zal _ rfl _ _ _ rfl _ 62 i0 (.agg #[.int .i64 0,.int .i64 0]) 2 16 Tryz.underlying28 Hhi.out Hhz0.out Hhz1.out Hhz2.out rfl (by omega) _ 0 _ rfl (HS8.out.row 0 rfl) _ M.length (M.flatMap Zaa) rfl HP8.out Zds (by unfold maxLen;omega) (by omega) HS8.out.size ?_;intro a9 c9 w9 hown hgrow hat;have hS:=(HS8.out.appS 0 rfl hown hgrow hat).pick [0] (by decide);simp only[Nat.zero_add,List.nil_append] at hS;(try simp only[Nat.zero_add]);have HS9:=qh hS;clear hown hgrow hat hS);go_ret;exact⟨_,_,rfl,HS9.out⟩
theorem Zlk {M:List (Int × Int)} {a:Option Addr} {c:Nat} {w w':World} (hS:St w w' [Ent.row 62 2 (.slice a M.length c) M.length (M.flatMap Zaa)]):RQm (fun _=>True) M w (.returned (.slice a M.length c)) w' :=
 Zdp hS fun u _ h=>((Zab (h _ (List.mem_singleton.2 rfl))).sl (by omega)).mono (Nat.zero_le _)
theorem Zgt (k:Int) (xs ys M:List (Int × Int)) (hM:mkL k 0 xs ys=M) (v1 v2:Value) (w:World) (hl1:xs.length≤4000) (hl2:ys.length≤4000) (hne:k=7∨k=8→1≤xs.length) (h1:Pairs 0 w v1 xs) (h2:Pairs 0 w v2 ys) :
  Calls Tryz.prog 48 #[.int .i64 k,v1,v2] w fun e w'=>RQm (fun _=>True) M w e w':=by
 have hml:=ZmQ k 0 xs ys;have hmk:=fun (u:World) (p1:Pairs 0 u v1 xs) (p2:Pairs 0 u v2 ys)=>ZdK k 0 xs ys v1 v2 u (by omega) (by omega) hne p1 p2
 rw[hM] at hml hmk;have hml2:M.length≤10000:=by omega
 obtain⟨i0,hi,hz0,hz1,hz2⟩:=info_parts Tryz.infoPt;have Hmk:=qh hmk;have H1:=qh h1;have H2:=qh h2;have HSr:=qh ((St.start w).newRow0 62 2);replace hi:=qh hi;have Hhz0:=qh hz0;clear hz0;have Hhz1:=qh hz1;clear hz1;have Hhz2:=qh hz2;clear hz2;replace hM:=qh hM;clear hml hmk h1 h2 hne hl1 hl2
 go_enter Tryz.func48, Tryz.ntmps48
 go_wp2_with fail;refine(Hmk.out _ (H1.out.below HSr.out.bel) (H2.out.below HSr.out.bel)).mono ?_;rintro e w8 ⟨v8,rfl,hp8,hb8⟩;obtain⟨a8,c8,rfl,-⟩:=hp8.form;have HS8:=qh (HSr.out.call hb8);have HP8:Hid (Sl 0 w8 (.slice a8 M.length c8) M.length 2 (M.flatMap Zaa)):=qh hp8;clear hb8 hp8 HSr;go_wp2_with (at_builtin;refine Zal _ rfl _ _ _ rfl _ 62 i0 (.agg #[.int .i64 0,.int .i64 0]) 2 16 Tryz.underlying28 hi.out Hhz0.out Hhz1.out Hhz2.out rfl (by omega) _ 0 _ rfl (HS8.out.row 0 rfl) _ M.length (M.flatMap Zaa) rfl HP8.out Zds (by unfold maxLen;omega) (by omega) HS8.out.size ?_;intro a9 c9 w9 hown hgrow hat;have hS:=(HS8.out.appS 0 rfl hown hgrow hat).pick [0] (by decide);simp only[Nat.zero_add,List.nil_append] at hS;(try simp only[Nat.zero_add]);have HS9:=qh hS;clear hown hgrow hat hS);go_ret;exact Zlk HS9.out
theorem ZkK (xs ys M:List (Int × Int)) (hM:mkL 4 0 xs ys=M) (v1 v2:Value) (w:World) (hl1:xs.length≤4000) (hl2:ys.length≤4000) (h1:Pairs 0 w v1 xs) (h2:Pairs 0 w v2 ys) :
  Calls Tryz.prog 48 #[.int .i64 4,v1,v2] w fun e w'=>RQm (fun _=>True) M w e w':=Zgt 4 xs ys M hM v1 v2 w hl1 hl2 (fun h=>absurd h (by decide)) h1 h2
theorem ZfN (xs ys M:List (Int × Int)) (hM:mkL 5 0 xs ys=M) (v1 v2:Value) (w:World) (hl1:xs.length≤4000) (hl2:ys.length≤4000) (h1:Pairs 0 w v1 xs) (h2:Pairs 0 w v2 ys) :
  Calls Tryz.prog 48 #[.int .i64 5,v1,v2] w fun e w'=>RQm (fun _=>True) M w e w':=Zgt 5 xs ys M hM v1 v2 w hl1 hl2 (fun h=>absurd h (by decide)) h1 h2
theorem ZcQ {u:World} {a:Option Addr}:Pairs 0 u (.slice a 0 0) []:=⟨rfl,a,0,rfl,Nat.zero_le _,Nat.zero_le _,fun h0=>absurd h0 (Nat.lt_irrefl 0)⟩
end Go.Proofs.YtncekbbhgipdlaaGreat
