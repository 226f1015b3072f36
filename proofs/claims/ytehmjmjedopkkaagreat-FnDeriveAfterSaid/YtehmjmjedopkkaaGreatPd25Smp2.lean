/-
  The walk over the reference's l5Simple.
  Condition: the expression has at most 60 parts and reads as such.
-/
import Derived.Test.YtehmjmjedopkkaaGreatPd21Sms
set_option maxHeartbeats 8000000
set_option maxRecDepth 100000
namespace Go.Proofs.YtehmjmjedopkkaaGreat
open Go.RowKit
theorem Zoj {es:List (Int × Int)} {w w':World} {e:Ending} (h:RPo es w e w'):RPr es w e w':=by obtain⟨a,c,rfl,hS⟩:=h;exact⟨_,rfl,Zad (hS.row 0 rfl),hS.bel⟩
theorem Zoq (k z:Int) (xs ys:List (Int × Int)):(mkL k z xs ys).length≤xs.length+ys.length+1:=by
 have h1:(xs++ys++[(k,z)]).length=xs.length+ys.length+1:=by rw[List.length_append,List.length_append];rfl
 have h2:(xs.take (xs.length-1)).length≤xs.length:=by rw[List.length_take];omega
 unfold mkL
 repeat' split
 all_goals first|omega|(show 1≤_;omega)
theorem Zc4 (es A B A' B':List (Int × Int)) (k z:Int) (hok:exOk es=true) (hsp:∀ xs ys,splits es xs ys→xs=A∧ys=B) (hl:es.getD (es.length-1) (0,0)=(k,z))
  (hA:1≤A.length→∀ (v:Value) (w:World),Pairs 0 w v A→Calls Tryz.prog 102 #[v] w fun e w'=>RPr A' w e w') (hA0:A=[]→A'=[])
  (hB:1≤B.length→∀ (v:Value) (w:World),Pairs 0 w v B→Calls Tryz.prog 102 #[v] w fun e w'=>RPr B' w e w') (hB0:B=[]→B'=[]) (hBA:A=[]→B=[])
  (hne:k=7∨k=8→1≤A'.length) (hlA:A'.length≤1000) (hlB:B'.length≤1000) (v:Value) (w:World) (h:Pairs 0 w v es) :
  Calls Tryz.prog 102 #[v] w fun e w'=>RPo (mkL k z A' B') w e w':=by
 obtain⟨-,-,hn1,hn60⟩:=ZaH hok;obtain⟨a,c,rfl,hc1,hc2,hrd⟩:=h.form;obtain⟨b,o,rfl,-,hbl,hcs⟩:=hrd (by omega);obtain⟨m,hm⟩:∃ m,es.length=m+1:=⟨es.length-1,by omega⟩;obtain⟨g1,g2⟩:=hcs m (by omega);rw[show es.length-1=m by omega] at hl;rw[hl] at g1 g2;simp only at g1 g2;have hlI:(es.length:Int)-1=(m:Int):=by omega
 have hmI:(m:Int)<es.length:=by omega
 have hmw:IntKind.i64.wrap (m:Int)=(m:Int):=IntWalk.i64_in _ (by omega);obtain⟨i0,hi,hz0,hz1,hz2⟩:=info_parts Tryz.infoPt;have hml:=Zoq k z A' B';obtain⟨M,hM⟩:=eJ (mkL k z A' B');rw[hM] at hml;rw[hM];have hml2:M.length≤10000:=by omega
 clear hml;replace hM:=qh hM;have HP:=qh h;have G1:=qh g1;have G2:=qh g2;have HA:=qh hA;have HB:=qh hB;have Hhi:=qh hi;clear hi;have Hhz0:=qh hz0;clear hz0;have Hhz1:=qh hz1;clear hz1;have Hhz2:=qh hz2;clear hz2;have Hhok:=qh hok;clear hok;have Hhm:=qh hm;clear hm;have Hhl:=qh hl;clear hl;clear h hrd hcs g1 g2 hA hB
 go_enter Tryz.func102, Tryz.ntmps102
 go_wp2_with fail;refine(Zas es _ _ Hhok.out HP.out).mono ?_;rintro e w2 ⟨vx,vy,xs,ys,hspl,rfl,hpx,hpy,hb2⟩;obtain⟨rfl,rfl⟩:=hsp xs ys hspl;have Hpx:=qh hpx;have Hpy:=qh hpy;have HS2:=qh ((St.start w).call hb2);obtain⟨ax,cx,rfl,-⟩:=hpx.form;obtain⟨ay,cy,rfl,-⟩:=hpy.form;clear hsp hspl hpx hpy hb2;obtain⟨nx,hnx⟩:∃ n,n=xs.length:=⟨_,rfl⟩;obtain⟨ny,hny⟩:∃ n,n=ys.length:=⟨_,rfl⟩;rw[← hnx] at Hpx ⊢;rw[← hny] at Hpy ⊢;have Hhnx:=qh hnx;clear hnx;have Hhny:=qh hny;clear hny;by_cases hA1:nx=0
 ·have hB1:ny=0:=by have h1:=hBA (List.eq_nil_of_length_eq_zero (by have:=Hhnx.out;omega));rw[Hhny.out,h1];rfl
  subst hA1;subst hB1;have hAe:xs=[]:=List.eq_nil_of_length_eq_zero (by have:=Hhnx.out;omega);have HPa:Hid (Pairs 0 w2 (.slice ax 0 cx) A'):=qh (by rw[hA0 hAe,← hAe];exact Hpx.out);clear hAe;have hBe:ys=[]:=List.eq_nil_of_length_eq_zero (by have:=Hhny.out;omega)
  have HPb:Hid (Pairs 0 w2 (.slice ay 0 cy) B'):=qh (by rw[hB0 hBe,← hBe];exact Hpy.out);clear hBe;have HSr:=qh (HS2.out.newRow0 55 2);have k1:=(bcell HSr.out.bel b _ hbl).trans G1.out;have k2:=(bcell HSr.out.bel b _ hbl).trans G2.out;have hmk:=ZcM k z A' B' (.slice ax 0 cx) (.slice ay 0 cy) _ (by omega) (by omega) hne (HPa.out.below ((Below.refl w2.heap.size w2).alloc (Nat.le_refl _) (.cells #[] 55))) (HPb.out.below ((Below.refl w2.heap.size w2).alloc (Nat.le_refl _) (.cells #[] 55)));rw[hM.out] at hmk;have Hmk:=qh hmk;clear hmk;go_wp2_with fail;refine(Hmk.out).mono ?_;rintro e w8 ⟨v8,rfl,hp8,hb8⟩;obtain⟨a8,c8,rfl,-⟩:=hp8.form;have HS8:=qh (HSr.out.call hb8);have HP8:Hid (Sl 0 w8 (.slice a8 M.length c8) M.length 2 (M.flatMap Zaa)):=qh hp8;clear hb8 hp8 HSr HS2 k1 k2;go_wp2_with (at_builtin;refine Zal _ rfl _ _ _ rfl _ 55 i0 (.agg #[.int .i64 0,.int .i64 0]) 2 16 Tryz.underlying23 Hhi.out Hhz0.out Hhz1.out Hhz2.out rfl (by omega) _ 0 _ rfl (HS8.out.row 0 rfl) _ M.length (M.flatMap Zaa) rfl HP8.out ZbB (by unfold maxLen;omega) (by omega) HS8.out.size ?_;intro a9 c9 w9 hown hgrow hat;have hS:=(HS8.out.appS 0 rfl hown hgrow hat).pick [0] (by decide);simp only[Nat.zero_add,List.nil_append] at hS;(try simp only[Nat.zero_add]);have HS9:=qh hS;clear hown hgrow hat hS);go_ret;exact⟨_,_,rfl,HS9.out⟩
 have hAI:(0:Int)<(nx:Int):=by omega
 go_wp2_with fail;refine(HA.out (by have:=Hhnx.out;have:=Hhny.out;omega) _ _ Hpx.out).mono ?_;rintro e w3 ⟨va,rfl,hp,hb⟩;have HS3:=qh (HS2.out.call hb);have HPa:=qh hp;have Hpy3:=qh (Hpy.out.below hb);clear hp hb;by_cases hB1:ny=0
 ·subst hB1;have hBe:ys=[]:=List.eq_nil_of_length_eq_zero (by have:=Hhny.out;omega);have HPb:Hid (Pairs 0 w3 (.slice ay 0 cy) B'):=qh (by rw[hB0 hBe,← hBe];exact Hpy3.out);clear hBe;have HSr:=qh (HS3.out.newRow0 55 2);have k1:=(bcell HSr.out.bel b _ hbl).trans G1.out;have k2:=(bcell HSr.out.bel b _ hbl).trans G2.out;have hmk:=ZcM k z A' B' va (.slice ay 0 cy) _ (by omega) (by omega) hne (HPa.out.below ((Below.refl w3.heap.size w3).alloc (Nat.le_refl _) (.cells #[] 55))) (HPb.out.below ((Below.refl w3.heap.size w3).alloc (Nat.le_refl _) (.cells #[] 55)));rw[hM.out] at hmk;have Hmk:=qh hmk;clear hmk;go_wp2_with fail;refine(Hmk.out).mono ?_;rintro e w8 ⟨v8,rfl,hp8,hb8⟩;obtain⟨a8,c8,rfl,-⟩:=hp8.form;have HS8:=qh (HSr.out.call hb8);have HP8:Hid (Sl 0 w8 (.slice a8 M.length c8) M.length 2 (M.flatMap Zaa)):=qh hp8;clear hb8 hp8 HSr HS3 k1 k2;go_wp2_with (at_builtin;refine Zal _ rfl _ _ _ rfl _ 55 i0 (.agg #[.int .i64 0,.int .i64 0]) 2 16 Tryz.underlying23 Hhi.out Hhz0.out Hhz1.out Hhz2.out rfl (by omega) _ 0 _ rfl (HS8.out.row 0 rfl) _ M.length (M.flatMap Zaa) rfl HP8.out ZbB (by unfold maxLen;omega) (by omega) HS8.out.size ?_;intro a9 c9 w9 hown hgrow hat;have hS:=(HS8.out.appS 0 rfl hown hgrow hat).pick [0] (by decide);simp only[Nat.zero_add,List.nil_append] at hS;(try simp only[Nat.zero_add]);have HS9:=qh hS;clear hown hgrow hat hS);go_ret;exact⟨_,_,rfl,HS9.out⟩
 have hBI:(0:Int)<(ny:Int):=by omega
 go_wp2_with fail;refine(HB.out (by have:=Hhnx.out;have:=Hhny.out;omega) _ _ Hpy3.out).mono ?_;rintro e w4 ⟨vb,rfl,hp,hb⟩;have HS4:=qh (HS3.out.call hb);have HPb:=qh hp;have HPa4:=qh (HPa.out.below hb);clear hp hb;have HSr:=qh (HS4.out.newRow0 55 2);have k1:=(bcell HSr.out.bel b _ hbl).trans G1.out;have k2:=(bcell HSr.out.bel b _ hbl).trans G2.out;have hmk:=ZcM k z A' B' va vb _ (by omega) (by omega) hne (HPa4.out.below ((Below.refl w4.heap.size w4).alloc (Nat.le_refl _) (.cells #[] 55))) (HPb.out.below ((Below.refl w4.heap.size w4).alloc (Nat.le_refl _) (.cells #[] 55)));rw[hM.out] at hmk;have Hmk:=qh hmk;clear hmk;go_wp2_with fail;refine(Hmk.out).mono ?_;rintro e w8 ⟨v8,rfl,hp8,hb8⟩;obtain⟨a8,c8,rfl,-⟩:=hp8.form;have HS8:=qh (HSr.out.call hb8);have HP8:Hid (Sl 0 w8 (.slice a8 M.length c8) M.length 2 (M.flatMap Zaa)):=qh hp8;clear hb8 hp8 HSr HS4 k1 k2;go_wp2_with (at_builtin;refine Zal _ rfl _ _ _ rfl _ 55 i0 (.agg #[.int .i64 0,.int .i64 0]) 2 16 Tryz.underlying23 Hhi.out Hhz0.out Hhz1.out Hhz2.out rfl (by omega) _ 0 _ rfl (HS8.out.row 0 rfl) _ M.length (M.flatMap Zaa) rfl HP8.out ZbB (by unfold maxLen;omega) (by omega) HS8.out.size ?_;intro a9 c9 w9 hown hgrow hat;have hS:=(HS8.out.appS 0 rfl hown hgrow hat).pick [0] (by decide);simp only[Nat.zero_add,List.nil_append] at hS;(try simp only[Nat.zero_add]);have HS9:=qh hS;clear hown hgrow hat hS);go_ret;exact⟨_,_,rfl,HS9.out⟩
theorem Zd5 {l:List (Int × Int)} (h:1≤l.length):l≠[]:=fun h0=>by rw[h0] at h;exact absurd h (by decide)
def SimS (t:Ex):Prop:=∀ (v:Value) (w:World),Pairs 0 w v t.post→Calls Tryz.prog 102 #[v] w fun e w'=>RPo (simE t).post w e w'
theorem Zhc {a b t:Ex} {k:Int} (hp:Zab (k,0)=2) (ht:t.post=a.post++b.post++[(k,0)]) (h60:t.post.length≤60) (hm:mkL k 0 (simE a).post (simE b).post=(simE t).post) (hk:¬ (k=7∨k=8)) (ha:SimS a) (hb:SimS b):SimS t:=by
 intro v w h;have hok:=Zaq t h60;have h1:=Zax a;have h2:=Zax b;have h3:t.post.length=a.post.length+b.post.length+1:=by rw[ht];exact ZbQ a b _
 rw[← hm];refine Zc4 t.post a.post b.post (simE a).post (simE b).post k 0 hok (fun xs ys hs => ?_) ?_ (fun _ v w hp=>(ha v w hp).mono fun _ _ h=>Zoj h) (fun h=>absurd h (Zd5 (Zap a))) (fun _ v w hp=>(hb v w hp).mono fun _ _ h=>Zoj h) (fun h=>absurd h (Zd5 (Zap b))) (fun h=>absurd h (Zd5 (Zap a))) (fun h=>absurd h hk) (by omega) (by omega) v w h
 ·rw[ht] at hs;exact Zcg hp hs
 rw[ht];exact Zd8 _ _
theorem ZjG {a t:Ex} {k:Int} (hp:Zab (k,0)=1) (ht:t.post=a.post++[(k,0)]) (h60:t.post.length≤60) (hm:mkL k 0 (simE a).post []=(simE t).post) (ha:SimS a):SimS t:=by
 intro v w h;have hok:=Zaq t h60;have h1:=Zax a;have h3:t.post.length=a.post.length+1:=by rw[ht,List.length_append];rfl
 rw[← hm];refine Zc4 t.post a.post [] (simE a).post [] k 0 hok (fun xs ys hs => ?_) ?_ (fun _ v w hp=>(ha v w hp).mono fun _ _ h=>Zoj h) (fun h=>absurd h (Zd5 (Zap a))) (fun h=>absurd h (by decide)) (fun _=>rfl) (fun _=>rfl) (fun _=>Zap _) (by omega) (by decide) v w h
 ·rw[ht] at hs;exact Zdc hp hs
 rw[ht];exact Zd8 _ _
theorem ZfC {t:Ex} {k z:Int} (hp:Zab (k,z)=0) (ht:t.post=[(k,z)]) (hk:k≤3) (hs:simE t=t):SimS t:=by
 intro v w h;have hok:=Zaq t (by rw[ht];show 1≤60;decide);have hm:mkL k z [] []=t.post:=by rw[ht];unfold mkL;rw[if_neg (by omega),if_neg (by omega),if_neg (by omega),if_neg (by omega),if_neg (by omega)];rfl
 rw[hs,← hm];refine Zc4 t.post [] [] [] [] k z hok (fun xs ys hs => ?_) ?_ (fun h=>absurd h (by decide)) (fun _=>rfl) (fun h=>absurd h (by decide)) (fun _=>rfl) (fun _=>rfl) (fun h=>by omega) (by decide) (by decide) v w h
 ·rw[ht] at hs;exact ZbE hp hs
 rw[ht];rfl
theorem ZjH:∀ t:Ex,t.post.length≤60→SimS t:=by
 intro t
 induction t with
 | zero=>exact fun _=>ZfC Zb5 rfl (by decide) rfl
 | one=>exact fun _=>ZfC Zb4 rfl (by decide) rfl
 | ltr c=>exact fun _=>ZfC (ZbN c) rfl (by decide) rfl
 | join a b ha hb=>exact fun h=>Zhc ZcW rfl h (Zdx _ _) (by decide) (ha (by simp[Ex.post] at h;omega)) (hb (by simp[Ex.post] at h;omega))
 | alt a b ha hb=>exact fun h=>Zhc Zd0 rfl h (ZeE _ _) (by decide) (ha (by simp[Ex.post] at h;omega)) (hb (by simp[Ex.post] at h;omega))
 | both a b ha hb=>exact fun h=>Zhc ZcX rfl h (Zfj _ _) (by decide) (ha (by simp[Ex.post] at h;omega)) (hb (by simp[Ex.post] at h;omega))
 | neg a ha=>exact fun h=>ZjG ZdZ rfl h (Zhz _) (ha (by simp[Ex.post] at h;omega))
 | star a ha=>exact fun h=>ZjG ZcV rfl h (ZjW _) (ha (by simp[Ex.post] at h;omega))
def Ent.mkP (A B F:Ent) (v:Value) (M:List (Int × Int)):Ent:=⟨F.foot,fun w=>F.holds w∧∀ u,A.holds u→B.holds u→F.holds u→Pairs 0 u v M,fun a b h hk=>⟨F.stable a b h.1 hk,h.2⟩⟩
theorem St.mkP {w0 w:World} {L:List Ent} (h:St w0 w L) (k:Nat) {A B F:Ent} {v:Value} {M:List (Int × Int)} (hk:L[k]? = some (Ent.mkP A B F v M)) (ha:A.holds w) (hb:B.holds w):Pairs 0 w v M:=by have h1:=(h.has k _ hk).1;exact h1.2 w ha hb h1.1
theorem Zc5 (A B:Ent) (xs ys M:List (Int × Int)) (v1 v2:Value) (k z:Int) (hM:mkL k z xs ys=M) (w:World) (hl1:xs.length≤10000) (hl2:ys.length≤10000) (hne:k=7∨k=8→1≤xs.length) (hA:∀ u,A.holds u→Pairs 0 u v1 xs) (hB:∀ u,B.holds u→Pairs 0 u v2 ys) (ha:A.holds w) (hb:B.holds w) :
  Calls Tryz.prog 91 #[.agg #[.int .i64 k,.int .i64 z],v1,v2] w fun e w'=>∃ g c F,e = .returned (.slice g M.length c)∧St w w' [Ent.mkP A B F (.slice g M.length c) M]:=by
 refine(ZfZ k z xs ys v1 v2 w hl1 hl2 hne (hA w ha) (hB w hb)).mono ?_;rintro e w' ⟨v,F,rfl,hS,hF⟩;rw[hM] at hF;have hP:=hF w' ((hA w ha).below hS.bel) ((hB w hb).below hS.bel) (hS.has 0 F rfl).1;obtain⟨g,c,rfl,-⟩:=hP.form;exact⟨g,c,F,rfl,hS.same 0 rfl (Ent.mkP A B F _ M) (fun h=>⟨h,fun u h1 h2 h3=>hF u (hA u h1) (hB u h2) h3⟩) fun k hk=>hk⟩
theorem ZoO (c:Nat):∀ t:Ex,(drvE c t).post.length≤2*(t.post.length*t.post.length):=by
 have sq:∀ a b:Nat,(a+b+1)*(a+b+1)=a*a+b*b+2*(a*b)+2*a+2*b+1:=fun a b=>by have h:=Nat.mul_comm b a;simp only[Nat.mul_add,Nat.add_mul,Nat.mul_one,Nat.one_mul];omega
 have sq1:∀ a:Nat,(a+1)*(a+1)=a*a+2*a+1:=fun a=>by simp only[Nat.mul_add,Nat.add_mul,Nat.mul_one,Nat.one_mul];omega
 have l1:∀ (a:Ex) (p:Int × Int),(a.post++[p]).length=a.post.length+1:=fun a p=>by rw[List.length_append];rfl
 intro t
 induction t with
 | zero=>show 1≤2*(1*1);omega
 | one=>show 1≤2*(1*1);omega
 | ltr d =>
  show(if d.val=c then Ex.one else Ex.zero).post.length≤2*(1*1)
  split
  ·show 1≤2*(1*1);omega
  show 1≤2*(1*1);omega
 | join a b ha hb =>
  have h1:=ZcN (drvE c a) (simE b);have h2:=Zax b;have h3:=Zdp (Zbe (drvE c a) (simE b)) (drvE c b);have h4:=sq a.post.length b.post.length;show(if hasE a=true then Zcu (Zbe (drvE c a) (simE b)) (drvE c b) else Zbe (drvE c a) (simE b)).post.length≤2*((a.post++b.post++[(4,0)]).length*(a.post++b.post++[(4,0)]).length);rw[ZbQ,h4]
  split<;>omega
 | alt a b ha hb =>have h3:=Zdp (drvE c a) (drvE c b);have h4:=sq a.post.length b.post.length;show(Zcu (drvE c a) (drvE c b)).post.length≤2*((a.post++b.post++[(5,0)]).length*(a.post++b.post++[(5,0)]).length);rw[ZbQ,h4];omega
 | both a b ha hb =>have h3:=Zgo (drvE c a) (drvE c b);have h4:=sq a.post.length b.post.length;show(ZeO (drvE c a) (drvE c b)).post.length≤2*((a.post++b.post++[(6,0)]).length*(a.post++b.post++[(6,0)]).length);rw[ZbQ,h4];omega
 | neg a ha =>have h3:=Zhx (drvE c a);have h4:=sq1 a.post.length;show(negS (drvE c a)).post.length≤2*((a.post++[(7,0)]).length*(a.post++[(7,0)]).length);rw[l1,h4];omega
 | star a ha =>have h1:=ZcN (drvE c a) (simE (.star a));have h2:(simE (.star a)).post.length≤(a.post++[(8,0)]).length:=Zax (.star a);have h4:=sq1 a.post.length;rw[l1] at h2;show(Zbe (drvE c a) (simE (.star a))).post.length≤2*((a.post++[(8,0)]).length*(a.post++[(8,0)]).length);rw[l1,h4];omega
theorem Zaz (c:Nat) {t:Ex} (h:t.post.length≤60):(drvE c t).post.length≤7200:=by have h1:=ZoO c t;have h2:=Nat.mul_le_mul h h;omega
end Go.Proofs.YtehmjmjedopkkaaGreat
