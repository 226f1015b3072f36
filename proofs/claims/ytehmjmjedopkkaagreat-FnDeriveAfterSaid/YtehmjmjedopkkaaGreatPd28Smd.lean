/-
  The walk over the reference's l6Derive, by the tree.
  Condition: the expression reads as such.
-/
import Derived.Test.YtehmjmjedopkkaaGreatPd25Smp2
import Derived.Test.YtehmjmjedopkkaaGreatPd27Smh
set_option maxHeartbeats 16000000
set_option maxRecDepth 100000
namespace Go.Proofs.YtehmjmjedopkkaaGreat
open Go.RowKit
def DrvS (lt:Nat) (t:Ex):Prop:=∀ (v:Value) (w:World),Pairs 0 w v t.post→Calls Tryz.prog 64 #[v,.int .i64 (lt:Int)] w fun e w'=>RPo (drvE lt t).post w e w'
theorem ZkF {u:World} {a:Option Addr}:Pairs 0 u (.slice a 0 0) []:=⟨rfl,a,0,rfl,Nat.zero_le _,Nat.zero_le _,fun h0=>absurd h0 (Nat.lt_irrefl 0)⟩
theorem ZnE (lt:Nat) :DrvS lt (Ex.zero):=by
 intro v w h;have h60:(Ex.zero).post.length≤60:=by show 1≤60;decide
 obtain⟨i0,hi,hz0,hz1,hz2⟩:=info_parts Tryz.infoPt;have hok:=Zaq _ h60;have Hh:=qh h;have hP:=h;rw[show(Ex.zero).post=(([]:List (Int × Int)))++[(1,0)] from rfl] at hP;obtain⟨bb,off,cap,rfl,hc1,hc2,hbl,hcell⟩:=Za7 hP;obtain⟨m,hm⟩:=eI ((([]:List (Int × Int))).length);rw[← hm] at hc1 hcell Hh;rw[← hm];have hmI:m≤59:=by rw[hm];simp[Ex.post] at h60 ⊢
 have Hcell:=qh hcell;have hw1:IntKind.i64.wrap ((m:Int)+1-1)=(m:Int):=by rw[IntWalk.i64_in _ (by omega)];omega
 have hb1:Below w.heap.size w (w.alloc (.cells #[.int .i64 1,.int .i64 0] 55)):=(Below.refl w.heap.size w).alloc (Nat.le_refl _) (.cells #[.int .i64 1,.int .i64 0] 55);replace hi:=qh hi;have Hhz0:=qh hz0;clear hz0;have Hhz1:=qh hz1;clear hz1;have Hhz2:=qh hz2;clear hz2;have Hhm:=qh hm;clear hm;have Hhok:=qh hok;clear hok;replace hb1:=qh hb1;clear h hP hcell
 go_enter Tryz.func64, Tryz.ntmps64
 go_wp2_with fail;refine(Zas _ _ _ Hhok.out (Hh.out.below hb1.out)).mono ?_;rintro e w2 ⟨vx,vy,xs,ys,hsp,rfl,hx,hy,hb2⟩;obtain⟨rfl,rfl⟩:=ZbE Zb5 hsp;obtain⟨ax,cx,rfl,-⟩:=hx.form;obtain⟨ay,cy,rfl,-⟩:=hy.form;have HX:=qh hx;have HY:=qh hy;have HS0:=qh ((((St.start w).alloc w.heap.size rfl #[.int .i64 1,.int .i64 0] 55).boxrow 0 1 2 [.int .i64 1,.int .i64 0] rfl rfl (by unfold maxLen;omega)).call hb2);obtain⟨k1,k2⟩:=Hcell.out _ HS0.out.bel;clear hsp hx hy hb2;have HS3:=qh ((HS0.out.alloc w2.heap.size rfl #[.int .i64 1,.int .i64 0] 55).pick [0] (by decide));go_wp2;go_ret;exact⟨_,_,rfl,HS3.out⟩
theorem ZoL (lt:Nat) :DrvS lt (Ex.one):=by
 intro v w h;have h60:(Ex.one).post.length≤60:=by show 1≤60;decide
 obtain⟨i0,hi,hz0,hz1,hz2⟩:=info_parts Tryz.infoPt;have hok:=Zaq _ h60;have Hh:=qh h;have hP:=h;rw[show(Ex.one).post=(([]:List (Int × Int)))++[(2,0)] from rfl] at hP;obtain⟨bb,off,cap,rfl,hc1,hc2,hbl,hcell⟩:=Za7 hP;obtain⟨m,hm⟩:=eI ((([]:List (Int × Int))).length);rw[← hm] at hc1 hcell Hh;rw[← hm];have hmI:m≤59:=by rw[hm];simp[Ex.post] at h60 ⊢
 have Hcell:=qh hcell;have hw1:IntKind.i64.wrap ((m:Int)+1-1)=(m:Int):=by rw[IntWalk.i64_in _ (by omega)];omega
 have hb1:Below w.heap.size w (w.alloc (.cells #[.int .i64 1,.int .i64 0] 55)):=(Below.refl w.heap.size w).alloc (Nat.le_refl _) (.cells #[.int .i64 1,.int .i64 0] 55);replace hi:=qh hi;have Hhz0:=qh hz0;clear hz0;have Hhz1:=qh hz1;clear hz1;have Hhz2:=qh hz2;clear hz2;have Hhm:=qh hm;clear hm;have Hhok:=qh hok;clear hok;replace hb1:=qh hb1;clear h hP hcell
 go_enter Tryz.func64, Tryz.ntmps64
 go_wp2_with fail;refine(Zas _ _ _ Hhok.out (Hh.out.below hb1.out)).mono ?_;rintro e w2 ⟨vx,vy,xs,ys,hsp,rfl,hx,hy,hb2⟩;obtain⟨rfl,rfl⟩:=ZbE Zb4 hsp;obtain⟨ax,cx,rfl,-⟩:=hx.form;obtain⟨ay,cy,rfl,-⟩:=hy.form;have HX:=qh hx;have HY:=qh hy;have HS0:=qh ((((St.start w).alloc w.heap.size rfl #[.int .i64 1,.int .i64 0] 55).boxrow 0 1 2 [.int .i64 1,.int .i64 0] rfl rfl (by unfold maxLen;omega)).call hb2);obtain⟨k1,k2⟩:=Hcell.out _ HS0.out.bel;clear hsp hx hy hb2;have HS3:=qh ((HS0.out.alloc w2.heap.size rfl #[.int .i64 2,.int .i64 0] 55).pick [0] (by decide));go_wp2;go_ret;exact⟨_,_,rfl,HS3.out⟩
theorem ZoN (lt:Nat) (ch:Fin 3) :DrvS lt (Ex.ltr ch):=by
 intro v w h;have h60:(Ex.ltr ch).post.length≤60:=by show 1≤60;decide
 obtain⟨i0,hi,hz0,hz1,hz2⟩:=info_parts Tryz.infoPt;have hok:=Zaq _ h60;have Hh:=qh h;have hP:=h;rw[show(Ex.ltr ch).post=(([]:List (Int × Int)))++[(3,(ch.val:Int))] from rfl] at hP;obtain⟨bb,off,cap,rfl,hc1,hc2,hbl,hcell⟩:=Za7 hP;obtain⟨m,hm⟩:=eI ((([]:List (Int × Int))).length);rw[← hm] at hc1 hcell Hh;rw[← hm];have hmI:m≤59:=by rw[hm];simp[Ex.post] at h60 ⊢
 have Hcell:=qh hcell;have hw1:IntKind.i64.wrap ((m:Int)+1-1)=(m:Int):=by rw[IntWalk.i64_in _ (by omega)];omega
 have hb1:Below w.heap.size w (w.alloc (.cells #[.int .i64 1,.int .i64 0] 55)):=(Below.refl w.heap.size w).alloc (Nat.le_refl _) (.cells #[.int .i64 1,.int .i64 0] 55);replace hi:=qh hi;have Hhz0:=qh hz0;clear hz0;have Hhz1:=qh hz1;clear hz1;have Hhz2:=qh hz2;clear hz2;have Hhm:=qh hm;clear hm;have Hhok:=qh hok;clear hok;replace hb1:=qh hb1;clear h hP hcell
 go_enter Tryz.func64, Tryz.ntmps64
 go_wp2_with fail;refine(Zas _ _ _ Hhok.out (Hh.out.below hb1.out)).mono ?_;rintro e w2 ⟨vx,vy,xs,ys,hsp,rfl,hx,hy,hb2⟩;obtain⟨rfl,rfl⟩:=ZbE (ZbN ch) hsp;obtain⟨ax,cx,rfl,-⟩:=hx.form;obtain⟨ay,cy,rfl,-⟩:=hy.form;have HX:=qh hx;have HY:=qh hy;have HS0:=qh ((((St.start w).alloc w.heap.size rfl #[.int .i64 1,.int .i64 0] 55).boxrow 0 1 2 [.int .i64 1,.int .i64 0] rfl rfl (by unfold maxLen;omega)).call hb2);obtain⟨k1,k2⟩:=Hcell.out _ HS0.out.bel;clear hsp hx hy hb2;have HS3:=qh ((HS0.out.alloc w2.heap.size rfl #[.int .i64 3,.int .i64 (ch.val:Int)] 55).pick [0] (by decide));by_cases hc:ch.val=lt
 ·have hf:(drvE lt (.ltr ch)).post=[(2,0)]:=by rw[show drvE lt (.ltr ch)=(if ch.val=lt then .one else .zero) from rfl,if_pos hc];rfl
  subst hc;have Hhf:=qh hf;clear hf;go_wp2;go_ret;rw[Hhf.out];have hS4:=((HS3.out.alloc (w2.heap.size+1) (by simp) #[.int .i64 2,.int .i64 0] 55).boxrow 1 1 2 [.int .i64 2,.int .i64 0] rfl rfl (by unfold maxLen;omega)).pick [1] (by decide);exact⟨_,_,rfl,hS4⟩
 have hf:(drvE lt (.ltr ch)).post=[(1,0)]:=by rw[show drvE lt (.ltr ch)=(if ch.val=lt then .one else .zero) from rfl,if_neg hc];rfl
 have hcI:¬ ((ch.val:Int)=(lt:Int)):=by omega
 obtain⟨q1,q2,q3,q4⟩:=Zaj hcI;have Hhf:=qh hf;clear hf;go_wp2;go_ret;rw[Hhf.out];exact⟨_,_,rfl,HS3.out⟩
theorem ZnF (lt:Nat) (ta:Ex) (h60:(Ex.star ta).post.length≤60) (hta:DrvS lt ta):DrvS lt (Ex.star ta):=by
 intro v w h;obtain⟨i0,hi,hz0,hz1,hz2⟩:=info_parts Tryz.infoPt;have hok:=Zaq _ h60;have Hh:=qh h;have hP:=h;rw[show(Ex.star ta).post=(ta.post)++[(8,0)] from rfl] at hP;obtain⟨bb,off,cap,rfl,hc1,hc2,hbl,hcell⟩:=Za7 hP;obtain⟨m,hm⟩:=eI ((ta.post).length);rw[← hm] at hc1 hcell Hh;rw[← hm];have hmI:m≤59:=by rw[hm];simp[Ex.post] at h60 ⊢;omega
 have Hcell:=qh hcell;have hw1:IntKind.i64.wrap ((m:Int)+1-1)=(m:Int):=by rw[IntWalk.i64_in _ (by omega)];omega
 have h60ta:ta.post.length≤60:=by simp[Ex.post] at h60;omega
 have HEta:=qh (Zdo ta h60ta);have hlta:=Zaz lt h60ta;have hsta:=Nat.le_trans (Zax ta) h60ta;have hpta:=Zap (drvE lt ta);obtain⟨PA,hPA⟩:∃ l,(drvE lt ta).post=l:=⟨_,rfl⟩;have HTA:=qh (show ∀ (v:Value) (w:World),Pairs 0 w v ta.post→Calls Tryz.prog 64 #[v,.int .i64 (lt:Int)] w fun e w'=>∃ a c,e = .returned (.slice a PA.length c)∧St w w' [Ent.row 55 2 (.slice a PA.length c) PA.length (PA.flatMap Zaa)] from fun v w hp=>by have h9:=hta v w hp;simp only[RPo,hPA] at h9;exact h9);obtain⟨PB,hPB⟩:∃ l,(simE (.star ta)).post=l:=⟨_,rfl⟩;have HTB:=qh (show ∀ (v:Value) (w:World),Pairs 0 w v (Ex.star ta).post→Calls Tryz.prog 102 #[v] w fun e w'=>∃ a c,e = .returned (.slice a PB.length c)∧St w w' [Ent.row 55 2 (.slice a PB.length c) PB.length (PB.flatMap Zaa)] from fun v w hp=>by have h9:=ZjH (.star ta) h60 v w hp;simp only[RPo,hPB] at h9;exact h9);obtain⟨M,hM⟩:∃ l,(Zbe (drvE lt ta) (simE (.star ta))).post=l:=⟨_,rfl⟩;have hk1:mkL 4 0 PA PB=M:=by rw[← hPA,← hPB,← hM];exact Zdx _ _
 have hlM:=ZcN (drvE lt ta) (simE (.star ta));have hlB:=Nat.le_trans (Zax (.star ta)) h60;have hf:(drvE lt (.star ta)).post=M:=hM;rw[hM,hPA,hPB] at hlM;rw[hPA] at hlta hpta;rw[hPB] at hlB;have hlM':M.length≤20000:=by omega
 replace hPA:=qh hPA;have HhPB:=qh hPB;clear hPB;replace hM:=qh hM;have Hhk1:=qh hk1;clear hk1;have Hhf:=qh hf;clear hf;have hb1:Below w.heap.size w (w.alloc (.cells #[.int .i64 1,.int .i64 0] 55)):=(Below.refl w.heap.size w).alloc (Nat.le_refl _) (.cells #[.int .i64 1,.int .i64 0] 55);have Hhi:=qh hi;clear hi;have Hhz0:=qh hz0;clear hz0;have Hhz1:=qh hz1;clear hz1;have Hhz2:=qh hz2;clear hz2;have Hhm:=qh hm;clear hm;have Hhok:=qh hok;clear hok;have Hhb1:=qh hb1;clear hb1;clear h hP hcell hta hlM hsta
 go_enter Tryz.func64, Tryz.ntmps64
 go_wp2_with fail;refine(Zas _ _ _ Hhok.out (Hh.out.below Hhb1.out)).mono ?_;rintro e w2 ⟨vx,vy,xs,ys,hsp,rfl,hx,hy,hb2⟩;obtain⟨rfl,rfl⟩:=Zdc (a:=ta) (p:=(8,0)) ZcV hsp;obtain⟨ax,cx,rfl,-⟩:=hx.form;obtain⟨ay,cy,rfl,-⟩:=hy.form;have HX:=qh hx;have HY:=qh hy;have HS0:=qh ((((St.start w).alloc w.heap.size rfl #[.int .i64 1,.int .i64 0] 55).boxrow 0 1 2 [.int .i64 1,.int .i64 0] rfl rfl (by unfold maxLen;omega)).call hb2);obtain⟨k1,k2⟩:=Hcell.out _ HS0.out.bel;clear hsp hx hy hb2;have HS1:=qh ((((St.start w2).alloc w2.heap.size rfl #[.int .i64 8,.int .i64 0] 55).alloc (w2.heap.size+1) (by simp) #[] 55).boxrow 1 0 2 [] rfl rfl (Nat.zero_le _));go_wp2_with fail;refine(HTA.out _ _ (HX.out.below HS1.out.bel)).mono ?_;rintro e w3 ⟨a3,c3,rfl,hS3⟩;have HS3:=qh (HS1.out.cat hS3);clear hS3;go_wp2_with fail;refine(HTB.out _ _ (Hh.out.below (HS0.out.bel.trans (HS3.out.bel.mono HS0.out.size)))).mono ?_;rintro e w4 ⟨a4,c4,rfl,hS4⟩;have HS4:=qh (HS3.out.cat hS4);clear hS4;go_wp2_with fail;refine(ZcM 4 0 PA PB _ _ _ (by omega) (by omega) (by omega) (Zad (HS4.out.row 2 rfl)) (Zad (HS4.out.row 3 rfl))).mono ?_;rintro e w8 ⟨v8,rfl,hp8,hb8⟩;rw[Hhk1.out] at hp8;have HSr:=qh (HS4.out.call hb8);obtain⟨a8,c8,rfl,-⟩:=hp8.form;have HP9:Hid (Sl 0 w8 (.slice a8 M.length c8) M.length 2 (M.flatMap Zaa)):=qh hp8;clear hb8 hp8
 go_wp2_with (at_builtin;refine Zal _ rfl _ _ _ rfl _ 55 i0 (.agg #[.int .i64 0,.int .i64 0]) 2 16 Tryz.underlying23 Hhi.out Hhz0.out Hhz1.out Hhz2.out rfl (by omega) _ 0 _ rfl (HSr.out.row 1 rfl) _ M.length (M.flatMap Zaa) rfl HP9.out ZbB (by unfold maxLen;omega) (by omega) HSr.out.size ?_;intro a9 c9 w9 hown hgrow hat;have hS:=(HSr.out.appS 1 rfl hown hgrow hat).pick [1] (by decide);simp only[Nat.zero_add,List.nil_append] at hS;(try simp only[Nat.zero_add]);have HS9:=qh hS;clear hown hgrow hat hS);go_ret;rw[Hhf.out];exact⟨_,_,rfl,(HS0.out.cat HS9.out).pick [1] (by decide)⟩
theorem ZoM (lt:Nat) (ta:Ex) (h60:(Ex.neg ta).post.length≤60) (hta:DrvS lt ta):DrvS lt (Ex.neg ta):=by
 intro v w h;obtain⟨i0,hi,hz0,hz1,hz2⟩:=info_parts Tryz.infoPt;have hok:=Zaq _ h60;have Hh:=qh h;have hP:=h;rw[show(Ex.neg ta).post=(ta.post)++[(7,0)] from rfl] at hP;obtain⟨bb,off,cap,rfl,hc1,hc2,hbl,hcell⟩:=Za7 hP;obtain⟨m,hm⟩:=eI ((ta.post).length);rw[← hm] at hc1 hcell Hh;rw[← hm];have hmI:m≤59:=by rw[hm];simp[Ex.post] at h60 ⊢;omega
 have Hcell:=qh hcell;have hw1:IntKind.i64.wrap ((m:Int)+1-1)=(m:Int):=by rw[IntWalk.i64_in _ (by omega)];omega
 have h60ta:ta.post.length≤60:=by simp[Ex.post] at h60;omega
 have HEta:=qh (Zdo ta h60ta);have hlta:=Zaz lt h60ta;have hsta:=Nat.le_trans (Zax ta) h60ta;have hpta:=Zap (drvE lt ta);obtain⟨PA,hPA⟩:∃ l,(drvE lt ta).post=l:=⟨_,rfl⟩;have HTA:=qh (show ∀ (v:Value) (w:World),Pairs 0 w v ta.post→Calls Tryz.prog 64 #[v,.int .i64 (lt:Int)] w fun e w'=>∃ a c,e = .returned (.slice a PA.length c)∧St w w' [Ent.row 55 2 (.slice a PA.length c) PA.length (PA.flatMap Zaa)] from fun v w hp=>by have h9:=hta v w hp;simp only[RPo,hPA] at h9;exact h9);obtain⟨M,hM⟩:∃ l,(negS (drvE lt ta)).post=l:=⟨_,rfl⟩;have hk1:mkL 7 0 PA []=M:=by rw[← hPA,← hM];exact Zhz _
 have hlM:=Zhx (drvE lt ta);have hf:(drvE lt (.neg ta)).post=M:=hM;rw[hM,hPA] at hlM;rw[hPA] at hlta hpta;have hlM':M.length≤20000:=by omega
 replace hPA:=qh hPA;replace hM:=qh hM;have Hhk1:=qh hk1;clear hk1;have Hhf:=qh hf;clear hf;have hb1:Below w.heap.size w (w.alloc (.cells #[.int .i64 1,.int .i64 0] 55)):=(Below.refl w.heap.size w).alloc (Nat.le_refl _) (.cells #[.int .i64 1,.int .i64 0] 55);have Hhi:=qh hi;clear hi;have Hhz0:=qh hz0;clear hz0;have Hhz1:=qh hz1;clear hz1;have Hhz2:=qh hz2;clear hz2;have Hhm:=qh hm;clear hm;have Hhok:=qh hok;clear hok;have Hhb1:=qh hb1;clear hb1;clear h hP hcell hta hlM hsta
 go_enter Tryz.func64, Tryz.ntmps64
 go_wp2_with fail;refine(Zas _ _ _ Hhok.out (Hh.out.below Hhb1.out)).mono ?_;rintro e w2 ⟨vx,vy,xs,ys,hsp,rfl,hx,hy,hb2⟩;obtain⟨rfl,rfl⟩:=Zdc (a:=ta) (p:=(7,0)) ZdZ hsp;obtain⟨ax,cx,rfl,-⟩:=hx.form;obtain⟨ay,cy,rfl,-⟩:=hy.form;have HX:=qh hx;have HY:=qh hy;have HS0:=qh ((((St.start w).alloc w.heap.size rfl #[.int .i64 1,.int .i64 0] 55).boxrow 0 1 2 [.int .i64 1,.int .i64 0] rfl rfl (by unfold maxLen;omega)).call hb2);obtain⟨k1,k2⟩:=Hcell.out _ HS0.out.bel;clear hsp hx hy hb2
 go_upto_region 17 with fail
 have HS:=qh ((St.start w2).alloc w2.heap.size rfl #[.int .i64 7,.int .i64 0] 55);obtain⟨W,hW⟩:=eI (w2.alloc (.cells #[.int .i64 7,.int .i64 0] 55));rw[← hW] at HS ⊢;clear hW;refine wp_region_any (by kernel_rfl) ?_
 refine Zam (fun A listed a w'=>∃ (l0 l1 l2 l3 l4 l5 l6 l7 l8:Bool) (g1:Option Addr) (c1:Nat) (g9:Option Addr) (c9:Nat) (F9:Ent) (b7:Nat) (h7:Option Addr) (d7:Nat) (bn0:Nat),listed=#[l0,l1,l2,l3,l4,l5,l6,l7,l8]∧(l6=true→l4=true)∧(l7=true→l0=true)∧(l8=true→l7=true) ∧
   a=⟨(((((((((A.tmps.setIfInBounds 68 (if l0=true then .slice (some ⟨b7,0,none⟩) 0 0 else A.tmps.getD 68 undef)).setIfInBounds 69 (if l1=true then .agg #[.int .i64 7,.int .i64 0] else A.tmps.getD 69 undef)).setIfInBounds 70 (if l2=true then .slice ax ta.post.length cx else A.tmps.getD 70 undef)).setIfInBounds 71 (if l3=true then .int .i64 (lt:Int) else A.tmps.getD 71 undef)).setIfInBounds 72 (if l4=true then .slice g1 PA.length c1 else A.tmps.getD 72 undef)).setIfInBounds 73 (if l5=true then .slice (some ⟨bn0,0,none⟩) 0 0 else A.tmps.getD 73 undef)).setIfInBounds 74 (if l6=true then .slice g9 M.length c9 else A.tmps.getD 74 undef)).setIfInBounds 75 (if l7=true then .slice h7 M.length d7 else A.tmps.getD 75 undef)).setIfInBounds 4 (if l8=true then .slice h7 M.length d7 else A.tmps.getD 4 undef)),A.defers⟩ ∧
   St w2 w' [Ent.box w2.heap.size #[.int .i64 7,.int .i64 0] 55,(if l7=true then Ent.row 55 2 (.slice h7 M.length d7) M.length (M.flatMap Zaa) else(if l0=true then Ent.row 55 2 (.slice (some ⟨b7,0,none⟩) 0 0) 0 ([]) else Ent.nil)),(if l4=true then Ent.row 55 2 (.slice g1 PA.length c1) PA.length (PA.flatMap Zaa) else Ent.nil),(if l5=true then Ent.box bn0 #[] 55 else Ent.nil),(if l6=true then Ent.mkP (Ent.row 55 2 (.slice g1 PA.length c1) PA.length (PA.flatMap Zaa)) (Ent.nil) F9 (.slice g9 M.length c9) M else Ent.nil)]) ?_ ?_ ?_
 ·rintro listed a w' ⟨l0,l1,l2,l3,l4,l5,l6,l7,l8,g1,c1,g9,c9,F9,b7,h7,d7,bn0,rfl,hd6,hd7,hd8,rfl,hS⟩ i hi;obtain⟨hun,o,ho,hall⟩:=mem_ready.1 hi;have hlt:=(Array.getElem?_eq_some_iff.1 ho).1;refine wpOp_step ho (fun K hK => ?_);clear hi;have HS:=qh hS;clear hS;simp only[List.setIfInBounds_toArray,List.set_cons_zero,List.set_cons_succ,Array.getD_eq_getD_getElem?,List.getElem?_toArray,List.getElem?_cons_zero,List.getElem?_cons_succ,Option.getD_some];obtain h|h|h|h|h|h|h|h|h:i=0∨i=1∨i=2∨i=3∨i=4∨i=5∨i=6∨i=7∨i=8:=by simp at hlt;omega
  all_goals subst h
  all_goals simp only[List.getElem?_toArray,List.getElem?_cons_zero,List.getElem?_cons_succ,Option.some.injEq] at ho
  all_goals subst ho
  all_goals simp[Region.binds] at hun hall
  ·subst hun;obtain rfl:l7=false:=by cases l7 with|false=>rfl|true=>simpa using hd7 rfl
   obtain rfl:l8=false:=by cases l8 with|false=>rfl|true=>simpa using hd8 rfl
   have hS2:=((HS.out.alloc _ rfl #[] 55).boxrow 5 0 2 [] rfl rfl (Nat.zero_le _)).pick [0,5,2,3,4] (by decide);have HhS2:=qh hS2;clear hS2;go_simp;exact hK _ _ ⟨true,l1,l2,l3,l4,l5,l6,false,false,g1,c1,g9,c9,F9,_,h7,d7,bn0,rfl,hd6,by simp,by simp,(by simp),HhS2.out⟩
  ·subst hun;have e0:=HS.out.cell (v:=.int .i64 7) 0 0 rfl rfl;have e1:=HS.out.cell (v:=.int .i64 0) 0 1 rfl rfl;go_simp;exact hK _ _ ⟨l0,true,l2,l3,l4,l5,l6,l7,l8,g1,c1,g9,c9,F9,b7,h7,d7,bn0,rfl,hd6,hd7,hd8,(by simp),HS.out⟩
  ·subst hun;go_simp;exact hK _ _ ⟨l0,l1,true,l3,l4,l5,l6,l7,l8,g1,c1,g9,c9,F9,b7,h7,d7,bn0,rfl,hd6,hd7,hd8,(by simp),HS.out⟩
  ·subst hun;go_simp;exact hK _ _ ⟨l0,l1,l2,true,l4,l5,l6,l7,l8,g1,c1,g9,c9,F9,b7,h7,d7,bn0,rfl,hd6,hd7,hd8,(by simp),HS.out⟩
  ·obtain⟨rfl,rfl⟩:=hall;subst hun;obtain rfl:l6=false:=by cases l6 with|false=>rfl|true=>simpa using hd6 rfl
   go_simp
   go_at_call 64
   refine(HTA.out (.slice ax ta.post.length cx) _ (HX.out.below HS.out.bel)).mono ?_;rintro e u1 ⟨a8,d8,rfl,hS8⟩;have hS2:=(HS.out.cat hS8).pick [0,1,5,3,4] (by decide);have HhS2:=qh hS2;clear hS2;go_simp;exact hK _ _ ⟨l0,l1,true,true,true,l5,false,l7,l8,a8,d8,g9,c9,F9,b7,h7,d7,bn0,rfl,by simp,hd7,hd8,(by simp),HhS2.out⟩
  ·subst hun;have hS2:=(HS.out.alloc _ rfl #[] 55).pick [0,1,2,5,4] (by decide);have HhS2:=qh hS2;clear hS2;go_simp;exact hK _ _ ⟨l0,l1,l2,l3,l4,true,l6,l7,l8,g1,c1,g9,c9,F9,b7,h7,d7,_,rfl,hd6,hd7,hd8,(by simp),HhS2.out⟩
  ·obtain⟨rfl,rfl,rfl,-⟩:=hall;subst hun;go_simp
   go_at_call 91
   refine(Zc5 (Ent.row 55 2 (.slice g1 PA.length c1) PA.length (PA.flatMap Zaa)) (Ent.nil) PA [] M _ _ 7 0 Hhk1.out _ (by omega) (by decide) (fun _=>by omega) (fun u h=>Zad h) (fun u _=>ZkF) (HS.out.has 2 _ rfl).1 trivial).mono ?_;rintro e u1 ⟨a8,d8,F8,rfl,hS8⟩;have hS2:=(HS.out.cat hS8).pick [0,1,2,3,5] (by decide);have HhS2:=qh hS2;clear hS2;go_simp;exact hK _ _ ⟨l0,true,l2,l3,true,true,true,l7,l8,g1,c1,a8,d8,F8,b7,h7,d7,bn0,rfl,by simp,hd7,hd8,(by simp),HhS2.out⟩
  ·obtain⟨rfl,rfl⟩:=hall;subst hun;obtain rfl:=hd6 rfl;obtain rfl:l8=false:=by cases l8 with|false=>rfl|true=>simpa using hd8 rfl
   refine Za0 (a:=⟨_,_⟩) _ (by rfl) _ _ _ (by rfl) w2.heap.size 55 i0 (.agg #[.int .i64 0,.int .i64 0]) 2 16 Tryz.underlying23 Hhi.out Hhz0.out Hhz1.out Hhz2.out (by rfl) (by omega) (.slice (some ⟨b7,0,none⟩) 0 0) (0) ([]) (by rfl) (HS.out.row 1 rfl) (.slice g9 M.length c9) (M.length) (M.flatMap Zaa) (by rfl) (HS.out.mkP 4 rfl (HS.out.has 2 _ rfl).1 trivial) ZbB (by unfold maxLen;omega) (by omega) HS.out.size ?_;intro a8 d8 w6 hown6 hgrow6 hat6;have hS6:=HS.out.appS 1 rfl hown6 hgrow6 hat6
   (try simp only[Nat.zero_add,List.nil_append] at hS6)
   (try simp only[Nat.zero_add])
   have HS6:=qh hS6;clear hown6 hgrow6 hat6 hS6;go_simp;exact hK _ _ ⟨true,l1,l2,l3,true,l5,true,true,false,g1,c1,g9,c9,F9,b7,a8,d8,bn0,rfl,by simp,by simp,by simp,(by simp),HS6.out⟩
  obtain⟨rfl,rfl,rfl,rfl,rfl,rfl,rfl,rfl,-⟩:=hall;subst hun;go_simp;exact hK _ _ ⟨true,true,true,true,true,true,true,true,true,g1,c1,g9,c9,F9,b7,h7,d7,bn0,rfl,by simp,by simp,by simp,(by simp),HS.out⟩
 ·rintro listed a w' ⟨l0,l1,l2,l3,l4,l5,l6,l7,l8,g1,c1,g9,c9,F9,b7,h7,d7,bn0,rfl,hd6,hd7,hd8,rfl,hS⟩ hr;have hall:=Zan (by kernel_rfl) rfl hr;obtain rfl:l0=true:=by simpa using hall 0 (by simp)
  obtain rfl:l1=true:=by simpa using hall 1 (by simp)
  obtain rfl:l2=true:=by simpa using hall 2 (by simp)
  obtain rfl:l3=true:=by simpa using hall 3 (by simp)
  obtain rfl:l4=true:=by simpa using hall 4 (by simp)
  obtain rfl:l5=true:=by simpa using hall 5 (by simp)
  obtain rfl:l6=true:=by simpa using hall 6 (by simp)
  obtain rfl:l7=true:=by simpa using hall 7 (by simp)
  obtain rfl:l8=true:=by simpa using hall 8 (by simp)
  clear hall hr hd6 hd7 hd8;simp only[↓reduceIte] at hS ⊢;simp only[List.setIfInBounds_toArray,List.set_cons_zero,List.set_cons_succ];have HS5:=qh hS;clear hS;go_wp2;go_ret;rw[Hhf.out];exact⟨_,_,rfl,(HS0.out.cat HS5.out).pick [2] (by decide)⟩
 refine⟨false,false,false,false,false,false,false,false,false,none,0,none,0,Ent.nil,0,none,0,0,rfl,by simp,by simp,by simp,(by simp),?_⟩;exact HS.out.drew.pick [0,1,2,3,4] (by decide)
theorem ZoP (lt:Nat) (ta tb:Ex) (h60:(Ex.alt ta tb).post.length≤60) (hta:DrvS lt ta) (htb:DrvS lt tb):DrvS lt (Ex.alt ta tb):=by
 intro v w h;obtain⟨i0,hi,hz0,hz1,hz2⟩:=info_parts Tryz.infoPt;have hok:=Zaq _ h60;have Hh:=qh h;have hP:=h;rw[show(Ex.alt ta tb).post=(ta.post++tb.post)++[(5,0)] from rfl] at hP;obtain⟨bb,off,cap,rfl,hc1,hc2,hbl,hcell⟩:=Za7 hP;obtain⟨m,hm⟩:=eI ((ta.post++tb.post).length);rw[← hm] at hc1 hcell Hh;rw[← hm];have hmI:m≤59:=by rw[hm];simp[Ex.post] at h60 ⊢;omega
 have Hcell:=qh hcell;have hw1:IntKind.i64.wrap ((m:Int)+1-1)=(m:Int):=by rw[IntWalk.i64_in _ (by omega)];omega
 have h60ta:ta.post.length≤60:=by simp[Ex.post] at h60;omega
 have HEta:=qh (Zdo ta h60ta);have hlta:=Zaz lt h60ta;have hsta:=Nat.le_trans (Zax ta) h60ta;have hpta:=Zap (drvE lt ta);have h60tb:tb.post.length≤60:=by simp[Ex.post] at h60;omega
 have HEtb:=qh (Zdo tb h60tb);have hltb:=Zaz lt h60tb;have hstb:=Nat.le_trans (Zax tb) h60tb;have hptb:=Zap (drvE lt tb);obtain⟨PA,hPA⟩:∃ l,(drvE lt ta).post=l:=⟨_,rfl⟩;have HTA:=qh (show ∀ (v:Value) (w:World),Pairs 0 w v ta.post→Calls Tryz.prog 64 #[v,.int .i64 (lt:Int)] w fun e w'=>∃ a c,e = .returned (.slice a PA.length c)∧St w w' [Ent.row 55 2 (.slice a PA.length c) PA.length (PA.flatMap Zaa)] from fun v w hp=>by have h9:=hta v w hp;simp only[RPo,hPA] at h9;exact h9);obtain⟨PB,hPB⟩:∃ l,(drvE lt tb).post=l:=⟨_,rfl⟩;have HTB:=qh (show ∀ (v:Value) (w:World),Pairs 0 w v tb.post→Calls Tryz.prog 64 #[v,.int .i64 (lt:Int)] w fun e w'=>∃ a c,e = .returned (.slice a PB.length c)∧St w w' [Ent.row 55 2 (.slice a PB.length c) PB.length (PB.flatMap Zaa)] from fun v w hp=>by have h9:=htb v w hp;simp only[RPo,hPB] at h9;exact h9);obtain⟨M,hM⟩:∃ l,(Zcu (drvE lt ta) (drvE lt tb)).post=l:=⟨_,rfl⟩;have hk1:mkL 5 0 PA PB=M:=by rw[← hPA,← hPB,← hM];exact ZeE _ _
 have hlM:=Zdp (drvE lt ta) (drvE lt tb);have hf:(drvE lt (.alt ta tb)).post=M:=hM;rw[hM,hPA,hPB] at hlM;rw[hPA] at hlta hpta;rw[hPB] at hltb hptb;have hlM':M.length≤20000:=by omega
 replace hPA:=qh hPA;have HhPB:=qh hPB;clear hPB;replace hM:=qh hM;have Hhk1:=qh hk1;clear hk1;have Hhf:=qh hf;clear hf;have hb1:Below w.heap.size w (w.alloc (.cells #[.int .i64 1,.int .i64 0] 55)):=(Below.refl w.heap.size w).alloc (Nat.le_refl _) (.cells #[.int .i64 1,.int .i64 0] 55);have Hhi:=qh hi;clear hi;have Hhz0:=qh hz0;clear hz0;have Hhz1:=qh hz1;clear hz1;have Hhz2:=qh hz2;clear hz2;have Hhm:=qh hm;clear hm;have Hhok:=qh hok;clear hok;have Hhb1:=qh hb1;clear hb1;clear h hP hcell hta htb hlM hsta hstb
 go_enter Tryz.func64, Tryz.ntmps64
 go_wp2_with fail;refine(Zas _ _ _ Hhok.out (Hh.out.below Hhb1.out)).mono ?_;rintro e w2 ⟨vx,vy,xs,ys,hsp,rfl,hx,hy,hb2⟩;obtain⟨rfl,rfl⟩:=Zcg (a:=ta) (b:=tb) (p:=(5,0)) Zd0 hsp;obtain⟨ax,cx,rfl,-⟩:=hx.form;obtain⟨ay,cy,rfl,-⟩:=hy.form;have HX:=qh hx;have HY:=qh hy;have HS0:=qh ((((St.start w).alloc w.heap.size rfl #[.int .i64 1,.int .i64 0] 55).boxrow 0 1 2 [.int .i64 1,.int .i64 0] rfl rfl (by unfold maxLen;omega)).call hb2);obtain⟨k1,k2⟩:=Hcell.out _ HS0.out.bel;clear hsp hx hy hb2
 go_upto_region 15 with fail
 have HS:=qh ((St.start w2).alloc w2.heap.size rfl #[.int .i64 5,.int .i64 0] 55);obtain⟨W,hW⟩:=eI (w2.alloc (.cells #[.int .i64 5,.int .i64 0] 55));rw[← hW] at HS ⊢;clear hW;refine wp_region_any (by kernel_rfl) ?_
 refine Zam (fun A listed a w'=>∃ (l0 l1 l2 l3 l4 l5 l6 l7 l8 l9 l10:Bool) (g1:Option Addr) (c1:Nat) (g2:Option Addr) (c2:Nat) (g9:Option Addr) (c9:Nat) (F9:Ent) (b7:Nat) (h7:Option Addr) (d7:Nat),listed=#[l0,l1,l2,l3,l4,l5,l6,l7,l8,l9,l10]∧(l8=true→l4=true∧l7=true)∧(l9=true→l0=true)∧(l10=true→l9=true) ∧
   a=⟨(((((((((((A.tmps.setIfInBounds 56 (if l0=true then .slice (some ⟨b7,0,none⟩) 0 0 else A.tmps.getD 56 undef)).setIfInBounds 57 (if l1=true then .agg #[.int .i64 5,.int .i64 0] else A.tmps.getD 57 undef)).setIfInBounds 58 (if l2=true then .slice ax ta.post.length cx else A.tmps.getD 58 undef)).setIfInBounds 59 (if l3=true then .int .i64 (lt:Int) else A.tmps.getD 59 undef)).setIfInBounds 60 (if l4=true then .slice g1 PA.length c1 else A.tmps.getD 60 undef)).setIfInBounds 61 (if l5=true then .slice ay tb.post.length cy else A.tmps.getD 61 undef)).setIfInBounds 62 (if l6=true then .int .i64 (lt:Int) else A.tmps.getD 62 undef)).setIfInBounds 63 (if l7=true then .slice g2 PB.length c2 else A.tmps.getD 63 undef)).setIfInBounds 64 (if l8=true then .slice g9 M.length c9 else A.tmps.getD 64 undef)).setIfInBounds 65 (if l9=true then .slice h7 M.length d7 else A.tmps.getD 65 undef)).setIfInBounds 4 (if l10=true then .slice h7 M.length d7 else A.tmps.getD 4 undef)),A.defers⟩ ∧
   St w2 w' [Ent.box w2.heap.size #[.int .i64 5,.int .i64 0] 55,(if l9=true then Ent.row 55 2 (.slice h7 M.length d7) M.length (M.flatMap Zaa) else(if l0=true then Ent.row 55 2 (.slice (some ⟨b7,0,none⟩) 0 0) 0 ([]) else Ent.nil)),(if l4=true then Ent.row 55 2 (.slice g1 PA.length c1) PA.length (PA.flatMap Zaa) else Ent.nil),(if l7=true then Ent.row 55 2 (.slice g2 PB.length c2) PB.length (PB.flatMap Zaa) else Ent.nil),(if l8=true then Ent.mkP (Ent.row 55 2 (.slice g1 PA.length c1) PA.length (PA.flatMap Zaa)) (Ent.row 55 2 (.slice g2 PB.length c2) PB.length (PB.flatMap Zaa)) F9 (.slice g9 M.length c9) M else Ent.nil)]) ?_ ?_ ?_
 ·rintro listed a w' ⟨l0,l1,l2,l3,l4,l5,l6,l7,l8,l9,l10,g1,c1,g2,c2,g9,c9,F9,b7,h7,d7,rfl,hd8,hd9,hd10,rfl,hS⟩ i hi;obtain⟨hun,o,ho,hall⟩:=mem_ready.1 hi;have hlt:=(Array.getElem?_eq_some_iff.1 ho).1;refine wpOp_step ho (fun K hK => ?_);clear hi;have HS:=qh hS;clear hS;simp only[List.setIfInBounds_toArray,List.set_cons_zero,List.set_cons_succ,Array.getD_eq_getD_getElem?,List.getElem?_toArray,List.getElem?_cons_zero,List.getElem?_cons_succ,Option.getD_some];obtain h|h|h|h|h|h|h|h|h|h|h:i=0∨i=1∨i=2∨i=3∨i=4∨i=5∨i=6∨i=7∨i=8∨i=9∨i=10:=by simp at hlt;omega
  all_goals subst h
  all_goals simp only[List.getElem?_toArray,List.getElem?_cons_zero,List.getElem?_cons_succ,Option.some.injEq] at ho
  all_goals subst ho
  all_goals simp[Region.binds] at hun hall
  ·subst hun;obtain rfl:l9=false:=by cases l9 with|false=>rfl|true=>simpa using hd9 rfl
   obtain rfl:l10=false:=by cases l10 with|false=>rfl|true=>simpa using hd10 rfl
   have hS2:=((HS.out.alloc _ rfl #[] 55).boxrow 5 0 2 [] rfl rfl (Nat.zero_le _)).pick [0,5,2,3,4] (by decide);have HhS2:=qh hS2;clear hS2;go_simp;exact hK _ _ ⟨true,l1,l2,l3,l4,l5,l6,l7,l8,false,false,g1,c1,g2,c2,g9,c9,F9,_,h7,d7,rfl,hd8,by simp,by simp,(by simp),HhS2.out⟩
  ·subst hun;have e0:=HS.out.cell (v:=.int .i64 5) 0 0 rfl rfl;have e1:=HS.out.cell (v:=.int .i64 0) 0 1 rfl rfl;go_simp;exact hK _ _ ⟨l0,true,l2,l3,l4,l5,l6,l7,l8,l9,l10,g1,c1,g2,c2,g9,c9,F9,b7,h7,d7,rfl,hd8,hd9,hd10,(by simp),HS.out⟩
  ·subst hun;go_simp;exact hK _ _ ⟨l0,l1,true,l3,l4,l5,l6,l7,l8,l9,l10,g1,c1,g2,c2,g9,c9,F9,b7,h7,d7,rfl,hd8,hd9,hd10,(by simp),HS.out⟩
  ·subst hun;go_simp;exact hK _ _ ⟨l0,l1,l2,true,l4,l5,l6,l7,l8,l9,l10,g1,c1,g2,c2,g9,c9,F9,b7,h7,d7,rfl,hd8,hd9,hd10,(by simp),HS.out⟩
  ·obtain⟨rfl,rfl⟩:=hall;subst hun;obtain rfl:l8=false:=offL hd8 rfl;go_simp
   go_at_call 64
   refine(HTA.out (.slice ax ta.post.length cx) _ (HX.out.below HS.out.bel)).mono ?_;rintro e u1 ⟨a8,d8,rfl,hS8⟩;have hS2:=(HS.out.cat hS8).pick [0,1,5,3,4] (by decide);have HhS2:=qh hS2;clear hS2;go_simp;exact hK _ _ ⟨l0,l1,true,true,true,l5,l6,l7,false,l9,l10,a8,d8,g2,c2,g9,c9,F9,b7,h7,d7,rfl,by simp,hd9,hd10,(by simp),HhS2.out⟩
  ·subst hun;go_simp;exact hK _ _ ⟨l0,l1,l2,l3,l4,true,l6,l7,l8,l9,l10,g1,c1,g2,c2,g9,c9,F9,b7,h7,d7,rfl,hd8,hd9,hd10,(by simp),HS.out⟩
  ·subst hun;go_simp;exact hK _ _ ⟨l0,l1,l2,l3,l4,l5,true,l7,l8,l9,l10,g1,c1,g2,c2,g9,c9,F9,b7,h7,d7,rfl,hd8,hd9,hd10,(by simp),HS.out⟩
  ·obtain⟨rfl,rfl,rfl⟩:=hall;subst hun;obtain rfl:l8=false:=offR hd8 rfl;go_simp
   go_at_call 64
   refine(HTB.out (.slice ay tb.post.length cy) _ (HY.out.below HS.out.bel)).mono ?_;rintro e u1 ⟨a8,d8,rfl,hS8⟩;have hS2:=(HS.out.cat hS8).pick [0,1,2,5,4] (by decide);have HhS2:=qh hS2;clear hS2;go_simp;exact hK _ _ ⟨l0,l1,l2,l3,true,true,true,true,false,l9,l10,g1,c1,a8,d8,g9,c9,F9,b7,h7,d7,rfl,by simp,hd9,hd10,(by simp),HhS2.out⟩
  ·obtain⟨rfl,rfl,rfl⟩:=hall;subst hun;go_simp
   go_at_call 91
   refine(Zc5 (Ent.row 55 2 (.slice g1 PA.length c1) PA.length (PA.flatMap Zaa)) (Ent.row 55 2 (.slice g2 PB.length c2) PB.length (PB.flatMap Zaa)) PA PB M _ _ 5 0 Hhk1.out _ (by omega) (by omega) (by omega) (fun u h=>Zad h) (fun u h=>Zad h) (HS.out.has 2 _ rfl).1 (HS.out.has 3 _ rfl).1).mono ?_;rintro e u1 ⟨a8,d8,F8,rfl,hS8⟩;have hS2:=(HS.out.cat hS8).pick [0,1,2,3,5] (by decide);have HhS2:=qh hS2;clear hS2;go_simp;exact hK _ _ ⟨l0,true,l2,l3,true,l5,l6,true,true,l9,l10,g1,c1,g2,c2,a8,d8,F8,b7,h7,d7,rfl,by simp,hd9,hd10,(by simp),HhS2.out⟩
  ·obtain⟨rfl,rfl⟩:=hall;subst hun;obtain⟨rfl,rfl⟩:=hd8 rfl;obtain rfl:l10=false:=by cases l10 with|false=>rfl|true=>simpa using hd10 rfl
   refine Za0 (a:=⟨_,_⟩) _ (by rfl) _ _ _ (by rfl) w2.heap.size 55 i0 (.agg #[.int .i64 0,.int .i64 0]) 2 16 Tryz.underlying23 Hhi.out Hhz0.out Hhz1.out Hhz2.out (by rfl) (by omega) (.slice (some ⟨b7,0,none⟩) 0 0) (0) ([]) (by rfl) (HS.out.row 1 rfl) (.slice g9 M.length c9) (M.length) (M.flatMap Zaa) (by rfl) (HS.out.mkP 4 rfl (HS.out.has 2 _ rfl).1 (HS.out.has 3 _ rfl).1) ZbB (by unfold maxLen;omega) (by omega) HS.out.size ?_;intro a8 d8 w6 hown6 hgrow6 hat6;have hS6:=HS.out.appS 1 rfl hown6 hgrow6 hat6
   (try simp only[Nat.zero_add,List.nil_append] at hS6)
   (try simp only[Nat.zero_add])
   have HS6:=qh hS6;clear hown6 hgrow6 hat6 hS6;go_simp;exact hK _ _ ⟨true,l1,l2,l3,true,l5,l6,true,true,true,false,g1,c1,g2,c2,g9,c9,F9,b7,a8,d8,rfl,by simp,by simp,by simp,(by simp),HS6.out⟩
  obtain⟨rfl,rfl,rfl,rfl,rfl,rfl,rfl,rfl,rfl,rfl,-⟩:=hall;subst hun;go_simp;exact hK _ _ ⟨true,true,true,true,true,true,true,true,true,true,true,g1,c1,g2,c2,g9,c9,F9,b7,h7,d7,rfl,by simp,by simp,by simp,(by simp),HS.out⟩
 ·rintro listed a w' ⟨l0,l1,l2,l3,l4,l5,l6,l7,l8,l9,l10,g1,c1,g2,c2,g9,c9,F9,b7,h7,d7,rfl,hd8,hd9,hd10,rfl,hS⟩ hr;have hall:=Zan (by kernel_rfl) rfl hr;obtain rfl:l0=true:=by simpa using hall 0 (by simp)
  obtain rfl:l1=true:=by simpa using hall 1 (by simp)
  obtain rfl:l2=true:=by simpa using hall 2 (by simp)
  obtain rfl:l3=true:=by simpa using hall 3 (by simp)
  obtain rfl:l4=true:=by simpa using hall 4 (by simp)
  obtain rfl:l5=true:=by simpa using hall 5 (by simp)
  obtain rfl:l6=true:=by simpa using hall 6 (by simp)
  obtain rfl:l7=true:=by simpa using hall 7 (by simp)
  obtain rfl:l8=true:=by simpa using hall 8 (by simp)
  obtain rfl:l9=true:=by simpa using hall 9 (by simp)
  obtain rfl:l10=true:=by simpa using hall 10 (by simp)
  clear hall hr hd8 hd9 hd10;simp only[↓reduceIte] at hS ⊢;simp only[List.setIfInBounds_toArray,List.set_cons_zero,List.set_cons_succ];have HS5:=qh hS;clear hS;go_wp2;go_ret;rw[Hhf.out];exact⟨_,_,rfl,(HS0.out.cat HS5.out).pick [2] (by decide)⟩
 refine⟨false,false,false,false,false,false,false,false,false,false,false,none,0,none,0,none,0,Ent.nil,0,none,0,rfl,by simp,by simp,by simp,(by simp),?_⟩;exact HS.out.drew.pick [0,1,2,3,4] (by decide)
theorem ZnH (lt:Nat) (ta tb:Ex) (h60:(Ex.both ta tb).post.length≤60) (hta:DrvS lt ta) (htb:DrvS lt tb):DrvS lt (Ex.both ta tb):=by
 intro v w h;obtain⟨i0,hi,hz0,hz1,hz2⟩:=info_parts Tryz.infoPt;have hok:=Zaq _ h60;have Hh:=qh h;have hP:=h;rw[show(Ex.both ta tb).post=(ta.post++tb.post)++[(6,0)] from rfl] at hP;obtain⟨bb,off,cap,rfl,hc1,hc2,hbl,hcell⟩:=Za7 hP;obtain⟨m,hm⟩:=eI ((ta.post++tb.post).length);rw[← hm] at hc1 hcell Hh;rw[← hm];have hmI:m≤59:=by rw[hm];simp[Ex.post] at h60 ⊢;omega
 have Hcell:=qh hcell;have hw1:IntKind.i64.wrap ((m:Int)+1-1)=(m:Int):=by rw[IntWalk.i64_in _ (by omega)];omega
 have h60ta:ta.post.length≤60:=by simp[Ex.post] at h60;omega
 have HEta:=qh (Zdo ta h60ta);have hlta:=Zaz lt h60ta;have hsta:=Nat.le_trans (Zax ta) h60ta;have hpta:=Zap (drvE lt ta);have h60tb:tb.post.length≤60:=by simp[Ex.post] at h60;omega
 have HEtb:=qh (Zdo tb h60tb);have hltb:=Zaz lt h60tb;have hstb:=Nat.le_trans (Zax tb) h60tb;have hptb:=Zap (drvE lt tb);obtain⟨PA,hPA⟩:∃ l,(drvE lt ta).post=l:=⟨_,rfl⟩;have HTA:=qh (show ∀ (v:Value) (w:World),Pairs 0 w v ta.post→Calls Tryz.prog 64 #[v,.int .i64 (lt:Int)] w fun e w'=>∃ a c,e = .returned (.slice a PA.length c)∧St w w' [Ent.row 55 2 (.slice a PA.length c) PA.length (PA.flatMap Zaa)] from fun v w hp=>by have h9:=hta v w hp;simp only[RPo,hPA] at h9;exact h9);obtain⟨PB,hPB⟩:∃ l,(drvE lt tb).post=l:=⟨_,rfl⟩;have HTB:=qh (show ∀ (v:Value) (w:World),Pairs 0 w v tb.post→Calls Tryz.prog 64 #[v,.int .i64 (lt:Int)] w fun e w'=>∃ a c,e = .returned (.slice a PB.length c)∧St w w' [Ent.row 55 2 (.slice a PB.length c) PB.length (PB.flatMap Zaa)] from fun v w hp=>by have h9:=htb v w hp;simp only[RPo,hPB] at h9;exact h9);obtain⟨M,hM⟩:∃ l,(ZeO (drvE lt ta) (drvE lt tb)).post=l:=⟨_,rfl⟩;have hk1:mkL 6 0 PA PB=M:=by rw[← hPA,← hPB,← hM];exact Zfj _ _
 have hlM:=Zgo (drvE lt ta) (drvE lt tb);have hf:(drvE lt (.both ta tb)).post=M:=hM;rw[hM,hPA,hPB] at hlM;rw[hPA] at hlta hpta;rw[hPB] at hltb hptb;have hlM':M.length≤20000:=by omega
 replace hPA:=qh hPA;have HhPB:=qh hPB;clear hPB;replace hM:=qh hM;have Hhk1:=qh hk1;clear hk1;have Hhf:=qh hf;clear hf;have hb1:Below w.heap.size w (w.alloc (.cells #[.int .i64 1,.int .i64 0] 55)):=(Below.refl w.heap.size w).alloc (Nat.le_refl _) (.cells #[.int .i64 1,.int .i64 0] 55);have Hhi:=qh hi;clear hi;have Hhz0:=qh hz0;clear hz0;have Hhz1:=qh hz1;clear hz1;have Hhz2:=qh hz2;clear hz2;have Hhm:=qh hm;clear hm;have Hhok:=qh hok;clear hok;have Hhb1:=qh hb1;clear hb1;clear h hP hcell hta htb hlM hsta hstb
 go_enter Tryz.func64, Tryz.ntmps64
 go_wp2_with fail;refine(Zas _ _ _ Hhok.out (Hh.out.below Hhb1.out)).mono ?_;rintro e w2 ⟨vx,vy,xs,ys,hsp,rfl,hx,hy,hb2⟩;obtain⟨rfl,rfl⟩:=Zcg (a:=ta) (b:=tb) (p:=(6,0)) ZcX hsp;obtain⟨ax,cx,rfl,-⟩:=hx.form;obtain⟨ay,cy,rfl,-⟩:=hy.form;have HX:=qh hx;have HY:=qh hy;have HS0:=qh ((((St.start w).alloc w.heap.size rfl #[.int .i64 1,.int .i64 0] 55).boxrow 0 1 2 [.int .i64 1,.int .i64 0] rfl rfl (by unfold maxLen;omega)).call hb2);obtain⟨k1,k2⟩:=Hcell.out _ HS0.out.bel;clear hsp hx hy hb2
 go_upto_region 15 with fail
 have HS:=qh ((St.start w2).alloc w2.heap.size rfl #[.int .i64 6,.int .i64 0] 55);obtain⟨W,hW⟩:=eI (w2.alloc (.cells #[.int .i64 6,.int .i64 0] 55));rw[← hW] at HS ⊢;clear hW;refine wp_region_any (by kernel_rfl) ?_
 refine Zam (fun A listed a w'=>∃ (l0 l1 l2 l3 l4 l5 l6 l7 l8 l9 l10:Bool) (g1:Option Addr) (c1:Nat) (g2:Option Addr) (c2:Nat) (g9:Option Addr) (c9:Nat) (F9:Ent) (b7:Nat) (h7:Option Addr) (d7:Nat),listed=#[l0,l1,l2,l3,l4,l5,l6,l7,l8,l9,l10]∧(l8=true→l4=true∧l7=true)∧(l9=true→l0=true)∧(l10=true→l9=true) ∧
   a=⟨(((((((((((A.tmps.setIfInBounds 56 (if l0=true then .slice (some ⟨b7,0,none⟩) 0 0 else A.tmps.getD 56 undef)).setIfInBounds 57 (if l1=true then .agg #[.int .i64 6,.int .i64 0] else A.tmps.getD 57 undef)).setIfInBounds 58 (if l2=true then .slice ax ta.post.length cx else A.tmps.getD 58 undef)).setIfInBounds 59 (if l3=true then .int .i64 (lt:Int) else A.tmps.getD 59 undef)).setIfInBounds 60 (if l4=true then .slice g1 PA.length c1 else A.tmps.getD 60 undef)).setIfInBounds 61 (if l5=true then .slice ay tb.post.length cy else A.tmps.getD 61 undef)).setIfInBounds 62 (if l6=true then .int .i64 (lt:Int) else A.tmps.getD 62 undef)).setIfInBounds 63 (if l7=true then .slice g2 PB.length c2 else A.tmps.getD 63 undef)).setIfInBounds 64 (if l8=true then .slice g9 M.length c9 else A.tmps.getD 64 undef)).setIfInBounds 65 (if l9=true then .slice h7 M.length d7 else A.tmps.getD 65 undef)).setIfInBounds 4 (if l10=true then .slice h7 M.length d7 else A.tmps.getD 4 undef)),A.defers⟩ ∧
   St w2 w' [Ent.box w2.heap.size #[.int .i64 6,.int .i64 0] 55,(if l9=true then Ent.row 55 2 (.slice h7 M.length d7) M.length (M.flatMap Zaa) else(if l0=true then Ent.row 55 2 (.slice (some ⟨b7,0,none⟩) 0 0) 0 ([]) else Ent.nil)),(if l4=true then Ent.row 55 2 (.slice g1 PA.length c1) PA.length (PA.flatMap Zaa) else Ent.nil),(if l7=true then Ent.row 55 2 (.slice g2 PB.length c2) PB.length (PB.flatMap Zaa) else Ent.nil),(if l8=true then Ent.mkP (Ent.row 55 2 (.slice g1 PA.length c1) PA.length (PA.flatMap Zaa)) (Ent.row 55 2 (.slice g2 PB.length c2) PB.length (PB.flatMap Zaa)) F9 (.slice g9 M.length c9) M else Ent.nil)]) ?_ ?_ ?_
 ·rintro listed a w' ⟨l0,l1,l2,l3,l4,l5,l6,l7,l8,l9,l10,g1,c1,g2,c2,g9,c9,F9,b7,h7,d7,rfl,hd8,hd9,hd10,rfl,hS⟩ i hi;obtain⟨hun,o,ho,hall⟩:=mem_ready.1 hi;have hlt:=(Array.getElem?_eq_some_iff.1 ho).1;refine wpOp_step ho (fun K hK => ?_);clear hi;have HS:=qh hS;clear hS;simp only[List.setIfInBounds_toArray,List.set_cons_zero,List.set_cons_succ,Array.getD_eq_getD_getElem?,List.getElem?_toArray,List.getElem?_cons_zero,List.getElem?_cons_succ,Option.getD_some];obtain h|h|h|h|h|h|h|h|h|h|h:i=0∨i=1∨i=2∨i=3∨i=4∨i=5∨i=6∨i=7∨i=8∨i=9∨i=10:=by simp at hlt;omega
  all_goals subst h
  all_goals simp only[List.getElem?_toArray,List.getElem?_cons_zero,List.getElem?_cons_succ,Option.some.injEq] at ho
  all_goals subst ho
  all_goals simp[Region.binds] at hun hall
  ·subst hun;obtain rfl:l9=false:=by cases l9 with|false=>rfl|true=>simpa using hd9 rfl
   obtain rfl:l10=false:=by cases l10 with|false=>rfl|true=>simpa using hd10 rfl
   have hS2:=((HS.out.alloc _ rfl #[] 55).boxrow 5 0 2 [] rfl rfl (Nat.zero_le _)).pick [0,5,2,3,4] (by decide);have HhS2:=qh hS2;clear hS2;go_simp;exact hK _ _ ⟨true,l1,l2,l3,l4,l5,l6,l7,l8,false,false,g1,c1,g2,c2,g9,c9,F9,_,h7,d7,rfl,hd8,by simp,by simp,(by simp),HhS2.out⟩
  ·subst hun;have e0:=HS.out.cell (v:=.int .i64 6) 0 0 rfl rfl;have e1:=HS.out.cell (v:=.int .i64 0) 0 1 rfl rfl;go_simp;exact hK _ _ ⟨l0,true,l2,l3,l4,l5,l6,l7,l8,l9,l10,g1,c1,g2,c2,g9,c9,F9,b7,h7,d7,rfl,hd8,hd9,hd10,(by simp),HS.out⟩
  ·subst hun;go_simp;exact hK _ _ ⟨l0,l1,true,l3,l4,l5,l6,l7,l8,l9,l10,g1,c1,g2,c2,g9,c9,F9,b7,h7,d7,rfl,hd8,hd9,hd10,(by simp),HS.out⟩
  ·subst hun;go_simp;exact hK _ _ ⟨l0,l1,l2,true,l4,l5,l6,l7,l8,l9,l10,g1,c1,g2,c2,g9,c9,F9,b7,h7,d7,rfl,hd8,hd9,hd10,(by simp),HS.out⟩
  ·obtain⟨rfl,rfl⟩:=hall;subst hun;obtain rfl:l8=false:=offL hd8 rfl;go_simp
   go_at_call 64
   refine(HTA.out (.slice ax ta.post.length cx) _ (HX.out.below HS.out.bel)).mono ?_;rintro e u1 ⟨a8,d8,rfl,hS8⟩;have hS2:=(HS.out.cat hS8).pick [0,1,5,3,4] (by decide);have HhS2:=qh hS2;clear hS2;go_simp;exact hK _ _ ⟨l0,l1,true,true,true,l5,l6,l7,false,l9,l10,a8,d8,g2,c2,g9,c9,F9,b7,h7,d7,rfl,by simp,hd9,hd10,(by simp),HhS2.out⟩
  ·subst hun;go_simp;exact hK _ _ ⟨l0,l1,l2,l3,l4,true,l6,l7,l8,l9,l10,g1,c1,g2,c2,g9,c9,F9,b7,h7,d7,rfl,hd8,hd9,hd10,(by simp),HS.out⟩
  ·subst hun;go_simp;exact hK _ _ ⟨l0,l1,l2,l3,l4,l5,true,l7,l8,l9,l10,g1,c1,g2,c2,g9,c9,F9,b7,h7,d7,rfl,hd8,hd9,hd10,(by simp),HS.out⟩
  ·obtain⟨rfl,rfl,rfl⟩:=hall;subst hun;obtain rfl:l8=false:=offR hd8 rfl;go_simp
   go_at_call 64
   refine(HTB.out (.slice ay tb.post.length cy) _ (HY.out.below HS.out.bel)).mono ?_;rintro e u1 ⟨a8,d8,rfl,hS8⟩;have hS2:=(HS.out.cat hS8).pick [0,1,2,5,4] (by decide);have HhS2:=qh hS2;clear hS2;go_simp;exact hK _ _ ⟨l0,l1,l2,l3,true,true,true,true,false,l9,l10,g1,c1,a8,d8,g9,c9,F9,b7,h7,d7,rfl,by simp,hd9,hd10,(by simp),HhS2.out⟩
  ·obtain⟨rfl,rfl,rfl⟩:=hall;subst hun;go_simp
   go_at_call 91
   refine(Zc5 (Ent.row 55 2 (.slice g1 PA.length c1) PA.length (PA.flatMap Zaa)) (Ent.row 55 2 (.slice g2 PB.length c2) PB.length (PB.flatMap Zaa)) PA PB M _ _ 6 0 Hhk1.out _ (by omega) (by omega) (by omega) (fun u h=>Zad h) (fun u h=>Zad h) (HS.out.has 2 _ rfl).1 (HS.out.has 3 _ rfl).1).mono ?_;rintro e u1 ⟨a8,d8,F8,rfl,hS8⟩;have hS2:=(HS.out.cat hS8).pick [0,1,2,3,5] (by decide);have HhS2:=qh hS2;clear hS2;go_simp;exact hK _ _ ⟨l0,true,l2,l3,true,l5,l6,true,true,l9,l10,g1,c1,g2,c2,a8,d8,F8,b7,h7,d7,rfl,by simp,hd9,hd10,(by simp),HhS2.out⟩
  ·obtain⟨rfl,rfl⟩:=hall;subst hun;obtain⟨rfl,rfl⟩:=hd8 rfl;obtain rfl:l10=false:=by cases l10 with|false=>rfl|true=>simpa using hd10 rfl
   refine Za0 (a:=⟨_,_⟩) _ (by rfl) _ _ _ (by rfl) w2.heap.size 55 i0 (.agg #[.int .i64 0,.int .i64 0]) 2 16 Tryz.underlying23 Hhi.out Hhz0.out Hhz1.out Hhz2.out (by rfl) (by omega) (.slice (some ⟨b7,0,none⟩) 0 0) (0) ([]) (by rfl) (HS.out.row 1 rfl) (.slice g9 M.length c9) (M.length) (M.flatMap Zaa) (by rfl) (HS.out.mkP 4 rfl (HS.out.has 2 _ rfl).1 (HS.out.has 3 _ rfl).1) ZbB (by unfold maxLen;omega) (by omega) HS.out.size ?_;intro a8 d8 w6 hown6 hgrow6 hat6;have hS6:=HS.out.appS 1 rfl hown6 hgrow6 hat6
   (try simp only[Nat.zero_add,List.nil_append] at hS6)
   (try simp only[Nat.zero_add])
   have HS6:=qh hS6;clear hown6 hgrow6 hat6 hS6;go_simp;exact hK _ _ ⟨true,l1,l2,l3,true,l5,l6,true,true,true,false,g1,c1,g2,c2,g9,c9,F9,b7,a8,d8,rfl,by simp,by simp,by simp,(by simp),HS6.out⟩
  obtain⟨rfl,rfl,rfl,rfl,rfl,rfl,rfl,rfl,rfl,rfl,-⟩:=hall;subst hun;go_simp;exact hK _ _ ⟨true,true,true,true,true,true,true,true,true,true,true,g1,c1,g2,c2,g9,c9,F9,b7,h7,d7,rfl,by simp,by simp,by simp,(by simp),HS.out⟩
 ·rintro listed a w' ⟨l0,l1,l2,l3,l4,l5,l6,l7,l8,l9,l10,g1,c1,g2,c2,g9,c9,F9,b7,h7,d7,rfl,hd8,hd9,hd10,rfl,hS⟩ hr;have hall:=Zan (by kernel_rfl) rfl hr;obtain rfl:l0=true:=by simpa using hall 0 (by simp)
  obtain rfl:l1=true:=by simpa using hall 1 (by simp)
  obtain rfl:l2=true:=by simpa using hall 2 (by simp)
  obtain rfl:l3=true:=by simpa using hall 3 (by simp)
  obtain rfl:l4=true:=by simpa using hall 4 (by simp)
  obtain rfl:l5=true:=by simpa using hall 5 (by simp)
  obtain rfl:l6=true:=by simpa using hall 6 (by simp)
  obtain rfl:l7=true:=by simpa using hall 7 (by simp)
  obtain rfl:l8=true:=by simpa using hall 8 (by simp)
  obtain rfl:l9=true:=by simpa using hall 9 (by simp)
  obtain rfl:l10=true:=by simpa using hall 10 (by simp)
  clear hall hr hd8 hd9 hd10;simp only[↓reduceIte] at hS ⊢;simp only[List.setIfInBounds_toArray,List.set_cons_zero,List.set_cons_succ];have HS5:=qh hS;clear hS;go_wp2;go_ret;rw[Hhf.out];exact⟨_,_,rfl,(HS0.out.cat HS5.out).pick [2] (by decide)⟩
 refine⟨false,false,false,false,false,false,false,false,false,false,false,none,0,none,0,none,0,Ent.nil,0,none,0,rfl,by simp,by simp,by simp,(by simp),?_⟩;exact HS.out.drew.pick [0,1,2,3,4] (by decide)
theorem ZnG (lt:Nat) (ta tb:Ex) (h60:(Ex.join ta tb).post.length≤60) (hta:DrvS lt ta) (htb:DrvS lt tb):DrvS lt (Ex.join ta tb):=by
 intro v w h;obtain⟨i0,hi,hz0,hz1,hz2⟩:=info_parts Tryz.infoPt;have hok:=Zaq _ h60;have Hh:=qh h;have hP:=h;rw[show(Ex.join ta tb).post=(ta.post++tb.post)++[(4,0)] from rfl] at hP;obtain⟨bb,off,cap,rfl,hc1,hc2,hbl,hcell⟩:=Za7 hP;obtain⟨m,hm⟩:=eI ((ta.post++tb.post).length);rw[← hm] at hc1 hcell Hh;rw[← hm];have hmI:m≤59:=by rw[hm];simp[Ex.post] at h60 ⊢;omega
 have Hcell:=qh hcell;have hw1:IntKind.i64.wrap ((m:Int)+1-1)=(m:Int):=by rw[IntWalk.i64_in _ (by omega)];omega
 have h60ta:ta.post.length≤60:=by simp[Ex.post] at h60;omega
 have HEta:=qh (Zdo ta h60ta);have hlta:=Zaz lt h60ta;have hsta:=Nat.le_trans (Zax ta) h60ta;have hpta:=Zap (drvE lt ta);have h60tb:tb.post.length≤60:=by simp[Ex.post] at h60;omega
 have HEtb:=qh (Zdo tb h60tb);have hltb:=Zaz lt h60tb;have hstb:=Nat.le_trans (Zax tb) h60tb;have hptb:=Zap (drvE lt tb);obtain⟨PA,hPA⟩:∃ l,(drvE lt ta).post=l:=⟨_,rfl⟩;have HTA:=qh (show ∀ (v:Value) (w:World),Pairs 0 w v ta.post→Calls Tryz.prog 64 #[v,.int .i64 (lt:Int)] w fun e w'=>∃ a c,e = .returned (.slice a PA.length c)∧St w w' [Ent.row 55 2 (.slice a PA.length c) PA.length (PA.flatMap Zaa)] from fun v w hp=>by have h9:=hta v w hp;simp only[RPo,hPA] at h9;exact h9);obtain⟨PB,hPB⟩:∃ l,(simE tb).post=l:=⟨_,rfl⟩;have HTB:=qh (show ∀ (v:Value) (w:World),Pairs 0 w v tb.post→Calls Tryz.prog 102 #[v] w fun e w'=>∃ a c,e = .returned (.slice a PB.length c)∧St w w' [Ent.row 55 2 (.slice a PB.length c) PB.length (PB.flatMap Zaa)] from fun v w hp=>by have h9:=ZjH tb h60tb v w hp;simp only[RPo,hPB] at h9;exact h9);obtain⟨PD,hPD⟩:∃ l,(drvE lt tb).post=l:=⟨_,rfl⟩;have HTD:=qh (show ∀ (v:Value) (w:World),Pairs 0 w v tb.post→Calls Tryz.prog 64 #[v,.int .i64 (lt:Int)] w fun e w'=>∃ a c,e = .returned (.slice a PD.length c)∧St w w' [Ent.row 55 2 (.slice a PD.length c) PD.length (PD.flatMap Zaa)] from fun v w hp=>by have h9:=htb v w hp;simp only[RPo,hPD] at h9;exact h9);obtain⟨M,hM⟩:∃ l,(Zbe (drvE lt ta) (simE tb)).post=l:=⟨_,rfl⟩;have hk1:mkL 4 0 PA PB=M:=by rw[← hPA,← hPB,← hM];exact Zdx _ _
 obtain⟨M2,hM2⟩:∃ l,(Zcu (Zbe (drvE lt ta) (simE tb)) (drvE lt tb)).post=l:=⟨_,rfl⟩;have hk2:mkL 5 0 M PD=M2:=by rw[← hPD,← hM2,← hM];exact ZeE _ _
 have hlM:=ZcN (drvE lt ta) (simE tb);have hlM2:=Zdp (Zbe (drvE lt ta) (simE tb)) (drvE lt tb);have hf0:hasE ta=false→(drvE lt (.join ta tb)).post=M:=fun h=>by rw[← hM,show drvE lt (.join ta tb)=(if hasE ta=true then Zcu (Zbe (drvE lt ta) (simE tb)) (drvE lt tb) else Zbe (drvE lt ta) (simE tb)) from rfl,if_neg (by rw[h];decide)]
 have hf1:hasE ta=true→(drvE lt (.join ta tb)).post=M2:=fun h=>by rw[← hM2,show drvE lt (.join ta tb)=(if hasE ta=true then Zcu (Zbe (drvE lt ta) (simE tb)) (drvE lt tb) else Zbe (drvE lt ta) (simE tb)) from rfl,if_pos h]
 rw[hM] at hlM hlM2;rw[hM2] at hlM2;rw[hPA] at hlta hpta hlM;rw[hPB] at hstb hlM;rw[hPD] at hltb hptb hlM2;have hlM':M.length≤10000:=by omega
 have hlM2':M2.length≤20000:=by omega
 replace hPA:=qh hPA;have HhPB:=qh hPB;clear hPB;have HhPD:=qh hPD;clear hPD;replace hM:=qh hM;have HhM2:=qh hM2;clear hM2;have Hhk1:=qh hk1;clear hk1;have Hhk2:=qh hk2;clear hk2;have Hhf0:=qh hf0;clear hf0;have Hhf1:=qh hf1;clear hf1;have hb1:Below w.heap.size w (w.alloc (.cells #[.int .i64 1,.int .i64 0] 55)):=(Below.refl w.heap.size w).alloc (Nat.le_refl _) (.cells #[.int .i64 1,.int .i64 0] 55);have Hhi:=qh hi;clear hi;have Hhz0:=qh hz0;clear hz0;have Hhz1:=qh hz1;clear hz1;have Hhz2:=qh hz2;clear hz2;have Hhm:=qh hm;clear hm;have Hhok:=qh hok;clear hok;have Hhb1:=qh hb1;clear hb1;clear h hP hcell hta htb hlM hlM2 hsta
 go_enter Tryz.func64, Tryz.ntmps64
 go_wp2_with fail;refine(Zas _ _ _ Hhok.out (Hh.out.below Hhb1.out)).mono ?_;rintro e w2 ⟨vx,vy,xs,ys,hsp,rfl,hx,hy,hb2⟩;obtain⟨rfl,rfl⟩:=Zcg (a:=ta) (b:=tb) (p:=(4,0)) ZcW hsp;obtain⟨ax,cx,rfl,-⟩:=hx.form;obtain⟨ay,cy,rfl,-⟩:=hy.form;have HX:=qh hx;have HY:=qh hy;have HS0:=qh ((((St.start w).alloc w.heap.size rfl #[.int .i64 1,.int .i64 0] 55).boxrow 0 1 2 [.int .i64 1,.int .i64 0] rfl rfl (by unfold maxLen;omega)).call hb2);obtain⟨k1,k2⟩:=Hcell.out _ HS0.out.bel;clear hsp hx hy hb2
 go_upto_region 9 with fail
 have HS:=qh ((St.start w2).alloc w2.heap.size rfl #[.int .i64 4,.int .i64 0] 55);obtain⟨W,hW⟩:=eI (w2.alloc (.cells #[.int .i64 4,.int .i64 0] 55));rw[← hW] at HS ⊢;clear hW;refine wp_region_any (by kernel_rfl) ?_
 refine Zam (fun A listed a w'=>∃ (l0 l1 l2 l3 l4 l5 l6 l7:Bool) (g1:Option Addr) (c1:Nat) (g2:Option Addr) (c2:Nat) (g9:Option Addr) (c9:Nat) (F9:Ent),listed=#[l0,l1,l2,l3,l4,l5,l6,l7]∧(l6=true→l3=true∧l5=true)∧(l7=true→l6=true) ∧
   a=⟨((((((((A.tmps.setIfInBounds 35 (if l0=true then .agg #[.int .i64 4,.int .i64 0] else A.tmps.getD 35 undef)).setIfInBounds 36 (if l1=true then .slice ax ta.post.length cx else A.tmps.getD 36 undef)).setIfInBounds 37 (if l2=true then .int .i64 (lt:Int) else A.tmps.getD 37 undef)).setIfInBounds 38 (if l3=true then .slice g1 PA.length c1 else A.tmps.getD 38 undef)).setIfInBounds 39 (if l4=true then .slice ay tb.post.length cy else A.tmps.getD 39 undef)).setIfInBounds 40 (if l5=true then .slice g2 PB.length c2 else A.tmps.getD 40 undef)).setIfInBounds 41 (if l6=true then .slice g9 M.length c9 else A.tmps.getD 41 undef)).setIfInBounds 9 (if l7=true then .slice g9 M.length c9 else A.tmps.getD 9 undef)),A.defers⟩ ∧
   St w2 w' [Ent.box w2.heap.size #[.int .i64 4,.int .i64 0] 55,(if l3=true then Ent.row 55 2 (.slice g1 PA.length c1) PA.length (PA.flatMap Zaa) else Ent.nil),(if l5=true then Ent.row 55 2 (.slice g2 PB.length c2) PB.length (PB.flatMap Zaa) else Ent.nil),(if l6=true then Ent.mkP (Ent.row 55 2 (.slice g1 PA.length c1) PA.length (PA.flatMap Zaa)) (Ent.row 55 2 (.slice g2 PB.length c2) PB.length (PB.flatMap Zaa)) F9 (.slice g9 M.length c9) M else Ent.nil)]) ?_ ?_ ?_
 ·rintro listed a w' ⟨l0,l1,l2,l3,l4,l5,l6,l7,g1,c1,g2,c2,g9,c9,F9,rfl,hd6,hd7,rfl,hS⟩ i hi;obtain⟨hun,o,ho,hall⟩:=mem_ready.1 hi;have hlt:=(Array.getElem?_eq_some_iff.1 ho).1;refine wpOp_step ho (fun K hK => ?_);clear hi;have HS:=qh hS;clear hS;simp only[List.setIfInBounds_toArray,List.set_cons_zero,List.set_cons_succ,Array.getD_eq_getD_getElem?,List.getElem?_toArray,List.getElem?_cons_zero,List.getElem?_cons_succ,Option.getD_some];obtain h|h|h|h|h|h|h|h:i=0∨i=1∨i=2∨i=3∨i=4∨i=5∨i=6∨i=7:=by simp at hlt;omega
  all_goals subst h
  all_goals simp only[List.getElem?_toArray,List.getElem?_cons_zero,List.getElem?_cons_succ,Option.some.injEq] at ho
  all_goals subst ho
  all_goals simp[Region.binds] at hun hall
  ·subst hun;have e0:=HS.out.cell (v:=.int .i64 4) 0 0 rfl rfl;have e1:=HS.out.cell (v:=.int .i64 0) 0 1 rfl rfl;go_simp;exact hK _ _ ⟨true,l1,l2,l3,l4,l5,l6,l7,g1,c1,g2,c2,g9,c9,F9,rfl,hd6,hd7,(by simp),HS.out⟩
  ·subst hun;go_simp;exact hK _ _ ⟨l0,true,l2,l3,l4,l5,l6,l7,g1,c1,g2,c2,g9,c9,F9,rfl,hd6,hd7,(by simp),HS.out⟩
  ·subst hun;go_simp;exact hK _ _ ⟨l0,l1,true,l3,l4,l5,l6,l7,g1,c1,g2,c2,g9,c9,F9,rfl,hd6,hd7,(by simp),HS.out⟩
  ·obtain⟨rfl,rfl⟩:=hall;subst hun;obtain rfl:l6=false:=offL hd6 rfl;obtain rfl:l7=false:=by cases l7 with|false=>rfl|true=>simpa using hd7 rfl
   go_simp
   go_at_call 64
   refine(HTA.out (.slice ax ta.post.length cx) _ (HX.out.below HS.out.bel)).mono ?_;rintro e u1 ⟨a8,d8,rfl,hS8⟩;have hS2:=(HS.out.cat hS8).pick [0,4,2,3] (by decide);have HhS2:=qh hS2;clear hS2;go_simp;exact hK _ _ ⟨l0,true,true,true,l4,l5,false,false,a8,d8,g2,c2,g9,c9,F9,rfl,by simp,by simp,(by simp),HhS2.out⟩
  ·subst hun;go_simp;exact hK _ _ ⟨l0,l1,l2,l3,true,l5,l6,l7,g1,c1,g2,c2,g9,c9,F9,rfl,hd6,hd7,(by simp),HS.out⟩
  ·obtain⟨rfl,rfl⟩:=hall;subst hun;obtain rfl:l6=false:=offR hd6 rfl;obtain rfl:l7=false:=by cases l7 with|false=>rfl|true=>simpa using hd7 rfl
   go_simp
   go_at_call 102
   refine(HTB.out (.slice ay tb.post.length cy) _ (HY.out.below HS.out.bel)).mono ?_;rintro e u1 ⟨a8,d8,rfl,hS8⟩;have hS2:=(HS.out.cat hS8).pick [0,1,4,3] (by decide);have HhS2:=qh hS2;clear hS2;go_simp;exact hK _ _ ⟨l0,l1,l2,true,true,true,false,false,g1,c1,a8,d8,g9,c9,F9,rfl,by simp,by simp,(by simp),HhS2.out⟩
  ·obtain⟨rfl,rfl,rfl⟩:=hall;subst hun;obtain rfl:l7=false:=by cases l7 with|false=>rfl|true=>simpa using hd7 rfl
   go_simp
   go_at_call 91
   refine(Zc5 (Ent.row 55 2 (.slice g1 PA.length c1) PA.length (PA.flatMap Zaa)) (Ent.row 55 2 (.slice g2 PB.length c2) PB.length (PB.flatMap Zaa)) PA PB M _ _ 4 0 Hhk1.out _ (by omega) (by omega) (by omega) (fun u h=>Zad h) (fun u h=>Zad h) (HS.out.has 1 _ rfl).1 (HS.out.has 2 _ rfl).1).mono ?_;rintro e u1 ⟨a8,d8,F8,rfl,hS8⟩;have hS2:=(HS.out.cat hS8).pick [0,1,2,4] (by decide);have HhS2:=qh hS2;clear hS2;go_simp;exact hK _ _ ⟨true,l1,l2,true,l4,true,true,false,g1,c1,g2,c2,a8,d8,F8,rfl,by simp,by simp,(by simp),HhS2.out⟩
  obtain⟨rfl,rfl,rfl,rfl,rfl,rfl,rfl,-⟩:=hall;subst hun;go_simp;exact hK _ _ ⟨true,true,true,true,true,true,true,true,g1,c1,g2,c2,g9,c9,F9,rfl,by simp,by simp,(by simp),HS.out⟩
 ·rintro listed a w' ⟨l0,l1,l2,l3,l4,l5,l6,l7,g1,c1,g2,c2,g9,c9,F9,rfl,hd6,hd7,rfl,hS⟩ hr;have hall:=Zan (by kernel_rfl) rfl hr;obtain rfl:l0=true:=by simpa using hall 0 (by simp)
  obtain rfl:l1=true:=by simpa using hall 1 (by simp)
  obtain rfl:l2=true:=by simpa using hall 2 (by simp)
  obtain rfl:l3=true:=by simpa using hall 3 (by simp)
  obtain rfl:l4=true:=by simpa using hall 4 (by simp)
  obtain rfl:l5=true:=by simpa using hall 5 (by simp)
  obtain rfl:l6=true:=by simpa using hall 6 (by simp)
  obtain rfl:l7=true:=by simpa using hall 7 (by simp)
  clear hall hr hd6 hd7;simp only[↓reduceIte] at hS ⊢;simp only[List.setIfInBounds_toArray,List.set_cons_zero,List.set_cons_succ];have HS5:=qh hS;clear hS;go_wp2_with fail;refine(HEta.out (.slice ax ta.post.length cx) _ (HX.out.below HS5.out.bel) _ rfl).mono ?_;rintro e w6 ⟨rfl,hb6⟩;have hp6:=(HS5.out.mkP 3 rfl (HS5.out.has 1 _ rfl).1 (HS5.out.has 2 _ rfl).1).below hb6;have HS6:=qh (HS5.out.call hb6);clear hb6;cases hra:hasE ta
  ·have HSr:=qh (HS6.out.newRow0 55 2);have HP9:Hid (Sl 0 (w6.alloc (.cells #[] 55)) (.slice g9 M.length c9) M.length 2 (M.flatMap Zaa)):=qh (hp6.below ((Below.refl w6.heap.size w6).alloc (Nat.le_refl _) (.cells #[] 55)));clear hp6;go_wp2_with (at_builtin;refine Zal _ rfl _ _ _ rfl _ 55 i0 (.agg #[.int .i64 0,.int .i64 0]) 2 16 Tryz.underlying23 Hhi.out Hhz0.out Hhz1.out Hhz2.out rfl (by omega) _ 0 _ rfl (HSr.out.row 4 rfl) _ M.length (M.flatMap Zaa) rfl HP9.out ZbB (by unfold maxLen;omega) (by omega) HSr.out.size ?_;intro a9 c9 w9 hown hgrow hat;have hS:=(HSr.out.appS 4 rfl hown hgrow hat).pick [4] (by decide);simp only[Nat.zero_add,List.nil_append] at hS;(try simp only[Nat.zero_add]);have HS9:=qh hS;clear hown hgrow hat hS);go_ret;rw[Hhf0.out hra];exact⟨_,_,rfl,(HS0.out.cat HS9.out).pick [1] (by decide)⟩
  have HP6:=qh hp6;clear hp6;go_wp2_with fail;refine(HTD.out (.slice ay tb.post.length cy) _ (HY.out.below HS6.out.bel)).mono ?_;rintro e w7 ⟨g7,c7,rfl,hS7⟩;have HP7:=qh (HP6.out.below hS7.bel);have HS7:=qh (HS6.out.cat hS7);clear hS7;go_wp2_with fail;refine(ZcM 5 0 M PD _ _ _ (by omega) (by omega) (by omega) HP7.out (Zad (HS7.out.row 4 rfl))).mono ?_;rintro e w8 ⟨v8,rfl,hp8,hb8⟩;rw[Hhk2.out] at hp8;have HS8:=qh (HS7.out.call hb8);clear hb8;obtain⟨a8,c8,rfl,-⟩:=hp8.form;have HSr:=qh (HS8.out.newRow0 55 2);have HP9:Hid (Sl 0 (w8.alloc (.cells #[] 55)) (.slice a8 M2.length c8) M2.length 2 (M2.flatMap Zaa)):=qh (hp8.below ((Below.refl w8.heap.size w8).alloc (Nat.le_refl _) (.cells #[] 55)));clear hp8;go_wp2_with (at_builtin;refine Zal _ rfl _ _ _ rfl _ 55 i0 (.agg #[.int .i64 0,.int .i64 0]) 2 16 Tryz.underlying23 Hhi.out Hhz0.out Hhz1.out Hhz2.out rfl (by omega) _ 0 _ rfl (HSr.out.row 5 rfl) _ M2.length (M2.flatMap Zaa) rfl HP9.out ZbB (by unfold maxLen;omega) (by omega) HSr.out.size ?_;intro a9 c9 w9 hown hgrow hat;have hS:=(HSr.out.appS 5 rfl hown hgrow hat).pick [5] (by decide);simp only[Nat.zero_add,List.nil_append] at hS;(try simp only[Nat.zero_add]);have HS9:=qh hS;clear hown hgrow hat hS);go_ret;rw[Hhf1.out hra];exact⟨_,_,rfl,(HS0.out.cat HS9.out).pick [1] (by decide)⟩
 refine⟨false,false,false,false,false,false,false,false,none,0,none,0,none,0,Ent.nil,rfl,by simp,by simp,(by simp),?_⟩;exact HS.out.drew.pick [0,1,2,3] (by decide)
theorem ZnI (lt:Nat):∀ t:Ex,t.post.length≤60→DrvS lt t:=by
 intro t
 induction t with
 | zero=>exact fun _=>ZnE lt
 | one=>exact fun _=>ZoL lt
 | ltr c=>exact fun _=>ZoN lt c
 | join a b ha hb=>exact fun h=>ZnG lt a b h (ha (by simp[Ex.post] at h;omega)) (hb (by simp[Ex.post] at h;omega))
 | alt a b ha hb=>exact fun h=>ZoP lt a b h (ha (by simp[Ex.post] at h;omega)) (hb (by simp[Ex.post] at h;omega))
 | both a b ha hb=>exact fun h=>ZnH lt a b h (ha (by simp[Ex.post] at h;omega)) (hb (by simp[Ex.post] at h;omega))
 | neg a ha=>exact fun h=>ZoM lt a h (ha (by simp[Ex.post] at h;omega))
 | star a ha=>exact fun h=>ZnF lt a h (ha (by simp[Ex.post] at h;omega))
end Go.Proofs.YtehmjmjedopkkaaGreat
