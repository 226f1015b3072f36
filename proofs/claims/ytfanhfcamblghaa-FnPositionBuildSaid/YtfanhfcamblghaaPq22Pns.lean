/-
  The walk over the reference's PositionNfa.
  Conditions: the expression reads as such, and has neither both nor not.
-/
import Derived.Test.YtfanhfcamblghaaPq21Fos
set_option maxHeartbeats 32000000
set_option maxRecDepth 100000
namespace Go.Proofs.Ytfanhfcamblghaa
open Go.RowKit
theorem ZkE {t:Ex} (h:t.post.length≤60):lpL t.post=lpF t.post t.post.length:=by unfold lpL;rw[Zal t h];rfl
theorem ZkU:∀ (t:Ex) (n:Nat),t.post.length≤60→(flP t n).length≤3600*t.post.length:=by
 have hc:∀ xs ys:List Nat,xs.length≤60→ys.length≤60→(Zar xs ys).length≤3600:=fun xs ys h1 h2=>by rw[Zee];exact Nat.le_trans (Nat.mul_le_mul h1 h2) (by decide)
 intro t
 induction t with
 | zero=>exact fun _ _=>Nat.zero_le _
 | one=>exact fun _ _=>Nat.zero_le _
 | ltr c=>exact fun _ _=>Nat.zero_le _
 | join a b ha hb =>intro n h;rw[show(Ex.join a b).post.length=a.post.length+b.post.length+1 from Zbq a b _] at h ⊢;have h1:=ha n (by omega);have h2:=hb (n+a.post.length) (by omega);have h3:=hc (edP false a n) (edP true b (n+a.post.length)) (Nat.le_trans (ZaA _ _ _) (by omega)) (Nat.le_trans (ZaA _ _ _) (by omega));show(flP a n++flP b (n+a.post.length)++Zar (edP false a n) (edP true b (n+a.post.length))).length≤_;rw[List.length_append,List.length_append];omega
 | alt a b ha hb =>intro n h;rw[show(Ex.alt a b).post.length=a.post.length+b.post.length+1 from Zbq a b _] at h ⊢;have h1:=ha n (by omega);have h2:=hb (n+a.post.length) (by omega);show(flP a n++flP b (n+a.post.length)).length≤_;rw[List.length_append];omega
 | both a b ha hb=>exact fun _ _=>Nat.zero_le _
 | neg a ha=>exact fun _ _=>Nat.zero_le _
 | star a ha =>intro n h;rw[show(Ex.star a).post.length=a.post.length+1 by simp[Ex.post]] at h ⊢;have h1:=ha n (by omega);have h3:=hc (edP false a n) (edP true a n) (Nat.le_trans (ZaA _ _ _) (by omega)) (Nat.le_trans (ZaA _ _ _) (by omega));show(flP a n++Zar (edP false a n) (edP true a n)).length≤_;rw[List.length_append];omega
theorem Zew (t:Ex) (hp:plnE t) (hpl:Zaw t.post=true) (h60:t.post.length≤60) (v:Value) (w:World) (h:Pairs 0 w v t.post) :
  Calls Try.prog 8 #[v] w fun e w'=>RNt ((posO t).getD zeN) (posO t).isSome w e w':=by
 have hok:=Zal t h60;have HS0:=qh ((St.start w).alloc w.heap.size rfl #[.int .i64 0,.slice none 0 0,.slice none 0 0,.slice none 0 0] 28);have hpos:=ZaH t;obtain⟨av,cv,rfl,hcv1,hcv2,hrd⟩:=h.form;obtain⟨bb,off,rfl,-,hbl,hcs⟩:=hrd hpos;have HEV:=qh (fun (u:World) hu=>ZcD t.post (.slice (some ⟨bb,off,none⟩) t.post.length cv) u (by omega) hu true hok);have HPL:=qh (fun (u:World) hu=>Zeq t.post (.slice (some ⟨bb,off,none⟩) t.post.length cv) u (by omega) hu true hpl);have HLP:=qh (fun (u:World) hu=>Zbr t.post (.slice (some ⟨bb,off,none⟩) t.post.length cv) u (by omega) hu);have HEN:=qh (show ∀ (u:World),Pairs 0 u (.slice (some ⟨bb,off,none⟩) t.post.length cv) t.post→Calls Try.prog 41 #[.slice (some ⟨bb,off,none⟩) t.post.length cv,.int .i64 0] u fun e w'=>RE2 (edP true t 0) (edP false t 0) u e w' from fun u hu=>ZeO t hp h60 0 _ u (by omega) hu);have HFO:=qh (show ∀ (u:World) (X:Ent) (po:Nat),FoS w u po [] X→Calls Try.prog 42 #[.slice (some ⟨bb,off,none⟩) t.post.length cv,.int .i64 0,.pointer (some ⟨po,0,none⟩)] u fun e w'=>e = .returned (.tuple #[])∧FoS w w' po ([]++flP t 0) X from fun u X po hF=>Zmc t hp h60 [] 0 _ w u X po (by omega) (by have:=ZkU t 0 h60;simp;omega) h hF);obtain⟨em,hem⟩:∃ z,hasE t=z:=⟨_,rfl⟩;have HEM:=qh (fun (u:World) hu=>Zia t h60 (.slice (some ⟨bb,off,none⟩) t.post.length cv) u hu em hem);have hpm:∀ p,p∈lpF t.post t.post.length→p<t.post.length:=fun p hh=>(Zb4.1 hh).1
 rw[ZkE h60] at HLP;obtain⟨o,ho⟩:=eJ (posO t);obtain⟨P,hP⟩:=eJ (lpF t.post t.post.length);obtain⟨k,hk⟩:=eJ (P.length);have hpo:posO t=if 40≤(lpF t.post t.post.length).length then none else if Zaq (posN t)=true then some (posN t) else none:=rfl;have hpn:posN t=⟨((lpF t.post t.post.length).length:Int)+1,sqP t.post (lpF t.post t.post.length) (posT t (lpF t.post t.post.length)) ((lpF t.post t.post.length).length+1) ((lpF t.post t.post.length).length+1),[0],endL t (lpF t.post t.post.length)⟩:=rfl;rw[ho,hP,hk] at hpo;rw[hP,hk,Zk1 hP,hem,hk] at hpn;rw[hP] at HLP hpm;rw[ho];obtain⟨FI,hFI⟩:∃ l,edP true t 0=l:=⟨_,rfl⟩;obtain⟨LA,hLA⟩:∃ l,edP false t 0=l:=⟨_,rfl⟩;obtain⟨nf,hnf⟩:∃ l,FI.length=l:=⟨_,rfl⟩;obtain⟨nl,hnl⟩:∃ l,LA.length=l:=⟨_,rfl⟩;have hfn:=ZaA true t 0;have hln:=ZaA false t 0;rw[hFI,hnf] at hfn;rw[hLA,hnl] at hln;rw[hFI,hLA] at HEN;rw[hLA] at hpn;obtain⟨T,hT⟩:=eJ (posT t P);rw[hT] at hpn;obtain⟨G,hG⟩:∃ g,flP t 0=g:=⟨_,rfl⟩;obtain⟨LG,hLG⟩:∃ l,G.length=l:=⟨_,rfl⟩;have hLGb:LG≤1000000:=by have:=ZkU t 0 h60;rw[hG,hLG] at this;omega
 rw[List.nil_append,hG] at HFO;have hy0:∀ j,j<k→T 0 (j+1)=decide (P.getD j 0∈FI):=fun j hj=>by rw[← hT,ZjC hP (by omega),hFI]
 have hyn:∀ i j,i<k→j<k→T (i+1) (j+1)=G.any fun x=>decide (x.1=P.getD i 0)&&decide (x.2=P.getD j 0):=fun i j hi hj=>by rw[← hT,Zlq hP (by omega) (by omega),hG]
 have hT0:∀ i,T i 0=false:=fun i=>by rw[← hT];exact ZdA i
 have hval:k<40→Zaq (posN t)=decide ((sqP t.post P T (k+1) (k+1)).length≤400):=fun h=>by rw[Zko h60 hP (by omega),hk,hT]
 obtain⟨n,hn⟩:=eJ (t.post.length);have hkn:k≤n:=by rw[← hk,← hP,← hn];exact Zfn _ _
 rw[hn] at HEV HPL HLP HEN HFO HEM hcs hpm hcv1 h hfn hln;rw[hn];have HP:=qh h;obtain⟨m0,hmi,hmz0,hmz1,hmz2⟩:=info_parts Try.infoMv;obtain⟨i0,hi,hz0,hz1,hz2⟩:=info_parts Try.infoInt;have Hmi:=qh hmi;have Hmz0:=qh hmz0;have Hmz1:=qh hmz1;have Hmz2:=qh hmz2;have Hcs:=qh hcs;have Hpm:=qh hpm;have Hy0:=qh hy0;have Hyn:=qh hyn;have HT0:=qh hT0;have Hval:=qh hval;have Hhi:=qh hi;clear hi;replace hz0:=qh hz0;have Hhz1:=qh hz1;clear hz1;have Hhz2:=qh hz2;clear hz2;replace hP:=qh hP;have Hhk:=qh hk;clear hk;have Hho:=qh ho;clear ho;have Hhpo:=qh hpo;clear hpo;have Hhpn:=qh hpn;clear hpn;have Hhok:=qh hok;clear hok;replace hFI:=qh hFI;have HhLA:=qh hLA;clear hLA;have Hhnf:=qh hnf;clear hnf;have Hhnl:=qh hnl;clear hnl;have HhG:=qh hG;clear hG;have HhLG:=qh hLG;clear hLG;have Hhem:=qh hem;clear hem;have hn60:n≤60:=by omega
 have Hhn:=qh hn;clear hn;clear hmi hmz0 hmz1 hmz2 hcs hpm h hrd hpos hy0 hyn hT0 hval hT
 go_enter Try.func8, Try.ntmps8
 go_wp2_with fail;refine(HLP.out _ (HP.out.below HS0.out.bel)).mono ?_;rintro e w1 ⟨aP,cP,rfl,hS1⟩;rw[Hhk.out] at hS1 ⊢;have HS1:=qh (HS0.out.cat hS1);clear hS1;go_wp2_with fail;refine(HEV.out _ (HP.out.below HS1.out.bel)).mono ?_;rintro e w2 ⟨rfl,hb2⟩;have HS2:=qh (HS1.out.call hb2);clear hb2;go_wp2_with fail;refine(HPL.out _ (HP.out.below HS2.out.bel)).mono ?_;rintro e w3 ⟨rfl,hb3⟩;have HS3:=qh (HS2.out.call hb3);clear hb3;by_cases h40:40≤k
 ·have hon:o=none:=by rw[Hhpo.out,if_pos h40]
  subst hon;have h40I:(40:Int)≤(k:Int):=by omega
  clear h40;have f0:=HS3.out.fr 0 0 rfl;have f1:=HS3.out.fr 0 1 rfl;have f2:=HS3.out.fr 0 2 rfl;have f3:=HS3.out.fr 0 3 rfl;have y0:=HS3.out.cell (v:=.int .i64 0) 0 0 rfl rfl;have y1:=HS3.out.cell (v:=.slice none 0 0) 0 1 rfl rfl;have y2:=HS3.out.cell (v:=.slice none 0 0) 0 2 rfl rfl;have y3:=HS3.out.cell (v:=.slice none 0 0) 0 3 rfl rfl;go_wp2;have hq:=((((HS3.out.set 0 rfl 0 (.int .i64 0)).set 0 rfl 1 (.slice none 0 0)).set 0 rfl 2 (.slice none 0 0)).set 0 rfl 3 (.slice none 0 0));have q0:=hq.cell (v:=.int .i64 0) 0 0 rfl rfl;have q1:=hq.cell (v:=.slice none 0 0) 0 1 rfl rfl;have q2:=hq.cell (v:=.slice none 0 0) 0 2 rfl rfl;have q3:=hq.cell (v:=.slice none 0 0) 0 3 rfl rfl;refine bodyPost_ret (v:=.tuple #[.agg #[.int .i64 0,.slice none 0 0,.slice none 0 0,.slice none 0 0],.bool false]) (by simp[results,Try.results8,go_sem,q0,q1,q2,q3]) rfl ?_;exact ZaJ hq.bel
 have h40I:¬ (40:Int)≤(k:Int):=by omega
 have hon:o=if Zaq (posN t)=true then some (posN t) else none:=by rw[Hhpo.out,if_neg h40]
 have hvl:=Hval.out (by omega);have Hhon:=qh hon;clear hon;have Hhvl:=qh hvl;clear hvl;have hwk:IntKind.i64.wrap ((k:Int)+1)=(k:Int)+1:=IntWalk.i64_in _ (by omega);clear h40;go_wp2_with fail;refine(HEN.out _ (HP.out.below HS3.out.bel)).mono ?_;rintro e w4 ⟨aF,cF,aL,cL,rfl,hS4⟩;rw[Hhnf.out,Hhnl.out] at hS4 ⊢;have HS4:Hid (St w w4 [Ent.box w.heap.size #[.int .i64 0,.slice none 0 0,.slice none 0 0,.slice none 0 0] 28,Ent.row 3 1 (.slice aP k cP) k (natC P),Ent.row 3 1 (.slice aF nf cF) nf (natC FI),Ent.row 3 1 (.slice aL nl cL) nl (natC LA)]):=qh (HS3.out.cat hS4);clear hS4;have hS5:=((HS4.out.alloc w4.heap.size rfl #[] 26).alloc (w4.heap.size+1) (by simp) #[.slice (some ⟨w4.heap.size,0,none⟩) 0 0] 42);have hS5a:=(((hS5.boxrow 4 0 1 [] rfl rfl (Nat.zero_le _)).norows 4 rfl 3).pick [5,4,0,1,2,3] (by decide));have hS5b:=St.pack (A:=[Ent.box (w4.heap.size+1) #[.slice (some ⟨w4.heap.size,0,none⟩) 0 0] 42,Ent.rows 26 3 (.slice (some ⟨w4.heap.size,0,none⟩) 0 0) [] []]) (R:=[Ent.box w.heap.size #[.int .i64 0,.slice none 0 0,.slice none 0 0,.slice none 0 0] 28,Ent.row 3 1 (.slice aP k cP) k (natC P),Ent.row 3 1 (.slice aF nf cF) nf (natC FI),Ent.row 3 1 (.slice aL nl cL) nl (natC LA)]) hS5a;have H5a:=qh hS5a
 have HF5:=qh (show FoS w _ (w4.heap.size+1) [] (Ent.all [Ent.box w.heap.size #[.int .i64 0,.slice none 0 0,.slice none 0 0,.slice none 0 0] 28,Ent.row 3 1 (.slice aP k cP) k (natC P),Ent.row 3 1 (.slice aF nf cF) nf (natC FI),Ent.row 3 1 (.slice aL nl cL) nl (natC LA)]) from⟨_,_,_,hS5b⟩);clear hS5 hS5a hS5b;go_wp2_with fail;refine(HFO.out _ _ _ HF5.out).mono ?_;rintro e w6 ⟨rfl,ao,co,vs,hS6⟩;obtain⟨po,hpo2⟩:∃ b,w4.heap.size+1=b:=⟨_,rfl⟩;have hS7:=St.unpack (A:=[Ent.box (w4.heap.size+1) #[.slice (some ⟨w4.heap.size,0,none⟩) 0 0] 42,Ent.rows 26 3 (.slice (some ⟨w4.heap.size,0,none⟩) 0 0) [] []]) (A':=[Ent.box (w4.heap.size+1) #[.slice ao G.length co] 42,Ent.rows 26 3 (.slice ao G.length co) vs (G.map Zce)]) (R:=[Ent.box w.heap.size #[.int .i64 0,.slice none 0 0,.slice none 0 0,.slice none 0 0] 28,Ent.row 3 1 (.slice aP k cP) k (natC P),Ent.row 3 1 (.slice aF nf cF) nf (natC FI),Ent.row 3 1 (.slice aL nl cL) nl (natC LA)]) H5a.out hS6;rw[HhLG.out,hpo2] at hS7;rw[hpo2];have HS7:Hid (St w w6 [Ent.box po #[.slice ao LG co] 42,Ent.rows 26 3 (.slice ao LG co) vs (G.map Zce),Ent.box w.heap.size #[.int .i64 0,.slice none 0 0,.slice none 0 0,.slice none 0 0] 28,Ent.row 3 1 (.slice aP k cP) k (natC P),Ent.row 3 1 (.slice aF nf cF) nf (natC FI),Ent.row 3 1 (.slice aL nl cL) nl (natC LA)]):=qh hS7
 clear hS6 hS7 H5a HF5 hpo2 HS4;have HS8:=qh ((HS7.out.alloc w6.heap.size rfl #[.int .i64 0] 3).alloc (w6.heap.size+1) (by simp) #[.int .i64 ((k:Int)+1),.slice none 0 0,.slice (some ⟨w6.heap.size,0,none⟩) 1 1,.slice none 0 0] 28);have HS8b:=qh (HS8.out.boxrow 6 1 1 [.int .i64 0] rfl rfl (by unfold maxLen;omega));clear HS8 HS7
 go_upto_if 43 with(go_at_call 43;refine(HEM.out _ (HP.out.below HS8b.out.bel)).mono ?_;rintro e w8 ⟨rfl,hb8⟩)
 obtain⟨bF,hbF⟩:∃ b,w6.heap.size=b:=⟨_,rfl⟩;obtain⟨b8,hb8'⟩:∃ b,w6.heap.size+1=b:=⟨_,rfl⟩;have hS9:=HS8b.out.call hb8;rw[hb8',hbF] at hS9;rw[hb8',hbF];have HS9:Hid (St w w8 [Ent.box b8 #[.int .i64 ((k:Int)+1),.slice none 0 0,.slice (some ⟨bF,0,none⟩) 1 1,.slice none 0 0] 28,Ent.row 34 3 (.slice none 0 0) 0 (([]:List (Int × Int × Int)).flatMap Zab),Ent.row 3 1 (.slice none 0 0) 0 (intCells ([]:List Int)),Ent.row 3 1 (.slice aP k cP) k (natC P),Ent.box po #[.slice ao LG co] 42,Ent.rows 26 3 (.slice ao LG co) vs (G.map Zce),Ent.box w.heap.size #[.int .i64 0,.slice none 0 0,.slice none 0 0,.slice none 0 0] 28,Ent.row 3 1 (.slice (some ⟨bF,0,none⟩) 1 1) 1 [.int .i64 0],Ent.row 3 1 (.slice aF nf cF) nf (natC FI),Ent.row 3 1 (.slice aL nl cL) nl (natC LA)]):=qh (((hS9.nilRow 34 3).nilRow 3 1).pick [7,8,9,3,0,1,2,6,4,5] (by decide));clear hS9 hb8 hb8' hbF HS8b
 go_cut [] from 44 (fun wc=>∃ (ae:Option Addr) (le ce:Nat),(if em=true then [(0:Int)] else []).length=le∧St w wc [Ent.box b8 #[.int .i64 ((k:Int)+1),.slice none 0 0,.slice (some ⟨bF,0,none⟩) 1 1,.slice ae le ce] 28,Ent.row 34 3 (.slice none 0 0) 0 (([]:List (Int × Int × Int)).flatMap Zab),Ent.row 3 1 (.slice ae le ce) le (intCells (if em=true then [(0:Int)] else [])),Ent.row 3 1 (.slice aP k cP) k (natC P),Ent.box po #[.slice ao LG co] 42,Ent.rows 26 3 (.slice ao LG co) vs (G.map Zce),Ent.box w.heap.size #[.int .i64 0,.slice none 0 0,.slice none 0 0,.slice none 0 0] 28,Ent.row 3 1 (.slice (some ⟨bF,0,none⟩) 1 1) 1 [.int .i64 0],Ent.row 3 1 (.slice aF nf cF) nf (natC FI),Ent.row 3 1 (.slice aL nl cL) nl (natC LA)])
 case first =>
  cases em with
  | false =>go_wp2;go_meet;exact⟨none,0,0,rfl,HS9.out⟩
  | true =>have e3:=HS9.out.cell (v:=.slice none 0 0) 0 3 rfl rfl;have HSa:=qh (HS9.out.alloc_ (.cells #[.int .i64 0] 3));have HRw:=qh (HSa.out.row 2 rfl);go_wp2_with (at_builtin;refine wpList_append_lies _ rfl _ _ _ rfl _ 3 i0 (.int .i64 0) 1 8 Try.underlying26 Hhi.out hz0.out Hhz1.out Hhz2.out rfl (by omega) _ 0 _ rfl HRw.out ⟨w8.heap.size,0,none⟩ 1 1 [.int .i64 0] rfl rfl (World.news_of_block (heap_alloc_new w8 _)) ZbS (by omega) (by unfold maxLen;omega) (by omega) HSa.out.size _ rfl ?_;intro g6 c6 w6 hown6 hgrow6 hat6 hlt6;have hS6:=HSa.out.app 2 rfl hown6 hgrow6 hat6;have HS6:=qh hS6;have f3:=hS6.fr 0 3 rfl;have y3:=hS6.cell (v:=.slice none 0 0) 0 3 rfl rfl;clear hown6 hgrow6 hat6 hlt6 hS6);go_meet;exact⟨some ⟨g6,0,none⟩,1,c6,rfl,HS6.out.set 0 rfl 3 (.slice (some ⟨g6,0,none⟩) 1 c6)⟩
 case rest =>
 obtain⟨ae0,le0,ce0,hle0,hS10⟩:=hcut;have HS10:=qh hS10;have Hhle0:=qh hle0;clear hle0;clear hS10 HS9;go_wp2
 go_loopw [9] (fun iv wr=>∃ (i m cm le ce:Nat) (am ae:Option Addr),iv = .int .i64 (i:Int)∧i≤k+1∧(sqP t.post P T (k+1) i).length=m∧((if em=true then [(0:Int)] else [])++eL P LA i).length=le∧St w wr [Ent.box b8 #[.int .i64 ((k:Int)+1),.slice am m cm,.slice (some ⟨bF,0,none⟩) 1 1,.slice ae le ce] 28,Ent.row 34 3 (.slice am m cm) m ((sqP t.post P T (k+1) i).flatMap Zab),Ent.row 3 1 (.slice ae le ce) le (intCells ((if em=true then [(0:Int)] else [])++eL P LA i)),Ent.row 3 1 (.slice aP k cP) k (natC P),Ent.box po #[.slice ao LG co] 42,Ent.rows 26 3 (.slice ao LG co) vs (G.map Zce),Ent.box w.heap.size #[.int .i64 0,.slice none 0 0,.slice none 0 0,.slice none 0 0] 28,Ent.row 3 1 (.slice (some ⟨bF,0,none⟩) 1 1) 1 [.int .i64 0],Ent.row 3 1 (.slice aF nf cF) nf (natC FI),Ent.row 3 1 (.slice aL nl cL) nl (natC LA)]) (fun iv _=>k+1-(intOf iv).toNat)
 case atStart=>exact⟨0,0,0,le0,ce0,none,ae0,rfl,Nat.zero_le _,rfl,by rw[show eL P LA 0=[] from rfl,List.append_nil];exact Hhle0.out,by rw[show eL P LA 0=[] from rfl,List.append_nil];exact HS10.out⟩
 case round =>
  obtain⟨i,m,cm,le,ce,am,ae,rfl,hik,hm,hle,hS⟩:=hrel;obtain⟨EE,hEE⟩:∃ q,((if em=true then [(0:Int)] else [])++eL P LA i)=q:=⟨_,rfl⟩;rw[hEE] at hle hS
  have hle1:le≤100:=by
   have h1:=ZmH P LA i;rw[← hle,← hEE,List.length_append];have:((if em=true then [(0:Int)] else []):List Int).length≤1:=by split<;>simp
   omega
  clear HS10;by_cases hil:i<k+1
  ·have hilI:(i:Int)≤(k:Int):=by omega
   obtain⟨QQ,hQQ⟩:∃ q,(sqP t.post P T (k+1) i)=q:=⟨_,rfl⟩;rw[hQQ] at hm hS;have HSi:=qh hS;have hsq:sqP t.post P T (k+1) (i+1)=QQ++rwP t.post P T i (k+1):=by rw[← hQQ];rfl
   have hql:QQ.length≤1600:=by have h1:=Ze2 t.post P T (k+1) i;have h2:i*(k+1)≤40*40:=Nat.mul_le_mul (by omega) (by omega);rw[hQQ] at h1;omega
   have hrw1:rwP t.post P T i 1=[]:=by show(if T i 0=true then _ else _)=_;rw[HT0.out i];rfl
   have Hhsq:=qh hsq;clear hsq;have HhQQ:=qh hQQ;clear hQQ;have Hhm:=qh hm;clear hm;have Hhle:=qh hle;clear hle;replace hEE:=qh hEE;have Hhrw1:=qh hrw1;clear hrw1;clear hS;go_wp2
   go_loopw [10] (fun jv wr'=>∃ (j m cm:Nat) (am:Option Addr),jv = .int .i64 (j:Int)∧j≤k∧(QQ++rwP t.post P T i (j+1)).length=m∧St w wr' [Ent.box b8 #[.int .i64 ((k:Int)+1),.slice am m cm,.slice (some ⟨bF,0,none⟩) 1 1,.slice ae le ce] 28,Ent.row 34 3 (.slice am m cm) m ((QQ++rwP t.post P T i (j+1)).flatMap Zab),Ent.row 3 1 (.slice ae le ce) le (intCells EE),Ent.row 3 1 (.slice aP k cP) k (natC P),Ent.box po #[.slice ao LG co] 42,Ent.rows 26 3 (.slice ao LG co) vs (G.map Zce),Ent.box w.heap.size #[.int .i64 0,.slice none 0 0,.slice none 0 0,.slice none 0 0] 28,Ent.row 3 1 (.slice (some ⟨bF,0,none⟩) 1 1) 1 [.int .i64 0],Ent.row 3 1 (.slice aF nf cF) nf (natC FI),Ent.row 3 1 (.slice aL nl cL) nl (natC LA)]) (fun jv _=>k-(intOf jv).toNat)
   case atStart=>exact⟨0,m,cm,am,rfl,Nat.zero_le _,by rw[Hhrw1.out,List.append_nil];exact Hhm.out,by rw[Hhrw1.out,List.append_nil];exact HSi.out⟩
   case round =>
    clear HSi Hhm;obtain⟨j,m,cm,am,rfl,hjk,hm,hS⟩:=hrel;by_cases hjl:j<k
    ·have hjlI:(j:Int)<(k:Int):=by omega
     have hwj:IntKind.i64.wrap ((j:Int)+1)=(j:Int)+1:=IntWalk.i64_in _ (by omega);obtain⟨MV,hMVd⟩:∃ q,QQ++rwP t.post P T i (j+1)=q:=⟨_,rfl⟩;have hrl:=Zgt t.post P T i (j+1);have hml:m≤1700:=by rw[← hm,List.length_append];omega
     have hrs:rwP t.post P T i (j+1+1)=if T i (j+1)=true then rwP t.post P T i (j+1)++[((i:Int),ltP t.post P (j+1),((j+1:Nat):Int))] else rwP t.post P T i (j+1):=rfl;rw[hMVd] at hm hS;obtain⟨b,hb⟩:=eJ (T i (j+1));rw[hb] at hrs;obtain⟨pl,hpld⟩:∃ p,P.getD j 0=p:=⟨_,rfl⟩;have hpc:(natC P)[j]? = some (.int .i64 ((pl:Nat):Int)):=by rw[← hpld];exact ZaP (by rw[Hhk.out];omega)
     have hplm:pl∈P:=by rw[← hpld];exact Zcj (by rw[Hhk.out];exact hjl)
     have hpln:=Hpm.out pl hplm;have hplI:(pl:Int)<(n:Int):=by omega
     obtain⟨lt,hlt⟩:∃ l,(t.post.getD pl (0,0)).2=l:=⟨_,rfl⟩;have hltp:ltP t.post P (j+1)=lt:=by unfold ltP;rw[Nat.add_sub_cancel,hpld,hlt]
     obtain⟨-,g2⟩:=Hcs.out pl hpln;rw[hlt] at g2;have HG2:=qh g2;have hMVt:b=true→QQ++rwP t.post P T i (j+1+1)=MV++[((i:Int),lt,(j:Int)+1)]:=fun h=>by rw[hrs,if_pos h,← hMVd,List.append_assoc,hltp];rfl
     have hMVf:b=false→QQ++rwP t.post P T i (j+1+1)=MV:=fun h=>by rw[hrs,if_neg (by rw[h];decide),hMVd]
     have hb0:i=0→b=decide (pl∈FI):=fun h=>by rw[← hb,h,Hy0.out j hjl,hpld]
     obtain⟨ps,hps⟩:∃ p,P.getD (i-1) 0=p:=⟨_,rfl⟩;have hbn:0<i→b=G.any fun x=>decide (x.1=ps)&&decide (x.2=pl):=fun h=>by have h1:=Hyn.out (i-1) j (by omega) hjl;rw[show i-1+1=i by omega,hb,hps,hpld] at h1;exact h1
     obtain⟨gP,cP2,hqP⟩:=hS.rowform 3 rfl (by omega);simp only[Value.slice.injEq,true_and] at hqP;obtain⟨rfl,rfl⟩:=hqP;have HSj:=qh hS;have HhMVt:=qh hMVt;clear hMVt;have HhMVf:=qh hMVf;clear hMVf;have Hhm:=qh hm;clear hm;have Hhpc:=qh hpc;clear hpc;have Hhb0:=qh hb0;clear hb0;have Hhbn:=qh hbn;clear hbn;have Hhpld:=qh hpld;clear hpld;have Hhps:=qh hps;clear hps;clear hS hrs hMVd hb hplm hlt hltp g2
     go_upto_region 16 with fail
     go_cut [11] from 55 to 127 (fun yv wc=>yv = .bool (decide (i=0)&&b)∧St w wc [Ent.box b8 #[.int .i64 ((k:Int)+1),.slice am m cm,.slice (some ⟨bF,0,none⟩) 1 1,.slice ae le ce] 28,Ent.row 34 3 (.slice am m cm) m (MV.flatMap Zab),Ent.row 3 1 (.slice ae le ce) le (intCells EE),Ent.row 3 1 (.slice (some ⟨gP,0,none⟩) k cP) k (natC P),Ent.box po #[.slice ao LG co] 42,Ent.rows 26 3 (.slice ao LG co) vs (G.map Zce),Ent.box w.heap.size #[.int .i64 0,.slice none 0 0,.slice none 0 0,.slice none 0 0] 28,Ent.row 3 1 (.slice (some ⟨bF,0,none⟩) 1 1) 1 [.int .i64 0],Ent.row 3 1 (.slice aF nf cF) nf (natC FI),Ent.row 3 1 (.slice aL nl cL) nl (natC LA)])
     case first =>
      rcases Nat.eq_zero_or_pos i with rfl|hi0
      ·have c0:=HSj.out.rcell (v:=.int .i64 ((pl:Nat):Int)) 3 j rfl (by omega) Hhpc.out;have hnm:=Zea (FI.map fun (x:Nat)=>(x:Int)) (pl:Int) (.slice aF nf cF) _ (by rw[List.length_map,Hhnf.out];omega) (Zaj (HSj.out.row 8 rfl));have hni:=Zhc (l:=FI) (x:=pl);obtain⟨nm,hnmv⟩:∃ x,ZcG (FI.map fun (x:Nat)=>(x:Int)) (pl:Int)=x:=⟨_,rfl⟩;rw[hnmv] at hnm hni;have Hnm:=qh hnm;have hbb:=Hhb0.out rfl;clear hnm hnmv;go_wp2_with fail;refine Hnm.out.mono ?_;rintro e w9 ⟨rfl,hb9⟩;have HSk:=qh (HSj.out.call hb9);clear hb9;by_cases hmem:pl∈FI
       ·have hnn:0≤nm:=hni.2 hmem;rw[decide_eq_true hmem] at hbb;subst hbb;clear hni;go_wp2;go_meet;exact⟨rfl,HSk.out⟩
       have hnn:¬ 0≤nm:=fun h=>hmem (hni.1 h)
       rw[decide_eq_false hmem] at hbb;subst hbb;clear hni;go_wp2;go_meet;exact⟨by rw[decide_eq_false (by omega)];rfl,HSk.out⟩
      obtain⟨q1,q2,q3,q4⟩:=Zan (show ¬ (i:Int)=0 by omega);have hd:decide (i=0)=false:=decide_eq_false (by omega);go_wp2;go_meet;exact⟨by rw[hd];rfl,HSj.out⟩
     case rest =>
     obtain⟨rfl,hS⟩:=hcut;have HSk:=qh hS;clear hS HSj
     go_upto_block 4 with fail
     go_cut [11,12] from 55 to 127 (fun yv _ wc=>yv = .bool b∧St w wc [Ent.box b8 #[.int .i64 ((k:Int)+1),.slice am m cm,.slice (some ⟨bF,0,none⟩) 1 1,.slice ae le ce] 28,Ent.row 34 3 (.slice am m cm) m (MV.flatMap Zab),Ent.row 3 1 (.slice ae le ce) le (intCells EE),Ent.row 3 1 (.slice (some ⟨gP,0,none⟩) k cP) k (natC P),Ent.box po #[.slice ao LG co] 42,Ent.rows 26 3 (.slice ao LG co) vs (G.map Zce),Ent.box w.heap.size #[.int .i64 0,.slice none 0 0,.slice none 0 0,.slice none 0 0] 28,Ent.row 3 1 (.slice (some ⟨bF,0,none⟩) 1 1) 1 [.int .i64 0],Ent.row 3 1 (.slice aF nf cF) nf (natC FI),Ent.row 3 1 (.slice aL nl cL) nl (natC LA)])
     case first =>
      go_wp2
      go_loopw [11,12] (fun yv kv wr=>∃ q:Nat,kv = .int .i64 (q:Int)∧q≤LG∧yv = .bool (if i=0 then b else(G.take q).any fun x=>decide (x.1=ps)&&decide (x.2=pl))∧St w wr [Ent.box b8 #[.int .i64 ((k:Int)+1),.slice am m cm,.slice (some ⟨bF,0,none⟩) 1 1,.slice ae le ce] 28,Ent.row 34 3 (.slice am m cm) m (MV.flatMap Zab),Ent.row 3 1 (.slice ae le ce) le (intCells EE),Ent.row 3 1 (.slice (some ⟨gP,0,none⟩) k cP) k (natC P),Ent.box po #[.slice ao LG co] 42,Ent.rows 26 3 (.slice ao LG co) vs (G.map Zce),Ent.box w.heap.size #[.int .i64 0,.slice none 0 0,.slice none 0 0,.slice none 0 0] 28,Ent.row 3 1 (.slice (some ⟨bF,0,none⟩) 1 1) 1 [.int .i64 0],Ent.row 3 1 (.slice aF nf cF) nf (natC FI),Ent.row 3 1 (.slice aL nl cL) nl (natC LA)]) (fun _ kv _=>LG-(intOf kv).toNat)
      case atStart =>
       refine⟨0,rfl,Nat.zero_le _,?_,HSk.out⟩;by_cases h0:i=0
       ·rw[if_pos h0,decide_eq_true h0,Bool.true_and]
       rw[if_neg h0,decide_eq_false h0];rfl
      case round =>
       obtain⟨q,rfl,hq,rfl,hS⟩:=hrel;have HSq:=qh hS;have c7:=hS.cell (v:=.slice ao LG co) 4 0 rfl rfl;rcases Nat.eq_zero_or_pos i with rfl|hi0
       ·rw[if_pos rfl];clear hS;by_cases hql2:q<LG
        ·have hqI:(q:Int)<(LG:Int):=by omega
         go_wp2;go_meet;exact⟨rfl,HSq.out⟩
        have hqI:¬ (q:Int)<(LG:Int):=by omega
        go_wp2;go_meet;exact⟨rfl,HSq.out⟩
       rw[if_neg (by omega)];have hi0I:(0:Int)<(i:Int):=by omega
       by_cases hql2:q<LG
       ·have hqI:(q:Int)<(LG:Int):=by omega
        obtain⟨y,hy⟩:=eJ ((G.take q).any (fun x=>decide (x.1=ps)&&decide (x.2=pl)));obtain⟨x1,x2,hx⟩:∃ x1 x2,G.getD q (0,0)=(x1,x2):=⟨_,_,rfl⟩;have hcut:G.take (q+1)=G.take q++[(x1,x2)]:=by rw[List.take_succ_eq_append_getElem (by rw[HhLG.out];exact hql2),← hx,List.getD_eq_getElem?_getD,List.getElem?_eq_getElem (by rw[HhLG.out];exact hql2)];rfl
        have hnew:(G.take (q+1)).any (fun x=>decide (x.1=ps)&&decide (x.2=pl))=(y||(decide (x1=ps)&&decide (x2=pl))):=by rw[hcut,List.any_append,hy];simp
        have hge:(G.map Zce).getD q []=[.int .i64 ((x1:Nat):Int),.int .i64 ((x2:Nat):Int)]:=by
         rw[List.getD_eq_getElem?_getD,List.getElem?_map,List.getElem?_eq_getElem (by rw[HhLG.out];exact hql2)];have:G[q]'(by rw[HhLG.out];exact hql2)=(x1,x2):=by rw[← hx,List.getD_eq_getElem?_getD,List.getElem?_eq_getElem (by rw[HhLG.out];exact hql2)];rfl
         rw[this];rfl
        obtain⟨go,hgo⟩:∃ g,ao=some ⟨g,0,none⟩:=by
         rcases(hS.rows 5 rfl).1.2 with⟨-,h0⟩|⟨g',cap',cur,h1,-⟩
         ·rw[List.length_map,HhLG.out] at h0;omega
         simp only[Value.slice.injEq] at h1;exact⟨g',h1.1⟩
        subst hgo;obtain⟨ra,rc,hrc,hro,hr1,hr2,-,-,-⟩:=hS.rowAt 5 rfl (by rw[List.length_map,HhLG.out]) hql2;rw[hge] at hrc hro
        obtain⟨gr,hgr⟩:∃ g,ra=some ⟨g,0,none⟩:=by
         rcases hro.2 with⟨-,h0⟩|⟨g',cap',cur,h1,-⟩
         ·simp at h0
         simp only[Value.slice.injEq] at h1;exact⟨g',h1.1⟩
        subst hgr;have hrI:=Zaj (xs:=[((x1:Nat):Int),((x2:Nat):Int)]) hro;obtain⟨ra2,rc2,hfe,-,-,hrd2⟩:=hrI.form;simp only[Value.slice.injEq] at hfe;obtain⟨rfl,-,-⟩:=hfe;obtain⟨gb,go2,hgg,-,-,hcc⟩:=hrd2 (by simp);simp only[Option.some.injEq,Addr.mk.injEq,and_true] at hgg;obtain⟨rfl,rfl⟩:=hgg;have p0:wr.cell? ⟨gr,0,none⟩=some (.int .i64 ((x1:Nat):Int)):=hcc 0 (by simp);have p1:wr.cell? ⟨gr,1,none⟩=some (.int .i64 ((x2:Nat):Int)):=hcc 1 (by simp);obtain⟨ii,hii⟩:∃ q:Nat,(i:Int)-1=(q:Int):=⟨i-1,by omega⟩;have hwii:IntKind.i64.wrap (ii:Int)=(ii:Int):=IntWalk.i64_in _ (by omega);have hiik:(ii:Int)<(k:Int):=by omega
        have hpsc:(natC P)[ii]? = some (.int .i64 ((ps:Nat):Int)):=by rw[← Hhps.out,show i-1=ii by omega];exact ZaP (by rw[Hhk.out];omega)
        have p2:=hS.rcell (v:=.int .i64 ((ps:Nat):Int)) 3 ii rfl (by omega) hpsc;have p3:=hS.rcell (v:=.int .i64 ((pl:Nat):Int)) 3 j rfl (by omega) Hhpc.out;have hrc2':rc=rc:=rfl;rw[hy];have Hhy:=qh hy;clear hy;have Hhcut:=qh hcut;clear hcut;have Hhnew:=qh hnew;clear hnew;clear hS hge hro hrI hrd2 hcc hpsc hx hrc2';cases y with
        | true =>
         as_aux_lemma =>
         go_wp2
         go_quiet (fail)
         go_wp2;have HSr:=qh (HSq.out.drewN nq);go_roundw
         case rel=>exact⟨q+1,by go_num,by omega,by rw[if_neg (by omega),Hhnew.out];rfl,HSr.out⟩
         case measure=>simp[intOf];omega
        | false =>
         by_cases h1:x1=ps
         ·subst h1;by_cases h2:x2=pl
          ·subst h2
           as_aux_lemma =>
           go_wp2
           go_quiet (fail)
           go_wp2;have HSr:=qh (HSq.out.drewN nq);go_roundw
           case rel=>exact⟨q+1,by go_num,by omega,by rw[if_neg (by omega),Hhnew.out];simp,HSr.out⟩
           case measure=>simp[intOf];omega
          obtain⟨z1,z2,z3,z4⟩:=Zan (show ¬ (x2:Int)=(pl:Int) by omega);have hdd:decide (x2=pl)=false:=decide_eq_false h2
          as_aux_lemma =>
          go_wp2
          go_quiet (fail)
          go_wp2;have HSr:=qh (HSq.out.drewN nq);go_roundw
          case rel=>exact⟨q+1,by go_num,by omega,by rw[if_neg (by omega),Hhnew.out,hdd];simp,HSr.out⟩
          case measure=>simp[intOf];omega
         obtain⟨z1,z2,z3,z4⟩:=Zan (show ¬ (x1:Int)=(ps:Int) by omega);have hdd:decide (x1=ps)=false:=decide_eq_false h1
         as_aux_lemma =>
         go_wp2
         go_quiet (fail)
         go_wp2;have HSr:=qh (HSq.out.drewN nq);go_roundw
         case rel=>exact⟨q+1,by go_num,by omega,by rw[if_neg (by omega),Hhnew.out,hdd];simp,HSr.out⟩
         case measure=>simp[intOf];omega
       obtain rfl:q=LG:=by omega
       have hqI:¬ (q:Int)<(q:Int):=by omega
       have hbb:=Hhbn.out hi0;rw[List.take_of_length_le (by rw[HhLG.out];exact Nat.le_refl _),← hbb];clear hS hbb;go_wp2;go_meet;exact⟨rfl,HSq.out⟩
     case rest =>
     obtain⟨rfl,hS⟩:=hcut;have HSy:=qh hS;clear hS HSk;cases b with
     | false =>
      have hMV:=HhMVf.out rfl;have HhMV:=qh hMV;clear hMV;go_wp2;go_roundw
      case rel=>exact⟨j+1,m,cm,am,by go_num,by omega,by rw[HhMV.out];exact Hhm.out,by rw[HhMV.out];exact HSy.out⟩
      case measure=>simp[intOf];omega
     | true =>
      have hMV:=HhMVt.out rfl;have HhMV:=qh hMV;clear hMV;go_wp2;refine wp_region_any (by kernel_rfl) ?_
      refine Zaf (fun A listed a w'=>∃ (l0 l1 l2 l3 l4 l5 l6 l7 l8 l9 l10 l11 l12 l13 l14 l15 l16 l17:Bool) (bn0:Nat) (g7:Nat) (c7:Nat),listed=#[l0,l1,l2,l3,l4,l5,l6,l7,l8,l9,l10,l11,l12,l13,l14,l15,l16,l17]∧(l15=true→l1=true∧l14=true)∧(l17=true→l15=true) ∧
        a=⟨(((((((((((((((((A.tmps.setIfInBounds 111 (if l0=true then .pointer (some ⟨b8,1,none⟩) else A.tmps.getD 111 undef)).setIfInBounds 112 (if l1=true then .slice am m cm else A.tmps.getD 112 undef)).setIfInBounds 113 (if l2=true then .int .i64 (i:Int) else A.tmps.getD 113 undef)).setIfInBounds 114 (if l3=true then .slice (some ⟨bb,off,none⟩) n cv else A.tmps.getD 114 undef)).setIfInBounds 115 (if l4=true then .slice (some ⟨gP,0,none⟩) k cP else A.tmps.getD 115 undef)).setIfInBounds 116 (if l5=true then .int .i64 (j:Int) else A.tmps.getD 116 undef)).setIfInBounds 117 (if l6=true then .pointer (some ⟨gP,j,none⟩) else A.tmps.getD 117 undef)).setIfInBounds 118 (if l7=true then .int .i64 ((pl:Nat):Int) else A.tmps.getD 118 undef)).setIfInBounds 119 (if l8=true then .pointer (some ⟨bb,off+pl*2,none⟩) else A.tmps.getD 119 undef)).setIfInBounds 120 (if l9=true then .pointer (some ⟨bb,off+pl*2+1,none⟩) else A.tmps.getD 120 undef)).setIfInBounds 121 (if l10=true then .int .i64 lt else A.tmps.getD 121 undef)).setIfInBounds 122 (if l11=true then .int .i64 (j:Int) else A.tmps.getD 122 undef)).setIfInBounds 123 (if l12=true then .int .i64 ((j:Int)+1) else A.tmps.getD 123 undef)).setIfInBounds 124 (if l13=true then .agg #[.int .i64 (i:Int),.int .i64 lt,.int .i64 ((j:Int)+1)] else A.tmps.getD 124 undef)).setIfInBounds 125 (if l14=true then .slice (some ⟨bn0,0,none⟩) 1 1 else A.tmps.getD 125 undef)).setIfInBounds 126 (if l15=true then .slice (some ⟨g7,0,none⟩) (m+1) c7 else A.tmps.getD 126 undef)).setIfInBounds 127 (if l16=true then .pointer (some ⟨b8,1,none⟩) else A.tmps.getD 127 undef)),A.defers⟩ ∧
        St w w' [(if l17=true then Ent.box b8 #[.int .i64 ((k:Int)+1),.slice (some ⟨g7,0,none⟩) (m+1) c7,.slice (some ⟨bF,0,none⟩) 1 1,.slice ae le ce] 28 else Ent.box b8 #[.int .i64 ((k:Int)+1),.slice am m cm,.slice (some ⟨bF,0,none⟩) 1 1,.slice ae le ce] 28),(if l15=true then Ent.row 34 3 (.slice (some ⟨g7,0,none⟩) (m+1) c7) (m+1) (MV.flatMap Zab++[.int .i64 (i:Int),.int .i64 lt,.int .i64 ((j:Int)+1)]) else Ent.row 34 3 (.slice am m cm) m (MV.flatMap Zab)),Ent.row 3 1 (.slice ae le ce) le (intCells EE),Ent.row 3 1 (.slice (some ⟨gP,0,none⟩) k cP) k (natC P),Ent.box po #[.slice ao LG co] 42,Ent.rows 26 3 (.slice ao LG co) vs (G.map Zce),Ent.box w.heap.size #[.int .i64 0,.slice none 0 0,.slice none 0 0,.slice none 0 0] 28,Ent.row 3 1 (.slice (some ⟨bF,0,none⟩) 1 1) 1 [.int .i64 0],Ent.row 3 1 (.slice aF nf cF) nf (natC FI),Ent.row 3 1 (.slice aL nl cL) nl (natC LA),(if l14=true then Ent.box bn0 #[.int .i64 (i:Int),.int .i64 lt,.int .i64 ((j:Int)+1)] 34 else Ent.nil)]) ?_ ?_ ?_
      ·rintro listed a w' ⟨l0,l1,l2,l3,l4,l5,l6,l7,l8,l9,l10,l11,l12,l13,l14,l15,l16,l17,bn0,g7,c7,rfl,hd15,hd17,rfl,hS⟩ i hi;obtain⟨hun,o,ho,hall⟩:=mem_ready.1 hi;have hlt:=(Array.getElem?_eq_some_iff.1 ho).1;refine wpOp_step ho (fun K hK => ?_);clear hi;have HS:=qh hS;clear hS;simp only[List.setIfInBounds_toArray,List.set_cons_zero,List.set_cons_succ,Array.getD_eq_getD_getElem?,List.getElem?_toArray,List.getElem?_cons_zero,List.getElem?_cons_succ,Option.getD_some];obtain h|h|h|h|h|h|h|h|h|h|h|h|h|h|h|h|h|h:i=0∨i=1∨i=2∨i=3∨i=4∨i=5∨i=6∨i=7∨i=8∨i=9∨i=10∨i=11∨i=12∨i=13∨i=14∨i=15∨i=16∨i=17:=by simp at hlt;omega
       all_goals subst h
       all_goals simp only[List.getElem?_toArray,List.getElem?_cons_zero,List.getElem?_cons_succ,Option.some.injEq] at ho
       all_goals subst ho
       all_goals simp[Region.binds] at hun hall
       ·subst hun;go_simp;exact hK _ _ ⟨true,l1,l2,l3,l4,l5,l6,l7,l8,l9,l10,l11,l12,l13,l14,l15,l16,l17,bn0,g7,c7,rfl,hd15,hd17,(by simp),HS.out⟩
       ·obtain rfl:=hall;subst hun;obtain rfl:l15=false:=offL hd15 rfl;obtain rfl:l17=false:=by cases l17 with|false=>rfl|true=>simpa using hd17 rfl
        have e0:=HS.out.cell (v:=.slice am m cm) 0 1 rfl rfl;go_simp;exact hK _ _ ⟨true,true,l2,l3,l4,l5,l6,l7,l8,l9,l10,l11,l12,l13,l14,false,l16,false,bn0,g7,c7,rfl,by simp,by simp,(by simp),HS.out⟩
       ·subst hun;go_simp;exact hK _ _ ⟨l0,l1,true,l3,l4,l5,l6,l7,l8,l9,l10,l11,l12,l13,l14,l15,l16,l17,bn0,g7,c7,rfl,hd15,hd17,(by simp),HS.out⟩
       ·subst hun;go_simp;exact hK _ _ ⟨l0,l1,l2,true,l4,l5,l6,l7,l8,l9,l10,l11,l12,l13,l14,l15,l16,l17,bn0,g7,c7,rfl,hd15,hd17,(by simp),HS.out⟩
       ·subst hun;go_simp;exact hK _ _ ⟨l0,l1,l2,l3,true,l5,l6,l7,l8,l9,l10,l11,l12,l13,l14,l15,l16,l17,bn0,g7,c7,rfl,hd15,hd17,(by simp),HS.out⟩
       ·subst hun;go_simp;exact hK _ _ ⟨l0,l1,l2,l3,l4,true,l6,l7,l8,l9,l10,l11,l12,l13,l14,l15,l16,l17,bn0,g7,c7,rfl,hd15,hd17,(by simp),HS.out⟩
       ·obtain⟨rfl,rfl⟩:=hall;subst hun;go_simp;exact hK _ _ ⟨l0,l1,l2,l3,true,true,true,l7,l8,l9,l10,l11,l12,l13,l14,l15,l16,l17,bn0,g7,c7,rfl,hd15,hd17,(by simp),HS.out⟩
       ·obtain rfl:=hall;subst hun;have e0:=HS.out.rcell (v:=.int .i64 ((pl:Nat):Int)) 3 (j) rfl (by omega) Hhpc.out;go_simp;exact hK _ _ ⟨l0,l1,l2,l3,l4,l5,true,true,l8,l9,l10,l11,l12,l13,l14,l15,l16,l17,bn0,g7,c7,rfl,hd15,hd17,(by simp),HS.out⟩
       ·obtain⟨rfl,rfl⟩:=hall;subst hun;go_simp;exact hK _ _ ⟨l0,l1,l2,true,l4,l5,l6,true,true,l9,l10,l11,l12,l13,l14,l15,l16,l17,bn0,g7,c7,rfl,hd15,hd17,(by simp),HS.out⟩
       ·obtain rfl:=hall;subst hun;go_simp;exact hK _ _ ⟨l0,l1,l2,l3,l4,l5,l6,l7,true,true,l10,l11,l12,l13,l14,l15,l16,l17,bn0,g7,c7,rfl,hd15,hd17,(by simp),HS.out⟩
       ·obtain rfl:=hall;subst hun;have e0:=(bcell HS.out.bel bb _ hbl).trans HG2.out;go_simp;exact hK _ _ ⟨l0,l1,l2,l3,l4,l5,l6,l7,l8,true,true,l11,l12,l13,l14,l15,l16,l17,bn0,g7,c7,rfl,hd15,hd17,(by simp),HS.out⟩
       ·subst hun;go_simp;exact hK _ _ ⟨l0,l1,l2,l3,l4,l5,l6,l7,l8,l9,l10,true,l12,l13,l14,l15,l16,l17,bn0,g7,c7,rfl,hd15,hd17,(by simp),HS.out⟩
       ·obtain rfl:=hall;subst hun;go_simp;exact hK _ _ ⟨l0,l1,l2,l3,l4,l5,l6,l7,l8,l9,l10,true,true,l13,l14,l15,l16,l17,bn0,g7,c7,rfl,hd15,hd17,(by simp),HS.out⟩
       ·obtain⟨rfl,rfl,rfl⟩:=hall;subst hun;go_simp;exact hK _ _ ⟨l0,l1,true,l3,l4,l5,l6,l7,l8,l9,true,l11,true,true,l14,l15,l16,l17,bn0,g7,c7,rfl,hd15,hd17,(by simp),HS.out⟩
       ·obtain rfl:=hall;subst hun;obtain rfl:l15=false:=offR hd15 rfl;obtain rfl:l17=false:=by cases l17 with|false=>rfl|true=>simpa using hd17 rfl
        have hS2:=(HS.out.alloc _ rfl #[.int .i64 (i:Int),.int .i64 lt,.int .i64 ((j:Int)+1)] 34).pick [0,1,2,3,4,5,6,7,8,9,11] (by decide);have HhS2:=qh hS2;clear hS2;go_simp;exact hK _ _ ⟨l0,l1,l2,l3,l4,l5,l6,l7,l8,l9,l10,l11,l12,true,true,false,l16,false,_,g7,c7,rfl,by simp,by simp,(by simp),HhS2.out⟩
       ·obtain⟨rfl,rfl⟩:=hall;subst hun;obtain rfl:l17=false:=by cases l17 with|false=>rfl|true=>simpa using hd17 rfl
        refine step_append_lies (a:=⟨_,_⟩) _ (by rfl) _ _ _ (by rfl) w.heap.size 34 m0 ((.agg #[.int .i64 0,.int .i64 0,.int .i64 0])) 3 24 Try.underlying25 Hmi.out Hmz0.out Hmz1.out Hmz2.out (by rfl) (by omega) (.slice am m cm) m (MV.flatMap Zab) (by rfl) (HS.out.row 1 rfl) ⟨bn0,0,none⟩ 1 1 [.int .i64 (i:Int),.int .i64 lt,.int .i64 ((j:Int)+1)] (by rfl) (by rfl) (World.news_of_block (HS.out.box 10 rfl)) Zf4 (by omega) (by unfold maxLen;omega) (by omega) HS.out.size _ rfl ?_;intro g8 c8 w8 hown8 hgrow8 hat8 hlt8;have HS8:=qh (HS.out.app 1 rfl hown8 hgrow8 hat8);clear hown8 hgrow8 hat8;go_simp;exact hK _ _ ⟨l0,true,l2,l3,l4,l5,l6,l7,l8,l9,l10,l11,l12,l13,true,true,l16,false,bn0,g8,c8,rfl,by simp,by simp,(by simp),HS8.out⟩
       ·obtain⟨rfl,rfl,rfl,rfl,rfl,rfl,rfl,rfl,rfl,rfl,rfl,rfl,rfl,rfl,rfl,rfl⟩:=hall;subst hun;go_simp;exact hK _ _ ⟨true,true,true,true,true,true,true,true,true,true,true,true,true,true,true,true,true,l17,bn0,g7,c7,rfl,by simp,hd17,(by simp),HS.out⟩
       obtain⟨rfl,rfl,rfl,rfl,rfl,rfl,rfl,rfl,rfl,rfl,rfl,rfl,rfl,rfl,rfl,rfl,rfl,-⟩:=hall;subst hun;have f0:=HS.out.fr 0 1 rfl;have k0:=HS.out.cell (v:=.slice am m cm) 0 1 rfl rfl;go_simp;exact hK _ _ ⟨true,true,true,true,true,true,true,true,true,true,true,true,true,true,true,true,true,true,bn0,g7,c7,rfl,by simp,by simp,(by simp),(HS.out.set 0 rfl 1 (.slice (some ⟨g7,0,none⟩) (m+1) c7))⟩
      ·rintro listed a w' ⟨l0,l1,l2,l3,l4,l5,l6,l7,l8,l9,l10,l11,l12,l13,l14,l15,l16,l17,bn0,g7,c7,rfl,hd15,hd17,rfl,hS⟩ hr;have hall:=Zag (by kernel_rfl) rfl hr;obtain rfl:l0=true:=by simpa using hall 0 (by simp)
       obtain rfl:l1=true:=by simpa using hall 1 (by simp)
       obtain rfl:l2=true:=by simpa using hall 2 (by simp)
       obtain rfl:l3=true:=by simpa using hall 3 (by simp)
       obtain rfl:l4=true:=by simpa using hall 4 (by simp)
       obtain rfl:l5=true:=by simpa using hall 5 (by simp)
       obtain rfl:l6=true:=by simpa using hall 6 (by simp)
       obtain rfl:l7=true:=by simpa using hall 7 (by simp)
       obtain rfl:l8=true:=by simpa using hall 8 (by simp)
       obtain rfl:l9=true:=by simpa using hall 9 (by simp)
       obtain rfl:l10=true:=by simpa using hall 10 (by simp)
       obtain rfl:l11=true:=by simpa using hall 11 (by simp)
       obtain rfl:l12=true:=by simpa using hall 12 (by simp)
       obtain rfl:l13=true:=by simpa using hall 13 (by simp)
       obtain rfl:l14=true:=by simpa using hall 14 (by simp)
       obtain rfl:l15=true:=by simpa using hall 15 (by simp)
       obtain rfl:l16=true:=by simpa using hall 16 (by simp)
       obtain rfl:l17=true:=by simpa using hall 17 (by simp)
       clear hall hr hd15 hd17;simp only[↓reduceIte] at hS ⊢;simp only[List.setIfInBounds_toArray,List.set_cons_zero,List.set_cons_succ];have HS5:=qh hS;clear hS;go_wp2;go_roundw
       case rel =>
        refine⟨j+1,m+1,c7,some ⟨g7,0,none⟩,by go_num,by omega,?_,?_⟩
        ·rw[HhMV.out,List.length_append,List.length_singleton,Hhm.out]
        rw[HhMV.out,List.flatMap_append];exact HS5.out.pick [0,1,2,3,4,5,6,7,8,9] (by decide)
       case measure=>simp[intOf];omega
      refine⟨false,false,false,false,false,false,false,false,false,false,false,false,false,false,false,false,false,false,0,0,0,rfl,by simp,by simp,(by simp),?_⟩;exact HSy.out.drew.pick [0,1,2,3,4,5,6,7,8,9,10] (by decide)
    obtain rfl:k=j:=by omega
    have hjn:¬ (k:Int)<(k:Int):=by omega
    rw[← Hhsq.out] at hS hm;have HSj:=qh hS;have hels:eL P LA (i+1)=if i≠0∧P.getD (i-1) 0∈LA then eL P LA i++[(i:Int)] else eL P LA i:=rfl;have Hhm:=qh hm;clear hm;clear hjl hjk;rcases Nat.eq_zero_or_pos i with rfl|hi0
    ·rw[if_neg fun h=>h.1 rfl] at hels;have hEE2:(if em=true then [(0:Int)] else [])++eL P LA (0+1)=EE:=by rw[hels];exact hEE.out
     have HhEE2:=qh hEE2;clear hEE2;clear hS hels;go_wp2;go_roundw
     case rel=>exact⟨0+1,m,cm,le,ce,am,ae,by go_num,by omega,Hhm.out,by rw[HhEE2.out];exact Hhle.out,by rw[HhEE2.out];exact HSj.out⟩
     case measure=>simp[intOf]
    have hi0I:(0:Int)<(i:Int):=by omega
    obtain⟨ii,hii⟩:∃ q:Nat,(i:Int)-1=(q:Int):=⟨i-1,by omega⟩;have hwii:IntKind.i64.wrap (ii:Int)=(ii:Int):=IntWalk.i64_in _ (by omega);have hiik:(ii:Int)<(k:Int):=by omega
    obtain⟨ps,hps⟩:∃ p,P.getD (i-1) 0=p:=⟨_,rfl⟩;rw[hps] at hels;have hpsc:(natC P)[ii]? = some (.int .i64 ((ps:Nat):Int)):=by rw[← hps,show i-1=ii by omega];exact ZaP (by rw[Hhk.out];omega)
    obtain⟨gP,cP2,hqP⟩:=hS.rowform 3 rfl (by omega);simp only[Value.slice.injEq,true_and] at hqP;obtain⟨rfl,rfl⟩:=hqP;have p2:=hS.rcell (v:=.int .i64 ((ps:Nat):Int)) 3 ii rfl (by omega) hpsc;have hnm:=Zea (LA.map fun (x:Nat)=>(x:Int)) (ps:Int) (.slice aL nl cL) _ (by rw[List.length_map,Hhnl.out];omega) (Zaj (hS.row 9 rfl));have hni:=Zhc (l:=LA) (x:=ps);obtain⟨nm,hnmv⟩:∃ x,ZcG (LA.map fun (x:Nat)=>(x:Int)) (ps:Int)=x:=⟨_,rfl⟩;rw[hnmv] at hnm hni;have Hnm:=qh hnm;clear hS hnm hnmv hpsc hps;by_cases hmem:ps∈LA
    ·have hnn:0≤nm:=hni.2 hmem;rw[if_pos ⟨by omega,hmem⟩] at hels;have hEE2:(if em=true then [(0:Int)] else [])++eL P LA (i+1)=EE++[(i:Int)]:=by rw[hels,← List.append_assoc,hEE.out]
     have HhEE2:=qh hEE2;clear hEE2;clear hels hni hmem;go_wp2_with fail;refine Hnm.out.mono ?_;rintro e w9 ⟨rfl,hb9⟩;have HSk:=qh (HSj.out.call hb9);have e3:=HSk.out.cell (v:=.slice ae le ce) 0 3 rfl rfl;have HSa:=qh (HSk.out.alloc_ (.cells #[.int .i64 (i:Int)] 3));have HRw:=qh (HSa.out.row 2 rfl);clear hb9 p2;go_wp2_with (at_builtin;refine wpList_append_lies _ rfl _ _ _ rfl _ 3 i0 (.int .i64 0) 1 8 Try.underlying26 Hhi.out hz0.out Hhz1.out Hhz2.out rfl (by omega) _ le _ rfl HRw.out ⟨w9.heap.size,0,none⟩ 1 1 [.int .i64 (i:Int)] rfl rfl (World.news_of_block (heap_alloc_new w9 _)) ZbS (by omega) (by unfold maxLen;omega) (by omega) HSa.out.size _ rfl ?_;intro g6 c6 w6 hown6 hgrow6 hat6 hlt6;have hS6:=HSa.out.app 2 rfl hown6 hgrow6 hat6;have HS6:=qh hS6;have f3:=hS6.fr 0 3 rfl;have y3:=hS6.cell (v:=.slice ae le ce) 0 3 rfl rfl;clear hown6 hgrow6 hat6 hlt6 hS6);have HS7:=qh (HS6.out.set 0 rfl 3 (.slice (some ⟨g6,0,none⟩) (le+1) c6));go_roundw
     case rel =>
      refine⟨i+1,m,cm,le+1,c6,am,some ⟨g6,0,none⟩,by go_num,by omega,Hhm.out,?_,?_⟩
      ·rw[HhEE2.out,List.length_append,List.length_singleton,Hhle.out]
      rw[HhEE2.out,Zbc];exact HS7.out.pick [0,1,2,3,4,5,6,7,8,9] (by decide)
     case measure=>simp[intOf];omega
    have hnn:¬ 0≤nm:=fun h=>hmem (hni.1 h)
    rw[if_neg fun h=>hmem h.2] at hels;have hEE2:(if em=true then [(0:Int)] else [])++eL P LA (i+1)=EE:=by rw[hels];exact hEE.out
    have HhEE2:=qh hEE2;clear hEE2;clear hels hni hmem;go_wp2_with fail;refine Hnm.out.mono ?_;rintro e w9 ⟨rfl,hb9⟩;have HSk:=qh (HSj.out.call hb9);clear hb9 p2;go_wp2;go_roundw
    case rel=>exact⟨i+1,m,cm,le,ce,am,ae,by go_num,by omega,Hhm.out,by rw[HhEE2.out];exact Hhle.out,by rw[HhEE2.out];exact HSk.out⟩
    case measure=>simp[intOf];omega
  obtain rfl:i=k+1:=by omega
  have hin:¬ (((k+1:Nat):Int)≤(k:Int)):=by omega
  obtain⟨MV,hMV⟩:∃ q,sqP t.post P T (k+1) (k+1)=q:=⟨_,rfl⟩;rw[hMV] at hS hm;have hDn:posN t=⟨(k:Int)+1,MV,[0],EE⟩:=by rw[Hhpn.out,hMV,hEE]
  have hvm:Zaq (posN t)=decide (m≤400):=by rw[Hhvl.out,hMV,hm]
  have hml:m≤1700:=by have h1:=Ze2 t.post P T (k+1) (k+1);have h2:(k+1)*(k+1)≤40*40:=Nat.mul_le_mul (by omega) (by omega);rw[hMV] at h1;omega
  have HSi:=qh hS;have d0:=hS.cell (v:=.int .i64 ((k:Int)+1)) 0 0 rfl rfl;have d1:=hS.cell (v:=.slice am m cm) 0 1 rfl rfl;have d2:=hS.cell (v:=.slice (some ⟨bF,0,none⟩) 1 1) 0 2 rfl rfl;have d3:=hS.cell (v:=.slice ae le ce) 0 3 rfl rfl;have HhMV:=qh hMV;clear hMV;have Hhm:=qh hm;clear hm;have Hhle:=qh hle;clear hle;replace hEE:=qh hEE;replace hDn:=qh hDn;clear hS hil hik;by_cases h400:m≤400
  ·have hss:o=some (posN t):=by rw[Hhon.out,if_pos (by rw[hvm,decide_eq_true h400])]
   have h400I:¬ (400:Int)<(m:Int):=by omega
   subst hss;clear hvm;have f0:=HSi.out.fr 6 0 rfl;have f1:=HSi.out.fr 6 1 rfl;have f2:=HSi.out.fr 6 2 rfl;have f3:=HSi.out.fr 6 3 rfl;have y0:=HSi.out.cell (v:=.int .i64 0) 6 0 rfl rfl;have y1:=HSi.out.cell (v:=.slice none 0 0) 6 1 rfl rfl;have y2:=HSi.out.cell (v:=.slice none 0 0) 6 2 rfl rfl;have y3:=HSi.out.cell (v:=.slice none 0 0) 6 3 rfl rfl;go_wp2;have hq:=((((HSi.out.set 6 rfl 0 (.int .i64 ((k:Int)+1))).set 6 rfl 1 (.slice am m cm)).set 6 rfl 2 (.slice (some ⟨bF,0,none⟩) 1 1)).set 6 rfl 3 (.slice ae le ce));have q0:=hq.cell (v:=.int .i64 ((k:Int)+1)) 6 0 rfl rfl;have q1:=hq.cell (v:=.slice am m cm) 6 1 rfl rfl;have q2:=hq.cell (v:=.slice (some ⟨bF,0,none⟩) 1 1) 6 2 rfl rfl;have q3:=hq.cell (v:=.slice ae le ce) 6 3 rfl rfl;refine bodyPost_ret (v:=.tuple #[.agg #[.int .i64 ((k:Int)+1),.slice am m cm,.slice (some ⟨bF,0,none⟩) 1 1,.slice ae le ce],.bool true]) (by simp[results,Try.results8,go_sem,q0,q1,q2,q3]) rfl ?_;rw[hDn.out];refine⟨am,cm,some ⟨bF,0,none⟩,1,ae,ce,?_,?_⟩
   ·show Ending.returned _=Ending.returned (.tuple #[.agg #[.int .i64 ((k:Int)+1),.slice am MV.length cm,.slice (some ⟨bF,0,none⟩) 1 1,.slice ae EE.length ce],.bool true]);rw[Hhm.out,Hhle.out]
   show St w _ [Ent.row 34 3 (.slice am MV.length cm) MV.length (MV.flatMap Zab),Ent.row 3 1 (.slice (some ⟨bF,0,none⟩) 1 1) 1 [.int .i64 0],Ent.row 3 1 (.slice ae EE.length ce) EE.length (intCells EE)];rw[Hhm.out,Hhle.out];exact hq.pick [1,7,2] (by decide)
  have hnn:o=none:=by rw[Hhon.out,if_neg (by rw[hvm,decide_eq_false h400];decide)]
  have h400I:(400:Int)<(m:Int):=by omega
  subst hnn;clear hvm d0 d2 d3;have f0:=HSi.out.fr 6 0 rfl;have f1:=HSi.out.fr 6 1 rfl;have f2:=HSi.out.fr 6 2 rfl;have f3:=HSi.out.fr 6 3 rfl;have y0:=HSi.out.cell (v:=.int .i64 0) 6 0 rfl rfl;have y1:=HSi.out.cell (v:=.slice none 0 0) 6 1 rfl rfl;have y2:=HSi.out.cell (v:=.slice none 0 0) 6 2 rfl rfl;have y3:=HSi.out.cell (v:=.slice none 0 0) 6 3 rfl rfl;go_wp2;have hq:=((((HSi.out.set 6 rfl 0 (.int .i64 0)).set 6 rfl 1 (.slice none 0 0)).set 6 rfl 2 (.slice none 0 0)).set 6 rfl 3 (.slice none 0 0));have q0:=hq.cell (v:=.int .i64 0) 6 0 rfl rfl;have q1:=hq.cell (v:=.slice none 0 0) 6 1 rfl rfl;have q2:=hq.cell (v:=.slice none 0 0) 6 2 rfl rfl;have q3:=hq.cell (v:=.slice none 0 0) 6 3 rfl rfl;refine bodyPost_ret (v:=.tuple #[.agg #[.int .i64 0,.slice none 0 0,.slice none 0 0,.slice none 0 0],.bool false]) (by simp[results,Try.results8,go_sem,q0,q1,q2,q3]) rfl ?_;exact ZaJ hq.bel
end Go.Proofs.Ytfanhfcamblghaa
