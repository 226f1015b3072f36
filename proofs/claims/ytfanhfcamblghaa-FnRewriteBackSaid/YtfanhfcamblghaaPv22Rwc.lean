/-
  The walks over the functions that RewriteBack hands over.
  Conditions: the rewriter and the automaton lie in variables, read as such and are valid.
-/
import Derived.Test.YtfanhfcamblghaaPv21Drw
set_option maxHeartbeats 16000000
set_option maxRecDepth 100000
namespace Go.Proofs.Ytfanhfcamblghaa
open Go.RowKit
def RwAt (w:World) (b:Nat) (r:RwD):Prop:=∃ v1 v2 v3,Bx w b #[v1,v2,v3] 54 ∧ IntSS 0 w v1 r.next∧TxSS w v2 r.out∧Txts w v3 r.fin
theorem RwAt.below {w w':World} {b:Nat} {r:RwD} (h:RwAt w b r) (hb:Below w.heap.size w w'):RwAt w' b r:=by obtain⟨v1,v2,v3,h1,h2,h3,h4⟩:=h;exact⟨v1,v2,v3,h1.below hb h1.lt,h2.below hb,h3.below hb,h4.below hb⟩
theorem Zho (d:DfaD) (q t:Nat) (l:List Nat) (v:Value) (w:World) (hd:Zaf d.next d.ends=true) (hq:q<d.next.length) (hl:txM 4 l=true) (ht:runD d (q:Int) (lets l)=(t:Int)) (h:DfaR 0 w v d) :
  Calls Try.prog 71 #[v,.int .i64 (q:Int),.string (txB l)] w fun e w'=>e = .returned (.int .i64 (t:Int))∧Below w.heap.size w w':=by
 have h1:=Zhp d q (lets l) v w hd hq (ZfY hl) (by have:=(Zbs.1 hl).2;unfold lets;rw[List.length_map];omega) h;rw[ht,← ZfZ hl] at h1;exact h1
theorem ZgR (r:RwD) (d:DfaD) (s q c ba bb:Nat) (w:World) (hok:rwOk r=true) (hd:Zaf d.next d.ends=true) (hs:s<r.next.length) (hq:q<d.next.length) (hc:c<3) (hRW:RwAt w ba r) (hDA:DfaAt w bb d) :
  Calls Try.prog 70 #[.agg #[.int .i64 (s:Int),.int .i64 (q:Int)],.int .i64 (c:Int),.pointer (some ⟨ba,0,none⟩),.pointer (some ⟨bb,0,none⟩)] w fun e w'=>e = .returned (.agg #[.int .i64 (stpW r d ((s:Int),(q:Int)) c).1,.int .i64 (stpW r d ((s:Int),(q:Int)) c).2])∧Below w.heap.size w w':=by
 obtain⟨v1,v2,v3,hA,h1,h2,h3⟩:=hRW;obtain⟨u1,u2,hB,k1,k2⟩:=hDA;obtain⟨hn1,hn12,ho,hf,hrows⟩:=ZaT hok;obtain⟨a1,c1,rfl,hc1,hm1,hr1⟩:=h1.formI;obtain⟨a2,c2,rfl,hc2,hm2,hr2⟩:=h2.form;obtain⟨a3,c3,rfl,hc3,hm3,hr3⟩:=h3.form;obtain⟨b1,o1,rfl,-,hb1,hcs1⟩:=hr1 hn1;obtain⟨b2,o2,rfl,hb2,hcs2⟩:=hr2 (by omega);obtain⟨b3,o3,rfl,hb3,hcs3⟩:=hr3 (by omega);have hdr:DfaR 0 w (.agg #[u1,u2]) d:=⟨_,_,rfl,k1,k2⟩;obtain⟨d1,d2,e1,rfl,he1,hm4,hd1,-⟩:=ZfH k1 hd;obtain⟨d3,d4,e2,rfl,he2,hm5,hd3,hend⟩:=ZfP k2 hd;have hba:=hA.lt;have hbb:=hB.lt;have hA0:=hA.cell 0;have hA1:=hA.cell 1;have hA2:=hA.cell 2;have hB0:=hB.cell 0;have hB1:=hB.cell 1;simp only[w_5,w_6,w_7] at hA0 hA1 hA2 hB0 hB1;have hlenD:=Zag hd;have hfi:=ZaE hd;obtain⟨x1,x2,x3,x4,x5⟩:=hrows s hs;obtain⟨f0,q1,hp1,-,-,hi1⟩:=hcs1 s hs;obtain⟨t0,q2,hp2,-,-,hi2⟩:=hcs2 s (by omega);obtain⟨f1,f2,rfl,-,hf1,hf4⟩:=hi1.form2 (by omega);obtain⟨t1,t2,rfl,ht1,ht4⟩:=hi2.form2 (by omega);rw[x1] at hp1 hf4;rw[x2] at hp2 ht4;obtain⟨X,hX⟩:=eI (rot r s c);obtain⟨pn,hpn⟩:=eI (rnx r s c);have hX4:txM 4 X=true:=by rw[hX];exact x5 c hc
 have hfc:=hf4 c hc;rw[(ZdG hok hs hc).2,← hpn] at hfc;have htc:w.cell? ⟨t1,t2+c,none⟩=some (.string (txB X)):=by rw[hX];exact ht4 c hc
 obtain⟨t,htn,htr⟩:=ZcD hfi (lets X) (s:=q) (ZfY hX4) hq;have hrun:=fun (u:World) h=>Zho d q t X (.agg #[.slice (some ⟨d1,d2,none⟩) d.next.length e1,.slice (some ⟨d3,d4,none⟩) d.ends.length e2]) u hd hq hX4 htr h
 have hst:stpW r d ((s:Int),(q:Int)) c=((pn:Int),(t:Int)):=by show((r.next.getD (s:Int).toNat []).getD c 0,runD d (q:Int) (lets (rot r (s:Int).toNat c)))=_;rw[Int.toNat_natCast,(ZdG hok hs hc).2,← hX,htr,← hpn]
 have Hrun:=qh hrun;obtain⟨N,hN⟩:=eI (r.next.length);obtain⟨M,hM⟩:=eI (d.next.length);have hen:d.ends.length=M:=by omega
 rw[ho] at hc2 hA1;rw[← hN] at hc1 hc2 hA0 hA1 hs;rw[hen,← hM] at hdr;rw[← hM] at hB0 he1;rw[hen] at hB1 he2;have hsI:(s:Int)<(N:Int):=by omega
 have hcI:(c:Int)<3:=by omega
 rw[hen,← hM] at Hrun;have HD:=qh hdr;have HA0:=qh hA0;have HA1:=qh hA1;have HB0:=qh hB0;have HB1:=qh hB1;have Hp1:=qh hp1;have Hp2:=qh hp2;have HX:=qh htc;have HY:=qh hfc;have Hst:=qh hst;have HS:=qh (((St.start w).alloc w.heap.size rfl #[.int .i64 (s:Int),.int .i64 (q:Int)] 106).alloc (w.heap.size+1) (by simp) #[.int .i64 0,.int .i64 0] 106);replace hX:=qh hX;have Hhpn:=qh hpn;clear hpn;replace hN:=qh hN;replace hM:=qh hM;clear hA hB h1 h2 h3 k1 k2 hrows hr1 hr2 hr3 hcs1 hcs2 hcs3 hdr hend hA0 hA1 hA2 hB0 hB1 hfi hp1 hp2 hi1 hi2 hf4 ht4 htc hfc hrun hst x1 x2 x3 x4 x5 hX4 htr hen hlenD
 go_enter Try.func70, Try.ntmps70
 go_upto_region 1 with fail
 refine wp_region_any (by kernel_rfl) ?_
 refine Zak (fun A listed a w'=>∃ (l0 l1 l2 l3 l4 l5 l6 l7 l8 l9 l10 l11 l12 l13 l14 l15 l16 l17 l18 l19 l20 l21 l22 l23:Bool) ,listed=#[l0,l1,l2,l3,l4,l5,l6,l7,l8,l9,l10,l11,l12,l13,l14,l15,l16,l17,l18,l19,l20,l21,l22,l23] ∧
   a=⟨(((((((((((((((((((((((A.tmps.setIfInBounds 7 (if l0=true then .pointer (some ⟨ba,0,none⟩) else A.tmps.getD 7 undef)).setIfInBounds 8 (if l1=true then .slice (some ⟨b1,o1,none⟩) N c1 else A.tmps.getD 8 undef)).setIfInBounds 9 (if l2=true then .pointer (some ⟨w.heap.size,0,none⟩) else A.tmps.getD 9 undef)).setIfInBounds 10 (if l3=true then .int .i64 (s:Int) else A.tmps.getD 10 undef)).setIfInBounds 11 (if l4=true then .pointer (some ⟨b1,o1+s,none⟩) else A.tmps.getD 11 undef)).setIfInBounds 12 (if l5=true then .slice (some ⟨f1,f2,none⟩) 3 q1 else A.tmps.getD 12 undef)).setIfInBounds 13 (if l6=true then .int .i64 (c:Int) else A.tmps.getD 13 undef)).setIfInBounds 14 (if l7=true then .pointer (some ⟨f1,f2+c,none⟩) else A.tmps.getD 14 undef)).setIfInBounds 15 (if l8=true then .int .i64 (pn:Int) else A.tmps.getD 15 undef)).setIfInBounds 16 (if l9=true then .agg #[.slice (some ⟨d1,d2,none⟩) M e1,.slice (some ⟨d3,d4,none⟩) M e2] else A.tmps.getD 16 undef)).setIfInBounds 17 (if l10=true then .pointer (some ⟨w.heap.size,1,none⟩) else A.tmps.getD 17 undef)).setIfInBounds 18 (if l11=true then .int .i64 (q:Int) else A.tmps.getD 18 undef)).setIfInBounds 19 (if l12=true then .pointer (some ⟨ba,1,none⟩) else A.tmps.getD 19 undef)).setIfInBounds 20 (if l13=true then .slice (some ⟨b2,o2,none⟩) N c2 else A.tmps.getD 20 undef)).setIfInBounds 21 (if l14=true then .pointer (some ⟨w.heap.size,0,none⟩) else A.tmps.getD 21 undef)).setIfInBounds 22 (if l15=true then .int .i64 (s:Int) else A.tmps.getD 22 undef)).setIfInBounds 23 (if l16=true then .pointer (some ⟨b2,o2+s,none⟩) else A.tmps.getD 23 undef)).setIfInBounds 24 (if l17=true then .slice (some ⟨t1,t2,none⟩) 3 q2 else A.tmps.getD 24 undef)).setIfInBounds 25 (if l18=true then .int .i64 (c:Int) else A.tmps.getD 25 undef)).setIfInBounds 26 (if l19=true then .pointer (some ⟨t1,t2+c,none⟩) else A.tmps.getD 26 undef)).setIfInBounds 27 (if l20=true then .string (txB X) else A.tmps.getD 27 undef)).setIfInBounds 28 (if l21=true then .int .i64 (t:Int) else A.tmps.getD 28 undef)).setIfInBounds 29 (if l22=true then .agg #[.int .i64 (pn:Int),.int .i64 (t:Int)] else A.tmps.getD 29 undef)),A.defers⟩ ∧
   St w w' [Ent.box w.heap.size #[.int .i64 (s:Int),.int .i64 (q:Int)] 106,(if l23=true then Ent.box ((w.heap.size+1)) #[.int .i64 (pn:Int),.int .i64 (t:Int)] 106 else Ent.box ((w.heap.size+1)) #[.int .i64 0,.int .i64 0] 106)]) ?_ ?_ ?_
 ·rintro listed a w' ⟨l0,l1,l2,l3,l4,l5,l6,l7,l8,l9,l10,l11,l12,l13,l14,l15,l16,l17,l18,l19,l20,l21,l22,l23,rfl,rfl,hS⟩ i hi;obtain⟨hun,o,ho,hall⟩:=mem_ready.1 hi;have hlt:=(Array.getElem?_eq_some_iff.1 ho).1;refine wpOp_step ho (fun K hK => ?_);clear hi;have HS:=qh hS;clear hS;simp only[w_1,w_2,w_3,w_4,w_5,w_6,w_7,w_8];obtain h|h|h|h|h|h|h|h|h|h|h|h|h|h|h|h|h|h|h|h|h|h|h|h:i=0∨i=1∨i=2∨i=3∨i=4∨i=5∨i=6∨i=7∨i=8∨i=9∨i=10∨i=11∨i=12∨i=13∨i=14∨i=15∨i=16∨i=17∨i=18∨i=19∨i=20∨i=21∨i=22∨i=23:=by simp at hlt;omega
  all_goals subst h
  all_goals simp only[w_5,w_6,w_7,w_9] at ho
  all_goals subst ho
  all_goals simp[Region.binds] at hun hall
  ·subst hun;go_simp;exact hK _ _ ⟨_,_,_,_,_,_,_,_,_,_,_,_,_,_,_,_,_,_,_,_,_,_,_,_,rfl,(by simp),HS.out⟩
  ·obtain rfl:=hall;subst hun;have e0:=(bcell HS.out.bel ba _ hba).trans HA0.out;go_simp;exact hK _ _ ⟨_,_,_,_,_,_,_,_,_,_,_,_,_,_,_,_,_,_,_,_,_,_,_,_,rfl,(by simp),HS.out⟩
  ·subst hun;go_simp;exact hK _ _ ⟨_,_,_,_,_,_,_,_,_,_,_,_,_,_,_,_,_,_,_,_,_,_,_,_,rfl,(by simp),HS.out⟩
  ·obtain rfl:=hall;subst hun;have e0:=HS.out.cell (v:=.int .i64 (s:Int)) 0 0 rfl rfl;go_simp;exact hK _ _ ⟨_,_,_,_,_,_,_,_,_,_,_,_,_,_,_,_,_,_,_,_,_,_,_,_,rfl,(by simp),HS.out⟩
  ·obtain⟨rfl,rfl⟩:=hall;subst hun;go_simp;exact hK _ _ ⟨_,_,_,_,_,_,_,_,_,_,_,_,_,_,_,_,_,_,_,_,_,_,_,_,rfl,(by simp),HS.out⟩
  ·obtain rfl:=hall;subst hun;have e0:=(bcell HS.out.bel b1 _ hb1).trans Hp1.out;go_simp;exact hK _ _ ⟨_,_,_,_,_,_,_,_,_,_,_,_,_,_,_,_,_,_,_,_,_,_,_,_,rfl,(by simp),HS.out⟩
  ·subst hun;go_simp;exact hK _ _ ⟨_,_,_,_,_,_,_,_,_,_,_,_,_,_,_,_,_,_,_,_,_,_,_,_,rfl,(by simp),HS.out⟩
  ·obtain⟨rfl,rfl⟩:=hall;subst hun;go_simp;exact hK _ _ ⟨_,_,_,_,_,_,_,_,_,_,_,_,_,_,_,_,_,_,_,_,_,_,_,_,rfl,(by simp),HS.out⟩
  ·obtain rfl:=hall;subst hun;have e0:=(bcell HS.out.bel f1 _ hf1).trans HY.out;go_simp;exact hK _ _ ⟨_,_,_,_,_,_,_,_,_,_,_,_,_,_,_,_,_,_,_,_,_,_,_,_,rfl,(by simp),HS.out⟩
  ·subst hun;have e0:=(bcell HS.out.bel bb _ hbb).trans HB0.out;have e1:=(bcell HS.out.bel bb _ hbb).trans HB1.out;go_simp;exact hK _ _ ⟨_,_,_,_,_,_,_,_,_,_,_,_,_,_,_,_,_,_,_,_,_,_,_,_,rfl,(by simp),HS.out⟩
  ·subst hun;go_simp;exact hK _ _ ⟨_,_,_,_,_,_,_,_,_,_,_,_,_,_,_,_,_,_,_,_,_,_,_,_,rfl,(by simp),HS.out⟩
  ·obtain rfl:=hall;subst hun;have e0:=HS.out.cell (v:=.int .i64 (q:Int)) 0 1 rfl rfl;go_simp;exact hK _ _ ⟨_,_,_,_,_,_,_,_,_,_,_,_,_,_,_,_,_,_,_,_,_,_,_,_,rfl,(by simp),HS.out⟩
  ·subst hun;go_simp;exact hK _ _ ⟨_,_,_,_,_,_,_,_,_,_,_,_,_,_,_,_,_,_,_,_,_,_,_,_,rfl,(by simp),HS.out⟩
  ·obtain rfl:=hall;subst hun;have e0:=(bcell HS.out.bel ba _ hba).trans HA1.out;go_simp;exact hK _ _ ⟨_,_,_,_,_,_,_,_,_,_,_,_,_,_,_,_,_,_,_,_,_,_,_,_,rfl,(by simp),HS.out⟩
  ·subst hun;go_simp;exact hK _ _ ⟨_,_,_,_,_,_,_,_,_,_,_,_,_,_,_,_,_,_,_,_,_,_,_,_,rfl,(by simp),HS.out⟩
  ·obtain rfl:=hall;subst hun;have e0:=HS.out.cell (v:=.int .i64 (s:Int)) 0 0 rfl rfl;go_simp;exact hK _ _ ⟨_,_,_,_,_,_,_,_,_,_,_,_,_,_,_,_,_,_,_,_,_,_,_,_,rfl,(by simp),HS.out⟩
  ·obtain⟨rfl,rfl⟩:=hall;subst hun;go_simp;exact hK _ _ ⟨_,_,_,_,_,_,_,_,_,_,_,_,_,_,_,_,_,_,_,_,_,_,_,_,rfl,(by simp),HS.out⟩
  ·obtain rfl:=hall;subst hun;have e0:=(bcell HS.out.bel b2 _ hb2).trans Hp2.out;go_simp;exact hK _ _ ⟨_,_,_,_,_,_,_,_,_,_,_,_,_,_,_,_,_,_,_,_,_,_,_,_,rfl,(by simp),HS.out⟩
  ·subst hun;go_simp;exact hK _ _ ⟨_,_,_,_,_,_,_,_,_,_,_,_,_,_,_,_,_,_,_,_,_,_,_,_,rfl,(by simp),HS.out⟩
  ·obtain⟨rfl,rfl⟩:=hall;subst hun;go_simp;exact hK _ _ ⟨_,_,_,_,_,_,_,_,_,_,_,_,_,_,_,_,_,_,_,_,_,_,_,_,rfl,(by simp),HS.out⟩
  ·obtain rfl:=hall;subst hun;have e0:=(bcell HS.out.bel t1 _ ht1).trans HX.out;go_simp;exact hK _ _ ⟨_,_,_,_,_,_,_,_,_,_,_,_,_,_,_,_,_,_,_,_,_,_,_,_,rfl,(by simp),HS.out⟩
  ·obtain⟨rfl,rfl,rfl⟩:=hall;subst hun;go_simp
   go_at_call 71
   refine(Hrun.out _ (HD.out.below HS.out.bel)).mono ?_;rintro e u1 ⟨rfl,hb⟩;have hS2:=HS.out.call hb;have HhS2:=qh hS2;clear hS2;go_simp;exact hK _ _ ⟨_,_,_,_,_,_,_,_,_,_,_,_,_,_,_,_,_,_,_,_,_,_,_,_,rfl,(by simp),HhS2.out⟩
  ·obtain⟨rfl,rfl⟩:=hall;subst hun;go_simp;exact hK _ _ ⟨_,_,_,_,_,_,_,_,_,_,_,_,_,_,_,_,_,_,_,_,_,_,_,_,rfl,(by simp),HS.out⟩
  obtain⟨rfl,rfl,rfl,rfl,rfl,rfl,rfl,rfl,rfl,rfl,rfl,rfl,rfl,rfl,rfl,rfl,rfl,rfl,rfl,rfl,rfl,rfl,rfl,-⟩:=hall;subst hun;have f0:=HS.out.fr 1 0 rfl;have k0:=HS.out.cell (v:=.int .i64 0) 1 0 rfl rfl;have f1:=HS.out.fr 1 1 rfl;have k1:=HS.out.cell (v:=.int .i64 0) 1 1 rfl rfl;go_simp;exact hK _ _ ⟨_,_,_,_,_,_,_,_,_,_,_,_,_,_,_,_,_,_,_,_,_,_,_,_,rfl,(by simp),((HS.out.set 1 rfl 0 (.int .i64 (pn:Int))).set 1 rfl 1 (.int .i64 (t:Int)))⟩
 ·rintro listed a w' ⟨l0,l1,l2,l3,l4,l5,l6,l7,l8,l9,l10,l11,l12,l13,l14,l15,l16,l17,l18,l19,l20,l21,l22,l23,rfl,rfl,hS⟩ hr;obtain⟨rfl,rfl,rfl,rfl,rfl,rfl,rfl,rfl,rfl,rfl,rfl,rfl,rfl,rfl,rfl,rfl,rfl,rfl,rfl,rfl,rfl,rfl,rfl,rfl,-⟩:=zA (Zay (by kernel_rfl) rfl hr) rfl;clear hr ;simp only[↓reduceIte] at hS ⊢;simp only[w_1,w_2,w_3,w_4,w_5,w_6,w_7,w_8];have HS5:=qh hS;clear hS;have q0:=HS5.out.cell (v:=.int .i64 (pn:Int)) 1 0 rfl rfl;have q1:=HS5.out.cell (v:=.int .i64 (t:Int)) 1 1 rfl rfl;go_wp2;refine bodyPost_ret (v:=.agg #[.int .i64 (pn:Int),.int .i64 (t:Int)]) (by simp[results,Try.results70,go_sem,q0,q1]) rfl ?_;exact⟨by rw[Hst.out],HS5.out.bel⟩
 refine⟨false,false,false,false,false,false,false,false,false,false,false,false,false,false,false,false,false,false,false,false,false,false,false,false,rfl,(by simp),?_⟩;exact HS.out.drew.pick [0,1] (by decide)
theorem ZgQ (r:RwD) (d:DfaD) (s q ba bb:Nat) (w:World) (hok:rwOk r=true) (hd:Zaf d.next d.ends=true) (hs:s<r.next.length) (hq:q<d.next.length) (hRW:RwAt w ba r) (hDA:DfaAt w bb d) :
  Calls Try.prog 72 #[.agg #[.int .i64 (s:Int),.int .i64 (q:Int)],.pointer (some ⟨bb,0,none⟩),.pointer (some ⟨ba,0,none⟩)] w fun e w'=>e = .returned (.bool (entW r d ((s:Int),(q:Int))))∧Below w.heap.size w w':=by
 obtain⟨v1,v2,v3,hA,h1,h2,h3⟩:=hRW;obtain⟨u1,u2,hB,k1,k2⟩:=hDA;obtain⟨hn1,hn12,ho,hf,hrows⟩:=ZaT hok;obtain⟨a1,c1,rfl,hc1,hm1,hr1⟩:=h1.formI;obtain⟨a2,c2,rfl,hc2,hm2,hr2⟩:=h2.form;obtain⟨a3,c3,rfl,hc3,hm3,hr3⟩:=h3.form;obtain⟨b1,o1,rfl,-,hb1,hcs1⟩:=hr1 hn1;obtain⟨b2,o2,rfl,hb2,hcs2⟩:=hr2 (by omega);obtain⟨b3,o3,rfl,hb3,hcs3⟩:=hr3 (by omega);have hdr:DfaR 0 w (.agg #[u1,u2]) d:=⟨_,_,rfl,k1,k2⟩;obtain⟨d1,d2,e1,rfl,he1,hm4,hd1,-⟩:=ZfH k1 hd;obtain⟨d3,d4,e2,rfl,he2,hm5,hd3,hend⟩:=ZfP k2 hd;have hba:=hA.lt;have hbb:=hB.lt;have hA0:=hA.cell 0;have hA1:=hA.cell 1;have hA2:=hA.cell 2;have hB0:=hB.cell 0;have hB1:=hB.cell 1;simp only[w_5,w_6,w_7] at hA0 hA1 hA2 hB0 hB1;have hlenD:=Zag hd;have hfi:=ZaE hd;obtain⟨-,-,x3,-,-⟩:=hrows s hs;have hp3:=hcs3 s (by omega);obtain⟨X,hX⟩:=eI (r.fin.getD s []);rw[← hX] at x3 hp3;obtain⟨t,htn,htr⟩:=ZcD hfi (lets X) (s:=q) (ZfY x3) hq;have hrun:=fun (u:World) h=>Zho d q t X (.agg #[.slice (some ⟨d1,d2,none⟩) d.next.length e1,.slice (some ⟨d3,d4,none⟩) d.ends.length e2]) u hd hq x3 htr h
 obtain⟨z,hz⟩:=eI (enD d t);have hy:=hend t htn;rw[← hz] at hy;have hst:entW r d ((s:Int),(q:Int))=z:=by show den d (runD d (q:Int) (lets (r.fin.getD (s:Int).toNat [])))=_;rw[Int.toNat_natCast,← hX,htr,ZbT,hz]
 have Hrun:=qh hrun;obtain⟨N,hN⟩:=eI (r.next.length);obtain⟨M,hM⟩:=eI (d.next.length);have hen:d.ends.length=M:=by omega
 rw[hf] at hc3 hA2;rw[← hN] at hc3 hA2 hs;rw[hen,← hM] at hdr;rw[← hM] at hB0 he1 htn;rw[hen] at hB1 he2;have hsI:(s:Int)<(N:Int):=by omega
 have htI:(t:Int)<(M:Int):=by omega
 rw[hen,← hM] at Hrun;have HD:=qh hdr;have HA2:=qh hA2;have HB0:=qh hB0;have HB1:=qh hB1;have HX:=qh hp3;have HY:=qh hy;have Hst:=qh hst;have HS:=qh ((St.start w).alloc w.heap.size rfl #[.int .i64 (s:Int),.int .i64 (q:Int)] 106);replace hX:=qh hX;have Hhz:=qh hz;clear hz;replace hN:=qh hN;replace hM:=qh hM;clear hA hB h1 h2 h3 k1 k2 hrows hr1 hr2 hr3 hcs1 hcs2 hcs3 hdr hend hA0 hA1 hA2 hB0 hB1 hfi hp3 hrun hst x3 htr hen hlenD hy
 go_enter Try.func72, Try.ntmps72
 go_upto_region 1 with fail
 refine wp_region_any (by kernel_rfl) ?_
 refine Zak (fun A listed a w'=>∃ (l0 l1 l2 l3 l4 l5 l6 l7 l8 l9 l10 l11 l12 l13 l14:Bool) ,listed=#[l0,l1,l2,l3,l4,l5,l6,l7,l8,l9,l10,l11,l12,l13,l14] ∧
   a=⟨(((((((((((((((A.tmps.setIfInBounds 5 (if l0=true then .pointer (some ⟨bb,1,none⟩) else A.tmps.getD 5 undef)).setIfInBounds 6 (if l1=true then .slice (some ⟨d3,d4,none⟩) M e2 else A.tmps.getD 6 undef)).setIfInBounds 7 (if l2=true then .agg #[.slice (some ⟨d1,d2,none⟩) M e1,.slice (some ⟨d3,d4,none⟩) M e2] else A.tmps.getD 7 undef)).setIfInBounds 8 (if l3=true then .pointer (some ⟨w.heap.size,1,none⟩) else A.tmps.getD 8 undef)).setIfInBounds 9 (if l4=true then .int .i64 (q:Int) else A.tmps.getD 9 undef)).setIfInBounds 10 (if l5=true then .pointer (some ⟨ba,2,none⟩) else A.tmps.getD 10 undef)).setIfInBounds 11 (if l6=true then .slice (some ⟨b3,o3,none⟩) N c3 else A.tmps.getD 11 undef)).setIfInBounds 12 (if l7=true then .pointer (some ⟨w.heap.size,0,none⟩) else A.tmps.getD 12 undef)).setIfInBounds 13 (if l8=true then .int .i64 (s:Int) else A.tmps.getD 13 undef)).setIfInBounds 14 (if l9=true then .pointer (some ⟨b3,o3+s,none⟩) else A.tmps.getD 14 undef)).setIfInBounds 15 (if l10=true then .string (txB X) else A.tmps.getD 15 undef)).setIfInBounds 16 (if l11=true then .int .i64 (t:Int) else A.tmps.getD 16 undef)).setIfInBounds 17 (if l12=true then .pointer (some ⟨d3,d4+t,none⟩) else A.tmps.getD 17 undef)).setIfInBounds 18 (if l13=true then .bool z else A.tmps.getD 18 undef)).setIfInBounds 4 (if l14=true then .bool z else A.tmps.getD 4 undef)),A.defers⟩ ∧
   St w w' [Ent.box w.heap.size #[.int .i64 (s:Int),.int .i64 (q:Int)] 106]) ?_ ?_ ?_
 ·rintro listed a w' ⟨l0,l1,l2,l3,l4,l5,l6,l7,l8,l9,l10,l11,l12,l13,l14,rfl,rfl,hS⟩ i hi;obtain⟨hun,o,ho,hall⟩:=mem_ready.1 hi;have hlt:=(Array.getElem?_eq_some_iff.1 ho).1;refine wpOp_step ho (fun K hK => ?_);clear hi;have HS:=qh hS;clear hS;simp only[w_1,w_2,w_3,w_4,w_5,w_6,w_7,w_8];obtain h|h|h|h|h|h|h|h|h|h|h|h|h|h|h:i=0∨i=1∨i=2∨i=3∨i=4∨i=5∨i=6∨i=7∨i=8∨i=9∨i=10∨i=11∨i=12∨i=13∨i=14:=by simp at hlt;omega
  all_goals subst h
  all_goals simp only[w_5,w_6,w_7,w_9] at ho
  all_goals subst ho
  all_goals simp[Region.binds] at hun hall
  ·subst hun;go_simp;exact hK _ _ ⟨_,_,_,_,_,_,_,_,_,_,_,_,_,_,_,rfl,(by simp),HS.out⟩
  ·obtain rfl:=hall;subst hun;have e0:=(bcell HS.out.bel bb _ hbb).trans HB1.out;go_simp;exact hK _ _ ⟨_,_,_,_,_,_,_,_,_,_,_,_,_,_,_,rfl,(by simp),HS.out⟩
  ·subst hun;have e0:=(bcell HS.out.bel bb _ hbb).trans HB0.out;have e1:=(bcell HS.out.bel bb _ hbb).trans HB1.out;go_simp;exact hK _ _ ⟨_,_,_,_,_,_,_,_,_,_,_,_,_,_,_,rfl,(by simp),HS.out⟩
  ·subst hun;go_simp;exact hK _ _ ⟨_,_,_,_,_,_,_,_,_,_,_,_,_,_,_,rfl,(by simp),HS.out⟩
  ·obtain rfl:=hall;subst hun;have e0:=HS.out.cell (v:=.int .i64 (q:Int)) 0 1 rfl rfl;go_simp;exact hK _ _ ⟨_,_,_,_,_,_,_,_,_,_,_,_,_,_,_,rfl,(by simp),HS.out⟩
  ·subst hun;go_simp;exact hK _ _ ⟨_,_,_,_,_,_,_,_,_,_,_,_,_,_,_,rfl,(by simp),HS.out⟩
  ·obtain rfl:=hall;subst hun;have e0:=(bcell HS.out.bel ba _ hba).trans HA2.out;go_simp;exact hK _ _ ⟨_,_,_,_,_,_,_,_,_,_,_,_,_,_,_,rfl,(by simp),HS.out⟩
  ·subst hun;go_simp;exact hK _ _ ⟨_,_,_,_,_,_,_,_,_,_,_,_,_,_,_,rfl,(by simp),HS.out⟩
  ·obtain rfl:=hall;subst hun;have e0:=HS.out.cell (v:=.int .i64 (s:Int)) 0 0 rfl rfl;go_simp;exact hK _ _ ⟨_,_,_,_,_,_,_,_,_,_,_,_,_,_,_,rfl,(by simp),HS.out⟩
  ·obtain⟨rfl,rfl⟩:=hall;subst hun;go_simp;exact hK _ _ ⟨_,_,_,_,_,_,_,_,_,_,_,_,_,_,_,rfl,(by simp),HS.out⟩
  ·obtain rfl:=hall;subst hun;have e0:=(bcell HS.out.bel b3 _ hb3).trans HX.out;go_simp;exact hK _ _ ⟨_,_,_,_,_,_,_,_,_,_,_,_,_,_,_,rfl,(by simp),HS.out⟩
  ·obtain⟨rfl,rfl,rfl⟩:=hall;subst hun;go_simp
   go_at_call 71
   refine(Hrun.out _ (HD.out.below HS.out.bel)).mono ?_;rintro e u1 ⟨rfl,hb⟩;have hS2:=HS.out.call hb;have HhS2:=qh hS2;clear hS2;go_simp;exact hK _ _ ⟨_,_,_,_,_,_,_,_,_,_,_,_,_,_,_,rfl,(by simp),HhS2.out⟩
  ·obtain⟨rfl,rfl⟩:=hall;subst hun;go_simp;exact hK _ _ ⟨_,_,_,_,_,_,_,_,_,_,_,_,_,_,_,rfl,(by simp),HS.out⟩
  ·obtain rfl:=hall;subst hun;have e0:=(bcell HS.out.bel d3 _ hd3).trans HY.out;go_simp;exact hK _ _ ⟨_,_,_,_,_,_,_,_,_,_,_,_,_,_,_,rfl,(by simp),HS.out⟩
  obtain⟨rfl,rfl,rfl,rfl,rfl,rfl,rfl,rfl,rfl,rfl,rfl,rfl,rfl,-,rfl,-⟩:=hall;subst hun;go_simp;exact hK _ _ ⟨_,_,_,_,_,_,_,_,_,_,_,_,_,_,_,rfl,(by simp),HS.out⟩
 ·rintro listed a w' ⟨l0,l1,l2,l3,l4,l5,l6,l7,l8,l9,l10,l11,l12,l13,l14,rfl,rfl,hS⟩ hr;obtain⟨rfl,rfl,rfl,rfl,rfl,rfl,rfl,rfl,rfl,rfl,rfl,rfl,rfl,rfl,rfl,-⟩:=zA (Zay (by kernel_rfl) rfl hr) rfl;clear hr ;simp only[↓reduceIte] at hS ⊢;simp only[w_1,w_2,w_3,w_4,w_5,w_6,w_7,w_8];have HS5:=qh hS;clear hS;go_wp2;go_ret;exact⟨by rw[Hst.out];rfl,HS5.out.bel⟩
 refine⟨false,false,false,false,false,false,false,false,false,false,false,false,false,false,false,rfl,(by simp),?_⟩;exact HS.out.drew.pick [0] (by decide)
end Go.Proofs.Ytfanhfcamblghaa
