/-
  The walk over the program's exploration of pairs of states.
  Conditions: a bound on the number of pairs; contracts for the two functions that are handed in.
-/
import Derived.Test.YtncekbbhgipdlaaGreatPs01Prod
set_option maxHeartbeats 8000000
set_option maxRecDepth 100000
namespace Go.Proofs.YtncekbbhgipdlaaGreat
open Go.RowKit Go.Maps
theorem Tryz.infoPr:(Tryz.prog.info? 170).map (fun i=>(i.zero,i.size,i.bytes))=some (some (.agg #[.int .i64 0,.int .i64 0]),2,16):=by kernel_rfl
theorem ZhL (w:World):(zeroValue 3).run Tryz.prog w = .ok (.int .i64 0) w:=by kernel_rfl
theorem Zhr:Own4 170:=by unfold Own4;decide
abbrev pairZ:Value:=.agg #[.int .i64 0,.int .i64 0]
def RExp (nx:Int × Int→Nat→Int × Int) (en:Int × Int→Bool) (most B:Nat) (e:Ending) (w':World):Prop :=
 if (bat nx (0,0) most).met.length≤most then
  ∃ an cn ae ce am cm,e = .returned (.tuple #[.agg #[.slice an (bat nx (0,0) most).met.length cn,.slice ae (bat nx (0,0) most).met.length ce],.slice am (bat nx (0,0) most).met.length cm,.bool true]) ∧
   DfaO 38 3 4 B w'.heap.size w' (.agg #[.slice an (bat nx (0,0) most).met.length cn,.slice ae (bat nx (0,0) most).met.length ce]) (Zat nx en (bat nx (0,0) most).met) ∧
   OPairs 170 B w'.heap.size w' (.slice am (bat nx (0,0) most).met.length cm) (bat nx (0,0) most).met
 else e = .returned (.tuple #[.agg #[.slice none 0 0,.slice none 0 0],.slice none 0 0,.bool false])
theorem Zhq {w:World} {base e g n cap:Nat} {S:List (Int × Int)} (h:w.ownsRow base e 2 (.slice (some ⟨g,0,none⟩) n cap) S.length (S.flatMap Zaa)) {k:Nat} (hk:k<S.length) :
  w.cell? ⟨g,k*2,none⟩=some (.int .i64 (S.getD k (0,0)).1)∧w.cell? ⟨g,k*2+1,none⟩=some (.int .i64 (S.getD k (0,0)).2):=by
 have h0:=Zb6 Zaa 2 (fun _=>rfl) S k 0 (0,0) hk (by omega);have h1:=Zb6 Zaa 2 (fun _=>rfl) S k 1 (0,0) hk (by omega)
 have hn:n=S.length:=by
  rcases h.2 with⟨hh,_⟩|⟨g',cap',cur,hh,_⟩
  ·cases hh
  simp only[Value.slice.injEq] at hh;exact hh.2.1
 subst hn;exact⟨(h.cellAt _ (by omega)).trans (by simpa [Zaa] using h0),(h.cellAt _ (by omega)).trans (by simpa [Zaa] using h1)⟩
theorem ZpB {w:World} {g B o p:Nat} {a b:Value} (hne:g≠B) (h:w.cell? ⟨g,o,none⟩=some a∧w.cell? ⟨g,p,none⟩=some b) {u:Value} {j:Nat}:(w.setCell ⟨B,j,none⟩ u).cell? ⟨g,o,none⟩=some a∧(w.setCell ⟨B,j,none⟩ u).cell? ⟨g,p,none⟩=some b:=by have hb:=Below.heap_setCell w ⟨B,j,none⟩ u g hne;exact⟨(World.cell?_of_block (a:=⟨g,o,none⟩) hb).trans h.1,(World.cell?_of_block (a:=⟨g,p,none⟩) hb).trans h.2⟩
theorem Zfv (nx:Int × Int→Nat→Int × Int) (en:Int × Int→Bool) (Q:Int × Int→Prop) (most bf ba bb:Nat) (w:World) (h0:Q (0,0)) (hQ:∀ x c,c<3→Q x→Q (nx x c)) (hfit:∀ x,Q x→fitI x.1∧fitI x.2) (hm0:0<most) (hm1:most≤100000)
  (hN:∀ x c w',Q x→c<3→Below w.heap.size w w'→Calls Tryz.prog 153 #[.agg #[.int .i64 x.1,.int .i64 x.2],.int .i64 (c:Nat),.pointer (some ⟨ba,0,none⟩),.pointer (some ⟨bb,0,none⟩)] w' fun e w2=>e = .returned (.agg #[.int .i64 (nx x c).1,.int .i64 (nx x c).2])∧Below w'.heap.size w' w2)
  (hE:∀ x w',Q x→Below w.heap.size w w'→Calls Tryz.prog 154 #[.agg #[.int .i64 x.1,.int .i64 x.2],.pointer (some ⟨bf,0,none⟩),.pointer (some ⟨ba,0,none⟩),.pointer (some ⟨bb,0,none⟩)] w' fun e w2=>e = .returned (.bool (en x))∧Below w'.heap.size w' w2) :
  Calls Tryz.prog 152 #[pairZ,.int .i64 most,.func (.func 153) #[] #[.pointer (some ⟨ba,0,none⟩),.pointer (some ⟨bb,0,none⟩)],.func (.func 154) #[] #[.pointer (some ⟨bf,0,none⟩),.pointer (some ⟨ba,0,none⟩),.pointer (some ⟨bb,0,none⟩)]] w
   fun e w'=>RExp nx en most w.heap.size e w'∧Below w.heap.size w w':=by
 have hmm:=@run_makeMap Tryz.prog;obtain⟨l0,hl0⟩:=Tryz.keyOfPr (0,0) (by unfold fitI;simp) (by unfold fitI;simp);obtain⟨k0,hk,hkk0,hkk1,hkk2⟩:=info_parts Tryz.infoPr;obtain⟨i0,hi,hz0,hz1,hz2⟩:=info_parts Tryz.infoInt;obtain⟨j0,hj,hy0,hy1,hy2⟩:=info_parts Tryz.infoInts;obtain⟨b0,hbi0,hx0,hx1,hx2⟩:=info_parts Tryz.infoBool;have HM:MapL Tryz.prog 170 ZaQ (((w.alloc (.cells #[.int .i64 0,.int .i64 0] 170)).alloc (.cells #[.slice none 0 0,.slice none 0 0] 44)).alloc (.map #[] 0)) (w.heap.size+1+1) ([]:List ((Int × Int) × Value)):=by simpa using MapL.made (P:=Tryz.prog) (kt:=170) (enc:=ZaQ) ((w.alloc (.cells #[.int .i64 0,.int .i64 0] 170)).alloc (.cells #[.slice none 0 0,.slice none 0 0] 44))
 obtain⟨w1,hrun,hm1,hg1⟩:=HM.store Tryz.lawPr ZbA Tryz.underlying181 hl0 (.int .i64 0);simp only[ZaQ] at hrun;have hs1:=hg1.size;simp only[World.size_alloc] at hs1;have hc0:w1.cell? ⟨w.heap.size,0,none⟩=some (.int .i64 0):=by rw[hg1.cell_far _ (by simp;omega) (by simp;omega)];exact(((Bx.new w _ _).alloc _).alloc _).cell 0
 have hc1:w1.cell? ⟨w.heap.size,1,none⟩=some (.int .i64 0):=by rw[hg1.cell_far _ (by simp;omega) (by simp;omega)];exact(((Bx.new w _ _).alloc _).alloc _).cell 1
 have Hm1:=qh hm1;have Hg1:=qh hg1;have HN:=qh hN;have HE:=qh hE;have HQ:=qh hQ;have Hfit:=qh hfit;have Hh0:=qh h0;replace hl0:=qh hl0;replace hk:=qh hk;have Hhkk0:=qh hkk0;clear hkk0;have Hhkk1:=qh hkk1;clear hkk1;have Hhkk2:=qh hkk2;clear hkk2;have Hhi:=qh hi;clear hi;have Hhz0:=qh hz0;clear hz0;have Hhz1:=qh hz1;clear hz1;have Hhz2:=qh hz2;clear hz2;have Hhj:=qh hj;clear hj;have Hhy0:=qh hy0;clear hy0;have Hhy1:=qh hy1;clear hy1;have Hhy2:=qh hy2;clear hy2;replace hbi0:=qh hbi0;have Hhx0:=qh hx0;clear hx0;have Hhx1:=qh hx1;clear hx1;have Hhx2:=qh hx2;clear hx2;clear HM hm1 hg1 hN hE hQ hfit h0
 go_enter Tryz.func152, Tryz.ntmps152
 go_wp2
 go_loopw [9,10,12,14] (fun r1 r2 vm i wr=>∃ k:Nat,i = .int .i64 k∧k≤(bat nx (0,0) k).met.length∧(bat nx (0,0) k).met.length≤most∧Below w.heap.size w wr∧∃ vn ve,ExW 170 2 ZaQ Zaa w.heap.size (w.heap.size+1) (w.heap.size+1+1) (w1.heap.size+1) wr.heap.size wr (bat nx (0,0) k).met (((bat nx (0,0) k).met.take k).map (Zaf nx (bat nx (0,0) most).met)) (((bat nx (0,0) k).met.take k).map en) vm vn ve)
  (fun _ _ _ i _=>most+1-(intOf i).toNat)
 case atStart =>
  have hb1:Below w.heap.size w w1:=((((Below.refl _ _).alloc (Nat.le_refl _) _).alloc (by simp) _).alloc (by simp;omega) _).grown Hg1.out (by simp;omega) (fun k h=>by cases h;omega);have r1:Bx w1 (w.heap.size+1) #[.slice none 0 0,.slice none 0 0] 44:=by have:=((Bx.new (w.alloc (.cells #[.int .i64 0,.int .i64 0] 170)) #[.slice none 0 0,.slice none 0 0] 44).alloc (.map #[] 0));simp only[World.size_alloc] at this;exact(Hg1.out.block _ (by simp) (by simp)).trans this
  refine⟨0,rfl,Nat.zero_le _,hm0,(hb1.alloc (by omega) _).alloc (by simp;omega) _,.slice none 0 0,.slice none 0 0,⟨?_,?_,(r1.alloc _).alloc _,?_,⟨[],⟨⟨rfl,.inl ⟨rfl,rfl⟩⟩,fun k h=>by cases h⟩,fun i hi=>absurd hi (by simp),fun i j k _ hj=>absurd hj (by simp)⟩,⟨rfl,.inl ⟨rfl,rfl⟩⟩,by omega⟩⟩
  ·exact Zh3 (cs:=[.int .i64 0,.int .i64 0]) (((Bx.new w1 _ _).alloc _)) rfl (by omega) (by unfold maxLen;omega)
  ·exact(Hm1.out.below ((Below.refl _ _).alloc (Nat.le_refl _) _)).below ((Below.refl _ _).alloc (Nat.le_refl _) _)
  have:=Bx.new (w1.alloc (.cells #[.int .i64 0,.int .i64 0] 170)) #[.slice none 0 0,.slice none 0 0] 44;simpa using this
 case round =>
  obtain⟨k,rfl,hk1,hk2,hb,vn,ve,hx⟩:=hrel;obtain⟨M,hM⟩:=eI ((bat nx (0,0) k).met);rw[← hM] at hx hk1 hk2;have hMp:0<M.length:=by rw[hM];exact ZdE k
  obtain⟨g,cap,rfl,hg0,hg1'⟩:=hx.m.form hMp;obtain⟨wo,hwo⟩:∃ wo:World,wo=wr:=⟨_,rfl⟩;subst hwo;clear hc0 hc1 hrun;by_cases hlt:k<M.length
  ·have HF:∀ n,n≤3→(bpart nx (0,0) k n).met <+: (bat nx (0,0) most).met:=fun n hn=>(ZaF (by rw[← hM];exact hlt) hn (by omega)).1
   obtain⟨x,hxx⟩:=eI (M.getD k (0,0));have hQx:Q x:=by rw[hxx,hM];exact Zce Hh0.out HQ.out k _ (ZcE (by rw[← hM];exact hlt))
   have Hhxx:=qh hxx;clear hxx;replace HF:=qh HF;have HhQx:=qh hQx;clear hQx;have HhM:=qh hM;clear hM;have Hhx:=qh hx;clear hx;have Hhb:=qh hb;clear hb;go_wp2_with (at_make;refine wpList_make_full _ rfl _ _ 38 rfl wo.heap.size 3 i0 (.int .i64 0) 1 Tryz.underlying38 Hhi.out Hhz0.out Hhz1.out .i64 .i64 _ _ 3 rfl rfl rfl rfl (by rw[Hhz2.out];omega) (by unfold maxLen;omega) (Nat.le_refl _) ?_;intro w2 hown hgrow);have hb2:Below wo.heap.size wo w2:=(Below.refl _ _).grown hgrow (Nat.le_refl _) (fun _ h=>by cases h);have hsw:=hb2.size;have hRw:wo.heap.size<w2.heap.size:=(hown.lt wo.heap.size rfl).2;have Hhb2:=qh hb2;clear hb2;have Hhown:=qh hown;clear hown;clear hgrow
   go_loopw [9,10,12,32] (fun r1 r2 vm i wi=>∃ n:Nat,i = .int .i64 n∧n≤3∧(bpart nx (0,0) k n).met.length≤most∧Below w.heap.size w wi∧wo.heap.size<wi.heap.size∧(∃ cs,wi.ownsRow wo.heap.size 3 1 (.slice (some ⟨wo.heap.size,0,none⟩) 3 3) 3 cs∧cs.take n=(intCells (Zaf nx (bat nx (0,0) most).met x)).take n) ∧
     ExW 170 2 ZaQ Zaa w.heap.size (w.heap.size+1) (w.heap.size+1+1) (w1.heap.size+1) wo.heap.size wi (bpart nx (0,0) k n).met ((M.take k).map (Zaf nx (bat nx (0,0) most).met)) ((M.take k).map en) vm vn ve)
    (fun _ _ _ i _=>3-(intOf i).toNat)
   case atStart=>exact⟨0,rfl,by omega,by rw[Zas,← HhM.out];exact hk2,Hhb.out.trans (Hhb2.out.mono Hhb.out.size),hRw,⟨_,Hhown.out,rfl⟩,by rw[Zas,← HhM.out];exact Hhx.out.below Hhb2.out⟩
   case round =>
    obtain⟨n,rfl,hn,hn2,hbi,hRi,⟨cs,hcs,htk⟩,hxi⟩:=hrel;have hMS:M <+: (bpart nx (0,0) k n).met:=by rw[HhM.out,← Zas];exact(ZbS (Nat.zero_le n)).1
    have hSl:M.length≤(bpart nx (0,0) k n).met.length:=hMS.length_le;by_cases hn3:n<3
    ·have hnd:(bpart nx (0,0) k n).met.Nodup:=(ZdN (by rw[← HhM.out];exact hlt) hn).1;have hSF:=HF.out n hn;have hSF1:=HF.out (n+1) (by omega);have hold:nx x n∈(bpart nx (0,0) k n).met→bpart nx (0,0) k (n+1)=bpart nx (0,0) k n:=fun h=>ZbR (by rw[← HhM.out,← Hhxx.out];exact h)
     have hnew:nx x n ∉ (bpart nx (0,0) k n).met→(bpart nx (0,0) k (n+1)).met=(bpart nx (0,0) k n).met++[nx x n]:=fun h=>by rw[Zbr (by rw[← HhM.out,← Hhxx.out];exact h),← HhM.out,← Hhxx.out]
     have hQy:Q (nx x n):=HQ.out x n hn3 HhQx.out;obtain⟨hf1,hf2⟩:=Hfit.out _ hQy;have hNx:∀ w',Below w.heap.size w w'→_:=fun w' h=>HN.out x n w' HhQx.out hn3 h
     have hrowy:(intCells (Zaf nx (bat nx (0,0) most).met x))[n]? = some (.int .i64 (Zai (bat nx (0,0) most).met (nx x n):Int)):=by simp[Zaf,hn3]
     obtain⟨S,hS⟩:=eI ((bpart nx (0,0) k n).met);obtain⟨y,hy⟩:=eI (nx x n);obtain⟨F,hF⟩:=eI ((bat nx (0,0) most).met);rw[← hS] at hxi hMS hSl hnd hold hnew hSF hn2;rw[← hy] at hQy hf1 hf2 hNx hold hnew hrowy;rw[← hF] at hxi hSF hSF1 hrowy;have hSp:0<S.length:=by omega
     obtain⟨gi,capi,rfl,hgi0,hgi1⟩:=hxi.m.form hSp;have hxS:S.getD k (0,0)=x:=by rw[Hhxx.out];exact ZaE hMS hlt _
     obtain⟨p1,p2⟩:=Zhq hxi.m (k:=k) (by omega);rw[hxS] at p1 p2;obtain⟨x1,x2⟩:=x;obtain⟨y1,y2⟩:=y;simp only at p1 p2 hf1 hf2 hNx;have hkS:(k:Int)<S.length:=by omega
     have HhS:=qh hS;clear hS;have Hhy:=qh hy;clear hy;have HhF:=qh hF;clear hF;have Hhnd:=qh hnd;clear hnd;have Hhold:=qh hold;clear hold;have Hhnew:=qh hnew;clear hnew;have HhSF:=qh hSF;clear hSF;have HhSF1:=qh hSF1;clear hSF1;have Hhrowy:=qh hrowy;clear hrowy;have Hhxi:=qh hxi;clear hxi;have Hhcs:=qh hcs;clear hcs;have Hhtk:=qh htk;clear htk;have Hhbi:=qh hbi;clear hbi;have HhNx:=qh hNx;clear hNx;have HhMS:=qh hMS;clear hMS;have HhQy:=qh hQy;clear hQy;have Hhf1:=qh hf1;clear hf1;have Hhf2:=qh hf2;clear hf2;clear hxS;go_wp2_with fail;refine(HhNx.out _ Hhbi.out).mono ?_;rintro e w3 ⟨rfl,hb3⟩;have hbw3:Below w.heap.size w w3:=Hhbi.out.trans (hb3.mono Hhbi.out.size);have hbw4:=hbw3.alloc hbw3.size (.cells #[.int .i64 y1,.int .i64 y2] 170);have hx3:=(Hhxi.out.below hb3).below ((Below.refl _ _).alloc (Nat.le_refl _) (.cells #[.int .i64 y1,.int .i64 y2] 170));have hr3:=(Own.below (Own.below (Zab Hhcs.out) hb3) ((Below.refl _ _).alloc (Nat.le_refl _) (.cells #[.int .i64 y1,.int .i64 y2] 170))).1;have hs3:=hb3.size;obtain⟨ly,hly⟩:=Tryz.keyOfPr (y1,y2) Hhf1.out Hhf2.out;by_cases hmem:(y1,y2)∈S
     ·have hlk1:=hx3.n.lookupOk Tryz.lawPr ZbA Tryz.underlying181 (ZhL _) hly;have hlk2:=hx3.n.lookup Tryz.lawPr ZbA Tryz.underlying181 (ZhL _) hly;have hpl:Zai S (y1,y2)=Zai F (y1,y2):=(Za0 HhSF.out hmem).symm;rw[Zbi Hhnd.out hmem,hpl] at hlk1 hlk2;simp only[w_8,Option.isSome_some,ZaQ] at hlk1 hlk2;obtain⟨q,hq⟩:=eI (Zai F (y1,y2));rw[← hq] at hlk1 hlk2;obtain⟨u0,hu0⟩:=Zc3 hr3 n (by omega);have hfr:=hr3.frozenAt n;have Hhq:=qh hq;clear hq;have Hhpl:=qh hpl;clear hpl;have Hhr3:=qh hr3;clear hr3;have Hhx3:=qh hx3;clear hx3;have Hhbw3:=qh hbw3;clear hbw3;have Hhbw4:=qh hbw4;clear hbw4;have Hhb3:=qh hb3;clear hb3;have Hhly:=qh hly;clear hly;have Hhmem:=qh hmem;clear hmem;go_wp2;go_roundw
      case rel =>
       have hbo:=Hhold.out Hhmem.out;refine⟨n+1,by go_num,by omega,?_,Hhbw4.out.setCell (by have:=Hhb.out.size;omega) _,by simp only[ZaN,World.size_alloc];omega,⟨_,(Hhr3.out.stored n _).1,?_⟩,?_⟩
       ·rw[hbo,← HhS.out];exact hn2
       ·rw[← HhF.out];exact ZcY (n:=3) Hhcs.out.1 (by simp[Zaf]) hn3 (by rw[HhF.out];exact Hhtk.out) (by rw[Hhrowy.out,← Hhq.out])
       rw[hbo,← HhS.out,← HhF.out];exact Hhx3.out.setRow Zhr (Nat.le_refl _) Hhr3.out n _
      case measure=>simp[intOf];omega
     have hlk1:=hx3.n.lookupOk Tryz.lawPr ZbA Tryz.underlying181 (ZhL _) hly;rw[Zcy hmem] at hlk1;simp only[Option.getD_none,Option.isSome_none,ZaQ] at hlk1;have hnw:=Hhnew.out hmem;by_cases hfull:S.length=most
     ·have hq1:((S.length:Int)==(most:Int))=true:=by rw[hfull];simp
      have hq2:(S.length:Int)=(most:Int):=by rw[hfull]
      have r0:=hx3.r.cell 0;have r1:=hx3.r.cell 1;have f0:=hx3.r.fr 0;have f1:=hx3.r.fr 1;simp only[w_5,w_6,w_7] at r0 r1;have hbad:¬ (bat nx (0,0) most).met.length≤most:=by have h1:=HhSF1.out.length_le;rw[hnw] at h1;simp only[List.length_append,List.length_singleton] at h1;rw[← HhF.out];omega
      have Hhr3:=qh hr3;clear hr3;have Hhx3:=qh hx3;clear hx3;have Hhbw3:=qh hbw3;clear hbw3;have Hhbw4:=qh hbw4;clear hbw4;have Hhb3:=qh hb3;clear hb3;have Hhly:=qh hly;clear hly;have Hhmem:=qh hmem;clear hmem;have Hhnw:=qh hnw;clear hnw;have Hhfull:=qh hfull;clear hfull;have Hhbad:=qh hbad;clear hbad;go_wp2;have z:=(Hhx3.out.r.set 0 (.slice none 0 0)).set 1 (.slice none 0 0);have z0:=z.cell 0;have z1:=z.cell 1;simp only[w_5,w_6,w_7,w_1,w_2,w_3] at z0 z1;refine bodyPost_ret (v:=.tuple #[.agg #[.slice none 0 0,.slice none 0 0],.slice none 0 0,.bool false]) (by simp[results,Tryz.results152,go_sem,z0,z1]) rfl ⟨?_,?_⟩
      ·unfold RExp;rw[if_neg Hhbad.out]
      exact(Hhbw4.out.setCell (by simp) _).setCell (by simp) _
     have hq1:((S.length:Int)==(most:Int))=false:=by simp;omega
     have hq2:¬ (S.length:Int)=(most:Int):=by omega
     obtain⟨w5,hrun5,hm5,hg5⟩:=hx3.n.store Tryz.lawPr ZbA Tryz.underlying181 hly (.int .i64 (S.length:Int));rw[ZcI hmem] at hm5;simp only[ZaQ] at hrun5;have hs5:=hg5.size;simp only[World.size_alloc] at hs5;have hB2:=Hhxi.out.n.lt;have hbb:=Hhb.out.size;have c0:w5.cell? ⟨w3.heap.size,0,none⟩=some (.int .i64 y1):=by rw[hg5.cell_far _ (by simp) (by simp;omega)];exact(Bx.new w3 _ _).cell 0
     have c1:w5.cell? ⟨w3.heap.size,1,none⟩=some (.int .i64 y2):=by rw[hg5.cell_far _ (by simp) (by simp;omega)];exact(Bx.new w3 _ _).cell 1
     have hal:=(Below.refl w5.heap.size w5).alloc (Nat.le_refl _) (.cells #[.int .i64 y1,.int .i64 y2] 170);have hown6:=(Own.below (Zab (Zag hx3.m hg5 hx3.n.apart)) hal).1;have hbw5:Below w.heap.size w w5:=hbw4.grown hg5 (by simp;omega) (fun j h=>by cases h;omega)
     have hA:∀ g7 cap7 w7,w7.ownsRow w.heap.size 170 2 (.slice (some ⟨g7,0,none⟩) (S.length+1) cap7) (S.length+1) (S.flatMap Zaa++[.int .i64 y1,.int .i64 y2])→(w5.alloc (.cells #[.int .i64 y1,.int .i64 y2] 170)).grownBy w7 (some gi) →
       ExW 170 2 ZaQ Zaa w.heap.size (w.heap.size+1) (w.heap.size+1+1) (w1.heap.size+1) wo.heap.size w7 (S++[(y1,y2)]) ((M.take k).map (Zaf nx F)) ((M.take k).map en) (.slice (some ⟨g7,0,none⟩) (S.length+1) cap7) vn ve ∧
       (Instr.lookup 181 (.map (some (w.heap.size+1+1))) (.agg #[.int .i64 y1,.int .i64 y2]) false).run Tryz.prog w7 = .ok (.int .i64 (Zai F (y1,y2):Int)) w7 ∧
       w7.ownsRow wo.heap.size 3 1 (.slice (some ⟨wo.heap.size,0,none⟩) 3 3) 3 cs∧w7.cell? ⟨w3.heap.size,0,none⟩=some (.int .i64 y1)∧w7.cell? ⟨w3.heap.size,1,none⟩=some (.int .i64 y2)∧Below w.heap.size w w7∧w5.heap.size≤w7.heap.size:=by
      intro g7 cap7 w7 hown7 hgrow7;have hx7:=hx3.newState Zhr hm5 hg5 hal hown7 hgrow7;have hs7:=hgrow7.size;simp only[World.size_alloc] at hs7;have hlk7:=hx7.n.lookup Tryz.lawPr ZbA Tryz.underlying181 (ZhL _) hly;have hpl:Zai (S++[(y1,y2)]) (y1,y2)=Zai F (y1,y2):=(Za0 (by rw[← hnw];exact HhSF1.out) (by simp)).symm;rw[Zbi (ZcR Hhnd.out hmem) (by simp),hpl] at hlk7;refine⟨hx7,hlk7,Zkv (vm:=.slice (some ⟨gi,0,none⟩) S.length capi) hr3 Zhr.1 hown6 hx3.n.apart hg5 hal hgrow7,?_,?_,(hbw5.alloc (by omega) _).grown hgrow7 (by simp;omega) (fun j h=>by cases h;exact hgi0),by omega⟩
      ·rw[hgrow7.cell_far _ (by simp;omega) (by simp;omega),Zbe _ _ _ _ (by omega)];exact c0
      rw[hgrow7.cell_far _ (by simp;omega) (by simp;omega),Zbe _ _ _ _ (by omega)];exact c1
     obtain⟨q,hq⟩:=eI (Zai F (y1,y2));rw[← hq] at hA;have hle5:w.heap.size≤(w5.alloc (.cells #[.int .i64 y1,.int .i64 y2] 170)).heap.size:=by simp;omega
     have hsb:(S.length+1)*16≤140737488355328:=by omega
     have hs63:S.length+1≤maxLen:=by unfold maxLen;omega
     have Hhq:=qh hq;clear hq;have HhA:=qh hA;clear hA;have Hhown6:=qh hown6;clear hown6;have Hhal:=qh hal;clear hal;have Hhm5:=qh hm5;clear hm5;have Hhg5:=qh hg5;clear hg5;have Hhbw5:=qh hbw5;clear hbw5;have Hhr3:=qh hr3;clear hr3;have Hhx3:=qh hx3;clear hx3;have Hhbw3:=qh hbw3;clear hbw3;have Hhbw4:=qh hbw4;clear hbw4;have Hhb3:=qh hb3;clear hb3;have Hhly:=qh hly;clear hly;have Hhmem:=qh hmem;clear hmem;have Hhnw:=qh hnw;clear hnw;go_wp2_with (at_builtin;refine wpList_append_lies _ rfl _ _ _ rfl w.heap.size 170 k0 (.agg #[.int .i64 0,.int .i64 0]) 2 16 Tryz.underlying134 hk.out Hhkk0.out Hhkk1.out Hhkk2.out rfl (by omega) _ S.length _ rfl Hhown6.out ⟨w5.heap.size,0,none⟩ 1 1 [.int .i64 y1,.int .i64 y2] rfl rfl (World.news_of_block (heap_alloc_new w5 _)) (by intro u hu;simp at hu;rcases hu with rfl|rfl<;>rfl) (by omega) hs63 hsb hle5 (w5.heap.size+1) (by simp) ?_;intro g7 cap7 w7 hown7 hgrow7 hat7 hlt7;obtain⟨hx7,hlk7,hr7,d0,d1,hbw7,hs7⟩:=HhA.out g7 cap7 w7 hown7 hgrow7;obtain⟨u0,hu0⟩:=Zc3 hr7 n (by omega);have hfr7:=hr7.frozenAt n;have Hx7:=qh hx7;have Hr7:=qh hr7;have Hbw7:=qh hbw7;clear hx7 hr7 hbw7 hown7 hgrow7 hat7);go_roundw
     case rel =>
      refine⟨n+1,by go_num,by omega,?_,Hbw7.out.setCell (by omega) _,by simp only[ZaN];omega,⟨_,(Hr7.out.stored n _).1,?_⟩,?_⟩
      ·rw[Hhnw.out,List.length_append,List.length_singleton];omega
      ·rw[← HhF.out];exact ZcY (n:=3) Hhcs.out.1 (by simp[Zaf]) hn3 (by rw[HhF.out];exact Hhtk.out) (by rw[Hhrowy.out,← Hhq.out])
      rw[Hhnw.out,← HhF.out];exact Hx7.out.setRow Zhr (Nat.le_refl _) Hr7.out n _
     case measure=>simp[intOf];omega
    obtain rfl:n=3:=by omega
    have hbs:bat nx (0,0) (k+1)=bpart nx (0,0) k 3:=ZaP (by rw[← HhM.out];exact hlt);have hSp:0<(bpart nx (0,0) k 3).met.length:=by omega
    have hxS:(bpart nx (0,0) k 3).met.getD k (0,0)=x:=by rw[Hhxx.out];exact ZaE hMS hlt _
    have htake:(bpart nx (0,0) k 3).met.take (k+1)=M.take k++[x]:=by obtain⟨t,ht⟩:=hMS;rw[← ht,List.take_append_of_le_length (by omega),List.take_succ_eq_append_getElem hlt,Hhxx.out];simp[hlt]
    obtain⟨S,hS⟩:=eI ((bpart nx (0,0) k 3).met);obtain⟨F,hF⟩:=eI ((bat nx (0,0) most).met);obtain⟨rows,hrows⟩:=eI ((M.take k).map (Zaf nx F));obtain⟨ends,hends⟩:=eI ((M.take k).map en);rw[← hF] at hxi htk;rw[← hrows,← hends,← hS] at hxi;rw[← hS] at hxS htake hSp hn2 hSl;have hrl:rows.length=k:=by rw[hrows];simp;omega
    have hel:ends.length=k:=by rw[hends];simp;omega
    obtain⟨gi,capi,rfl,hgi0,hgi1⟩:=hxi.m.form hSp;obtain⟨p1,p2⟩:=Zhq hxi.m (k:=k) (by omega);rw[hxS] at p1 p2;have hnl:(Zaf nx F x).length=3:=by simp[Zaf]
    have hce:cs=intCells (Zaf nx F x):=by
     have:=hcs.1
     rwa [List.take_of_length_le (by omega),List.take_of_length_le (by simp[hnl])] at htk
    subst hce;have hal:=(Below.refl wr.heap.size wr).alloc (Nat.le_refl _) (.cells #[.slice (some ⟨wo.heap.size,0,none⟩) 3 3] 38);have hxr:=hxi.below hal;have hrow2:OInts 3 wo.heap.size (wr.alloc (.cells #[.slice (some ⟨wo.heap.size,0,none⟩) 3 3] 38)).heap.size (wr.alloc (.cells #[.slice (some ⟨wo.heap.size,0,none⟩) 3 3] 38)) (.slice (some ⟨wo.heap.size,0,none⟩) 3 3) (Zaf nx F x):=by unfold OInts;rw[hnl];exact Zab (Own.below (Zab hcs) hal).1
    obtain⟨vs,hv1,hv2,hv3⟩:=hxr.nx;have hbb:=Hhb.out.size;have hB4:=hxi.d.lt;have hgB:gi≠w1.heap.size+1:=by obtain⟨cu,hcu⟩:=ZaZ (k:=gi) hxi.m rfl;intro h;have h2:=hxi.d;unfold Bx at h2;rw[h,h2] at hcu;simp at hcu
    have hgv:some gi≠vn.ownBlock:=fun h=>by obtain⟨cu,hcu⟩:=ZaZ (k:=gi) hxr.m rfl;exact Zam (e':=170) hv1.1 (by decide) gi h.symm _ _ hcu
    have hbw2:Below w.heap.size w (wr.alloc (.cells #[.slice (some ⟨wo.heap.size,0,none⟩) 3 3] 38)):=hbi.alloc hbi.size _
    have hA:∀ g3 c3 w3,w3.ownsRow w.heap.size 38 1 (.slice (some ⟨g3,0,none⟩) (rows.length+1) c3) (rows.length+1) (vs++[.slice (some ⟨wo.heap.size,0,none⟩) 3 3])→(wr.alloc (.cells #[.slice (some ⟨wo.heap.size,0,none⟩) 3 3] 38)).grownBy w3 vn.ownBlock →
      ExW 170 2 ZaQ Zaa w.heap.size (w.heap.size+1) (w.heap.size+1+1) (w1.heap.size+1) w3.heap.size (w3.setCell ⟨w1.heap.size+1,0,none⟩ (.slice (some ⟨g3,0,none⟩) (rows.length+1) c3)) S (rows++[Zaf nx F x]) ends (.slice (some ⟨gi,0,none⟩) S.length capi) (.slice (some ⟨g3,0,none⟩) (rows.length+1) c3) ve ∧
      (∃ u,w3.cell? ⟨w1.heap.size+1,0,none⟩=some u)∧w3.frozen? ⟨w1.heap.size+1,0,none⟩=false∧w3.cell? ⟨gi,k*2,none⟩=some (.int .i64 x.1)∧w3.cell? ⟨gi,k*2+1,none⟩=some (.int .i64 x.2)∧w3.cell? ⟨w1.heap.size+1,1,none⟩=some ve ∧
      Below w.heap.size w w3∧wr.heap.size≤w3.heap.size:=by
     intro g3 c3 w3 hown3 hgrow3;have hs3:=hgrow3.size;simp only[World.size_alloc] at hs3;have d3:Bx w3 (w1.heap.size+1) #[vn,ve] 44:=hxr.d.grown hgrow3 (Zam hv1.1 (by decide));refine⟨hxr.addRow Zhr hv1 hv2 hv3 hrow2 (Nat.le_refl _) (by omega) hgrow3 hown3,⟨_,d3.cell 0⟩,d3.fr 0,?_,?_,d3.cell 1,hbw2.grown hgrow3 (by simp;omega) (fun j h=>(hv1.1.lt j h).1),by omega⟩
     ·rw[hgrow3.cell_far _ (by simp;omega) hgv,Zbe _ _ _ _ hgi1];exact p1
     rw[hgrow3.cell_far _ (by simp;omega) hgv,Zbe _ _ _ _ hgi1];exact p2
    have hown2:=hv1.1;have e0:=hxi.d.cell 0;have e1:=hxi.d.cell 1;simp only[w_5,w_6,w_7] at e0 e1;obtain⟨x1,x2⟩:=x;simp only at p1 p2 hA;have hsb:(rows.length+1)*24≤140737488355328:=by omega
    have hs63:rows.length+1≤maxLen:=by unfold maxLen;omega
    have hle2:w.heap.size≤(wr.alloc (.cells #[.slice (some ⟨wo.heap.size,0,none⟩) 3 3] 38)).heap.size:=by simp;omega
    have hHi:gi<wr.heap.size:=hgi1;have hkS:(k:Int)<S.length:=by omega
    have HhS:=qh hS;clear hS;have HhF:=qh hF;clear hF;have Hhrows:=qh hrows;clear hrows;have Hhends:=qh hends;clear hends;have Hhxi:=qh hxi;clear hxi;have Hhcs:=qh hcs;clear hcs;have Hhtk:=qh htk;clear htk;have Hhbi:=qh hbi;clear hbi;have HhMS:=qh hMS;clear hMS;have Hhbs:=qh hbs;clear hbs;have Hhtake:=qh htake;clear htake;have Hhal:=qh hal;clear hal;have Hhxr:=qh hxr;clear hxr;have Hhrow2:=qh hrow2;clear hrow2;have Hhv1:=qh hv1;clear hv1;have Hhv2:=qh hv2;clear hv2;have Hhv3:=qh hv3;clear hv3;have Hhgv:=qh hgv;clear hgv;have HhA:=qh hA;clear hA;have Hhown2:=qh hown2;clear hown2;have Hhbw2:=qh hbw2;clear hbw2;have Hhrl:=qh hrl;clear hrl;have Hhel:=qh hel;clear hel;have Hhnl:=qh hnl;clear hnl;clear hxS p1 p2;go_wp2_with (at_builtin;refine wpList_append_lies _ rfl _ _ _ rfl w.heap.size 38 j0 (.slice none 0 0) 1 24 Tryz.underlying41 Hhj.out Hhy0.out Hhy1.out Hhy2.out rfl (by omega) _ rows.length _ rfl Hhown2.out ⟨wr.heap.size,0,none⟩ 1 1 [.slice (some ⟨wo.heap.size,0,none⟩) 3 3] rfl rfl (World.news_of_block (heap_alloc_new wr _)) (by intro u hu;simp at hu;subst hu;rfl) (by omega) hs63 hsb hle2 (wr.heap.size+1) (by simp) ?_;intro g3 c3 w3 hown3 hgrow3 hat3 hlt3;obtain⟨hx3,⟨u0,hu0⟩,hfr0,p1,p2,ce3,hbw3,hs3⟩:=HhA.out g3 c3 w3 hown3 hgrow3;have Hx3:=qh hx3;have Hbw3:=qh hbw3;clear hx3 hbw3 hown3 hgrow3 hat3);obtain⟨w4,hw4⟩:=eI (w3.setCell ⟨w1.heap.size+1,0,none⟩ (.slice (some ⟨g3,0,none⟩) (rows.length+1) c3))
    have hs4:w4.heap.size=w3.heap.size:=by rw[hw4];exact ZaN _ _ _
    have hb4:Below w.heap.size w w4:=by rw[hw4];exact Hbw3.out.setCell (by simp;omega) _
    rw[← hw4];rw[← hw4] at Hx3;have q1:w4.cell? ⟨gi,k*2,none⟩=some (.int .i64 x1):=by rw[hw4,(ZaI w3 (w1.heap.size+1) 0 _).cell_far _ (by simp;omega) (by simp;exact hgB)];exact p1
    have q2:w4.cell? ⟨gi,k*2+1,none⟩=some (.int .i64 x2):=by rw[hw4,(ZaI w3 (w1.heap.size+1) 0 _).cell_far _ (by simp;omega) (by simp;exact hgB)];exact p2
    have ce4:=Hx3.out.d.cell 1;simp only[w_5,w_6,w_7] at ce4;have hB44:w1.heap.size+1<w4.heap.size:=by omega
    have hg44:gi<w4.heap.size:=by omega
    have hk4:∀ w',Below w4.drew.heap.size w4.drew w'→w'.cell? ⟨gi,k*2,none⟩=some (.int .i64 x1)∧w'.cell? ⟨gi,k*2+1,none⟩=some (.int .i64 x2):=fun w' h=>⟨(bcell h _ _ hg44).trans q1,(bcell h _ _ hg44).trans q2⟩
    have hEx:∀ w',Below w4.drew.heap.size w4.drew w'→ExW 170 2 ZaQ Zaa w.heap.size (w.heap.size+1) (w.heap.size+1+1) (w1.heap.size+1) w3.heap.size w' S (rows++[Zaf nx F (x1,x2)]) ends (.slice (some ⟨gi,0,none⟩) S.length capi) (.slice (some ⟨g3,0,none⟩) (rows.length+1) c3) ve:=fun w' h=>(Hx3.out.below (Below.refl _ _).drew).below h
    have hge:some gi≠ve.ownBlock:=fun h=>by obtain⟨cu,hcu⟩:=ZaZ (k:=gi) Hx3.out.m rfl;exact Zam (e':=170) Hx3.out.en (by decide) gi h.symm _ _ hcu
    have hel1:ends.length+1≤maxLen:=by have:=Hhel.out;unfold maxLen;omega
    have hel2:(ends.length+1)*1≤140737488355328:=by have:=Hhel.out;omega
    have hlw4:w.heap.size≤w4.heap.size:=hb4.size;have hbd:Below w.heap.size w w4.drew:=hb4.drew
    have hC:∀ w6,Below w4.drew.heap.size w4.drew w6→∀ g7 c7 w7,w7.ownsRow w.heap.size 4 1 (.slice (some ⟨g7,0,none⟩) (ends.length+1) c7) (ends.length+1) (boolCells ends++[.bool (en (x1,x2))])→(w6.alloc (.cells #[.bool (en (x1,x2))] 4)).grownBy w7 ve.ownBlock →
      w7.cell? ⟨w1.heap.size+1,1,none⟩=some ve∧w7.frozen? ⟨w1.heap.size+1,1,none⟩=false∧(w7.cell? ⟨gi,k*2,none⟩=some (.int .i64 x1)∧w7.cell? ⟨gi,k*2+1,none⟩=some (.int .i64 x2)) ∧
      (∀ u,(w7.setCell ⟨w1.heap.size+1,1,none⟩ u).cell? ⟨gi,k*2,none⟩=some (.int .i64 x1)∧(w7.setCell ⟨w1.heap.size+1,1,none⟩ u).cell? ⟨gi,k*2+1,none⟩=some (.int .i64 x2))∧Below w.heap.size w w7 ∧
      ExW 170 2 ZaQ Zaa w.heap.size (w.heap.size+1) (w.heap.size+1+1) (w1.heap.size+1) w3.heap.size (w7.setCell ⟨w1.heap.size+1,1,none⟩ (.slice (some ⟨g7,0,none⟩) (ends.length+1) c7)) S (rows++[Zaf nx F (x1,x2)]) (ends++[en (x1,x2)]) (.slice (some ⟨gi,0,none⟩) S.length capi) (.slice (some ⟨g3,0,none⟩) (rows.length+1) c3) (.slice (some ⟨g7,0,none⟩) (ends.length+1) c7)∧w3.heap.size≤w7.heap.size:=by
     intro w6 hb6 g7 c7 w7 hown7 hgrow7;have hs6:w4.heap.size≤w6.heap.size:=hb6.size;have hE6:=hEx _ (hb6.alloc hb6.size (.cells #[.bool (en (x1,x2))] 4));have d7:=hE6.d.grown hgrow7 (Zam hE6.en (by decide));have hs7:=hgrow7.size;simp only[World.size_alloc] at hs7;have k6:=hk4 _ (hb6.alloc hb6.size (.cells #[.bool (en (x1,x2))] 4))
     have k7:w7.cell? ⟨gi,k*2,none⟩=some (.int .i64 x1)∧w7.cell? ⟨gi,k*2+1,none⟩=some (.int .i64 x2) :=
      ⟨(hgrow7.cell_far ⟨gi,k*2,none⟩ (by simp only[World.size_alloc];omega) hge).trans k6.1,(hgrow7.cell_far ⟨gi,k*2+1,none⟩ (by simp only[World.size_alloc];omega) hge).trans k6.2⟩
     refine⟨d7.cell 1,d7.fr 1,k7,fun u=>ZpB (B:=w1.heap.size+1) (j:=1) hgB k7 (u:=u),?_,hE6.addEnd Zhr hgrow7 hown7,by omega⟩;exact((hbd.trans (hb6.mono hlw4)).alloc (by omega) _).grown hgrow7 (by simp only[World.size_alloc];omega) (fun j h=>(hE6.en.lt j h).1)
    have HhC:=qh hC;clear hC;have Hhk4:=qh hk4;clear hk4;have HhEx:=qh hEx;clear hEx;have Hhge:=qh hge;clear hge;have Hhb4:=qh hb4;clear hb4;have Hhbd:=qh hbd;clear hbd;have Hhw4:=qh hw4;clear hw4;clear hu0 hfr0 p1 p2 ce3
    go_region_law (first
      | (go_simp;go_at_call 154;refine(HE.out (x1,x2) _ HhQx.out Hhbd.out).mono ?_;rintro e w6 ⟨rfl,hb6⟩;have ce6:=(bcell hb6 _ _ hB44).trans ce4;have hs6:w4.heap.size≤w6.heap.size:=hb6.size;have ce6':=fun o=>(Zbe w6 o (w1.heap.size+1) 1 (Nat.lt_of_lt_of_le hB44 hs6)).trans ce6)
      | (refine step_append_lies _ (by rfl) _ _ _ (by rfl) w.heap.size 4 b0 (.bool false) 1 1 Tryz.underlying42 hbi0.out Hhx0.out Hhx1.out Hhx2.out (by rfl) (by omega) ve ends.length (boolCells ends) (by rfl) (HhEx.out _ (hb6.alloc hb6.size _)).en ⟨w6.heap.size,0,none⟩ 1 1 [.bool (en (x1,x2))] (by rfl) (by rfl) (World.news_of_block (heap_alloc_new w6 _)) (by intro u hu;simp at hu;subst hu;rfl) (by omega) hel1 hel2 (by simp;omega) (w6.heap.size+1) (by simp) ?_;intro g7 c7 w7 hown7 hgrow7 hat7 hlt7;obtain⟨cst,cfr,k7,k8,hb7,hx8,hs7⟩:=HhC.out w6 hb6 g7 c7 w7 hown7 hgrow7;have Hb7:=qh hb7;have Hx8:=qh hx8;have Hk8:=qh k8;clear hb7 hx8 k8 hown7 hgrow7 hat7))
    all_goals
     go_wp2;go_roundw
     case rel =>
      have hrw:(S.take (k+1)).map (Zaf nx F)=rows++[Zaf nx F (x1,x2)]:=by rw[Hhtake.out,List.map_append,← Hhrows.out];rfl
      have hew:(S.take (k+1)).map en=ends++[en (x1,x2)]:=by rw[Hhtake.out,List.map_append,← Hhends.out];rfl
      have hup:=Hx8.out.up (hi':=(w7.setCell ⟨w1.heap.size+1,1,none⟩ (.slice (some ⟨g7,0,none⟩) (ends.length+1) c7)).heap.size) (by rw[ZaN];exact hs7);refine⟨k+1,by go_num,by rw[Hhbs.out,← HhS.out];omega,by rw[Hhbs.out,← HhS.out];exact hn2,?_,.slice (some ⟨g3,0,none⟩) (rows.length+1) c3,.slice (some ⟨g7,0,none⟩) (ends.length+1) c7,?_⟩
      ·first
        | exact Hb7.out.setCell (by simp;omega) _
        | exact(Hb7.out.setCell (by simp;omega) _).drew
      rw[Hhbs.out,← HhS.out,← HhF.out,hrw,hew]
      first
       | exact hup
       | exact hup.below (Below.refl _ _).drew
     case measure=>simp[intOf];omega
  have hkM:k=M.length:=by omega
  have hMF:(bat nx (0,0) most).met=M:=by rw[hM];rw[ZbT (k:=k) (m:=most) (by rw[← hM];omega) (by omega)]
  have htk:M.take k=M:=List.take_of_length_le (by omega);rw[htk,hMF] at hx;obtain⟨vs,hv1,hv2,hv3⟩:=hx.nx;obtain⟨gn,cn,rfl,-,-⟩:=hv1.1.form (by simp;omega);obtain⟨ge,ce,rfl,-,-⟩:=hx.en.form (by simp;omega);have r0:=hx.r.cell 0;have r1:=hx.r.cell 1;have f0:=hx.r.fr 0;have f1:=hx.r.fr 1;have d0:=hx.d.cell 0;have d1:=hx.d.cell 1;simp only[w_5,w_6,w_7,List.length_map] at r0 r1 d0 d1;have hMl:=hk2;have hnx:OIntSS 38 3 w.heap.size wo.heap.size wo (.slice (some ⟨gn,0,none⟩) (M.map (Zaf nx M)).length cn) (M.map (Zaf nx M)):=⟨vs,hv1,hv2,hv3⟩;have Hhnx:=qh hnx;clear hnx;have Hhx:=qh hx;clear hx;have Hhb:=qh hb;clear hb;have HhM:=qh hM;clear hM;have HhMF:=qh hMF;clear hMF;have Hhtk:=qh htk;clear htk;clear hv1 hv2 hv3;go_wp2;have g1:=ZaI wo (w.heap.size+1) 0 (.slice (some ⟨gn,0,none⟩) M.length cn);have b1:=Hhx.out.r.set 0 (.slice (some ⟨gn,0,none⟩) M.length cn);have g2:=ZaI (wo.setCell ⟨w.heap.size+1,0,none⟩ (.slice (some ⟨gn,0,none⟩) M.length cn)) (w.heap.size+1) 1 (.slice (some ⟨ge,0,none⟩) M.length ce);have b2:=b1.set 1 (.slice (some ⟨ge,0,none⟩) M.length ce);have z0:=b2.cell 0;have z1:=b2.cell 1;simp only[w_5,w_6,w_7,w_1,w_2,w_3] at z0 z1;refine bodyPost_ret (v:=.tuple #[.agg #[.slice (some ⟨gn,0,none⟩) M.length cn,.slice (some ⟨ge,0,none⟩) M.length ce],.slice (some ⟨g,0,none⟩) M.length cap,.bool true]) (by simp[results,Tryz.results152,go_sem,z0,z1]) rfl ⟨?_,?_⟩
  ·unfold RExp;rw[HhMF.out,if_pos hk2];have ha:∀ e,44 ≠ e→Zcc wo (some (w.heap.size+1)) e:=fun e he=>Hhx.out.r.apart he
   have ha2:∀ e,44 ≠ e→Zcc (wo.setCell ⟨w.heap.size+1,0,none⟩ (.slice (some ⟨gn,0,none⟩) M.length cn)) (some (w.heap.size+1)) e:=fun e he=>b1.apart he
   have hnx':=Hhnx.out;simp only[List.length_map] at hnx';have hen':=Hhx.out.en;simp only[List.length_map] at hen';refine⟨_,_,_,_,_,_,rfl,⟨_,_,rfl,?_,?_⟩,?_⟩
   ·exact((hnx'.grown g1 (ha _ (by decide)) (ha _ (by decide))).grown g2 (ha2 _ (by decide)) (ha2 _ (by decide))).mono (Nat.le_refl _) (by simp)
   ·unfold OBools Zat;simp only[List.length_map];exact Zab (Zag (Zag hen' g1 (ha _ (by decide))) g2 (ha2 _ (by decide)))
   exact Zab (Zag (Zag Hhx.out.m g1 (ha _ (by decide))) g2 (ha2 _ (by decide)))
  exact(Hhb.out.setCell (by simp) _).setCell (by simp) _
abbrev metP (a b:DfaD) (most:Nat):List (Int × Int):=(bat (Zaz a b) (0,0) most).met
theorem ZgC {a b:DfaD} (hda:Zah a.next a.ends=true) (hdb:Zah b.next b.ends=true):Zcg a b (0,0)=true:=by have h1:=Zaj hda;have h2:=Zaj hdb;simp[Zcg,inB];omega
theorem ZgD {a b:DfaD} (hda:Zah a.next a.ends=true) (hdb:Zah b.next b.ends=true) {x:Int × Int} {c:Nat} (hc:c<3) (hx:Zcg a b x=true):Zcg a b (Zaz a b x c)=true:=by obtain⟨i,j,rfl,hi,hj⟩:=Zcq hx;have h1:=(ZaV hda hi).2 c hc;have h2:=(ZaV hdb hj).2 c hc;have e:Zaz a b ((i:Int),(j:Int)) c=((a.next.getD i []).getD c 0,(b.next.getD j []).getD c 0):=rfl;rw[e];simp only[Zcg,inB,Bool.and_eq_true,decide_eq_true_eq];omega
theorem ZlJ {a b:DfaD} (hda:Zah a.next a.ends=true) (hdb:Zah b.next b.ends=true) {x:Int × Int} (hx:Zcg a b x=true):fitI x.1∧fitI x.2:=by obtain⟨i,j,rfl,hi,hj⟩:=Zcq hx;have h1:=Zaj hda;have h2:=Zaj hdb;unfold fitI;simp only;omega
end Go.Proofs.YtncekbbhgipdlaaGreat
namespace Go.Proofs.YtncekbbhgipdlaaGreat
open Go.RowKit
def nxD (d:DfaD) (s c:Nat):Nat:=((d.next.getD s []).getD c 0).toNat
def enD (d:DfaD) (s:Nat):Bool:=d.ends.getD s false
def Zbc (d:DfaD):DfaD:=Zat (dnx d) (den d) (bat (dnx d) 0 d.next.length).met
theorem ZbV {d:DfaD} (hd:fine d) {s c:Nat} (hs:s<d.next.length) (hc:c<3):nxD d s c<d.next.length∧dnx d (s:Int) c=((nxD d s c:Nat):Int):=by obtain⟨-,-,-,h⟩:=hd;obtain⟨-,h2⟩:=h s hs;obtain⟨a,b⟩:=h2 c hc;unfold nxD dnx;rw[Int.toNat_natCast];omega
theorem Zb7 {d:DfaD} (hd:fine d) (K:Nat):(∀ x∈(bat (dnx d) 0 K).met,0≤x∧x<(d.next.length:Int))∧(bat (dnx d) 0 K).met.length≤d.next.length:=by
 have h1:∀ x∈(bat (dnx d) 0 K).met,0≤x∧x<(d.next.length:Int):=by refine Zce (Q:=fun x=>0≤x∧x<(d.next.length:Int)) ⟨by omega,by have:=hd.1;omega⟩ (fun x c hc hx => ?_) K;obtain⟨s,rfl⟩:=Int.eq_ofNat_of_zero_le hx.1;obtain⟨a,b⟩:=ZbV hd (s:=s) (by omega) hc;rw[b];omega
 refine⟨h1,?_⟩;have:=ZfK (Zby (nx:=dnx d) (a:=0) K).1 (m:=Za2 d.next.length) fun x hx=>by obtain⟨a,b⟩:=h1 x hx;obtain⟨s,rfl⟩:=Int.eq_ofNat_of_zero_le a;exact Zcp.2 (by omega)
 rwa [Zcm] at this
theorem ZaJ {d:DfaD} (h:Zah d.next d.ends=true):fine d:=by have:=Zaj h;exact⟨by omega,by omega,by omega,fun i hi=>ZaV h hi⟩
theorem ZnO {α:Type} [DecidableEq α] {nx:α→Nat→α} {a:α} {en:α→Bool} {K:Nat} (hK:(bat nx a K).met.length≤K):Zbc (Zat nx en (bat nx a K).met)=Zat nx en (bat nx a K).met:=by
 unfold Zbc;rw[ZaS];obtain⟨m,hm⟩:=eI ((bat nx a K).met.length);have hle:(bat nx a m).met.length≤m:=by have:=(Zfm (nx:=nx) (a:=a) (show m≤K by omega)).1.length_le;omega
 have hd:bat nx a K=bat nx a m:=ZbT hle (by omega);have hp:=ZdE (nx:=nx) (a:=a) K;have hpl:∀ (s:Int) c,c<3→0≤s∧s<m→Zai (bat nx a K).met (nx ((bat nx a K).met.getD s.toNat a) c)<m:=fun s c hc hs=>by rw[hm];exact ZaR (ZdO hK (memD (d:=a) (show s.toNat<(bat nx a K).met.length by omega)) hc)
 have hlt:∀ (s:Int) c,c<3→0≤s∧s<m→0≤ZbK nx a (bat nx a K).met s c∧ZbK nx a (bat nx a K).met s c<m:=fun s c hc hs=>by have:=hpl s c hc hs;unfold ZbK;omega
 have e1:bat (ZbK nx a (bat nx a K).met) 0 m=bat (dnx (Zat nx en (bat nx a K).met)) 0 m :=
  ZgY (Q:=fun s=>0≤s∧s<(m:Int)) (by omega) (fun s c hc hs=>hlt s c hc hs) (fun s c hc hs=>(Zkd (by omega) (by omega) hc).symm) m
 have hmet:(bat (dnx (Zat nx en (bat nx a K).met)) 0 (bat nx a K).met.length).met=Za2 (bat nx a K).met.length:=by rw[← hm,← e1,ZmJ nx a K m (by omega),← hd,hm]
 rw[hmet]
 have hr:(Za2 (bat nx a K).met.length).map (Zaf (dnx (Zat nx en (bat nx a K).met)) (Za2 (bat nx a K).met.length))=(bat nx a K).met.map (Zaf nx (bat nx a K).met):=by
  refine List.ext_getElem (by simp[Za2]) fun i h1 h2 => ?_
  have hi:i<(bat nx a K).met.length:=by simpa using h2
  have hu:(Za2 (bat nx a K).met.length)[i]'(by simpa using h1)=(i:Int):=by simp[Za2]
  simp only[List.getElem_map];rw[hu];unfold Zaf;refine List.map_congr_left fun c hc => ?_
  have hc3:c<3:=List.mem_range.1 hc;rw[Zkd (a:=a) (by omega) (by omega) hc3];unfold ZbK;have hp2:=hpl (i:Int) c hc3 (by omega);have e2:(bat nx a K).met.getD (i:Int).toNat a=(bat nx a K).met[i]:=by simp[hi]
  rw[e2] at hp2 ⊢;congr 1;obtain⟨q,hq⟩:=eJ (Zai (bat nx a K).met (nx ((bat nx a K).met[i]) c));rw[hq] at hp2 ⊢;have e3:=ZfY (n:=(bat nx a K).met.length) (k:=q) (by omega);have e4:=Zev (l:=Za2 (bat nx a K).met.length) (k:=q) (by rw[Zcm];omega) (List.Pairwise.map _ (fun _ _ h e=>h (Int.ofNat.inj e)) List.nodup_range) (0:Int);rw[e3] at e4;exact e4
 have he:(Za2 (bat nx a K).met.length).map (den (Zat nx en (bat nx a K).met))=(bat nx a K).met.map en:=by
  refine List.ext_getElem (by simp[Za2]) fun i h1 h2 => ?_
  have hi:i<(bat nx a K).met.length:=by simpa using h2
  have hu:(Za2 (bat nx a K).met.length)[i]'(by simpa using h1)=(i:Int):=by simp[Za2]
  simp only[List.getElem_map];rw[hu];exact Zke hi
 exact congr (congrArg DfaD.mk hr) he
end Go.Proofs.YtncekbbhgipdlaaGreat
