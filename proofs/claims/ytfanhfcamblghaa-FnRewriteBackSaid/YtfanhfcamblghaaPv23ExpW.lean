/-
  The walk over impl.explored with the functions of RewriteBack: it numbers what a search in breadth meets.
  Conditions: the functions that are handed over answer as told, on the pairs that are met.
-/
import Derived.Test.YtfanhfcamblghaaPv08Dx
set_option maxHeartbeats 8000000
set_option maxRecDepth 100000
namespace Go.Proofs.Ytfanhfcamblghaa
open Go.RowKit Go.Maps
theorem ZeG (nx:Int × Int→Nat→Int × Int) (en:Int × Int→Bool) (Q:Int × Int→Prop) (most ba bb:Nat) (w:World) (h0:Q (0,0)) (hQ:∀ x c,c<3→Q x→Q (nx x c)) (hfit:∀ x,Q x→fitI x.1∧fitI x.2) (hm0:0<most) (hm1:most≤100000)
  (hN:∀ x c w',Q x→c<3→Below w.heap.size w w'→Calls Try.prog 70 #[.agg #[.int .i64 x.1,.int .i64 x.2],.int .i64 (c:Nat),.pointer (some ⟨ba,0,none⟩),.pointer (some ⟨bb,0,none⟩)] w' fun e w2=>e = .returned (.agg #[.int .i64 (nx x c).1,.int .i64 (nx x c).2])∧Below w'.heap.size w' w2)
  (hE:∀ x w',Q x→Below w.heap.size w w'→Calls Try.prog 72 #[.agg #[.int .i64 x.1,.int .i64 x.2],.pointer (some ⟨bb,0,none⟩),.pointer (some ⟨ba,0,none⟩)] w' fun e w2=>e = .returned (.bool (en x))∧Below w'.heap.size w' w2) :
  Calls Try.prog 69 #[pairZ,.int .i64 most,.func (.func 70) #[] #[.pointer (some ⟨ba,0,none⟩),.pointer (some ⟨bb,0,none⟩)],.func (.func 72) #[] #[.pointer (some ⟨bb,0,none⟩),.pointer (some ⟨ba,0,none⟩)]] w
   fun e w'=>RExp nx en most w.heap.size e w'∧Below w.heap.size w w':=by
 have hmm:=@run_makeMap Try.prog;obtain⟨l0,hl0⟩:=Try.keyOfPr (0,0) (by unfold fitI;simp) (by unfold fitI;simp);obtain⟨k0,hk,hkk0,hkk1,hkk2⟩:=info_parts Try.infoPr;obtain⟨i0,hi,hz0,hz1,hz2⟩:=info_parts Try.infoInt;obtain⟨j0,hj,hy0,hy1,hy2⟩:=info_parts Try.infoInts;obtain⟨b0,hbi0,hx0,hx1,hx2⟩:=info_parts Try.infoBool;have HM:MapL Try.prog 106 ZaD (((w.alloc (.cells #[.int .i64 0,.int .i64 0] 106)).alloc (.cells #[.slice none 0 0,.slice none 0 0] 45)).alloc (.map #[] 0)) (w.heap.size+1+1) ([]:List ((Int × Int) × Value)):=by simpa using MapL.made (P:=Try.prog) (kt:=106) (enc:=ZaD) ((w.alloc (.cells #[.int .i64 0,.int .i64 0] 106)).alloc (.cells #[.slice none 0 0,.slice none 0 0] 45))
 obtain⟨w1,hrun,hm1,hg1⟩:=HM.store Try.lawPr Za5 Try.underlying151 hl0 (.int .i64 0);simp only[ZaD] at hrun;have hs1:=hg1.size;simp only[World.size_alloc] at hs1;have hc0:w1.cell? ⟨w.heap.size,0,none⟩=some (.int .i64 0):=by rw[hg1.cell_far _ (by simp;omega) (by simp;omega)];exact(((Bx.new w _ _).alloc _).alloc _).cell 0
 have hc1:w1.cell? ⟨w.heap.size,1,none⟩=some (.int .i64 0):=by rw[hg1.cell_far _ (by simp;omega) (by simp;omega)];exact(((Bx.new w _ _).alloc _).alloc _).cell 1
 have Hm1:=qh hm1;have Hg1:=qh hg1;have HN:=qh hN;have HE:=qh hE;have HQ:=qh hQ;have Hfit:=qh hfit;have Hh0:=qh h0;replace hl0:=qh hl0;replace hk:=qh hk;have Hhkk0:=qh hkk0;clear hkk0;have Hhkk1:=qh hkk1;clear hkk1;have Hhkk2:=qh hkk2;clear hkk2;have Hhi:=qh hi;clear hi;have Hhz0:=qh hz0;clear hz0;have Hhz1:=qh hz1;clear hz1;have Hhz2:=qh hz2;clear hz2;have Hhj:=qh hj;clear hj;have Hhy0:=qh hy0;clear hy0;have Hhy1:=qh hy1;clear hy1;have Hhy2:=qh hy2;clear hy2;replace hbi0:=qh hbi0;have Hhx0:=qh hx0;clear hx0;have Hhx1:=qh hx1;clear hx1;have Hhx2:=qh hx2;clear hx2;clear HM hm1 hg1 hN hE hQ hfit h0
 go_enter Try.func69, Try.ntmps69
 go_wp2
 go_loopw [9,10,12,14] (fun r1 r2 vm i wr=>∃ k:Nat,i = .int .i64 k∧k≤(bat nx (0,0) k).met.length∧(bat nx (0,0) k).met.length≤most∧Below w.heap.size w wr∧∃ vn ve,ExW 106 2 ZaD Zah w.heap.size (w.heap.size+1) (w.heap.size+1+1) (w1.heap.size+1) wr.heap.size wr (bat nx (0,0) k).met (((bat nx (0,0) k).met.take k).map (Zab nx (bat nx (0,0) most).met)) (((bat nx (0,0) k).met.take k).map en) vm vn ve)
  (fun _ _ _ i _=>most+1-(intOf i).toNat)
 case atStart =>
  have hb1:Below w.heap.size w w1:=((((Below.refl _ _).alloc (Nat.le_refl _) _).alloc (by simp) _).alloc (by simp;omega) _).grown Hg1.out (by simp;omega) (fun k h=>by cases h;omega);have r1:Bx w1 (w.heap.size+1) #[.slice none 0 0,.slice none 0 0] 45:=by have:=((Bx.new (w.alloc (.cells #[.int .i64 0,.int .i64 0] 106)) #[.slice none 0 0,.slice none 0 0] 45).alloc (.map #[] 0));simp only[World.size_alloc] at this;exact(Hg1.out.block _ (by simp) (by simp)).trans this
  refine⟨0,rfl,Nat.zero_le _,hm0,(hb1.alloc (by omega) _).alloc (by simp;omega) _,.slice none 0 0,.slice none 0 0,⟨?_,?_,(r1.alloc _).alloc _,?_,⟨[],⟨⟨rfl,.inl ⟨rfl,rfl⟩⟩,fun k h=>by cases h⟩,fun i hi=>absurd hi (by simp),fun i j k _ hj=>absurd hj (by simp)⟩,⟨rfl,.inl ⟨rfl,rfl⟩⟩,by omega⟩⟩
  ·exact ZgX (cs:=[.int .i64 0,.int .i64 0]) (((Bx.new w1 _ _).alloc _)) rfl (by omega) (by unfold maxLen;omega)
  ·exact(Hm1.out.below ((Below.refl _ _).alloc (Nat.le_refl _) _)).below ((Below.refl _ _).alloc (Nat.le_refl _) _)
  have:=Bx.new (w1.alloc (.cells #[.int .i64 0,.int .i64 0] 106)) #[.slice none 0 0,.slice none 0 0] 45;simpa using this
 case round =>
  obtain⟨k,rfl,hk1,hk2,hb,vn,ve,hx⟩:=hrel;obtain⟨M,hM⟩:=eI ((bat nx (0,0) k).met);rw[← hM] at hx hk1 hk2;have hMp:0<M.length:=by rw[hM];exact Zdy k
  obtain⟨g,cap,rfl,hg0,hg1'⟩:=hx.m.form hMp;obtain⟨wo,hwo⟩:∃ wo:World,wo=wr:=⟨_,rfl⟩;subst hwo;clear hc0 hc1 hrun;by_cases hlt:k<M.length
  ·have HF:∀ n,n≤3→(bpart nx (0,0) k n).met <+: (bat nx (0,0) most).met:=fun n hn=>(Zax (by rw[← hM];exact hlt) hn (by omega)).1
   obtain⟨x,hxx⟩:=eI (M.getD k (0,0));have hQx:Q x:=by rw[hxx,hM];exact Zbu Hh0.out HQ.out k _ (Zcb (by rw[← hM];exact hlt))
   have Hhxx:=qh hxx;clear hxx;replace HF:=qh HF;have HhQx:=qh hQx;clear hQx;have HhM:=qh hM;clear hM;have Hhx:=qh hx;clear hx;have Hhb:=qh hb;clear hb;go_wp2_with (at_make;refine wpList_make_full _ rfl _ _ 26 rfl wo.heap.size 3 i0 (.int .i64 0) 1 Try.underlying26 Hhi.out Hhz0.out Hhz1.out .i64 .i64 _ _ 3 rfl rfl rfl rfl (by rw[Hhz2.out];omega) (by unfold maxLen;omega) (Nat.le_refl _) ?_;intro w2 hown hgrow);have hb2:Below wo.heap.size wo w2:=(Below.refl _ _).grown hgrow (Nat.le_refl _) (fun _ h=>by cases h);have hsw:=hb2.size;have hRw:wo.heap.size<w2.heap.size:=(hown.lt wo.heap.size rfl).2;have Hhb2:=qh hb2;clear hb2;have Hhown:=qh hown;clear hown;clear hgrow
   go_loopw [9,10,12,32] (fun r1 r2 vm i wi=>∃ n:Nat,i = .int .i64 n∧n≤3∧(bpart nx (0,0) k n).met.length≤most∧Below w.heap.size w wi∧wo.heap.size<wi.heap.size∧(∃ cs,wi.ownsRow wo.heap.size 3 1 (.slice (some ⟨wo.heap.size,0,none⟩) 3 3) 3 cs∧cs.take n=(intCells (Zab nx (bat nx (0,0) most).met x)).take n) ∧
     ExW 106 2 ZaD Zah w.heap.size (w.heap.size+1) (w.heap.size+1+1) (w1.heap.size+1) wo.heap.size wi (bpart nx (0,0) k n).met ((M.take k).map (Zab nx (bat nx (0,0) most).met)) ((M.take k).map en) vm vn ve)
    (fun _ _ _ i _=>3-(intOf i).toNat)
   case atStart=>exact⟨0,rfl,by omega,by rw[Zao,← HhM.out];exact hk2,Hhb.out.trans (Hhb2.out.mono Hhb.out.size),hRw,⟨_,Hhown.out,rfl⟩,by rw[Zao,← HhM.out];exact Hhx.out.below Hhb2.out⟩
   case round =>
    obtain⟨n,rfl,hn,hn2,hbi,hRi,⟨cs,hcs,htk⟩,hxi⟩:=hrel;have hMS:M <+: (bpart nx (0,0) k n).met:=by rw[HhM.out,← Zao];exact(Za1 (Nat.zero_le n)).1
    have hSl:M.length≤(bpart nx (0,0) k n).met.length:=hMS.length_le;by_cases hn3:n<3
    ·have hnd:(bpart nx (0,0) k n).met.Nodup:=(ZcJ (by rw[← HhM.out];exact hlt) hn).1;have hSF:=HF.out n hn;have hSF1:=HF.out (n+1) (by omega);have hold:nx x n∈(bpart nx (0,0) k n).met→bpart nx (0,0) k (n+1)=bpart nx (0,0) k n:=fun h=>ZbG (by rw[← HhM.out,← Hhxx.out];exact h)
     have hnew:nx x n ∉ (bpart nx (0,0) k n).met→(bpart nx (0,0) k (n+1)).met=(bpart nx (0,0) k n).met++[nx x n]:=fun h=>by rw[ZbH (by rw[← HhM.out,← Hhxx.out];exact h),← HhM.out,← Hhxx.out]
     have hQy:Q (nx x n):=HQ.out x n hn3 HhQx.out;obtain⟨hf1,hf2⟩:=Hfit.out _ hQy;have hNx:∀ w',Below w.heap.size w w'→_:=fun w' h=>HN.out x n w' HhQx.out hn3 h
     have hrowy:(intCells (Zab nx (bat nx (0,0) most).met x))[n]? = some (.int .i64 (Zad (bat nx (0,0) most).met (nx x n):Int)):=by simp[Zab,hn3]
     obtain⟨S,hS⟩:=eI ((bpart nx (0,0) k n).met);obtain⟨y,hy⟩:=eI (nx x n);obtain⟨F,hF⟩:=eI ((bat nx (0,0) most).met);rw[← hS] at hxi hMS hSl hnd hold hnew hSF hn2;rw[← hy] at hQy hf1 hf2 hNx hold hnew hrowy;rw[← hF] at hxi hSF hSF1 hrowy;have hSp:0<S.length:=by omega
     obtain⟨gi,capi,rfl,hgi0,hgi1⟩:=hxi.m.form hSp;have hxS:S.getD k (0,0)=x:=by rw[Hhxx.out];exact Zau hMS hlt _
     obtain⟨p1,p2⟩:=ZeS hxi.m (k:=k) (by omega);rw[hxS] at p1 p2;obtain⟨x1,x2⟩:=x;obtain⟨y1,y2⟩:=y;simp only at p1 p2 hf1 hf2 hNx;have hkS:(k:Int)<S.length:=by omega
     have HhS:=qh hS;clear hS;have Hhy:=qh hy;clear hy;have HhF:=qh hF;clear hF;have Hhnd:=qh hnd;clear hnd;have Hhold:=qh hold;clear hold;have Hhnew:=qh hnew;clear hnew;have HhSF:=qh hSF;clear hSF;have HhSF1:=qh hSF1;clear hSF1;have Hhrowy:=qh hrowy;clear hrowy;have Hhxi:=qh hxi;clear hxi;have Hhcs:=qh hcs;clear hcs;have Hhtk:=qh htk;clear htk;have Hhbi:=qh hbi;clear hbi;have HhNx:=qh hNx;clear hNx;have HhMS:=qh hMS;clear hMS;have HhQy:=qh hQy;clear hQy;have Hhf1:=qh hf1;clear hf1;have Hhf2:=qh hf2;clear hf2;clear hxS;go_wp2_with fail;refine(HhNx.out _ Hhbi.out).mono ?_;rintro e w3 ⟨rfl,hb3⟩;have hbw3:Below w.heap.size w w3:=Hhbi.out.trans (hb3.mono Hhbi.out.size);have hbw4:=hbw3.alloc hbw3.size (.cells #[.int .i64 y1,.int .i64 y2] 106);have hx3:=(Hhxi.out.below hb3).below ((Below.refl _ _).alloc (Nat.le_refl _) (.cells #[.int .i64 y1,.int .i64 y2] 106));have hr3:=(Own.below (Own.below (Zaa Hhcs.out) hb3) ((Below.refl _ _).alloc (Nat.le_refl _) (.cells #[.int .i64 y1,.int .i64 y2] 106))).1;have hs3:=hb3.size;obtain⟨ly,hly⟩:=Try.keyOfPr (y1,y2) Hhf1.out Hhf2.out;by_cases hmem:(y1,y2)∈S
     ·have hlk1:=hx3.n.lookupOk Try.lawPr Za5 Try.underlying151 (Zfe _) hly;have hlk2:=hx3.n.lookup Try.lawPr Za5 Try.underlying151 (Zfe _) hly;have hpl:Zad S (y1,y2)=Zad F (y1,y2):=(ZaU HhSF.out hmem).symm;rw[Zbz Hhnd.out hmem,hpl] at hlk1 hlk2;simp only[w_8,Option.isSome_some,ZaD] at hlk1 hlk2;obtain⟨q,hq⟩:=eI (Zad F (y1,y2));rw[← hq] at hlk1 hlk2;obtain⟨u0,hu0⟩:=Zc1 hr3 n (by omega);have hfr:=hr3.frozenAt n;have Hhq:=qh hq;clear hq;have Hhpl:=qh hpl;clear hpl;have Hhr3:=qh hr3;clear hr3;have Hhx3:=qh hx3;clear hx3;have Hhbw3:=qh hbw3;clear hbw3;have Hhbw4:=qh hbw4;clear hbw4;have Hhb3:=qh hb3;clear hb3;have Hhly:=qh hly;clear hly;have Hhmem:=qh hmem;clear hmem;go_wp2;go_roundw
      case rel =>
       have hbo:=Hhold.out Hhmem.out;refine⟨n+1,by go_num,by omega,?_,Hhbw4.out.setCell (by have:=Hhb.out.size;omega) _,by simp only[Za7,World.size_alloc];omega,⟨_,(Hhr3.out.stored n _).1,?_⟩,?_⟩
       ·rw[hbo,← HhS.out];exact hn2
       ·rw[← HhF.out];exact Zdh (n:=3) Hhcs.out.1 (by simp[Zab]) hn3 (by rw[HhF.out];exact Hhtk.out) (by rw[Hhrowy.out,← Hhq.out])
       rw[hbo,← HhS.out,← HhF.out];exact Hhx3.out.setRow ZeT (Nat.le_refl _) Hhr3.out n _
      case measure=>simp[intOf];omega
     have hlk1:=hx3.n.lookupOk Try.lawPr Za5 Try.underlying151 (Zfe _) hly;rw[Zco hmem] at hlk1;simp only[Option.getD_none,Option.isSome_none,ZaD] at hlk1;have hnw:=Hhnew.out hmem;by_cases hfull:S.length=most
     ·have hq1:((S.length:Int)==(most:Int))=true:=by rw[hfull];simp
      have hq2:(S.length:Int)=(most:Int):=by rw[hfull]
      have r0:=hx3.r.cell 0;have r1:=hx3.r.cell 1;have f0:=hx3.r.fr 0;have f1:=hx3.r.fr 1;simp only[w_5,w_6,w_7] at r0 r1;have hbad:¬ (bat nx (0,0) most).met.length≤most:=by have h1:=HhSF1.out.length_le;rw[hnw] at h1;simp only[List.length_append,List.length_singleton] at h1;rw[← HhF.out];omega
      have Hhr3:=qh hr3;clear hr3;have Hhx3:=qh hx3;clear hx3;have Hhbw3:=qh hbw3;clear hbw3;have Hhbw4:=qh hbw4;clear hbw4;have Hhb3:=qh hb3;clear hb3;have Hhly:=qh hly;clear hly;have Hhmem:=qh hmem;clear hmem;have Hhnw:=qh hnw;clear hnw;have Hhfull:=qh hfull;clear hfull;have Hhbad:=qh hbad;clear hbad;go_wp2;have z:=(Hhx3.out.r.set 0 (.slice none 0 0)).set 1 (.slice none 0 0);have z0:=z.cell 0;have z1:=z.cell 1;simp only[w_5,w_6,w_7,w_1,w_2,w_3] at z0 z1;refine bodyPost_ret (v:=.tuple #[.agg #[.slice none 0 0,.slice none 0 0],.slice none 0 0,.bool false]) (by simp[results,Try.results69,go_sem,z0,z1]) rfl ⟨?_,?_⟩
      ·unfold RExp;rw[if_neg Hhbad.out]
      exact(Hhbw4.out.setCell (by simp) _).setCell (by simp) _
     have hq1:((S.length:Int)==(most:Int))=false:=by simp;omega
     have hq2:¬ (S.length:Int)=(most:Int):=by omega
     obtain⟨w5,hrun5,hm5,hg5⟩:=hx3.n.store Try.lawPr Za5 Try.underlying151 hly (.int .i64 (S.length:Int));rw[ZcN hmem] at hm5;simp only[ZaD] at hrun5;have hs5:=hg5.size;simp only[World.size_alloc] at hs5;have hB2:=Hhxi.out.n.lt;have hbb:=Hhb.out.size;have c0:w5.cell? ⟨w3.heap.size,0,none⟩=some (.int .i64 y1):=by rw[hg5.cell_far _ (by simp) (by simp;omega)];exact(Bx.new w3 _ _).cell 0
     have c1:w5.cell? ⟨w3.heap.size,1,none⟩=some (.int .i64 y2):=by rw[hg5.cell_far _ (by simp) (by simp;omega)];exact(Bx.new w3 _ _).cell 1
     have hal:=(Below.refl w5.heap.size w5).alloc (Nat.le_refl _) (.cells #[.int .i64 y1,.int .i64 y2] 106);have hown6:=(Own.below (Zaa (Zae hx3.m hg5 hx3.n.apart)) hal).1;have hbw5:Below w.heap.size w w5:=hbw4.grown hg5 (by simp;omega) (fun j h=>by cases h;omega)
     have hA:∀ g7 cap7 w7,w7.ownsRow w.heap.size 106 2 (.slice (some ⟨g7,0,none⟩) (S.length+1) cap7) (S.length+1) (S.flatMap Zah++[.int .i64 y1,.int .i64 y2])→(w5.alloc (.cells #[.int .i64 y1,.int .i64 y2] 106)).grownBy w7 (some gi) →
       ExW 106 2 ZaD Zah w.heap.size (w.heap.size+1) (w.heap.size+1+1) (w1.heap.size+1) wo.heap.size w7 (S++[(y1,y2)]) ((M.take k).map (Zab nx F)) ((M.take k).map en) (.slice (some ⟨g7,0,none⟩) (S.length+1) cap7) vn ve ∧
       (Instr.lookup 151 (.map (some (w.heap.size+1+1))) (.agg #[.int .i64 y1,.int .i64 y2]) false).run Try.prog w7 = .ok (.int .i64 (Zad F (y1,y2):Int)) w7 ∧
       w7.ownsRow wo.heap.size 3 1 (.slice (some ⟨wo.heap.size,0,none⟩) 3 3) 3 cs∧w7.cell? ⟨w3.heap.size,0,none⟩=some (.int .i64 y1)∧w7.cell? ⟨w3.heap.size,1,none⟩=some (.int .i64 y2)∧Below w.heap.size w w7∧w5.heap.size≤w7.heap.size:=by
      intro g7 cap7 w7 hown7 hgrow7;have hx7:=hx3.newState ZeT hm5 hg5 hal hown7 hgrow7;have hs7:=hgrow7.size;simp only[World.size_alloc] at hs7;have hlk7:=hx7.n.lookup Try.lawPr Za5 Try.underlying151 (Zfe _) hly;have hpl:Zad (S++[(y1,y2)]) (y1,y2)=Zad F (y1,y2):=(ZaU (by rw[← hnw];exact HhSF1.out) (by simp)).symm;rw[Zbz (ZcE Hhnd.out hmem) (by simp),hpl] at hlk7;refine⟨hx7,hlk7,Zj4 (vm:=.slice (some ⟨gi,0,none⟩) S.length capi) hr3 ZeT.1 hown6 hx3.n.apart hg5 hal hgrow7,?_,?_,(hbw5.alloc (by omega) _).grown hgrow7 (by simp;omega) (fun j h=>by cases h;exact hgi0),by omega⟩
      ·rw[hgrow7.cell_far _ (by simp;omega) (by simp;omega),Zb4 _ _ _ _ (by omega)];exact c0
      rw[hgrow7.cell_far _ (by simp;omega) (by simp;omega),Zb4 _ _ _ _ (by omega)];exact c1
     obtain⟨q,hq⟩:=eI (Zad F (y1,y2));rw[← hq] at hA;have hle5:w.heap.size≤(w5.alloc (.cells #[.int .i64 y1,.int .i64 y2] 106)).heap.size:=by simp;omega
     have hsb:(S.length+1)*16≤140737488355328:=by omega
     have hs63:S.length+1≤maxLen:=by unfold maxLen;omega
     have Hhq:=qh hq;clear hq;have HhA:=qh hA;clear hA;have Hhown6:=qh hown6;clear hown6;have Hhal:=qh hal;clear hal;have Hhm5:=qh hm5;clear hm5;have Hhg5:=qh hg5;clear hg5;have Hhbw5:=qh hbw5;clear hbw5;have Hhr3:=qh hr3;clear hr3;have Hhx3:=qh hx3;clear hx3;have Hhbw3:=qh hbw3;clear hbw3;have Hhbw4:=qh hbw4;clear hbw4;have Hhb3:=qh hb3;clear hb3;have Hhly:=qh hly;clear hly;have Hhmem:=qh hmem;clear hmem;have Hhnw:=qh hnw;clear hnw;go_wp2_with (at_builtin;refine wpList_append_lies _ rfl _ _ _ rfl w.heap.size 106 k0 (.agg #[.int .i64 0,.int .i64 0]) 2 16 Try.underlying102 hk.out Hhkk0.out Hhkk1.out Hhkk2.out rfl (by omega) _ S.length _ rfl Hhown6.out ⟨w5.heap.size,0,none⟩ 1 1 [.int .i64 y1,.int .i64 y2] rfl rfl (World.news_of_block (heap_alloc_new w5 _)) (by intro u hu;simp at hu;rcases hu with rfl|rfl<;>rfl) (by omega) hs63 hsb hle5 (w5.heap.size+1) (by simp) ?_;intro g7 cap7 w7 hown7 hgrow7 hat7 hlt7;obtain⟨hx7,hlk7,hr7,d0,d1,hbw7,hs7⟩:=HhA.out g7 cap7 w7 hown7 hgrow7;obtain⟨u0,hu0⟩:=Zc1 hr7 n (by omega);have hfr7:=hr7.frozenAt n;have Hx7:=qh hx7;have Hr7:=qh hr7;have Hbw7:=qh hbw7;clear hx7 hr7 hbw7 hown7 hgrow7 hat7);go_roundw
     case rel =>
      refine⟨n+1,by go_num,by omega,?_,Hbw7.out.setCell (by omega) _,by simp only[Za7];omega,⟨_,(Hr7.out.stored n _).1,?_⟩,?_⟩
      ·rw[Hhnw.out,List.length_append,List.length_singleton];omega
      ·rw[← HhF.out];exact Zdh (n:=3) Hhcs.out.1 (by simp[Zab]) hn3 (by rw[HhF.out];exact Hhtk.out) (by rw[Hhrowy.out,← Hhq.out])
      rw[Hhnw.out,← HhF.out];exact Hx7.out.setRow ZeT (Nat.le_refl _) Hr7.out n _
     case measure=>simp[intOf];omega
    obtain rfl:n=3:=by omega
    have hbs:bat nx (0,0) (k+1)=bpart nx (0,0) k 3:=Za2 (by rw[← HhM.out];exact hlt);have hSp:0<(bpart nx (0,0) k 3).met.length:=by omega
    have hxS:(bpart nx (0,0) k 3).met.getD k (0,0)=x:=by rw[Hhxx.out];exact Zau hMS hlt _
    have htake:(bpart nx (0,0) k 3).met.take (k+1)=M.take k++[x]:=by obtain⟨t,ht⟩:=hMS;rw[← ht,List.take_append_of_le_length (by omega),List.take_succ_eq_append_getElem hlt,Hhxx.out];simp[hlt]
    obtain⟨S,hS⟩:=eI ((bpart nx (0,0) k 3).met);obtain⟨F,hF⟩:=eI ((bat nx (0,0) most).met);obtain⟨rows,hrows⟩:=eI ((M.take k).map (Zab nx F));obtain⟨ends,hends⟩:=eI ((M.take k).map en);rw[← hF] at hxi htk;rw[← hrows,← hends,← hS] at hxi;rw[← hS] at hxS htake hSp hn2 hSl;have hrl:rows.length=k:=by rw[hrows];simp;omega
    have hel:ends.length=k:=by rw[hends];simp;omega
    obtain⟨gi,capi,rfl,hgi0,hgi1⟩:=hxi.m.form hSp;obtain⟨p1,p2⟩:=ZeS hxi.m (k:=k) (by omega);rw[hxS] at p1 p2;have hnl:(Zab nx F x).length=3:=by simp[Zab]
    have hce:cs=intCells (Zab nx F x):=by
     have:=hcs.1
     rwa [List.take_of_length_le (by omega),List.take_of_length_le (by simp[hnl])] at htk
    subst hce;have hal:=(Below.refl wr.heap.size wr).alloc (Nat.le_refl _) (.cells #[.slice (some ⟨wo.heap.size,0,none⟩) 3 3] 26);have hxr:=hxi.below hal;have hrow2:OInts 3 wo.heap.size (wr.alloc (.cells #[.slice (some ⟨wo.heap.size,0,none⟩) 3 3] 26)).heap.size (wr.alloc (.cells #[.slice (some ⟨wo.heap.size,0,none⟩) 3 3] 26)) (.slice (some ⟨wo.heap.size,0,none⟩) 3 3) (Zab nx F x):=by unfold OInts;rw[hnl];exact Zaa (Own.below (Zaa hcs) hal).1
    obtain⟨vs,hv1,hv2,hv3⟩:=hxr.nx;have hbb:=Hhb.out.size;have hB4:=hxi.d.lt;have hgB:gi≠w1.heap.size+1:=by obtain⟨cu,hcu⟩:=Za6 (k:=gi) hxi.m rfl;intro h;have h2:=hxi.d;unfold Bx at h2;rw[h,h2] at hcu;simp at hcu
    have hgv:some gi≠vn.ownBlock:=fun h=>by obtain⟨cu,hcu⟩:=Za6 (k:=gi) hxr.m rfl;exact Zaj (e':=106) hv1.1 (by decide) gi h.symm _ _ hcu
    have hbw2:Below w.heap.size w (wr.alloc (.cells #[.slice (some ⟨wo.heap.size,0,none⟩) 3 3] 26)):=hbi.alloc hbi.size _
    have hA:∀ g3 c3 w3,w3.ownsRow w.heap.size 26 1 (.slice (some ⟨g3,0,none⟩) (rows.length+1) c3) (rows.length+1) (vs++[.slice (some ⟨wo.heap.size,0,none⟩) 3 3])→(wr.alloc (.cells #[.slice (some ⟨wo.heap.size,0,none⟩) 3 3] 26)).grownBy w3 vn.ownBlock →
      ExW 106 2 ZaD Zah w.heap.size (w.heap.size+1) (w.heap.size+1+1) (w1.heap.size+1) w3.heap.size (w3.setCell ⟨w1.heap.size+1,0,none⟩ (.slice (some ⟨g3,0,none⟩) (rows.length+1) c3)) S (rows++[Zab nx F x]) ends (.slice (some ⟨gi,0,none⟩) S.length capi) (.slice (some ⟨g3,0,none⟩) (rows.length+1) c3) ve ∧
      (∃ u,w3.cell? ⟨w1.heap.size+1,0,none⟩=some u)∧w3.frozen? ⟨w1.heap.size+1,0,none⟩=false∧w3.cell? ⟨gi,k*2,none⟩=some (.int .i64 x.1)∧w3.cell? ⟨gi,k*2+1,none⟩=some (.int .i64 x.2)∧w3.cell? ⟨w1.heap.size+1,1,none⟩=some ve ∧
      Below w.heap.size w w3∧wr.heap.size≤w3.heap.size:=by
     intro g3 c3 w3 hown3 hgrow3;have hs3:=hgrow3.size;simp only[World.size_alloc] at hs3;have d3:Bx w3 (w1.heap.size+1) #[vn,ve] 45:=hxr.d.grown hgrow3 (Zaj hv1.1 (by decide));refine⟨hxr.addRow ZeT hv1 hv2 hv3 hrow2 (Nat.le_refl _) (by omega) hgrow3 hown3,⟨_,d3.cell 0⟩,d3.fr 0,?_,?_,d3.cell 1,hbw2.grown hgrow3 (by simp;omega) (fun j h=>(hv1.1.lt j h).1),by omega⟩
     ·rw[hgrow3.cell_far _ (by simp;omega) hgv,Zb4 _ _ _ _ hgi1];exact p1
     rw[hgrow3.cell_far _ (by simp;omega) hgv,Zb4 _ _ _ _ hgi1];exact p2
    have hown2:=hv1.1;have e0:=hxi.d.cell 0;have e1:=hxi.d.cell 1;simp only[w_5,w_6,w_7] at e0 e1;obtain⟨x1,x2⟩:=x;simp only at p1 p2 hA;have hsb:(rows.length+1)*24≤140737488355328:=by omega
    have hs63:rows.length+1≤maxLen:=by unfold maxLen;omega
    have hle2:w.heap.size≤(wr.alloc (.cells #[.slice (some ⟨wo.heap.size,0,none⟩) 3 3] 26)).heap.size:=by simp;omega
    have hHi:gi<wr.heap.size:=hgi1;have hkS:(k:Int)<S.length:=by omega
    have HhS:=qh hS;clear hS;have HhF:=qh hF;clear hF;have Hhrows:=qh hrows;clear hrows;have Hhends:=qh hends;clear hends;have Hhxi:=qh hxi;clear hxi;have Hhcs:=qh hcs;clear hcs;have Hhtk:=qh htk;clear htk;have Hhbi:=qh hbi;clear hbi;have HhMS:=qh hMS;clear hMS;have Hhbs:=qh hbs;clear hbs;have Hhtake:=qh htake;clear htake;have Hhal:=qh hal;clear hal;have Hhxr:=qh hxr;clear hxr;have Hhrow2:=qh hrow2;clear hrow2;have Hhv1:=qh hv1;clear hv1;have Hhv2:=qh hv2;clear hv2;have Hhv3:=qh hv3;clear hv3;have Hhgv:=qh hgv;clear hgv;have HhA:=qh hA;clear hA;have Hhown2:=qh hown2;clear hown2;have Hhbw2:=qh hbw2;clear hbw2;have Hhrl:=qh hrl;clear hrl;have Hhel:=qh hel;clear hel;have Hhnl:=qh hnl;clear hnl;clear hxS p1 p2;go_wp2_with (at_builtin;refine wpList_append_lies _ rfl _ _ _ rfl w.heap.size 26 j0 (.slice none 0 0) 1 24 Try.underlying42 Hhj.out Hhy0.out Hhy1.out Hhy2.out rfl (by omega) _ rows.length _ rfl Hhown2.out ⟨wr.heap.size,0,none⟩ 1 1 [.slice (some ⟨wo.heap.size,0,none⟩) 3 3] rfl rfl (World.news_of_block (heap_alloc_new wr _)) (by intro u hu;simp at hu;subst hu;rfl) (by omega) hs63 hsb hle2 (wr.heap.size+1) (by simp) ?_;intro g3 c3 w3 hown3 hgrow3 hat3 hlt3;obtain⟨hx3,⟨u0,hu0⟩,hfr0,p1,p2,ce3,hbw3,hs3⟩:=HhA.out g3 c3 w3 hown3 hgrow3;have Hx3:=qh hx3;have Hbw3:=qh hbw3;clear hx3 hbw3 hown3 hgrow3 hat3);obtain⟨w4,hw4⟩:=eI (w3.setCell ⟨w1.heap.size+1,0,none⟩ (.slice (some ⟨g3,0,none⟩) (rows.length+1) c3))
    have hs4:w4.heap.size=w3.heap.size:=by rw[hw4];exact Za7 _ _ _
    have hb4:Below w.heap.size w w4:=by rw[hw4];exact Hbw3.out.setCell (by simp;omega) _
    rw[← hw4];rw[← hw4] at Hx3;have q1:w4.cell? ⟨gi,k*2,none⟩=some (.int .i64 x1):=by rw[hw4,(ZaS w3 (w1.heap.size+1) 0 _).cell_far _ (by simp;omega) (by simp;exact hgB)];exact p1
    have q2:w4.cell? ⟨gi,k*2+1,none⟩=some (.int .i64 x2):=by rw[hw4,(ZaS w3 (w1.heap.size+1) 0 _).cell_far _ (by simp;omega) (by simp;exact hgB)];exact p2
    have ce4:=Hx3.out.d.cell 1;simp only[w_5,w_6,w_7] at ce4;have hB44:w1.heap.size+1<w4.heap.size:=by omega
    have hg44:gi<w4.heap.size:=by omega
    have hk4:∀ w',Below w4.drew.heap.size w4.drew w'→w'.cell? ⟨gi,k*2,none⟩=some (.int .i64 x1)∧w'.cell? ⟨gi,k*2+1,none⟩=some (.int .i64 x2):=fun w' h=>⟨(bcell h _ _ hg44).trans q1,(bcell h _ _ hg44).trans q2⟩
    have hEx:∀ w',Below w4.drew.heap.size w4.drew w'→ExW 106 2 ZaD Zah w.heap.size (w.heap.size+1) (w.heap.size+1+1) (w1.heap.size+1) w3.heap.size w' S (rows++[Zab nx F (x1,x2)]) ends (.slice (some ⟨gi,0,none⟩) S.length capi) (.slice (some ⟨g3,0,none⟩) (rows.length+1) c3) ve:=fun w' h=>(Hx3.out.below (Below.refl _ _).drew).below h
    have hge:some gi≠ve.ownBlock:=fun h=>by obtain⟨cu,hcu⟩:=Za6 (k:=gi) Hx3.out.m rfl;exact Zaj (e':=106) Hx3.out.en (by decide) gi h.symm _ _ hcu
    have hel1:ends.length+1≤maxLen:=by have:=Hhel.out;unfold maxLen;omega
    have hel2:(ends.length+1)*1≤140737488355328:=by have:=Hhel.out;omega
    have hlw4:w.heap.size≤w4.heap.size:=hb4.size;have hbd:Below w.heap.size w w4.drew:=hb4.drew
    have hC:∀ w6,Below w4.drew.heap.size w4.drew w6→∀ g7 c7 w7,w7.ownsRow w.heap.size 4 1 (.slice (some ⟨g7,0,none⟩) (ends.length+1) c7) (ends.length+1) (boolCells ends++[.bool (en (x1,x2))])→(w6.alloc (.cells #[.bool (en (x1,x2))] 4)).grownBy w7 ve.ownBlock →
      w7.cell? ⟨w1.heap.size+1,1,none⟩=some ve∧w7.frozen? ⟨w1.heap.size+1,1,none⟩=false∧(w7.cell? ⟨gi,k*2,none⟩=some (.int .i64 x1)∧w7.cell? ⟨gi,k*2+1,none⟩=some (.int .i64 x2)) ∧
      (∀ u,(w7.setCell ⟨w1.heap.size+1,1,none⟩ u).cell? ⟨gi,k*2,none⟩=some (.int .i64 x1)∧(w7.setCell ⟨w1.heap.size+1,1,none⟩ u).cell? ⟨gi,k*2+1,none⟩=some (.int .i64 x2))∧Below w.heap.size w w7 ∧
      ExW 106 2 ZaD Zah w.heap.size (w.heap.size+1) (w.heap.size+1+1) (w1.heap.size+1) w3.heap.size (w7.setCell ⟨w1.heap.size+1,1,none⟩ (.slice (some ⟨g7,0,none⟩) (ends.length+1) c7)) S (rows++[Zab nx F (x1,x2)]) (ends++[en (x1,x2)]) (.slice (some ⟨gi,0,none⟩) S.length capi) (.slice (some ⟨g3,0,none⟩) (rows.length+1) c3) (.slice (some ⟨g7,0,none⟩) (ends.length+1) c7)∧w3.heap.size≤w7.heap.size:=by
     intro w6 hb6 g7 c7 w7 hown7 hgrow7;have hs6:w4.heap.size≤w6.heap.size:=hb6.size;have hE6:=hEx _ (hb6.alloc hb6.size (.cells #[.bool (en (x1,x2))] 4));have d7:=hE6.d.grown hgrow7 (Zaj hE6.en (by decide));have hs7:=hgrow7.size;simp only[World.size_alloc] at hs7;have k6:=hk4 _ (hb6.alloc hb6.size (.cells #[.bool (en (x1,x2))] 4))
     have k7:w7.cell? ⟨gi,k*2,none⟩=some (.int .i64 x1)∧w7.cell? ⟨gi,k*2+1,none⟩=some (.int .i64 x2) :=
      ⟨(hgrow7.cell_far ⟨gi,k*2,none⟩ (by simp only[World.size_alloc];omega) hge).trans k6.1,(hgrow7.cell_far ⟨gi,k*2+1,none⟩ (by simp only[World.size_alloc];omega) hge).trans k6.2⟩
     refine⟨d7.cell 1,d7.fr 1,k7,fun u=>Zle (B:=w1.heap.size+1) (j:=1) hgB k7 (u:=u),?_,hE6.addEnd ZeT hgrow7 hown7,by omega⟩;exact((hbd.trans (hb6.mono hlw4)).alloc (by omega) _).grown hgrow7 (by simp only[World.size_alloc];omega) (fun j h=>(hE6.en.lt j h).1)
    have HhC:=qh hC;clear hC;have Hhk4:=qh hk4;clear hk4;have HhEx:=qh hEx;clear hEx;have Hhge:=qh hge;clear hge;have Hhb4:=qh hb4;clear hb4;have Hhbd:=qh hbd;clear hbd;have Hhw4:=qh hw4;clear hw4;clear hu0 hfr0 p1 p2 ce3
    go_region_law (first
      | (go_simp;go_at_call 72;refine(HE.out (x1,x2) _ HhQx.out Hhbd.out).mono ?_;rintro e w6 ⟨rfl,hb6⟩;have ce6:=(bcell hb6 _ _ hB44).trans ce4;have hs6:w4.heap.size≤w6.heap.size:=hb6.size;have ce6':=fun o=>(Zb4 w6 o (w1.heap.size+1) 1 (Nat.lt_of_lt_of_le hB44 hs6)).trans ce6)
      | (refine step_append_lies _ (by rfl) _ _ _ (by rfl) w.heap.size 4 b0 (.bool false) 1 1 Try.underlying43 hbi0.out Hhx0.out Hhx1.out Hhx2.out (by rfl) (by omega) ve ends.length (boolCells ends) (by rfl) (HhEx.out _ (hb6.alloc hb6.size _)).en ⟨w6.heap.size,0,none⟩ 1 1 [.bool (en (x1,x2))] (by rfl) (by rfl) (World.news_of_block (heap_alloc_new w6 _)) (by intro u hu;simp at hu;subst hu;rfl) (by omega) hel1 hel2 (by simp;omega) (w6.heap.size+1) (by simp) ?_;intro g7 c7 w7 hown7 hgrow7 hat7 hlt7;obtain⟨cst,cfr,k7,k8,hb7,hx8,hs7⟩:=HhC.out w6 hb6 g7 c7 w7 hown7 hgrow7;have Hb7:=qh hb7;have Hx8:=qh hx8;have Hk8:=qh k8;clear hb7 hx8 k8 hown7 hgrow7 hat7))
    all_goals
     go_wp2;go_roundw
     case rel =>
      have hrw:(S.take (k+1)).map (Zab nx F)=rows++[Zab nx F (x1,x2)]:=by rw[Hhtake.out,List.map_append,← Hhrows.out];rfl
      have hew:(S.take (k+1)).map en=ends++[en (x1,x2)]:=by rw[Hhtake.out,List.map_append,← Hhends.out];rfl
      have hup:=Hx8.out.up (hi':=(w7.setCell ⟨w1.heap.size+1,1,none⟩ (.slice (some ⟨g7,0,none⟩) (ends.length+1) c7)).heap.size) (by rw[Za7];exact hs7);refine⟨k+1,by go_num,by rw[Hhbs.out,← HhS.out];omega,by rw[Hhbs.out,← HhS.out];exact hn2,?_,.slice (some ⟨g3,0,none⟩) (rows.length+1) c3,.slice (some ⟨g7,0,none⟩) (ends.length+1) c7,?_⟩
      ·first
        | exact Hb7.out.setCell (by simp;omega) _
        | exact(Hb7.out.setCell (by simp;omega) _).drew
      rw[Hhbs.out,← HhS.out,← HhF.out,hrw,hew]
      first
       | exact hup
       | exact hup.below (Below.refl _ _).drew
     case measure=>simp[intOf];omega
  have hkM:k=M.length:=by omega
  have hMF:(bat nx (0,0) most).met=M:=by rw[hM];rw[Zbn (k:=k) (m:=most) (by rw[← hM];omega) (by omega)]
  have htk:M.take k=M:=List.take_of_length_le (by omega);rw[htk,hMF] at hx;obtain⟨vs,hv1,hv2,hv3⟩:=hx.nx;obtain⟨gn,cn,rfl,-,-⟩:=hv1.1.form (by simp;omega);obtain⟨ge,ce,rfl,-,-⟩:=hx.en.form (by simp;omega);have r0:=hx.r.cell 0;have r1:=hx.r.cell 1;have f0:=hx.r.fr 0;have f1:=hx.r.fr 1;have d0:=hx.d.cell 0;have d1:=hx.d.cell 1;simp only[w_5,w_6,w_7,List.length_map] at r0 r1 d0 d1;have hMl:=hk2;have hnx:OIntSS 26 3 w.heap.size wo.heap.size wo (.slice (some ⟨gn,0,none⟩) (M.map (Zab nx M)).length cn) (M.map (Zab nx M)):=⟨vs,hv1,hv2,hv3⟩;have Hhnx:=qh hnx;clear hnx;have Hhx:=qh hx;clear hx;have Hhb:=qh hb;clear hb;have HhM:=qh hM;clear hM;have HhMF:=qh hMF;clear hMF;have Hhtk:=qh htk;clear htk;clear hv1 hv2 hv3;go_wp2;have g1:=ZaS wo (w.heap.size+1) 0 (.slice (some ⟨gn,0,none⟩) M.length cn);have b1:=Hhx.out.r.set 0 (.slice (some ⟨gn,0,none⟩) M.length cn);have g2:=ZaS (wo.setCell ⟨w.heap.size+1,0,none⟩ (.slice (some ⟨gn,0,none⟩) M.length cn)) (w.heap.size+1) 1 (.slice (some ⟨ge,0,none⟩) M.length ce);have b2:=b1.set 1 (.slice (some ⟨ge,0,none⟩) M.length ce);have z0:=b2.cell 0;have z1:=b2.cell 1;simp only[w_5,w_6,w_7,w_1,w_2,w_3] at z0 z1;refine bodyPost_ret (v:=.tuple #[.agg #[.slice (some ⟨gn,0,none⟩) M.length cn,.slice (some ⟨ge,0,none⟩) M.length ce],.slice (some ⟨g,0,none⟩) M.length cap,.bool true]) (by simp[results,Try.results69,go_sem,z0,z1]) rfl ⟨?_,?_⟩
  ·unfold RExp;rw[HhMF.out,if_pos hk2];have ha:∀ e,45 ≠ e→ZbI wo (some (w.heap.size+1)) e:=fun e he=>Hhx.out.r.apart he
   have ha2:∀ e,45 ≠ e→ZbI (wo.setCell ⟨w.heap.size+1,0,none⟩ (.slice (some ⟨gn,0,none⟩) M.length cn)) (some (w.heap.size+1)) e:=fun e he=>b1.apart he
   have hnx':=Hhnx.out;simp only[List.length_map] at hnx';have hen':=Hhx.out.en;simp only[List.length_map] at hen';refine⟨_,_,_,_,_,_,rfl,⟨_,_,rfl,?_,?_⟩,?_⟩
   ·exact((hnx'.grown g1 (ha _ (by decide)) (ha _ (by decide))).grown g2 (ha2 _ (by decide)) (ha2 _ (by decide))).mono (Nat.le_refl _) (by simp)
   ·unfold OBools Zaz;simp only[List.length_map];exact Zaa (Zae (Zae hen' g1 (ha _ (by decide))) g2 (ha2 _ (by decide)))
   exact Zaa (Zae (Zae Hhx.out.m g1 (ha _ (by decide))) g2 (ha2 _ (by decide)))
  exact(Hhb.out.setCell (by simp) _).setCell (by simp) _
end Go.Proofs.Ytfanhfcamblghaa
