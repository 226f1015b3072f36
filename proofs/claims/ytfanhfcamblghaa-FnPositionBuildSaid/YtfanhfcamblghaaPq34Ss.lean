/-
  The walk over the program's exploration of states that are integers, where all that is met has room.
  Conditions: a bound on the number of states met; contracts for the two functions that are handed in.
-/
import Derived.Test.YtfanhfcamblghaaPq33Me
set_option maxHeartbeats 8000000
set_option maxRecDepth 100000
namespace Go.Proofs.Ytfanhfcamblghaa
open Go.RowKit Go.Maps
theorem ZgQ (a0:Int) (bc bd:Nat) (nx:Int→Nat→Int) (en:Int→Bool) (Q:Int→Prop) (most:Nat) (w:World) (h0:Q a0) (hQ:∀ x c,c<3→Q x→Q (nx x c)) (hfit:∀ x,Q x→fitI x) (hm0:0<most) (hm1:most≤100000) (hroom:(bat nx a0 most).met.length≤most)
  (hN:∀ x c w',Q x→c<3→Below w.heap.size w w'→Calls Try.prog 111 #[.int .i64 x,.int .i64 (c:Nat),.pointer (some ⟨bc,0,none⟩),.pointer (some ⟨bd,0,none⟩)] w' fun e w2=>e = .returned (.int .i64 (nx x c))∧Below w'.heap.size w' w2)
  (hE:∀ x w',Q x→Below w.heap.size w w'→Calls Try.prog 112 #[.int .i64 x,.pointer (some ⟨bd,0,none⟩)] w' fun e w2=>e = .returned (.bool (en x))∧Below w'.heap.size w' w2) :
  Calls Try.prog 110 #[.int .i64 a0,.int .i64 most,.func (.func 111) #[] #[.pointer (some ⟨bc,0,none⟩),.pointer (some ⟨bd,0,none⟩)],.func (.func 112) #[] #[.pointer (some ⟨bd,0,none⟩)]] w
   fun e w'=>∃ a1 c1 a2 c2 a3 c3 vs,e = .returned (.tuple #[.agg #[.slice a1 (bat nx a0 most).met.length c1,.slice a2 (bat nx a0 most).met.length c2],.slice a3 (bat nx a0 most).met.length c3,.bool true]) ∧
    St w w' [Ent.rows 26 3 (.slice a1 (bat nx a0 most).met.length c1) vs (((bat nx a0 most).met.map (Zav nx (bat nx a0 most).met)).map intCells),Ent.row 4 1 (.slice a2 (bat nx a0 most).met.length c2) (bat nx a0 most).met.length (boolCells ((bat nx a0 most).met.map en)),
     Ent.row 3 1 (.slice a3 (bat nx a0 most).met.length c3) (bat nx a0 most).met.length (intCells (bat nx a0 most).met)]:=by
 have hmm:=@run_makeMap Try.prog;obtain⟨l0,hl0⟩:=Try.keyOfInt a0 (hfit _ h0);obtain⟨i0,hi,hz0,hz1,hz2⟩:=info_parts Try.infoInt;obtain⟨j0,hj,hy0,hy1,hy2⟩:=info_parts Try.infoInts;obtain⟨b0,hbi0,hx0,hx1,hx2⟩:=info_parts Try.infoBool;have hSa:=(St.start w).alloc _ rfl #[.slice none 0 0,.slice none 0 0] 45;have HM:MapL Try.prog 3 Zbt ((w.alloc (.cells #[.slice none 0 0,.slice none 0 0] 45)).alloc (.map #[] 0)) (w.heap.size+1) ([]:List (Int × Value)):=by simpa using MapL.made (P:=Try.prog) (kt:=3) (enc:=Zbt) (w.alloc (.cells #[.slice none 0 0,.slice none 0 0] 45))
 have hSb:=hSa.add ((Below.refl _ _).alloc (Nat.le_refl _) (.map #[] 0)) (Ent.map 3 Zbt (w.heap.size+1) ([]:List (Int × Value))) HM fun k hk=>by have hk:k=w.heap.size+1:=hk;subst hk;simp
 obtain⟨w1,hrun,hm1',hg1⟩:=HM.store Try.lawInt ZbD Try.underlying174 hl0 (.int .i64 0);simp only[Zbt] at hrun;have hSc:=hSb.mapset 1 rfl hm1' hg1;have hSd:=(((((hSc.alloc _ rfl #[.int .i64 a0] 3).boxrow 2 1 1 [.int .i64 a0] rfl rfl (by unfold maxLen;omega)).alloc (w1.heap.size+1) (by simp) #[.slice none 0 0,.slice none 0 0] 45).nilRow 26 1).norows 4 rfl 3).nilRow 4 1;obtain⟨F,hF⟩:=eI ((bat nx a0 most).met);have hbel:∀ k,k≤most→(bat nx a0 k).met.length≤most:=fun k hk=>by have:=(Zlk (nx:=nx) (a:=a0) hk).1.length_le;omega
 rw[← hF] at hroom;rw[← hF];have HN:=qh hN;have HE:=qh hE;have HQ:=qh hQ;have Hfit:=qh hfit;have Hh0:=qh h0;have Hbel:=qh hbel;replace hF:=qh hF;have HhSd:=qh hSd;clear hSd;have Hhl0:=qh hl0;clear hl0;have Hhi:=qh hi;clear hi;have Hhz0:=qh hz0;clear hz0;have Hhz1:=qh hz1;clear hz1;have Hhz2:=qh hz2;clear hz2;have Hhj:=qh hj;clear hj;have Hhy0:=qh hy0;clear hy0;have Hhy1:=qh hy1;clear hy1;have Hhy2:=qh hy2;clear hy2;have Hhbi0:=qh hbi0;clear hbi0;have Hhx0:=qh hx0;clear hx0;have Hhx1:=qh hx1;clear hx1;have Hhx2:=qh hx2;clear hx2;clear hSa hSb hSc HM hm1' hg1 hN hE hQ hfit h0 hbel
 go_enter Try.func110, Try.ntmps110
 go_wp2;clear hrun hmm
 go_loopw [9,10,12,14] (fun r1 r2 vm i wr=>∃ (k g3 c3:Nat) (a1 a2:Option Addr) (c1 c2:Nat) (vs:List Value),i = .int .i64 k∧vm = .slice (some ⟨g3,0,none⟩) (bat nx a0 k).met.length c3∧k≤(bat nx a0 k).met.length∧k≤most ∧
   St w wr [Ent.box w.heap.size #[.slice none 0 0,.slice none 0 0] 45,Ent.map 3 Zbt (w.heap.size+1) (numbered (bat nx a0 k).met),Ent.row 3 1 (.slice (some ⟨g3,0,none⟩) (bat nx a0 k).met.length c3) (bat nx a0 k).met.length (intCells (bat nx a0 k).met),
    Ent.box (w1.heap.size+1) #[.slice a1 k c1,.slice a2 k c2] 45,Ent.rows 26 3 (.slice a1 k c1) vs ((((bat nx a0 k).met.take k).map (Zav nx F)).map intCells),Ent.row 4 1 (.slice a2 k c2) k (boolCells (((bat nx a0 k).met.take k).map en))])
  (fun _ _ _ i _=>most+1-(intOf i).toNat)
 case atStart=>exact⟨0,_,_,none,none,0,0,[],rfl,rfl,Nat.zero_le _,Nat.zero_le _,HhSd.out⟩
 case round =>
  obtain⟨k,g3,c3,a1,a2,c1,c2,vs,rfl,rfl,hk,hkm,hS⟩:=hrel;obtain⟨wo,hwo⟩:∃ wo:World,wo=wr:=⟨_,rfl⟩;subst hwo;obtain⟨M,hM⟩:=eI ((bat nx a0 k).met);have hMl:=Hbel.out k hkm;rw[← hM] at hS hk hMl;rw[← hM];by_cases hlt:k<M.length
  ·have hlt2:(k:Int)<M.length:=by omega
   have HF:∀ n,n≤3→(bpart nx a0 k n).met <+: F:=fun n hn=>by rw[hF.out];exact(Zc2 (by rw[← hM];exact hlt) hn (by omega)).1
   have HT:∀ n,n≤3→(bpart nx a0 k n).met.length≤most:=fun n hn=>Nat.le_trans (HF n hn).length_le hroom
   obtain⟨x,hxx⟩:=eI (M.getD k a0);have hQx:Q x:=by rw[hxx,hM];exact Zds Hh0.out HQ.out k _ (Zc8 (by rw[← hM];exact hlt))
   have Hhxx:=qh hxx;clear hxx;replace HF:=qh HF;have HHT:=qh HT;clear HT;have HhQx:=qh hQx;clear hQx;have HhM:=qh hM;clear hM;have HhS:=qh hS;clear hS;go_wp2_with (at_make;refine wpList_make_full _ rfl _ _ 26 rfl wo.heap.size 3 i0 (.int .i64 0) 1 Try.underlying26 Hhi.out Hhz0.out Hhz1.out .i64 .i64 _ _ 3 rfl rfl rfl rfl (by rw[Hhz2.out];omega) (by unfold maxLen;omega) (Nat.le_refl _) ?_;intro w2 hown hgrow;have HS2:=qh (HhS.out.made ((Below.refl _ _).grown hgrow (Nat.le_refl _) (fun _ h=>by cases h)) hown);have hcl:=qh hown.1;clear hown hgrow)
   go_loopw [9,10,12,32] (fun r1 r2 vm i wi=>∃ (n g4 c4:Nat) (cs:List Value),i = .int .i64 n∧vm = .slice (some ⟨g4,0,none⟩) (bpart nx a0 k n).met.length c4∧n≤3∧cs.length=3∧cs.take n=(intCells (Zav nx F x)).take n ∧
     St w wi [Ent.box w.heap.size #[.slice none 0 0,.slice none 0 0] 45,Ent.map 3 Zbt (w.heap.size+1) (numbered (bpart nx a0 k n).met),Ent.row 3 1 (.slice (some ⟨g4,0,none⟩) (bpart nx a0 k n).met.length c4) (bpart nx a0 k n).met.length (intCells (bpart nx a0 k n).met),
      Ent.box (w1.heap.size+1) #[.slice a1 k c1,.slice a2 k c2] 45,Ent.rows 26 3 (.slice a1 k c1) vs (((M.take k).map (Zav nx F)).map intCells),Ent.row 4 1 (.slice a2 k c2) k (boolCells ((M.take k).map en)),Ent.row 3 1 (.slice (some ⟨wo.heap.size,0,none⟩) 3 3) 3 cs])
    (fun _ _ _ i _=>3-(intOf i).toNat)
   case atStart =>refine⟨0,g3,c3,(madeCells (Value.int .i64 0).cells (3*1)).toList,rfl,by rw[ZbE,← HhM.out],by omega,by simpa using hcl.out,rfl,?_⟩;rw[ZbE,← HhM.out];exact HS2.out
   case round =>
    obtain⟨n,g4,c4,cs,rfl,rfl,hn,hcs,htk,hSi⟩:=hrel;have hMS:M <+: (bpart nx a0 k n).met:=by rw[HhM.out,← ZbE];exact(ZeQ (Nat.zero_le n)).1
    have hSl:M.length≤(bpart nx a0 k n).met.length:=hMS.length_le;by_cases hn3:n<3
    ·have hnd:(bpart nx a0 k n).met.Nodup:=(Zgh (by rw[← HhM.out];exact hlt) hn).1;have hSF:=HF.out n hn;have hSF1:=HF.out (n+1) (by omega);have hT0:=HHT.out n hn;have hT1:=HHT.out (n+1) (by omega);have hold:nx x n∈(bpart nx a0 k n).met→(bpart nx a0 k (n+1)).met=(bpart nx a0 k n).met:=fun h=>by rw[ZfL (by rw[← HhM.out,← Hhxx.out];exact h)]
     have hnew:nx x n ∉ (bpart nx a0 k n).met→(bpart nx a0 k (n+1)).met=(bpart nx a0 k n).met++[nx x n]:=fun h=>by rw[ZfM (by rw[← HhM.out,← Hhxx.out];exact h),← HhM.out,← Hhxx.out]
     have hQy:Q (nx x n):=HQ.out x n hn3 HhQx.out;have hf:=Hfit.out _ hQy;have hNx:=fun w' (h:Below w.heap.size w w')=>HN.out x n w' HhQx.out hn3 h
     have hrowy:(intCells (Zav nx F x))[n]? = some (.int .i64 (Zat F (nx x n):Int)):=by simp[Zav,hn3]
     obtain⟨S1,hS1⟩:=eI ((bpart nx a0 k (n+1)).met);obtain⟨S,hSS⟩:=eI ((bpart nx a0 k n).met);obtain⟨y,hy⟩:=eI (nx x n);rw[← hSS] at hSi hMS hSl hnd hold hnew hSF hT0;rw[← hS1] at hold hnew hSF1 hT1;rw[← hy] at hQy hf hNx hold hnew hrowy;rw[← hSS];have hxS:S.getD k a0=x:=by rw[Hhxx.out];exact Zbh hMS hlt _
     have hkS:(k:Int)<S.length:=by omega
     have e1:=hSi.rcell (v:=.int .i64 x) 2 k rfl (by omega) (by rw[← hxS];simp[intCells,show k<S.length by omega]);obtain⟨ly,hly⟩:=Try.keyOfInt y hf;have hNx':=qh (hNx _ hSi.bel);have HhSS:=qh hSS;clear hSS;have HhS1:=qh hS1;clear hS1;have Hhy:=qh hy;clear hy;have Hhnd:=qh hnd;clear hnd;have Hhold:=qh hold;clear hold;have Hhnew:=qh hnew;clear hnew;have HhSF:=qh hSF;clear hSF;have HhSF1:=qh hSF1;clear hSF1;have Hhrowy:=qh hrowy;clear hrowy;have Hhcs:=qh hcs;clear hcs;have Hhtk:=qh htk;clear htk;have HhSi:=qh hSi;clear hSi;have HhMS:=qh hMS;clear hMS;have HhQy:=qh hQy;clear hQy;have Hhf:=qh hf;clear hf;have HhxS:=qh hxS;clear hxS;have Hhly:=qh hly;clear hly;clear hNx;go_wp2_with fail;refine hNx'.out.mono ?_;rintro e w3 ⟨rfl,hb3⟩;have hS3:=HhSi.out.call hb3;clear hb3 e1;by_cases hmem:y∈S
     ·have hlk1:=(hS3.map 1 rfl).lookupOk Try.lawInt ZbD Try.underlying174 (ZeD _) Hhly.out;have hlk2:=(hS3.map 1 rfl).lookup Try.lawInt ZbD Try.underlying174 (ZeD _) Hhly.out;have hpl:Zat S y=Zat F y:=(Zc6 HhSF.out hmem).symm;rw[Zbz Hhnd.out hmem,hpl] at hlk1 hlk2;simp only[Option.getD_some,Option.isSome_some,Zbt] at hlk1 hlk2;obtain⟨q,hq⟩:=eI (Zat F y);rw[← hq] at hlk1 hlk2;obtain⟨u0,hu0⟩:=Zdx (hS3.row 6 rfl) n (by omega);have hfr:=hS3.rfr 6 n rfl;have Hhq:=qh hq;clear hq;have Hhpl:=qh hpl;clear hpl;have HhS3:=qh hS3;clear hS3;have Hhmem:=qh hmem;clear hmem;go_wp2;go_roundw
      case rel =>refine⟨n+1,g4,c4,cs.set n (.int .i64 (q:Int)),by go_num,by rw[← HhS1.out,Hhold.out Hhmem.out],by omega,by simpa using Hhcs.out,ZdX (n:=3) Hhcs.out (by simp[Zav]) hn3 Hhtk.out (by rw[Hhrowy.out,← Hhq.out]),?_⟩;rw[← HhS1.out,Hhold.out Hhmem.out];exact HhS3.out.store 6 rfl n (.int .i64 (q:Int))
      case measure=>simp[intOf];omega
     have hlk1:=(hS3.map 1 rfl).lookupOk Try.lawInt ZbD Try.underlying174 (ZeD _) Hhly.out;rw[ZcW hmem] at hlk1;simp only[Option.getD_none,Option.isSome_none,Zbt] at hlk1;have hnw:=Hhnew.out hmem;have hfull:S.length<most:=by rw[hnw] at hT1;simp at hT1;omega
     have hq1:((S.length:Int)==(most:Int))=false:=by simp;omega
     have hq2:¬ (S.length:Int)=(most:Int):=by omega
     obtain⟨w5,hrun5,hm5,hg5⟩:=(hS3.map 1 rfl).store Try.lawInt ZbD Try.underlying174 Hhly.out (.int .i64 (S.length:Int));rw[Zdc hmem] at hm5;simp only[Zbt] at hrun5;have hS5:=hS3.mapset 1 rfl hm5 hg5;have hSa:=hS5.alloc_ (.cells #[.int .i64 y] 3);have hR:=hSa.row 2 rfl;obtain⟨q,hq⟩:=eI (Zat F y);have hA:∀ w7,MapL Try.prog 3 Zbt w7 (w.heap.size+1) (numbered (S++[y]))→(Instr.lookup 174 (.map (some (w.heap.size+1))) (.int .i64 y) false).run Try.prog w7 = .ok (.int .i64 (q:Int)) w7:=fun w7 h7=>by have hlk7:=h7.lookup Try.lawInt ZbD Try.underlying174 (ZeD _) Hhly.out;have hpl:Zat (S++[y]) y=Zat F y:=(Zc6 (by rw[← hnw];exact HhSF1.out) (by simp)).symm;rw[Zbz (Zc7 Hhnd.out hmem) (by simp),hpl,← hq] at hlk7;exact hlk7
     have hsb:(S.length+1)*8≤140737488355328:=by omega
     have hs63:S.length+1≤maxLen:=by unfold maxLen;omega
     have Hhq:=qh hq;clear hq;have HhA:=qh hA;clear hA;have HhS3:=qh hS3;clear hS3;have HhS5:=qh hS5;clear hS5;have HhSa:=qh hSa;clear hSa;have HhR:=qh hR;clear hR;have Hhm5:=qh hm5;clear hm5;have Hhg5:=qh hg5;clear hg5;have Hhmem:=qh hmem;clear hmem;have Hhnw:=qh hnw;clear hnw;go_wp2_with (at_builtin;refine wpList_append_lies _ rfl _ _ _ rfl _ 3 i0 (.int .i64 0) 1 8 Try.underlying26 Hhi.out Hhz0.out Hhz1.out Hhz2.out rfl (by omega) _ S.length _ rfl HhR.out ⟨w5.heap.size,0,none⟩ 1 1 [.int .i64 y] rfl rfl (World.news_of_block (heap_alloc_new w5 _)) ZgC (by omega) hs63 hsb HhSa.out.size _ rfl ?_;intro g7 c7 w7 hown7 hgrow7 hat7 hlt7;have HS7:=qh (HhSa.out.app 2 rfl hown7 hgrow7 hat7);have hlk7:=HhA.out w7 (HS7.out.map 1 rfl);obtain⟨u0,hu0⟩:=Zdx (HS7.out.row 6 rfl) n (by omega);have hfr7:=HS7.out.rfr 6 n rfl;clear hown7 hgrow7 hat7);go_roundw
     case rel =>refine⟨n+1,g7,c7,cs.set n (.int .i64 (q:Int)),by go_num,by rw[← HhS1.out,Hhnw.out,List.length_append];rfl,by omega,by simpa using Hhcs.out,ZdX (n:=3) Hhcs.out (by simp[Zav]) hn3 Hhtk.out (by rw[Hhrowy.out,← Hhq.out]),?_⟩;rw[← HhS1.out,Hhnw.out,List.length_append,Zbc];exact HS7.out.store 6 rfl n (.int .i64 (q:Int))
     case measure=>simp[intOf];omega
    obtain rfl:n=3:=by omega
    have hbs:(bat nx a0 (k+1)).met=(bpart nx a0 k 3).met:=congrArg Bs.met (Zb2 (by rw[← HhM.out];exact hlt));have hxS:(bpart nx a0 k 3).met.getD k a0=x:=by rw[Hhxx.out];exact Zbh hMS hlt _
    have htake:(bpart nx a0 k 3).met.take (k+1)=M.take k++[x]:=by obtain⟨t,ht⟩:=hMS;rw[← ht,List.take_append_of_le_length (by omega),List.take_succ_eq_append_getElem hlt,Hhxx.out];simp[hlt]
    obtain⟨S,hSS⟩:=eI ((bpart nx a0 k 3).met);rw[← hSS] at hSi hxS htake hSl hbs;rw[← hSS];have hkS:k<S.length:=by omega
    have hkSI:(k:Int)<S.length:=by omega
    have hce:cs=intCells (Zav nx F x):=by rwa [List.take_of_length_le (by omega),List.take_of_length_le (by simp[Zav])] at htk
    subst hce;have hlm:(((M.take k).map (Zav nx F)).map intCells).length=k:=by rw[ZlR,List.length_take];omega
    have hSa:=hSi.alloc_ (.cells #[.slice (some ⟨wo.heap.size,0,none⟩) 3 3] 26);have hRw:=(hSa.rows 4 rfl).1;rw[hlm] at hRw;have e0:=hSi.cell (v:=.slice a1 k c1) 3 0 rfl rfl;have hsx:(intCells S)[k]? = some (.int .i64 x):=by rw[← hxS];simp[intCells,hkS]
    have htk1:(S.take (k+1)).map (Zav nx F)=(M.take k).map (Zav nx F)++[Zav nx F x]:=by rw[htake,List.map_append];rfl
    have htk2:(S.take (k+1)).map en=(M.take k).map en++[en x]:=by rw[htake,List.map_append];rfl
    have hEn:=fun w' (h:Below w.heap.size w w')=>HE.out x w' HhQx.out h
    obtain⟨r,hr⟩:=eI (en x);rw[← hr] at hEn htk2;have HEn:=qh hEn;have Hhlm:=qh hlm;clear hlm;have HhSi:=qh hSi;clear hSi;have HhSa:=qh hSa;clear hSa;have HhRw:=qh hRw;clear hRw;have Hhbs:=qh hbs;clear hbs;have HhSS:=qh hSS;clear hSS;have Hhtake:=qh htake;clear htake;have Hhsx:=qh hsx;clear hsx;have HhxS:=qh hxS;clear hxS;have Hhtk1:=qh htk1;clear htk1;have Hhtk2:=qh htk2;clear htk2;have HhMS:=qh hMS;clear hMS;have Hhcs:=qh hcs;clear hcs;have Hhtk:=qh htk;clear htk;have Hhr:=qh hr;clear hr;clear hEn;go_wp2_with (at_builtin;refine wpList_append_lies _ rfl _ _ _ rfl _ 26 j0 (.slice none 0 0) 1 24 Try.underlying42 Hhj.out Hhy0.out Hhy1.out Hhy2.out rfl (by omega) _ k _ rfl HhRw.out ⟨wr.heap.size,0,none⟩ 1 1 [.slice (some ⟨wo.heap.size,0,none⟩) 3 3] rfl rfl (World.news_of_block (heap_alloc_new wr _)) Zfi (by omega) (by unfold maxLen;omega) (by omega) HhSa.out.size _ rfl ?_;intro g6 c6 w6 hown6 hgrow6 hat6 hlt6;have HS6:=qh (HhSa.out.snoc 4 6 (by decide) rfl rfl (by decide) hgrow6 (by rw[Hhlm.out];exact hown6) (ZiI hat6));have y1:=HS6.out.cell (v:=.slice a1 k c1) 3 0 rfl rfl;have y2:=HS6.out.fr 3 0 rfl;clear hown6 hgrow6 hat6 hlt6);have hSq:=(HS6.out.set 3 rfl 0 (.slice (some ⟨g6,0,none⟩) (k+1) c6)).pick [0,1,2,3,4,5] (by decide);obtain⟨wq,hwq⟩:=eI (w6.setCell ⟨w1.heap.size+1,0,none⟩ (.slice (some ⟨g6,0,none⟩) (k+1) c6));rw[← hwq] at hSq
    have hSq':St w wq [Ent.box w.heap.size #[.slice none 0 0,.slice none 0 0] 45,Ent.map 3 Zbt (w.heap.size+1) (numbered S),Ent.row 3 1 (.slice (some ⟨g4,0,none⟩) S.length c4) S.length (intCells S),
      Ent.box (w1.heap.size+1) #[.slice (some ⟨g6,0,none⟩) (k+1) c6,.slice a2 k c2] 45,
      Ent.rows 26 3 (.slice (some ⟨g6,0,none⟩) (k+1) c6) (vs++[.slice (some ⟨wo.heap.size,0,none⟩) 3 3]) (((S.take (k+1)).map (Zav nx F)).map intCells),Ent.row 4 1 (.slice a2 k c2) k (boolCells ((M.take k).map en))]:=by
     rw[Hhtk1.out,List.map_append];exact hSq
    rw[← hwq];have HSq:=qh hSq';have Hhwq:=qh hwq;clear hwq;clear hSq hSq' y1 y2 e0 HS6;refine wp_region_any (by kernel_rfl) ?_
    refine Zaf (fun A listed a w'=>∃ (l0 l1 l2 l3 l4 l5 l6 l7 l8 l9 l10 l11:Bool) (g7:Nat) (c7:Nat) (bn:Nat),listed=#[l0,l1,l2,l3,l4,l5,l6,l7,l8,l9,l10,l11]∧(l9=true→l1=true∧l8=true)∧(l11=true→l9=true∧l1=true) ∧
      a=⟨(((((((((((A.tmps.setIfInBounds 76 (if l0=true then .pointer (some ⟨w1.heap.size+1,1,none⟩) else A.tmps.getD 76 undef)).setIfInBounds 77 (if l1=true then .slice a2 k c2 else A.tmps.getD 77 undef)).setIfInBounds 78 (if l2=true then .func (.func 112) #[] #[.pointer (some ⟨bd,0,none⟩)] else A.tmps.getD 78 undef)).setIfInBounds 79 (if l3=true then .slice (some ⟨g4,0,none⟩) S.length c4 else A.tmps.getD 79 undef)).setIfInBounds 80 (if l4=true then .int .i64 (k:Int) else A.tmps.getD 80 undef)).setIfInBounds 81 (if l5=true then .pointer (some ⟨g4,k,none⟩) else A.tmps.getD 81 undef)).setIfInBounds 82 (if l6=true then .int .i64 x else A.tmps.getD 82 undef)).setIfInBounds 83 (if l7=true then .bool r else A.tmps.getD 83 undef)).setIfInBounds 84 (if l8=true then .slice (some ⟨bn,0,none⟩) 1 1 else A.tmps.getD 84 undef)).setIfInBounds 85 (if l9=true then .slice (some ⟨g7,0,none⟩) (k+1) c7 else A.tmps.getD 85 undef)).setIfInBounds 86 (if l10=true then .pointer (some ⟨w1.heap.size+1,1,none⟩) else A.tmps.getD 86 undef)),A.defers⟩ ∧
      St w w' [Ent.box w.heap.size #[.slice none 0 0,.slice none 0 0] 45,Ent.map 3 Zbt (w.heap.size+1) (numbered S),Ent.row 3 1 (.slice (some ⟨g4,0,none⟩) S.length c4) S.length (intCells S),Ent.box (w1.heap.size+1) #[.slice (some ⟨g6,0,none⟩) (k+1) c6,(if l11=true then .slice (some ⟨g7,0,none⟩) (k+1) c7 else .slice a2 k c2)] 45,Ent.rows 26 3 (.slice (some ⟨g6,0,none⟩) (k+1) c6) (vs++[.slice (some ⟨wo.heap.size,0,none⟩) 3 3]) (((S.take (k+1)).map (Zav nx F)).map intCells),(if l9=true then Ent.row 4 1 (.slice (some ⟨g7,0,none⟩) (k+1) c7) (k+1) ((boolCells ((M.take k).map en))++[.bool r]) else Ent.row 4 1 (.slice a2 k c2) k (boolCells ((M.take k).map en))),(if l8=true then Ent.box bn #[.bool r] 4 else Ent.nil)]) ?_ ?_ ?_
    ·rintro listed a w' ⟨l0,l1,l2,l3,l4,l5,l6,l7,l8,l9,l10,l11,g7,c7,bn,rfl,hd9,hd11,rfl,hS⟩ i hi;obtain⟨hun,o,ho,hall⟩:=mem_ready.1 hi;have hlt:=(Array.getElem?_eq_some_iff.1 ho).1;refine wpOp_step ho (fun K hK => ?_);clear hi;have HS:=qh hS;clear hS;simp only[List.setIfInBounds_toArray,List.set_cons_zero,List.set_cons_succ,Array.getD_eq_getD_getElem?,List.getElem?_toArray,List.getElem?_cons_zero,List.getElem?_cons_succ,Option.getD_some];obtain h|h|h|h|h|h|h|h|h|h|h|h:i=0∨i=1∨i=2∨i=3∨i=4∨i=5∨i=6∨i=7∨i=8∨i=9∨i=10∨i=11:=by simp at hlt;omega
     all_goals subst h
     all_goals simp only[List.getElem?_toArray,List.getElem?_cons_zero,List.getElem?_cons_succ,Option.some.injEq] at ho
     all_goals subst ho
     all_goals simp[Region.binds] at hun hall
     ·subst hun;go_simp;exact hK _ _ ⟨true,l1,l2,l3,l4,l5,l6,l7,l8,l9,l10,l11,g7,c7,bn,rfl,hd9,hd11,(by simp),HS.out⟩
     ·obtain rfl:=hall;subst hun;obtain rfl:l9=false:=offL hd9 rfl;obtain rfl:l11=false:=offL hd11 rfl;have e0:=HS.out.cell (v:=.slice a2 k c2) 3 1 rfl rfl;go_simp;exact hK _ _ ⟨true,true,l2,l3,l4,l5,l6,l7,l8,false,l10,false,g7,c7,bn,rfl,by simp,by simp,(by simp),HS.out⟩
     ·subst hun;go_simp;exact hK _ _ ⟨l0,l1,true,l3,l4,l5,l6,l7,l8,l9,l10,l11,g7,c7,bn,rfl,hd9,hd11,(by simp),HS.out⟩
     ·subst hun;go_simp;exact hK _ _ ⟨l0,l1,l2,true,l4,l5,l6,l7,l8,l9,l10,l11,g7,c7,bn,rfl,hd9,hd11,(by simp),HS.out⟩
     ·subst hun;go_simp;exact hK _ _ ⟨l0,l1,l2,l3,true,l5,l6,l7,l8,l9,l10,l11,g7,c7,bn,rfl,hd9,hd11,(by simp),HS.out⟩
     ·obtain⟨rfl,rfl⟩:=hall;subst hun;go_simp;exact hK _ _ ⟨l0,l1,l2,true,true,true,l6,l7,l8,l9,l10,l11,g7,c7,bn,rfl,hd9,hd11,(by simp),HS.out⟩
     ·obtain rfl:=hall;subst hun;have e0:=HS.out.rcell (v:=.int .i64 x) 2 k rfl (by omega) Hhsx.out;go_simp;exact hK _ _ ⟨l0,l1,l2,l3,l4,true,true,l7,l8,l9,l10,l11,g7,c7,bn,rfl,hd9,hd11,(by simp),HS.out⟩
     ·obtain⟨rfl,rfl⟩:=hall;subst hun;go_simp
      go_at_call 112
      refine(HEn.out _ HS.out.bel).mono ?_;rintro e u1 ⟨rfl,hbx⟩;have hS2:=HS.out.call hbx;have HhS2:=qh hS2;clear hS2;go_simp;exact hK _ _ ⟨l0,l1,true,l3,l4,l5,true,true,l8,l9,l10,l11,g7,c7,bn,rfl,hd9,hd11,(by simp),HhS2.out⟩
     ·obtain rfl:=hall;subst hun;obtain rfl:l9=false:=offR hd9 rfl;obtain rfl:l11=false:=offL hd11 rfl;have hS2:=(HS.out.alloc _ rfl #[.bool r] 4).pick [0,1,2,3,4,5,7] (by decide);have HhS2:=qh hS2;clear hS2;go_simp;exact hK _ _ ⟨l0,l1,l2,l3,l4,l5,l6,true,true,false,l10,false,g7,c7,_,rfl,by simp,by simp,(by simp),HhS2.out⟩
     ·obtain⟨rfl,rfl,rfl⟩:=hall;subst hun;obtain rfl:l11=false:=offL hd11 rfl;refine step_append_lies (a:=⟨_,_⟩) _ (by rfl) _ _ _ (by rfl) w.heap.size 4 b0 (.bool false) 1 1 Try.underlying43 Hhbi0.out Hhx0.out Hhx1.out Hhx2.out (by rfl) (by omega) (.slice a2 k c2) k (boolCells ((M.take k).map en)) (by rfl) (HS.out.row 5 rfl) ⟨bn,0,none⟩ 1 1 [.bool r] (by rfl) (by rfl) (World.news_of_block (HS.out.box 6 rfl)) ZlG (by omega) (by unfold maxLen;omega) (by omega) HS.out.size _ rfl ?_;intro g8 c8 w8 hown8 hgrow8 hat8 hlt8;have HS8:=qh (HS.out.app 5 rfl hown8 hgrow8 hat8);clear hown8 hgrow8 hat8;go_simp;exact hK _ _ ⟨l0,true,l2,l3,l4,l5,l6,true,true,true,l10,false,g8,c8,bn,rfl,by simp,by simp,(by simp),HS8.out⟩
     ·obtain⟨rfl,rfl,rfl,rfl,rfl,rfl,rfl,rfl,rfl,rfl⟩:=hall;subst hun;go_simp;exact hK _ _ ⟨true,true,true,true,true,true,true,true,true,true,true,l11,g7,c7,bn,rfl,by simp,hd11,(by simp only[↓reduceIte,List.setIfInBounds_toArray,List.set_cons_zero,List.set_cons_succ]),HS.out⟩
     obtain⟨rfl,rfl,rfl,rfl,rfl,rfl,rfl,rfl,rfl,rfl,rfl,-⟩:=hall;subst hun;have f0:=HS.out.fr 3 1 rfl;have k0:=HS.out.cell (v:=.slice a2 k c2) 3 1 rfl rfl;go_simp;exact hK _ _ ⟨true,true,true,true,true,true,true,true,true,true,true,true,g7,c7,bn,rfl,by simp,by simp,(by simp only[↓reduceIte,List.setIfInBounds_toArray,List.set_cons_zero,List.set_cons_succ]),(HS.out.set 3 rfl 1 (.slice (some ⟨g7,0,none⟩) (k+1) c7))⟩
    ·rintro listed a w' ⟨l0,l1,l2,l3,l4,l5,l6,l7,l8,l9,l10,l11,g7,c7,bn,rfl,hd9,hd11,rfl,hS⟩ hr;have hall:=Zg6 (by kernel_rfl) rfl hr;obtain rfl:l0=true:=by simpa using hall 0 (by simp)
     obtain rfl:l1=true:=by simpa using hall 1 (by simp)
     obtain rfl:l2=true:=by simpa using hall 2 (by simp)
     obtain rfl:l3=true:=by simpa using hall 3 (by simp)
     obtain rfl:l4=true:=by simpa using hall 4 (by simp)
     obtain rfl:l5=true:=by simpa using hall 5 (by simp)
     obtain rfl:l6=true:=by simpa using hall 6 (by simp)
     obtain rfl:l7=true:=by simpa using hall 7 (by simp)
     obtain rfl:l8=true:=by simpa using hall 8 (by simp)
     obtain rfl:l9=true:=by simpa using hall 9 (by simp)
     obtain rfl:l10=true:=by simpa using hall 10 (by simp)
     obtain rfl:l11=true:=by simpa using hall 11 (by simp)
     clear hall hr hd9 hd11;simp only[↓reduceIte] at hS ⊢;simp only[List.setIfInBounds_toArray,List.set_cons_zero,List.set_cons_succ];have hS9:=hS.pick [0,1,2,3,4,5] (by decide);have HhS9:=qh hS9;clear hS9;clear hS;go_wp2;go_roundw
     case rel =>refine⟨k+1,g4,c4,some ⟨g6,0,none⟩,some ⟨g7,0,none⟩,c6,c7,vs++[.slice (some ⟨wo.heap.size,0,none⟩) 3 3],by go_num,by rw[Hhbs.out],by rw[Hhbs.out];omega,by omega,?_⟩;rw[Hhbs.out,Hhtk2.out,ZfW];exact HhS9.out
     case measure=>simp[intOf];omega
    refine⟨false,false,false,false,false,false,false,false,false,false,false,false,0,0,0,rfl,by simp,by simp,(by simp),?_⟩;exact HSq.out.drew.pick [0,1,2,3,4,5,6] (by decide)
  have hMF:M=F:=by rw[hF.out,hM];exact(congrArg Bs.met (ZeR (by rw[← hM];omega) (by omega))).symm
  obtain rfl:k=M.length:=by omega
  subst hMF;rw[List.take_length] at hS;have d0:=hS.cell (v:=.slice a1 M.length c1) 3 0 rfl rfl;have d1:=hS.cell (v:=.slice a2 M.length c2) 3 1 rfl rfl;have f0:=hS.fr 0 0 rfl;have f1:=hS.fr 0 1 rfl;have k0:=hS.cell (v:=.slice none 0 0) 0 0 rfl rfl;have k1:=hS.cell (v:=.slice none 0 0) 0 1 rfl rfl;have HhS:=qh hS;clear hS;have HhM:=qh hM;clear hM;clear hk hMl;go_wp2;have hq:=(HhS.out.set 0 rfl 0 (.slice a1 M.length c1)).set 0 rfl 1 (.slice a2 M.length c2);have q0:=hq.cell (v:=.slice a1 M.length c1) 0 0 rfl rfl;have q1:=hq.cell (v:=.slice a2 M.length c2) 0 1 rfl rfl;refine bodyPost_ret (v:=.tuple #[.agg #[.slice a1 M.length c1,.slice a2 M.length c2],.slice (some ⟨g3,0,none⟩) M.length c3,.bool true]) (by simp[results,Try.results110,go_sem,q0,q1]) rfl ?_;exact⟨a1,c1,a2,c2,_,c3,vs,rfl,hq.pick [4,5,2] (by decide)⟩
end Go.Proofs.Ytfanhfcamblghaa
namespace Go.Proofs.Ytfanhfcamblghaa
open Go.RowKit
def RTt (D:DfaD) (fb:Bool) (B:Nat) (e:Ending) (w':World):Prop:=∃ a1 c1 a2 c2,e = .returned (.tuple #[.agg #[.slice a1 D.next.length c1,.slice a2 D.ends.length c2],.bool fb])∧DfaO 26 3 4 B w'.heap.size w' (.agg #[.slice a1 D.next.length c1,.slice a2 D.ends.length c2]) D
def ZlK (w:World) (b j:Nat):Nat:=match w.cell? ⟨b,j,none⟩ with
 | some v=>(intOf v).toNat
 | none=>0
theorem ZdG {w:World} {b j t:Nat} (h:w.cell? ⟨b,j,none⟩=some (.int .i64 ((t:Nat):Int))):ZlK w b j=t:=by unfold ZlK;rw[h];simp[intOf]
def ZmU (w:World) (b n:Nat):Nat:=((List.range n).filter fun s=>decide (ZlK w b s=s)).length
theorem Zis {w:World} {b n:Nat} {cl:Nat→Nat} (h:∀ s,s<n→w.cell? ⟨b,s,none⟩=some (.int .i64 ((cl s:Nat):Int))):ZmU w b n=reps n cl:=by
 unfold ZmU reps;congr 1;refine List.filter_congr fun s hs => ?_
 rw[ZdG (h s (List.mem_range.1 hs))]
def Zig:Value→Nat
 | .slice (some a) _ _=>a.block
 | _=>0
def Zm4:Value→Bool
 | .bool b=>b
 | _=>false
def RCl (d:DfaD) (w:World) (e:Ending) (w':World):Prop:=∃ b c,e = .returned (.slice (some ⟨b,0,none⟩) d.next.length c)∧St w w' [Ent.row 3 1 (.slice (some ⟨b,0,none⟩) d.next.length c) d.next.length (intCells (clsL d.next.length (clD d)))]
theorem ZfP (d:DfaD) (v:Value) (w:World) (hd:Za2 d.next d.ends=true) (h:DfaR 0 w v d) :
  Calls Try.prog 109 #[v] w fun e w'=>RCl d w e w':=by
 have HR:=qh h;obtain⟨b1,o1,cv,b2,o2,cw,rfl,hC⟩:=ZiM hd h;have hnx:∀ s c,s<d.next.length→c<3→nxD d s c<d.next.length:=fun s c hs hc=>hC.lt s c hs hc
 obtain⟨N,hN,hNs,hNo⟩:=Zil (n:=d.next.length) (nx:=nxD d) (enD d);obtain⟨C,hCC⟩:=eI (clAt d.next.length (nxD d) (enD d));have hfin:∀ s,s<d.next.length→C (N+1) s=clD d s:=fun s hs=>by rw[hCC,hNs s hs];exact(Zmu hnx hN hNs hs).symm
 have hgood:∀ i,GoodC d.next.length (C i):=fun i=>by rw[hCC];exact ZfH (enD d) i
 have hc0:∀ s,s<d.next.length→C 0 s≤s∧enD d (C 0 s)=enD d s∧∀ j,j<C 0 s→enD d j≠enD d s:=fun s hs=>by rw[hCC];exact Zc1 hs
 have hcs:∀ i s,s<d.next.length→C (i+1) s≤s∧Zbs (nxD d) (C i) (C (i+1) s) s=true∧∀ j,j<C (i+1) s→Zbs (nxD d) (C i) j s=false:=fun i s hs=>by rw[hCC];exact ZaR hs
 have hsd:∀ i,clsL d.next.length (C (i+1))=clsL d.next.length (C i)↔stays d.next.length (nxD d) (enD d) i:=fun i=>by rw[Zms,hCC];exact Iff.rfl
 obtain⟨L,hL⟩:=eI (d.next.length);have hl1:=hC.l1;have hl2:=hC.l2;have hS0:=(St.start w).alloc _ rfl #[.slice (some ⟨b1,o1,none⟩) L cv,.slice (some ⟨b2,o2,none⟩) L cw] 45;unfold RCl;rw[← hL] at hl1 hl2 HR hN hgood hc0 hcs hsd hfin;rw[← hL];obtain⟨i0,hi,hz0,hz1,hz2⟩:=info_parts Try.infoInt;have HC:=qh hC;have Hgood:=qh hgood;have Hc0:=qh hc0;have Hcs:=qh hcs;have Hsd:=qh hsd;have Hfin:=qh hfin;have HNo:=qh hNo;have HNs:=qh hNs;replace hS0:=qh hS0;replace hL:=qh hL;replace hCC:=qh hCC;have Hhi:=qh hi;clear hi;have Hhz0:=qh hz0;clear hz0;have Hhz1:=qh hz1;clear hz1;have Hhz2:=qh hz2;clear hz2;clear hC hgood hc0 hcs hsd hfin hNo hNs hnx h
 go_enter Try.func109, Try.ntmps109
 have HD:=qh (show ∀ w1:World,w1.ownsRow (w.alloc (.cells #[.slice (some ⟨b1,o1,none⟩) L cv,.slice (some ⟨b2,o2,none⟩) L cw] 45)).heap.size 3 1 (.slice (some ⟨w.heap.size+1,0,none⟩) L L) L (intCells (padL L 0 (C 0)))→Below (w.alloc (.cells #[.slice (some ⟨b1,o1,none⟩) L cv,.slice (some ⟨b2,o2,none⟩) L cw] 45)).heap.size (w.alloc (.cells #[.slice (some ⟨b1,o1,none⟩) L cv,.slice (some ⟨b2,o2,none⟩) L cw] 45)) w1 →
   St w w1 [Ent.box w.heap.size #[.slice (some ⟨b1,o1,none⟩) L cv,.slice (some ⟨b2,o2,none⟩) L cw] 45,Ent.row 3 1 (.slice (some ⟨w.heap.size+1,0,none⟩) L L) L (intCells (padL L 0 (C 0)))] from fun w1 h1 h2=>hS0.out.made h2 h1)
 go_wp2_with (at_make;refine wpList_make_full _ rfl _ _ 26 rfl _ 3 i0 (.int .i64 0) 1 Try.underlying26 Hhi.out Hhz0.out Hhz1.out .i64 .i64 _ _ L rfl rfl rfl rfl (by rw[Hhz2.out];omega) (by unfold maxLen;omega) (Nat.le_refl _) ?_;intro w1 hown hgrow;have hm:=Zfm (C 0) hown;simp only[World.size_alloc] at hm;have HS1:=qh (HD.out w1 (by simpa only [World.size_alloc] using hm) ((Below.refl _ _).grown hgrow (Nat.le_refl _) (fun _ h=>by cases h)));clear hown hgrow hm)
 go_loopw [14] (fun i wr=>∃ s:Nat,i = .int .i64 s∧s≤L∧St w wr [Ent.box w.heap.size #[.slice (some ⟨b1,o1,none⟩) L cv,.slice (some ⟨b2,o2,none⟩) L cw] 45,Ent.row 3 1 (.slice (some ⟨w.heap.size+1,0,none⟩) L L) L (intCells (padL L s (C 0)))]) (fun i _=>L-(intOf i).toNat)
 case atStart=>exact⟨0,rfl,Nat.zero_le _,HS1.out⟩
 case round =>
  obtain⟨s,rfl,hs,hS⟩:=hrel;by_cases hlt:s<L
  ·have hlt2:(s:Int)<L:=by omega
   have hsn:s<d.next.length:=by have:=hL.out;omega
   have hen:=HC.out.en s hsn;have hci:=Hc0.out s hlt;have hpad:=ZeI (n:=L) (s:=s) (C 0);have hset:=ZeH (n:=L) (s:=s) (C 0) 0 (C 0 s);rw[Zix (C 0) hlt] at hS;rw[hpad] at hset;have hat:=Zcw (n:=L) (s:=s) (C 0) 0;have hix:=fun (w':World) (hb:Below w.heap.size w w') (z:Bool) (hz:z=enD d s)=>Zjm d.ends z (C 0 s) (.slice (some ⟨b2,o2,none⟩) L cw) w' (by obtain⟨u1,u2,hq,-,h2⟩:=HR.out;simp only[Value.agg.injEq,Array.mk.injEq,List.cons.injEq,and_true] at hq;rw[hq.2];exact h2.below hb) (by have:=HC.out.le;omega) (by rw[hz];exact hci.2.1) (fun j hj=>by rw[hz];exact hci.2.2 j hj)
   obtain⟨z,hz⟩:=eI (enD d s);rw[← hz] at hen;obtain⟨p,hp⟩:=eI (C 0 s);rw[← hp] at hset hix;have Hix:=qh fun (w':World) (hb:Below w.heap.size w w')=>hix w' hb z hz
   have Hen:=qh hen;obtain⟨X0,hX0⟩:=eI (intCells (padT L s (C 0) 0));obtain⟨X1,hX1⟩:=eI (intCells (padL L (s+1) (C 0)));rw[← hX0,← hX1] at hset;rw[← hX0] at hS hat;have HS:=qh hS;have Hhz:=qh hz;clear hz;have Hhp:=qh hp;clear hp;have Hhset:=qh hset;clear hset;have Hhat:=qh hat;clear hat;have HhX0:=qh hX0;clear hX0;have HhX1:=qh hX1;clear hX1;clear hS hix hen hci hpad;go_wp2;refine wp_region_any (by kernel_rfl) ?_
   refine Zaf (fun A listed a w'=>∃ (l0 l1 l2 l3 l4 l5 l6 l7 l8 l9 l10 l11:Bool) ,listed=#[l0,l1,l2,l3,l4,l5,l6,l7,l8,l9,l10,l11] ∧
     a=⟨(((((((((((A.tmps.setIfInBounds 17 (if l0=true then .slice (some ⟨w.heap.size+1,0,none⟩) L L else A.tmps.getD 17 undef)).setIfInBounds 18 (if l1=true then .int .i64 (s:Int) else A.tmps.getD 18 undef)).setIfInBounds 19 (if l2=true then .pointer (some ⟨w.heap.size,1,none⟩) else A.tmps.getD 19 undef)).setIfInBounds 20 (if l3=true then .slice (some ⟨b2,o2,none⟩) L cw else A.tmps.getD 20 undef)).setIfInBounds 21 (if l4=true then .pointer (some ⟨w.heap.size,1,none⟩) else A.tmps.getD 21 undef)).setIfInBounds 22 (if l5=true then .slice (some ⟨b2,o2,none⟩) L cw else A.tmps.getD 22 undef)).setIfInBounds 23 (if l6=true then .int .i64 (s:Int) else A.tmps.getD 23 undef)).setIfInBounds 24 (if l7=true then .pointer (some ⟨b2,o2+s,none⟩) else A.tmps.getD 24 undef)).setIfInBounds 25 (if l8=true then .bool z else A.tmps.getD 25 undef)).setIfInBounds 26 (if l9=true then .int .i64 (p:Int) else A.tmps.getD 26 undef)).setIfInBounds 27 (if l10=true then .pointer (some ⟨w.heap.size+1,s,none⟩) else A.tmps.getD 27 undef)),A.defers⟩ ∧
     St w w' [Ent.box w.heap.size #[.slice (some ⟨b1,o1,none⟩) L cv,.slice (some ⟨b2,o2,none⟩) L cw] 45,Ent.row 3 1 (.slice (some ⟨w.heap.size+1,0,none⟩) L L) L (if l11=true then X1 else X0)]) ?_ ?_ ?_
   ·rintro listed a w' ⟨l0,l1,l2,l3,l4,l5,l6,l7,l8,l9,l10,l11,rfl,rfl,hS⟩ i hi;obtain⟨hun,o,ho,hall⟩:=mem_ready.1 hi;have hlt:=(Array.getElem?_eq_some_iff.1 ho).1;refine wpOp_step ho (fun K hK => ?_);clear hi;have HS:=qh hS;clear hS;simp only[List.setIfInBounds_toArray,List.set_cons_zero,List.set_cons_succ,Array.getD_eq_getD_getElem?,List.getElem?_toArray,List.getElem?_cons_zero,List.getElem?_cons_succ,Option.getD_some];obtain h|h|h|h|h|h|h|h|h|h|h|h:i=0∨i=1∨i=2∨i=3∨i=4∨i=5∨i=6∨i=7∨i=8∨i=9∨i=10∨i=11:=by simp at hlt;omega
    all_goals subst h
    all_goals simp only[List.getElem?_toArray,List.getElem?_cons_zero,List.getElem?_cons_succ,Option.some.injEq] at ho
    all_goals subst ho
    all_goals simp[Region.binds] at hun hall
    ·subst hun;go_simp;exact hK _ _ ⟨true,l1,l2,l3,l4,l5,l6,l7,l8,l9,l10,l11,rfl,(by simp),HS.out⟩
    ·subst hun;go_simp;exact hK _ _ ⟨l0,true,l2,l3,l4,l5,l6,l7,l8,l9,l10,l11,rfl,(by simp),HS.out⟩
    ·subst hun;go_simp;exact hK _ _ ⟨l0,l1,true,l3,l4,l5,l6,l7,l8,l9,l10,l11,rfl,(by simp),HS.out⟩
    ·obtain rfl:=hall;subst hun;have e0:=HS.out.cell (v:=.slice (some ⟨b2,o2,none⟩) L cw) 0 1 rfl rfl;go_simp;exact hK _ _ ⟨l0,l1,true,true,l4,l5,l6,l7,l8,l9,l10,l11,rfl,(by simp),HS.out⟩
    ·subst hun;go_simp;exact hK _ _ ⟨l0,l1,l2,l3,true,l5,l6,l7,l8,l9,l10,l11,rfl,(by simp),HS.out⟩
    ·obtain rfl:=hall;subst hun;have e0:=HS.out.cell (v:=.slice (some ⟨b2,o2,none⟩) L cw) 0 1 rfl rfl;go_simp;exact hK _ _ ⟨l0,l1,l2,l3,true,true,l6,l7,l8,l9,l10,l11,rfl,(by simp),HS.out⟩
    ·subst hun;go_simp;exact hK _ _ ⟨l0,l1,l2,l3,l4,l5,true,l7,l8,l9,l10,l11,rfl,(by simp),HS.out⟩
    ·obtain⟨rfl,rfl⟩:=hall;subst hun;go_simp;exact hK _ _ ⟨l0,l1,l2,l3,l4,true,true,true,l8,l9,l10,l11,rfl,(by simp),HS.out⟩
    ·obtain rfl:=hall;subst hun;have e0:=(bcell HS.out.bel b2 _ HC.out.hb2).trans Hen.out;go_simp;exact hK _ _ ⟨l0,l1,l2,l3,l4,l5,l6,true,true,l9,l10,l11,rfl,(by simp),HS.out⟩
    ·obtain⟨rfl,rfl⟩:=hall;subst hun;go_simp
     go_at_call 145
     refine(Hix.out _ HS.out.bel).mono ?_;rintro e u1 ⟨rfl,hbx⟩;have hS2:=HS.out.call hbx;have HhS2:=qh hS2;clear hS2;go_simp;exact hK _ _ ⟨l0,l1,l2,true,l4,l5,l6,l7,true,true,l10,l11,rfl,(by simp),HhS2.out⟩
    ·obtain⟨rfl,rfl,-,-,rfl,rfl,rfl,rfl,rfl,rfl,rfl,rfl⟩:=hall;subst hun;go_simp;exact hK _ _ ⟨true,true,true,true,true,true,true,true,true,true,true,l11,rfl,(by simp only[↓reduceIte,List.setIfInBounds_toArray,List.set_cons_zero,List.set_cons_succ]),HS.out⟩
    obtain⟨rfl,rfl,rfl,rfl,rfl,rfl,rfl,rfl,rfl,rfl,rfl,-⟩:=hall;subst hun;have f0:=HS.out.rfr 1 s rfl;have k0:=HS.out.rcell (v:=.int .i64 ((0:Nat):Int)) 1 s rfl (by omega) Hhat.out;have hS2:=HS.out.store 1 rfl s (.int .i64 (p:Int));simp only[List.set_cons_succ,List.set_cons_zero,Bool.false_eq_true,↓reduceIte,Hhset.out] at hS2;go_simp;exact hK _ _ ⟨true,true,true,true,true,true,true,true,true,true,true,true,rfl,(by simp only[↓reduceIte,List.setIfInBounds_toArray,List.set_cons_zero,List.set_cons_succ]),hS2⟩
   ·rintro listed a w' ⟨l0,l1,l2,l3,l4,l5,l6,l7,l8,l9,l10,l11,rfl,rfl,hS⟩ hr;have hall:=Zg6 (by kernel_rfl) rfl hr;obtain rfl:l0=true:=by simpa using hall 0 (by simp)
    obtain rfl:l1=true:=by simpa using hall 1 (by simp)
    obtain rfl:l2=true:=by simpa using hall 2 (by simp)
    obtain rfl:l3=true:=by simpa using hall 3 (by simp)
    obtain rfl:l4=true:=by simpa using hall 4 (by simp)
    obtain rfl:l5=true:=by simpa using hall 5 (by simp)
    obtain rfl:l6=true:=by simpa using hall 6 (by simp)
    obtain rfl:l7=true:=by simpa using hall 7 (by simp)
    obtain rfl:l8=true:=by simpa using hall 8 (by simp)
    obtain rfl:l9=true:=by simpa using hall 9 (by simp)
    obtain rfl:l10=true:=by simpa using hall 10 (by simp)
    obtain rfl:l11=true:=by simpa using hall 11 (by simp)
    clear hall hr ;simp only[↓reduceIte] at hS ⊢;simp only[List.setIfInBounds_toArray,List.set_cons_zero,List.set_cons_succ];have HS9:=qh hS;clear hS;go_wp2;go_roundw
    case rel =>refine⟨s+1,by go_num,by omega,?_⟩;rw[← HhX1.out];exact HS9.out
    case measure=>simp[intOf];omega
   refine⟨false,false,false,false,false,false,false,false,false,false,false,false,rfl,(by simp),?_⟩;exact HS.out.drew
  obtain rfl:L=s:=by omega
  rw[ZgB] at hS;have HS2:=qh hS;clear hS;go_wp2
  go_loopw [3,5] (fun vc va wr=>∃ (i gc cc:Nat) (ag:Bool),vc = .slice (some ⟨gc,0,none⟩) L cc∧va = .bool ag∧((ag=true∧i≤N)∨(ag=false∧i=N+1)) ∧
    St w wr [Ent.box w.heap.size #[.slice (some ⟨b1,o1,none⟩) L cv,.slice (some ⟨b2,o2,none⟩) L cw] 45,Ent.row 3 1 (.slice (some ⟨gc,0,none⟩) L cc) L (intCells (clsL L (C i)))])
   (fun vc va wr=>if Zm4 va=true then L+1-ZmU wr (Zig vc) L else 0)
  case atStart=>exact⟨0,_,_,true,rfl,rfl,Or.inl ⟨rfl,Nat.zero_le _⟩,HS2.out⟩
  case round =>
   obtain⟨i,gc,cc,ag,rfl,rfl,hag,hS⟩:=hrel;obtain⟨wo,hwo⟩:∃ wo:World,wo=wr:=⟨_,rfl⟩;subst hwo;rcases hag with⟨rfl,hiN⟩|⟨rfl,rfl⟩
   ·have HS3:=qh hS;clear hS;go_wp2_with (at_make;refine wpList_make_full _ rfl _ _ 26 rfl _ 3 i0 (.int .i64 0) 1 Try.underlying26 Hhi.out Hhz0.out Hhz1.out .i64 .i64 _ _ L rfl rfl rfl rfl (by rw[Hhz2.out];omega) (by unfold maxLen;omega) (Nat.le_refl _) ?_;intro w1 hown hgrow;have HS4:=qh (HS3.out.made ((Below.refl _ _).grown hgrow (Nat.le_refl _) (fun _ h=>by cases h)) (Zfm (C (i+1)) hown));clear hown hgrow)
    go_loopw [35] (fun j wi=>∃ s:Nat,j = .int .i64 s∧s≤L∧St w wi [Ent.box w.heap.size #[.slice (some ⟨b1,o1,none⟩) L cv,.slice (some ⟨b2,o2,none⟩) L cw] 45,Ent.row 3 1 (.slice (some ⟨gc,0,none⟩) L cc) L (intCells (clsL L (C i))),Ent.row 3 1 (.slice (some ⟨wo.heap.size,0,none⟩) L L) L (intCells (padL L s (C (i+1))))]) (fun j _=>L-(intOf j).toNat)
    case atStart=>exact⟨0,rfl,Nat.zero_le _,HS4.out⟩
    case round =>
     obtain⟨s,rfl,hs,hS⟩:=hrel;by_cases hlt:s<L
     ·have hlt2:(s:Int)<L:=by omega
      have hsn:s<d.next.length:=by have:=hL.out;omega
      have hci:=Hcs.out i s hlt;have hcis:=hci.1;rw[Zix _ hlt] at hS;have HS5:=qh hS;have Hci:=qh hci;clear hS hci;go_wp2
      go_loopw [] (fun wi=>∃ t:Nat,t≤C (i+1) s∧(∀ j,j<t→Zbs (nxD d) (C i) j s=false)∧St w wi [Ent.box w.heap.size #[.slice (some ⟨b1,o1,none⟩) L cv,.slice (some ⟨b2,o2,none⟩) L cw] 45,Ent.row 3 1 (.slice (some ⟨gc,0,none⟩) L cc) L (intCells (clsL L (C i))),Ent.row 3 1 (.slice (some ⟨wo.heap.size,0,none⟩) L L) L (intCells (padT L s (C (i+1)) t))]) (fun wi=>L+1-ZlK wi wo.heap.size s)
      case atStart=>exact⟨0,Nat.zero_le _,fun j hj=>absurd hj (by omega),HS5.out⟩
      case round =>
       obtain⟨t,ht,hno,hS⟩:=hrel;have htL:t<L:=by omega
       have htL2:(t:Int)<L:=by omega
       have htn:t<d.next.length:=by have:=hL.out;omega
       have c1:=hS.rcell (v:=.int .i64 ((t:Nat):Int)) 2 s rfl (by omega) (Zcw (C (i+1)) t);have c2:=hS.rcell (v:=.int .i64 ((C i t:Nat):Int)) 1 t rfl (by omega) (ZbN (C i) htL);have c3:=hS.rcell (v:=.int .i64 ((C i s:Nat):Int)) 1 s rfl (by omega) (ZbN (C i) hlt);have f1:=hS.rfr 2 s rfl;have hset:=ZeH (n:=L) (s:=s) (C (i+1)) t (t+1);have hsr:=ZlB d (C i) t s;have Hc1:=qh c1;have HS6:=qh hS;have Hno:=qh hno;have Hset:=qh hset;obtain⟨p,hp⟩:=eI (C i t);obtain⟨q,hq⟩:=eI (C i s);rw[← hp] at c2 hsr;rw[← hq] at c3 hsr;have Hhp:=qh hp;clear hp;have Hhq:=qh hq;clear hq;clear hno hset;by_cases he:p=q
       ·have g1:((p:Int) != (q:Int))=false:=by rw[he];simp
        have g2:((p:Int)=(q:Int))=True:=by simp[he]
        have g3:(!((p:Int)==(q:Int)))=false:=by rw[he];simp
        rw[decide_eq_true he,Bool.true_and] at hsr;have b0:=hS.cell (v:=.slice (some ⟨b1,o1,none⟩) L cv) 0 0 rfl rfl;have b3:=hS.cell (v:=.slice (some ⟨b2,o2,none⟩) L cw) 0 1 rfl rfl
        have hk:=fun (w':World) (hb:Below wr.heap.size wr w')=>(show w'.cell? ⟨wo.heap.size,s,none⟩=some (.int .i64 (t:Nat))∧w'.cell? ⟨gc,t,none⟩=some (.int .i64 (p:Nat))∧w'.cell? ⟨gc,s,none⟩=some (.int .i64 (q:Nat))∧w'.cell? ⟨w.heap.size,0,none⟩=some (.slice (some ⟨b1,o1,none⟩) L cv)∧w'.cell? ⟨w.heap.size,1,none⟩=some (.slice (some ⟨b2,o2,none⟩) L cw) from
         ⟨(bcell hb _ _ (hS.rowlt 2 rfl).2).trans c1,(bcell hb _ _ (hS.rowlt 1 rfl).2).trans c2,(bcell hb _ _ (hS.rowlt 1 rfl).2).trans c3,(bcell hb _ _ (hS.boxlt 0 rfl).2).trans b0,(bcell hb _ _ (hS.boxlt 0 rfl).2).trans b3⟩)
        have Hk:=qh hk;cases hr:Zgr d (C i) t s 3
        all_goals
         have hsw:=fun (w':World) (hb:Below wr.heap.size wr w')=>ZhR d (C i) t s (.agg #[.slice (some ⟨b1,o1,none⟩) L cv,.slice (some ⟨b2,o2,none⟩) L cw]) (.slice (some ⟨gc,0,none⟩) L cc) w' hd htn hsn (fun x hx=>Nat.lt_of_le_of_lt ((Hgood.out i).le x (by rw[hL.out];exact hx)) hx) (HR.out.below (HS6.out.call hb).bel) (by rw[← hL.out];exact(HS6.out.call hb).intsC 1 rfl) _ hr
         rw[hr] at hsr;have Hsw:=qh hsw;have Hsm:=qh hsr;have Hhr:=qh hr;clear hr;have Hhe:=qh he;clear he;clear hS hk hsw hsr;go_wp2
         go_region_held3 (fun w'=>w'.cell? ⟨wo.heap.size,s,none⟩=some (.int .i64 (t:Nat))∧w'.cell? ⟨gc,t,none⟩=some (.int .i64 (p:Nat))∧w'.cell? ⟨gc,s,none⟩=some (.int .i64 (q:Nat))∧w'.cell? ⟨w.heap.size,0,none⟩=some (.slice (some ⟨b1,o1,none⟩) L cv)∧w'.cell? ⟨w.heap.size,1,none⟩=some (.slice (some ⟨b2,o2,none⟩) L cw))
          (first|go_keep|exact Hk.out _ hq0)
          (first
           | (go_at_call 146;(with_reducible refine(Hsw.out _ (Below.refl _ _).drew).mono ?_);rintro e v3 ⟨rfl,hq0'⟩;have hq0:Below wr.heap.size wr v3:=((Below.refl _ _).drew).trans hq0'))
        ·have HS6:=qh (HS6.out.call hq0);have z1:=HS6.out.rcell (v:=.int .i64 ((t:Nat):Int)) 2 s rfl (by omega) (Zcw (C (i+1)) t);have z2:=HS6.out.rfr 2 s rfl;clear hq0 hq0' b0 b3 c1 c2 c3 f1;go_wp2;go_roundw
         case rel =>
          refine⟨t+1,?_,?_,?_⟩
          ·rcases Nat.lt_or_ge t (C (i+1) s) with h|h
           ·exact h
           have he:t=C (i+1) s:=Nat.le_antisymm ht h;have h2:=Hci.out.2.1;rw[← he,Hsm.out] at h2;exact absurd h2 (by simp)
          ·intro j hj;by_cases e:j=t
           ·rw[e];exact Hsm.out
           exact Hno.out j (by omega)
          have h:=HS6.out.store 2 rfl s (.int .i64 ((t:Int)+1));rw[show((t:Int)+1)=((t+1:Nat):Int) by omega] at h;simp only[List.set_cons_succ,List.set_cons_zero,Hset.out] at h;exact h
         case measure =>have h:=HS6.out.store 2 rfl s (.int .i64 ((t:Int)+1));rw[show((t:Int)+1)=((t+1:Nat):Int) by omega] at h;simp only[List.set_cons_succ,List.set_cons_zero,Hset.out] at h;rw[show((t:Int)+1)=((t+1:Nat):Int) by omega,ZdG (h.rcell (v:=.int .i64 ((t+1:Nat):Int)) 2 s rfl (by omega) (Zcw (C (i+1)) (t+1))),ZdG Hc1.out];omega
        have HS6:=qh (HS6.out.call hq0);clear hq0 hq0' b0 b3 c1 c2 c3 f1;go_wp2;go_roundw
        case rel =>
         refine⟨s+1,by go_num,by omega,?_⟩
         have e:t=C (i+1) s:=by
          rcases Nat.lt_or_ge t (C (i+1) s) with h|h
          ·have h2:=Hci.out.2.2 t h;rw[Hsm.out] at h2;exact absurd h2 (by simp)
          exact Nat.le_antisymm ht h
         have h:=HS6.out;rw[e,ZeI] at h;exact h
        case measure=>simp[intOf];omega
       have g1:((p:Int) != (q:Int))=true:=by simp;omega
       have g2:((p:Int)=(q:Int))=False:=by simp;omega
       have g3:(!((p:Int)==(q:Int)))=true:=by simp;omega
       rw[decide_eq_false he,Bool.false_and] at hsr;have Hsm:=qh hsr;have Hhe:=qh he;clear he;clear hS hsr;go_wp2
       go_quiet (fail)
       have HS6:=qh (HS6.out.drewN nq);go_wp2;go_roundw
       case rel =>
        refine⟨t+1,?_,?_,?_⟩
        ·rcases Nat.lt_or_ge t (C (i+1) s) with h|h
         ·exact h
         have he:t=C (i+1) s:=Nat.le_antisymm ht h;have h2:=Hci.out.2.1;rw[← he,Hsm.out] at h2;exact absurd h2 (by simp)
        ·intro j hj;by_cases e:j=t
         ·rw[e];exact Hsm.out
         exact Hno.out j (by omega)
        have h:=HS6.out.store 2 rfl s (.int .i64 ((t:Int)+1));rw[show((t:Int)+1)=((t+1:Nat):Int) by omega] at h;simp only[List.set_cons_succ,List.set_cons_zero,Hset.out] at h;exact h
       case measure =>have h:=HS6.out.store 2 rfl s (.int .i64 ((t:Int)+1));rw[show((t:Int)+1)=((t+1:Nat):Int) by omega] at h;simp only[List.set_cons_succ,List.set_cons_zero,Hset.out] at h;rw[show((t:Int)+1)=((t+1:Nat):Int) by omega,ZdG (h.rcell (v:=.int .i64 ((t+1:Nat):Int)) 2 s rfl (by omega) (Zcw (C (i+1)) (t+1))),ZdG Hc1.out];omega
     obtain rfl:L=s:=by omega
     rw[ZgB] at hS;have HS5:=qh hS;clear hS
     have hreq:∀ (r:Bool),decide (clsL L (C (i+1))=clsL L (C i))=r→Calls Try.prog 147 #[.slice (some ⟨wo.heap.size,0,none⟩) L L,.slice (some ⟨gc,0,none⟩) L cc] wr fun e w'=>e = .returned (.bool r)∧Below wr.heap.size wr w' :=
      fun r hr=>Zjs (clsL L (C (i+1))) (clsL L (C i)) L _ _ wr (Zb0 _ _) (Zb0 _ _) (HS5.out.intsC 2 rfl) (HS5.out.intsC 1 rfl) r hr
     have hm0:=Zis (w:=wo) (b:=gc) (n:=L) (cl:=C i) fun x hx=>HS3.out.rcell 1 x rfl (by omega) (ZbN (C i) hx)
     by_cases hiN:i=N
     ·have h1:=hreq true (by rw[decide_eq_true_eq,Hsd.out i,hiN,hL.out];exact HNs.out);have H1:=qh h1;have Hm0:=qh hm0;clear hreq h1 hm0;go_wp2_with fail;refine H1.out.mono ?_;rintro e v3 ⟨rfl,hb3⟩;have HS6:=qh (HS5.out.call hb3);clear hb3;go_wp2;go_roundw
      case rel=>exact⟨i+1,_,_,false,rfl,rfl,Or.inr ⟨rfl,by omega⟩,HS6.out.pick [0,2] (by decide)⟩
      case measure =>have:=ZhU L (C i);simp only[Zm4,Zig,↓reduceIte,Bool.false_eq_true,Hm0.out];omega
     have hns:=HNo.out i (by omega);have h1:=hreq false (by rw[decide_eq_false_iff_not,Hsd.out i,hL.out];exact hns)
     have hmore:reps L (C i)<reps L (C (i+1)):=by
      have hex:∃ x,x<L∧C (i+1) x≠C i x:=by
       apply Classical.byContradiction;intro hc;refine hns fun x hx => ?_
       rw[← hCC.out];apply Classical.byContradiction;intro hcx;exact hc ⟨x,by rw[hL.out];exact hx,hcx⟩
      obtain⟨x,hx,hxne⟩:=hex;have hst:C (i+1)=ZaD L (nxD d) (C i):=by rw[hCC.out,hL.out];rfl
      rw[hst] at hxne ⊢;exact Zfb (Hgood.out i) hx hxne
     have H1:=qh h1;have Hm0:=qh hm0;have Hmore:=qh hmore;have Hhns:=qh hns;clear hns;clear hreq h1 hm0 hmore;go_wp2_with fail;refine H1.out.mono ?_;rintro e v3 ⟨rfl,hb3⟩;have HS6:=qh (HS5.out.call hb3);clear hb3;go_wp2;go_roundw
     case rel=>exact⟨i+1,_,_,true,rfl,rfl,Or.inl ⟨rfl,by omega⟩,HS6.out.pick [0,2] (by decide)⟩
     case measure =>
      have h2:=Zis (w:=v3) (b:=wo.heap.size) (n:=L) (cl:=C (i+1)) fun x hx=>HS6.out.rcell 2 x rfl (by omega) (ZbN (C (i+1)) hx)
      have h3:=Hmore.out;have h4:=ZhU L (C i);simp only[Zm4,Zig,↓reduceIte,Hm0.out,h2];omega
   have hcl:intCells (clsL L (C (N+1)))=intCells (clsL L (clD d)):=by rw[Zgc Hfin.out]
   rw[hcl] at hS;have HS3:=qh hS;have Hhcl:=qh hcl;clear hcl;clear hS;go_wp2;go_ret;exact⟨gc,cc,rfl,HS3.out.pick [1] (by decide)⟩
end Go.Proofs.Ytfanhfcamblghaa
