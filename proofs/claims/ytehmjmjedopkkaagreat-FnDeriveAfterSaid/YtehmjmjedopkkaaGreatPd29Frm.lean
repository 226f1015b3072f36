/-
  The walk over impl.explored[int] as Dfa.from calls it.
  Conditions: as for trim's.
-/
import Derived.Test.YtehmjmjedopkkaaGreatPd19Tsx
set_option maxHeartbeats 8000000
set_option maxRecDepth 100000
namespace Go.Proofs.YtehmjmjedopkkaaGreat
open Go.RowKit Go.Maps
theorem ZhM (a0:Int) (bd:Nat) (nx:Int→Nat→Int) (en:Int→Bool) (Q:Int→Prop) (most:Nat) (w:World) (h0:Q a0) (hQ:∀ x c,c<3→Q x→Q (nx x c)) (hfit:∀ x,Q x→fitI x) (hm0:0<most) (hm1:most≤100000) (hroom:(bat nx a0 most).met.length≤most)
  (hN:∀ x c w',Q x→c<3→Below w.heap.size w w'→Calls Tryz.prog 75 #[.int .i64 x,.int .i64 (c:Nat),.pointer (some ⟨bd,0,none⟩)] w' fun e w2=>e = .returned (.int .i64 (nx x c))∧Below w'.heap.size w' w2)
  (hE:∀ x w',Q x→Below w.heap.size w w'→Calls Tryz.prog 76 #[.int .i64 x,.pointer (some ⟨bd,0,none⟩)] w' fun e w2=>e = .returned (.bool (en x))∧Below w'.heap.size w' w2) :
  Calls Tryz.prog 74 #[.int .i64 a0,.int .i64 most,.func (.func 75) #[] #[.pointer (some ⟨bd,0,none⟩)],.func (.func 76) #[] #[.pointer (some ⟨bd,0,none⟩)]] w
   fun e w'=>∃ a1 c1 a2 c2 a3 c3 vs,e = .returned (.tuple #[.agg #[.slice a1 (bat nx a0 most).met.length c1,.slice a2 (bat nx a0 most).met.length c2],.slice a3 (bat nx a0 most).met.length c3,.bool true]) ∧
    St w w' [Ent.rows 59 3 (.slice a1 (bat nx a0 most).met.length c1) vs (((bat nx a0 most).met.map (Zaf nx (bat nx a0 most).met)).map intCells),Ent.row 4 1 (.slice a2 (bat nx a0 most).met.length c2) (bat nx a0 most).met.length (boolCells ((bat nx a0 most).met.map en)),
     Ent.row 3 1 (.slice a3 (bat nx a0 most).met.length c3) (bat nx a0 most).met.length (intCells (bat nx a0 most).met)]:=by
 have hmm:=@run_makeMap Tryz.prog;obtain⟨l0,hl0⟩:=Tryz.keyOfInt a0 (hfit _ h0);obtain⟨i0,hi,hz0,hz1,hz2⟩:=info_parts Tryz.infoInt;obtain⟨j0,hj,hy0,hy1,hy2⟩:=info_parts Tryz.infoInts;obtain⟨b0,hbi0,hx0,hx1,hx2⟩:=info_parts Tryz.infoBool;have hSa:=(St.start w).alloc _ rfl #[.slice none 0 0,.slice none 0 0] 32;have HM:MapL Tryz.prog 3 ZaS ((w.alloc (.cells #[.slice none 0 0,.slice none 0 0] 32)).alloc (.map #[] 0)) (w.heap.size+1) ([]:List (Int × Value)):=by simpa using MapL.made (P:=Tryz.prog) (kt:=3) (enc:=ZaS) (w.alloc (.cells #[.slice none 0 0,.slice none 0 0] 32))
 have hSb:=hSa.add ((Below.refl _ _).alloc (Nat.le_refl _) (.map #[] 0)) (Ent.map 3 ZaS (w.heap.size+1) ([]:List (Int × Value))) HM fun k hk=>by have hk:k=w.heap.size+1:=hk;subst hk;simp
 obtain⟨w1,hrun,hm1',hg1⟩:=HM.store Tryz.lawInt ZaL Tryz.underlying129 hl0 (.int .i64 0);simp only[ZaS] at hrun;have hSc:=hSb.mapset 1 rfl hm1' hg1;have hSd:=(((((hSc.alloc _ rfl #[.int .i64 a0] 3).boxrow 2 1 1 [.int .i64 a0] rfl rfl (by unfold maxLen;omega)).alloc (w1.heap.size+1) (by simp) #[.slice none 0 0,.slice none 0 0] 32).nilRow 59 1).norows 4 rfl 3).nilRow 4 1;obtain⟨F,hF⟩:=eI ((bat nx a0 most).met);have hbel:∀ k,k≤most→(bat nx a0 k).met.length≤most:=fun k hk=>by have:=(Zg2 (nx:=nx) (a:=a0) hk).1.length_le;omega
 rw[← hF] at hroom;rw[← hF];have HN:=qh hN;have HE:=qh hE;have HQ:=qh hQ;have Hfit:=qh hfit;have Hh0:=qh h0;have Hbel:=qh hbel;replace hF:=qh hF;have HhSd:=qh hSd;clear hSd;have Hhl0:=qh hl0;clear hl0;have Hhi:=qh hi;clear hi;have Hhz0:=qh hz0;clear hz0;have Hhz1:=qh hz1;clear hz1;have Hhz2:=qh hz2;clear hz2;have Hhj:=qh hj;clear hj;have Hhy0:=qh hy0;clear hy0;have Hhy1:=qh hy1;clear hy1;have Hhy2:=qh hy2;clear hy2;have Hhbi0:=qh hbi0;clear hbi0;have Hhx0:=qh hx0;clear hx0;have Hhx1:=qh hx1;clear hx1;have Hhx2:=qh hx2;clear hx2;clear hSa hSb hSc HM hm1' hg1 hN hE hQ hfit h0 hbel
 go_enter Tryz.func74, Tryz.ntmps74
 go_wp2;clear hrun hmm
 go_loopw [9,10,12,14] (fun r1 r2 vm i wr=>∃ (k g3 c3:Nat) (a1 a2:Option Addr) (c1 c2:Nat) (vs:List Value),i = .int .i64 k∧vm = .slice (some ⟨g3,0,none⟩) (bat nx a0 k).met.length c3∧k≤(bat nx a0 k).met.length∧k≤most ∧
   St w wr [Ent.box w.heap.size #[.slice none 0 0,.slice none 0 0] 32,Ent.map 3 ZaS (w.heap.size+1) (numbered (bat nx a0 k).met),Ent.row 3 1 (.slice (some ⟨g3,0,none⟩) (bat nx a0 k).met.length c3) (bat nx a0 k).met.length (intCells (bat nx a0 k).met),
    Ent.box (w1.heap.size+1) #[.slice a1 k c1,.slice a2 k c2] 32,Ent.rows 59 3 (.slice a1 k c1) vs ((((bat nx a0 k).met.take k).map (Zaf nx F)).map intCells),Ent.row 4 1 (.slice a2 k c2) k (boolCells (((bat nx a0 k).met.take k).map en))])
  (fun _ _ _ i _=>most+1-(intOf i).toNat)
 case atStart=>exact⟨0,_,_,none,none,0,0,[],rfl,rfl,Nat.zero_le _,Nat.zero_le _,HhSd.out⟩
 case round =>
  obtain⟨k,g3,c3,a1,a2,c1,c2,vs,rfl,rfl,hk,hkm,hS⟩:=hrel;obtain⟨wo,hwo⟩:∃ wo:World,wo=wr:=⟨_,rfl⟩;subst hwo;obtain⟨M,hM⟩:=eI ((bat nx a0 k).met);have hMl:=Hbel.out k hkm;rw[← hM] at hS hk hMl;rw[← hM];by_cases hlt:k<M.length
  ·have hlt2:(k:Int)<M.length:=by omega
   have HF:∀ n,n≤3→(bpart nx a0 k n).met <+: F:=fun n hn=>by rw[hF.out];exact(Za9 (by rw[← hM];exact hlt) hn (by omega)).1
   have HT:∀ n,n≤3→(bpart nx a0 k n).met.length≤most:=fun n hn=>Nat.le_trans (HF n hn).length_le hroom
   obtain⟨x,hxx⟩:=eI (M.getD k a0);have hQx:Q x:=by rw[hxx,hM];exact ZbJ Hh0.out HQ.out k _ (Zdy (by rw[← hM];exact hlt))
   have Hhxx:=qh hxx;clear hxx;replace HF:=qh HF;have HHT:=qh HT;clear HT;have HhQx:=qh hQx;clear hQx;have HhM:=qh hM;clear hM;have HhS:=qh hS;clear hS;go_wp2_with (at_make;refine wpList_make_full _ rfl _ _ 59 rfl wo.heap.size 3 i0 (.int .i64 0) 1 Tryz.underlying59 Hhi.out Hhz0.out Hhz1.out .i64 .i64 _ _ 3 rfl rfl rfl rfl (by rw[Hhz2.out];omega) (by unfold maxLen;omega) (Nat.le_refl _) ?_;intro w2 hown hgrow;have HS2:=qh (HhS.out.made ((Below.refl _ _).grown hgrow (Nat.le_refl _) (fun _ h=>by cases h)) hown);have hcl:=qh hown.1;clear hown hgrow)
   go_loopw [9,10,12,32] (fun r1 r2 vm i wi=>∃ (n g4 c4:Nat) (cs:List Value),i = .int .i64 n∧vm = .slice (some ⟨g4,0,none⟩) (bpart nx a0 k n).met.length c4∧n≤3∧cs.length=3∧cs.take n=(intCells (Zaf nx F x)).take n ∧
     St w wi [Ent.box w.heap.size #[.slice none 0 0,.slice none 0 0] 32,Ent.map 3 ZaS (w.heap.size+1) (numbered (bpart nx a0 k n).met),Ent.row 3 1 (.slice (some ⟨g4,0,none⟩) (bpart nx a0 k n).met.length c4) (bpart nx a0 k n).met.length (intCells (bpart nx a0 k n).met),
      Ent.box (w1.heap.size+1) #[.slice a1 k c1,.slice a2 k c2] 32,Ent.rows 59 3 (.slice a1 k c1) vs (((M.take k).map (Zaf nx F)).map intCells),Ent.row 4 1 (.slice a2 k c2) k (boolCells ((M.take k).map en)),Ent.row 3 1 (.slice (some ⟨wo.heap.size,0,none⟩) 3 3) 3 cs])
    (fun _ _ _ i _=>3-(intOf i).toNat)
   case atStart =>refine⟨0,g3,c3,(madeCells (Value.int .i64 0).cells (3*1)).toList,rfl,by rw[ZaD,← HhM.out],by omega,by simpa using hcl.out,rfl,?_⟩;rw[ZaD,← HhM.out];exact HS2.out
   case round =>
    obtain⟨n,g4,c4,cs,rfl,rfl,hn,hcs,htk,hSi⟩:=hrel;have hMS:M <+: (bpart nx a0 k n).met:=by rw[HhM.out,← ZaD];exact(Zdz (Nat.zero_le n)).1
    have hSl:M.length≤(bpart nx a0 k n).met.length:=hMS.length_le;by_cases hn3:n<3
    ·have hnd:(bpart nx a0 k n).met.Nodup:=(ZdA (by rw[← HhM.out];exact hlt) hn).1;have hSF:=HF.out n hn;have hSF1:=HF.out (n+1) (by omega);have hT0:=HHT.out n hn;have hT1:=HHT.out (n+1) (by omega);have hold:nx x n∈(bpart nx a0 k n).met→(bpart nx a0 k (n+1)).met=(bpart nx a0 k n).met:=fun h=>by rw[Zcs (by rw[← HhM.out,← Hhxx.out];exact h)]
     have hnew:nx x n ∉ (bpart nx a0 k n).met→(bpart nx a0 k (n+1)).met=(bpart nx a0 k n).met++[nx x n]:=fun h=>by rw[ZbZ (by rw[← HhM.out,← Hhxx.out];exact h),← HhM.out,← Hhxx.out]
     have hQy:Q (nx x n):=HQ.out x n hn3 HhQx.out;have hf:=Hfit.out _ hQy;have hNx:=fun w' (h:Below w.heap.size w w')=>HN.out x n w' HhQx.out hn3 h
     have hrowy:(intCells (Zaf nx F x))[n]? = some (.int .i64 (Zah F (nx x n):Int)):=by simp[Zaf,hn3]
     obtain⟨S1,hS1⟩:=eI ((bpart nx a0 k (n+1)).met);obtain⟨S,hSS⟩:=eI ((bpart nx a0 k n).met);obtain⟨y,hy⟩:=eI (nx x n);rw[← hSS] at hSi hMS hSl hnd hold hnew hSF hT0;rw[← hS1] at hold hnew hSF1 hT1;rw[← hy] at hQy hf hNx hold hnew hrowy;rw[← hSS];have hxS:S.getD k a0=x:=by rw[Hhxx.out];exact ZaI hMS hlt _
     have hkS:(k:Int)<S.length:=by omega
     have e1:=hSi.rcell (v:=.int .i64 x) 2 k rfl (by omega) (by rw[← hxS];simp[intCells,show k<S.length by omega]);obtain⟨ly,hly⟩:=Tryz.keyOfInt y hf;have hNx':=qh (hNx _ hSi.bel);have HhSS:=qh hSS;clear hSS;have HhS1:=qh hS1;clear hS1;have Hhy:=qh hy;clear hy;have Hhnd:=qh hnd;clear hnd;have Hhold:=qh hold;clear hold;have Hhnew:=qh hnew;clear hnew;have HhSF:=qh hSF;clear hSF;have HhSF1:=qh hSF1;clear hSF1;have Hhrowy:=qh hrowy;clear hrowy;have Hhcs:=qh hcs;clear hcs;have Hhtk:=qh htk;clear htk;have HhSi:=qh hSi;clear hSi;have HhMS:=qh hMS;clear hMS;have HhQy:=qh hQy;clear hQy;have Hhf:=qh hf;clear hf;have HhxS:=qh hxS;clear hxS;have Hhly:=qh hly;clear hly;clear hNx;go_wp2_with fail;refine hNx'.out.mono ?_;rintro e w3 ⟨rfl,hb3⟩;have hS3:=HhSi.out.call hb3;clear hb3 e1;by_cases hmem:y∈S
     ·have hlk1:=(hS3.map 1 rfl).lookupOk Tryz.lawInt ZaL Tryz.underlying129 (Zcv _) Hhly.out;have hlk2:=(hS3.map 1 rfl).lookup Tryz.lawInt ZaL Tryz.underlying129 (Zcv _) Hhly.out;have hpl:Zah S y=Zah F y:=(Za1 HhSF.out hmem).symm;rw[ZaO Hhnd.out hmem,hpl] at hlk1 hlk2;simp only[Option.getD_some,Option.isSome_some,ZaS] at hlk1 hlk2;obtain⟨q,hq⟩:=eI (Zah F y);rw[← hq] at hlk1 hlk2;obtain⟨u0,hu0⟩:=Zb3 (hS3.row 6 rfl) n (by omega);have hfr:=hS3.rfr 6 n rfl;have Hhq:=qh hq;clear hq;have Hhpl:=qh hpl;clear hpl;have HhS3:=qh hS3;clear hS3;have Hhmem:=qh hmem;clear hmem;go_wp2;go_roundw
      case rel =>refine⟨n+1,g4,c4,cs.set n (.int .i64 (q:Int)),by go_num,by rw[← HhS1.out,Hhold.out Hhmem.out],by omega,by simpa using Hhcs.out,ZbY (n:=3) Hhcs.out (by simp[Zaf]) hn3 Hhtk.out (by rw[Hhrowy.out,← Hhq.out]),?_⟩;rw[← HhS1.out,Hhold.out Hhmem.out];exact HhS3.out.store 6 rfl n (.int .i64 (q:Int))
      case measure=>simp[intOf];omega
     have hlk1:=(hS3.map 1 rfl).lookupOk Tryz.lawInt ZaL Tryz.underlying129 (Zcv _) Hhly.out;rw[Zbz hmem] at hlk1;simp only[Option.getD_none,Option.isSome_none,ZaS] at hlk1;have hnw:=Hhnew.out hmem;have hfull:S.length<most:=by rw[hnw] at hT1;simp at hT1;omega
     have hq1:((S.length:Int)==(most:Int))=false:=by simp;omega
     have hq2:¬ (S.length:Int)=(most:Int):=by omega
     obtain⟨w5,hrun5,hm5,hg5⟩:=(hS3.map 1 rfl).store Tryz.lawInt ZaL Tryz.underlying129 Hhly.out (.int .i64 (S.length:Int));rw[ZbK hmem] at hm5;simp only[ZaS] at hrun5;have hS5:=hS3.mapset 1 rfl hm5 hg5;have hSa:=hS5.alloc_ (.cells #[.int .i64 y] 3);have hR:=hSa.row 2 rfl;obtain⟨q,hq⟩:=eI (Zah F y);have hA:∀ w7,MapL Tryz.prog 3 ZaS w7 (w.heap.size+1) (numbered (S++[y]))→(Instr.lookup 129 (.map (some (w.heap.size+1))) (.int .i64 y) false).run Tryz.prog w7 = .ok (.int .i64 (q:Int)) w7:=fun w7 h7=>by have hlk7:=h7.lookup Tryz.lawInt ZaL Tryz.underlying129 (Zcv _) Hhly.out;have hpl:Zah (S++[y]) y=Zah F y:=(Za1 (by rw[← hnw];exact HhSF1.out) (by simp)).symm;rw[ZaO (Zcc Hhnd.out hmem) (by simp),hpl,← hq] at hlk7;exact hlk7
     have hsb:(S.length+1)*8≤140737488355328:=by omega
     have hs63:S.length+1≤maxLen:=by unfold maxLen;omega
     have Hhq:=qh hq;clear hq;have HhA:=qh hA;clear hA;have HhS3:=qh hS3;clear hS3;have HhS5:=qh hS5;clear hS5;have HhSa:=qh hSa;clear hSa;have HhR:=qh hR;clear hR;have Hhm5:=qh hm5;clear hm5;have Hhg5:=qh hg5;clear hg5;have Hhmem:=qh hmem;clear hmem;have Hhnw:=qh hnw;clear hnw;go_wp2_with (at_builtin;refine wpList_append_lies _ rfl _ _ _ rfl _ 3 i0 (.int .i64 0) 1 8 Tryz.underlying59 Hhi.out Hhz0.out Hhz1.out Hhz2.out rfl (by omega) _ S.length _ rfl HhR.out ⟨w5.heap.size,0,none⟩ 1 1 [.int .i64 y] rfl rfl (World.news_of_block (heap_alloc_new w5 _)) ZfQ (by omega) hs63 hsb HhSa.out.size _ rfl ?_;intro g7 c7 w7 hown7 hgrow7 hat7 hlt7;have HS7:=qh (HhSa.out.app 2 rfl hown7 hgrow7 hat7);have hlk7:=HhA.out w7 (HS7.out.map 1 rfl);obtain⟨u0,hu0⟩:=Zb3 (HS7.out.row 6 rfl) n (by omega);have hfr7:=HS7.out.rfr 6 n rfl;clear hown7 hgrow7 hat7);go_roundw
     case rel =>refine⟨n+1,g7,c7,cs.set n (.int .i64 (q:Int)),by go_num,by rw[← HhS1.out,Hhnw.out,List.length_append];rfl,by omega,by simpa using Hhcs.out,ZbY (n:=3) Hhcs.out (by simp[Zaf]) hn3 Hhtk.out (by rw[Hhrowy.out,← Hhq.out]),?_⟩;rw[← HhS1.out,Hhnw.out,List.length_append,Zc6];exact HS7.out.store 6 rfl n (.int .i64 (q:Int))
     case measure=>simp[intOf];omega
    obtain rfl:n=3:=by omega
    have hbs:(bat nx a0 (k+1)).met=(bpart nx a0 k 3).met:=congrArg Bs.met (ZaV (by rw[← HhM.out];exact hlt));have hxS:(bpart nx a0 k 3).met.getD k a0=x:=by rw[Hhxx.out];exact ZaI hMS hlt _
    have htake:(bpart nx a0 k 3).met.take (k+1)=M.take k++[x]:=by obtain⟨t,ht⟩:=hMS;rw[← ht,List.take_append_of_le_length (by omega),List.take_succ_eq_append_getElem hlt,Hhxx.out];simp[hlt]
    obtain⟨S,hSS⟩:=eI ((bpart nx a0 k 3).met);rw[← hSS] at hSi hxS htake hSl hbs;rw[← hSS];have hkS:k<S.length:=by omega
    have hkSI:(k:Int)<S.length:=by omega
    have hce:cs=intCells (Zaf nx F x):=by rwa [List.take_of_length_le (by omega),List.take_of_length_le (by simp[Zaf])] at htk
    subst hce;have hlm:(((M.take k).map (Zaf nx F)).map intCells).length=k:=by rw[ZjX,List.length_take];omega
    have hSa:=hSi.alloc_ (.cells #[.slice (some ⟨wo.heap.size,0,none⟩) 3 3] 59);have hRw:=(hSa.rows 4 rfl).1;rw[hlm] at hRw;have e0:=hSi.cell (v:=.slice a1 k c1) 3 0 rfl rfl;have hsx:(intCells S)[k]? = some (.int .i64 x):=by rw[← hxS];simp[intCells,hkS]
    have htk1:(S.take (k+1)).map (Zaf nx F)=(M.take k).map (Zaf nx F)++[Zaf nx F x]:=by rw[htake,List.map_append];rfl
    have htk2:(S.take (k+1)).map en=(M.take k).map en++[en x]:=by rw[htake,List.map_append];rfl
    have hEn:=fun w' (h:Below w.heap.size w w')=>HE.out x w' HhQx.out h
    obtain⟨r,hr⟩:=eI (en x);rw[← hr] at hEn htk2;have HEn:=qh hEn;have Hhlm:=qh hlm;clear hlm;have HhSi:=qh hSi;clear hSi;have HhSa:=qh hSa;clear hSa;have HhRw:=qh hRw;clear hRw;have Hhbs:=qh hbs;clear hbs;have HhSS:=qh hSS;clear hSS;have Hhtake:=qh htake;clear htake;have Hhsx:=qh hsx;clear hsx;have HhxS:=qh hxS;clear hxS;have Hhtk1:=qh htk1;clear htk1;have Hhtk2:=qh htk2;clear htk2;have HhMS:=qh hMS;clear hMS;have Hhcs:=qh hcs;clear hcs;have Hhtk:=qh htk;clear htk;have Hhr:=qh hr;clear hr;clear hEn;go_wp2_with (at_builtin;refine wpList_append_lies _ rfl _ _ _ rfl _ 59 j0 (.slice none 0 0) 1 24 Tryz.underlying29 Hhj.out Hhy0.out Hhy1.out Hhy2.out rfl (by omega) _ k _ rfl HhRw.out ⟨wr.heap.size,0,none⟩ 1 1 [.slice (some ⟨wo.heap.size,0,none⟩) 3 3] rfl rfl (World.news_of_block (heap_alloc_new wr _)) Zib (by omega) (by unfold maxLen;omega) (by omega) HhSa.out.size _ rfl ?_;intro g6 c6 w6 hown6 hgrow6 hat6 hlt6;have HS6:=qh (HhSa.out.snoc 4 6 (by decide) rfl rfl (by decide) hgrow6 (by rw[Hhlm.out];exact hown6) (Zl7 hat6));have y1:=HS6.out.cell (v:=.slice a1 k c1) 3 0 rfl rfl;have y2:=HS6.out.fr 3 0 rfl;clear hown6 hgrow6 hat6 hlt6);have hSq:=(HS6.out.set 3 rfl 0 (.slice (some ⟨g6,0,none⟩) (k+1) c6)).pick [0,1,2,3,4,5] (by decide);obtain⟨wq,hwq⟩:=eI (w6.setCell ⟨w1.heap.size+1,0,none⟩ (.slice (some ⟨g6,0,none⟩) (k+1) c6));rw[← hwq] at hSq
    have hSq':St w wq [Ent.box w.heap.size #[.slice none 0 0,.slice none 0 0] 32,Ent.map 3 ZaS (w.heap.size+1) (numbered S),Ent.row 3 1 (.slice (some ⟨g4,0,none⟩) S.length c4) S.length (intCells S),
      Ent.box (w1.heap.size+1) #[.slice (some ⟨g6,0,none⟩) (k+1) c6,.slice a2 k c2] 32,
      Ent.rows 59 3 (.slice (some ⟨g6,0,none⟩) (k+1) c6) (vs++[.slice (some ⟨wo.heap.size,0,none⟩) 3 3]) (((S.take (k+1)).map (Zaf nx F)).map intCells),Ent.row 4 1 (.slice a2 k c2) k (boolCells ((M.take k).map en))]:=by
     rw[Hhtk1.out,List.map_append];exact hSq
    rw[← hwq];have HSq:=qh hSq';have Hhwq:=qh hwq;clear hwq;clear hSq hSq' y1 y2 e0 HS6;refine wp_region_any (by kernel_rfl) ?_
    refine Zam (fun A listed a w'=>∃ (l0 l1 l2 l3 l4 l5 l6 l7 l8 l9 l10 l11:Bool) (g7:Nat) (c7:Nat) (bn:Nat),listed=#[l0,l1,l2,l3,l4,l5,l6,l7,l8,l9,l10,l11]∧(l9=true→l1=true∧l8=true)∧(l11=true→l9=true∧l1=true) ∧
      a=⟨(((((((((((A.tmps.setIfInBounds 76 (if l0=true then .pointer (some ⟨w1.heap.size+1,1,none⟩) else A.tmps.getD 76 undef)).setIfInBounds 77 (if l1=true then .slice a2 k c2 else A.tmps.getD 77 undef)).setIfInBounds 78 (if l2=true then .func (.func 76) #[] #[.pointer (some ⟨bd,0,none⟩)] else A.tmps.getD 78 undef)).setIfInBounds 79 (if l3=true then .slice (some ⟨g4,0,none⟩) S.length c4 else A.tmps.getD 79 undef)).setIfInBounds 80 (if l4=true then .int .i64 (k:Int) else A.tmps.getD 80 undef)).setIfInBounds 81 (if l5=true then .pointer (some ⟨g4,k,none⟩) else A.tmps.getD 81 undef)).setIfInBounds 82 (if l6=true then .int .i64 x else A.tmps.getD 82 undef)).setIfInBounds 83 (if l7=true then .bool r else A.tmps.getD 83 undef)).setIfInBounds 84 (if l8=true then .slice (some ⟨bn,0,none⟩) 1 1 else A.tmps.getD 84 undef)).setIfInBounds 85 (if l9=true then .slice (some ⟨g7,0,none⟩) (k+1) c7 else A.tmps.getD 85 undef)).setIfInBounds 86 (if l10=true then .pointer (some ⟨w1.heap.size+1,1,none⟩) else A.tmps.getD 86 undef)),A.defers⟩ ∧
      St w w' [Ent.box w.heap.size #[.slice none 0 0,.slice none 0 0] 32,Ent.map 3 ZaS (w.heap.size+1) (numbered S),Ent.row 3 1 (.slice (some ⟨g4,0,none⟩) S.length c4) S.length (intCells S),Ent.box (w1.heap.size+1) #[.slice (some ⟨g6,0,none⟩) (k+1) c6,(if l11=true then .slice (some ⟨g7,0,none⟩) (k+1) c7 else .slice a2 k c2)] 32,Ent.rows 59 3 (.slice (some ⟨g6,0,none⟩) (k+1) c6) (vs++[.slice (some ⟨wo.heap.size,0,none⟩) 3 3]) (((S.take (k+1)).map (Zaf nx F)).map intCells),(if l9=true then Ent.row 4 1 (.slice (some ⟨g7,0,none⟩) (k+1) c7) (k+1) ((boolCells ((M.take k).map en))++[.bool r]) else Ent.row 4 1 (.slice a2 k c2) k (boolCells ((M.take k).map en))),(if l8=true then Ent.box bn #[.bool r] 4 else Ent.nil)]) ?_ ?_ ?_
    ·rintro listed a w' ⟨l0,l1,l2,l3,l4,l5,l6,l7,l8,l9,l10,l11,g7,c7,bn,rfl,hd9,hd11,rfl,hS⟩ i hi;obtain⟨hun,o,ho,hall⟩:=mem_ready.1 hi;have hlt:=(Array.getElem?_eq_some_iff.1 ho).1;refine wpOp_step ho (fun K hK => ?_);clear hi;have HS:=qh hS;clear hS;simp only[List.setIfInBounds_toArray,List.set_cons_zero,List.set_cons_succ,Array.getD_eq_getD_getElem?,List.getElem?_toArray,List.getElem?_cons_zero,List.getElem?_cons_succ,Option.getD_some];obtain h|h|h|h|h|h|h|h|h|h|h|h:i=0∨i=1∨i=2∨i=3∨i=4∨i=5∨i=6∨i=7∨i=8∨i=9∨i=10∨i=11:=by simp at hlt;omega
     all_goals subst h
     all_goals simp only[List.getElem?_toArray,List.getElem?_cons_zero,List.getElem?_cons_succ,Option.some.injEq] at ho
     all_goals subst ho
     all_goals simp[Region.binds] at hun hall
     ·subst hun;go_simp;exact hK _ _ ⟨true,l1,l2,l3,l4,l5,l6,l7,l8,l9,l10,l11,g7,c7,bn,rfl,hd9,hd11,(by simp),HS.out⟩
     ·obtain rfl:=hall;subst hun;obtain rfl:l9=false:=offL hd9 rfl;obtain rfl:l11=false:=offL hd11 rfl;have e0:=HS.out.cell (v:=.slice a2 k c2) 3 1 rfl rfl;go_simp;exact hK _ _ ⟨true,true,l2,l3,l4,l5,l6,l7,l8,false,l10,false,g7,c7,bn,rfl,by simp,by simp,(by simp),HS.out⟩
     ·subst hun;go_simp;exact hK _ _ ⟨l0,l1,true,l3,l4,l5,l6,l7,l8,l9,l10,l11,g7,c7,bn,rfl,hd9,hd11,(by simp),HS.out⟩
     ·subst hun;go_simp;exact hK _ _ ⟨l0,l1,l2,true,l4,l5,l6,l7,l8,l9,l10,l11,g7,c7,bn,rfl,hd9,hd11,(by simp),HS.out⟩
     ·subst hun;go_simp;exact hK _ _ ⟨l0,l1,l2,l3,true,l5,l6,l7,l8,l9,l10,l11,g7,c7,bn,rfl,hd9,hd11,(by simp),HS.out⟩
     ·obtain⟨rfl,rfl⟩:=hall;subst hun;go_simp;exact hK _ _ ⟨l0,l1,l2,true,true,true,l6,l7,l8,l9,l10,l11,g7,c7,bn,rfl,hd9,hd11,(by simp),HS.out⟩
     ·obtain rfl:=hall;subst hun;have e0:=HS.out.rcell (v:=.int .i64 x) 2 k rfl (by omega) Hhsx.out;go_simp;exact hK _ _ ⟨l0,l1,l2,l3,l4,true,true,l7,l8,l9,l10,l11,g7,c7,bn,rfl,hd9,hd11,(by simp),HS.out⟩
     ·obtain⟨rfl,rfl⟩:=hall;subst hun;go_simp
      go_at_call 76
      refine(HEn.out _ HS.out.bel).mono ?_;rintro e u1 ⟨rfl,hbx⟩;have hS2:=HS.out.call hbx;have HhS2:=qh hS2;clear hS2;go_simp;exact hK _ _ ⟨l0,l1,true,l3,l4,l5,true,true,l8,l9,l10,l11,g7,c7,bn,rfl,hd9,hd11,(by simp),HhS2.out⟩
     ·obtain rfl:=hall;subst hun;obtain rfl:l9=false:=offR hd9 rfl;obtain rfl:l11=false:=offL hd11 rfl;have hS2:=(HS.out.alloc _ rfl #[.bool r] 4).pick [0,1,2,3,4,5,7] (by decide);have HhS2:=qh hS2;clear hS2;go_simp;exact hK _ _ ⟨l0,l1,l2,l3,l4,l5,l6,true,true,false,l10,false,g7,c7,_,rfl,by simp,by simp,(by simp),HhS2.out⟩
     ·obtain⟨rfl,rfl,rfl⟩:=hall;subst hun;obtain rfl:l11=false:=offL hd11 rfl;refine step_append_lies (a:=⟨_,_⟩) _ (by rfl) _ _ _ (by rfl) w.heap.size 4 b0 (.bool false) 1 1 Tryz.underlying30 Hhbi0.out Hhx0.out Hhx1.out Hhx2.out (by rfl) (by omega) (.slice a2 k c2) k (boolCells ((M.take k).map en)) (by rfl) (HS.out.row 5 rfl) ⟨bn,0,none⟩ 1 1 [.bool r] (by rfl) (by rfl) (World.news_of_block (HS.out.box 6 rfl)) Zht (by omega) (by unfold maxLen;omega) (by omega) HS.out.size _ rfl ?_;intro g8 c8 w8 hown8 hgrow8 hat8 hlt8;have HS8:=qh (HS.out.app 5 rfl hown8 hgrow8 hat8);clear hown8 hgrow8 hat8;go_simp;exact hK _ _ ⟨l0,true,l2,l3,l4,l5,l6,true,true,true,l10,false,g8,c8,bn,rfl,by simp,by simp,(by simp),HS8.out⟩
     ·obtain⟨rfl,rfl,rfl,rfl,rfl,rfl,rfl,rfl,rfl,rfl⟩:=hall;subst hun;go_simp;exact hK _ _ ⟨true,true,true,true,true,true,true,true,true,true,true,l11,g7,c7,bn,rfl,by simp,hd11,(by simp only[↓reduceIte,List.setIfInBounds_toArray,List.set_cons_zero,List.set_cons_succ]),HS.out⟩
     obtain⟨rfl,rfl,rfl,rfl,rfl,rfl,rfl,rfl,rfl,rfl,rfl,-⟩:=hall;subst hun;have f0:=HS.out.fr 3 1 rfl;have k0:=HS.out.cell (v:=.slice a2 k c2) 3 1 rfl rfl;go_simp;exact hK _ _ ⟨true,true,true,true,true,true,true,true,true,true,true,true,g7,c7,bn,rfl,by simp,by simp,(by simp only[↓reduceIte,List.setIfInBounds_toArray,List.set_cons_zero,List.set_cons_succ]),(HS.out.set 3 rfl 1 (.slice (some ⟨g7,0,none⟩) (k+1) c7))⟩
    ·rintro listed a w' ⟨l0,l1,l2,l3,l4,l5,l6,l7,l8,l9,l10,l11,g7,c7,bn,rfl,hd9,hd11,rfl,hS⟩ hr;have hall:=ZfL (by kernel_rfl) rfl hr;obtain rfl:l0=true:=by simpa using hall 0 (by simp)
     obtain rfl:l1=true:=by simpa using hall 1 (by simp)
     obtain rfl:l2=true:=by simpa using hall 2 (by simp)
     obtain rfl:l3=true:=by simpa using hall 3 (by simp)
     obtain rfl:l4=true:=by simpa using hall 4 (by simp)
     obtain rfl:l5=true:=by simpa using hall 5 (by simp)
     obtain rfl:l6=true:=by simpa using hall 6 (by simp)
     obtain rfl:l7=true:=by simpa using hall 7 (by simp)
     obtain rfl:l8=true:=by simpa using hall 8 (by simp)
     obtain rfl:l9=true:=by simpa using hall 9 (by simp)
     obtain rfl:l10=true:=by simpa using hall 10 (by simp)
     obtain rfl:l11=true:=by simpa using hall 11 (by simp)
     clear hall hr hd9 hd11;simp only[↓reduceIte] at hS ⊢;simp only[List.setIfInBounds_toArray,List.set_cons_zero,List.set_cons_succ];have hS9:=hS.pick [0,1,2,3,4,5] (by decide);have HhS9:=qh hS9;clear hS9;clear hS;go_wp2;go_roundw
     case rel =>refine⟨k+1,g4,c4,some ⟨g6,0,none⟩,some ⟨g7,0,none⟩,c6,c7,vs++[.slice (some ⟨wo.heap.size,0,none⟩) 3 3],by go_num,by rw[Hhbs.out],by rw[Hhbs.out];omega,by omega,?_⟩;rw[Hhbs.out,Hhtk2.out,ZdH];exact HhS9.out
     case measure=>simp[intOf];omega
    refine⟨false,false,false,false,false,false,false,false,false,false,false,false,0,0,0,rfl,by simp,by simp,(by simp),?_⟩;exact HSq.out.drew.pick [0,1,2,3,4,5,6] (by decide)
  have hMF:M=F:=by rw[hF.out,hM];exact(congrArg Bs.met (Zca (by rw[← hM];omega) (by omega))).symm
  obtain rfl:k=M.length:=by omega
  subst hMF;rw[List.take_length] at hS;have d0:=hS.cell (v:=.slice a1 M.length c1) 3 0 rfl rfl;have d1:=hS.cell (v:=.slice a2 M.length c2) 3 1 rfl rfl;have f0:=hS.fr 0 0 rfl;have f1:=hS.fr 0 1 rfl;have k0:=hS.cell (v:=.slice none 0 0) 0 0 rfl rfl;have k1:=hS.cell (v:=.slice none 0 0) 0 1 rfl rfl;have HhS:=qh hS;clear hS;have HhM:=qh hM;clear hM;clear hk hMl;go_wp2;have hq:=(HhS.out.set 0 rfl 0 (.slice a1 M.length c1)).set 0 rfl 1 (.slice a2 M.length c2);have q0:=hq.cell (v:=.slice a1 M.length c1) 0 0 rfl rfl;have q1:=hq.cell (v:=.slice a2 M.length c2) 0 1 rfl rfl;refine bodyPost_ret (v:=.tuple #[.agg #[.slice a1 M.length c1,.slice a2 M.length c2],.slice (some ⟨g3,0,none⟩) M.length c3,.bool true]) (by simp[results,Tryz.results74,go_sem,q0,q1]) rfl ?_;exact⟨a1,c1,a2,c2,_,c3,vs,rfl,hq.pick [4,5,2] (by decide)⟩
end Go.Proofs.YtehmjmjedopkkaaGreat
namespace Go.Proofs.YtehmjmjedopkkaaGreat
open Go.RowKit
def Zc7 (d:DfaD) (q:Nat):DfaD:=Zar (dnx d) (den d) (bat (dnx d) (q:Int) d.next.length).met
theorem ZkQ {d:DfaD} (hd:fine d) {q:Nat} (hq:q<d.next.length) (k:Nat):∀ x∈(bat (dnx d) (q:Int) k).met,0≤x∧x<d.next.length:=by obtain⟨h1,_,_,h4⟩:=hd;exact ZbJ (Q:=fun x:Int=>0≤x∧x<(d.next.length:Int)) (by omega) (fun x c hc hx=>(h4 x.toNat (by omega)).2 c hc) k
theorem Zm6 {l:List Int} {n:Nat} (hn:l.Nodup) (h:∀ x∈l,0≤x∧x<n):l.length≤n:=by
 have:=Zdw (m:=ZaW n) hn fun x hx=>by obtain⟨h1,h2⟩:=h x hx;obtain⟨y,rfl⟩:=Int.eq_ofNat_of_zero_le h1;exact ZbG.2 (by omega)
 rwa [ZbC] at this
theorem ZeI {d:DfaD} (hd:fine d) {q:Nat} (hq:q<d.next.length) (k:Nat):(bat (dnx d) (q:Int) k).met.length≤d.next.length:=Zm6 (Za5 k).1 (ZkQ hd hq k)
theorem Zmg (d:DfaD) (b1 o1 cv b2 o2 cw bd x c:Nat) (w:World) (hC:DfaC w d b1 o1 cv b2 o2 cw) (hx:x<d.next.length) (hc:c<3) (hb:Bx w bd #[.slice (some ⟨b1,o1,none⟩) d.next.length cv,.slice (some ⟨b2,o2,none⟩) d.next.length cw] 32) :
  Calls Tryz.prog 75 #[.int .i64 (x:Nat),.int .i64 (c:Nat),.pointer (some ⟨bd,0,none⟩)] w fun e w'=>e = .returned (.int .i64 (dnx d (x:Int) c))∧Below w.heap.size w w':=by
 have c0:=hb.cell 0;simp only[List.getElem?_toArray,List.getElem?_cons_zero] at c0;obtain⟨b3,o3,c3,p1,p2,p3,p4,p5⟩:=hC.row x hx;have p6:=p5 c hc;rw[hC.dx x c hx hc];obtain⟨y,hy⟩:=eI (nxD d x c);rw[← hy] at p6;rw[← hy];have hc3:(c:Int)<3:=by omega
 have hxL:(x:Int)<d.next.length:=by omega
 have hl2:=hC.l2;replace hy:=qh hy;clear p5 hC hb
 go_enter Tryz.func75, Tryz.ntmps75
 go_wp2;go_ret;exact⟨rfl,Below.refl _ _⟩
theorem Zmf (d:DfaD) (b1 o1 cv b2 o2 cw bd x:Nat) (w:World) (hC:DfaC w d b1 o1 cv b2 o2 cw) (hx:x<d.next.length) (hb:Bx w bd #[.slice (some ⟨b1,o1,none⟩) d.next.length cv,.slice (some ⟨b2,o2,none⟩) d.next.length cw] 32) :
  Calls Tryz.prog 76 #[.int .i64 (x:Nat),.pointer (some ⟨bd,0,none⟩)] w fun e w'=>e = .returned (.bool (den d (x:Int)))∧Below w.heap.size w w':=by
 have c0:=hb.cell 1;simp only[List.getElem?_toArray,List.getElem?_cons_zero,List.getElem?_cons_succ] at c0;have p6:=hC.en x hx;have hz:den d (x:Int)=enD d x:=by simp[den,enD]
 rw[hz];obtain⟨y,hy⟩:=eI (enD d x);rw[← hy] at p6;rw[← hy];have hxL:(x:Int)<d.next.length:=by omega
 have hl2:=hC.l2;replace hy:=qh hy;have Hhz:=qh hz;clear hz;clear hC hb
 go_enter Tryz.func76, Tryz.ntmps76
 go_wp2;go_ret;exact⟨rfl,Below.refl _ _⟩
theorem ZhI (d:DfaD) (q:Nat) (hq:q<d.next.length) (v:Value) (w:World) (hd:Zai d.next d.ends=true) (h:DfaR 0 w v d) :
  Calls Tryz.prog 38 #[v,.int .i64 (q:Int)] w fun e w'=>∃ a1 c1 a2 c2 vs,e = .returned (.agg #[.slice a1 (Zc7 d q).next.length c1,.slice a2 (Zc7 d q).ends.length c2]) ∧
   St w w' [Ent.rows 59 3 (.slice a1 (Zc7 d q).next.length c1) vs ((Zc7 d q).next.map intCells),Ent.row 4 1 (.slice a2 (Zc7 d q).ends.length c2) (Zc7 d q).ends.length (boolCells (Zc7 d q).ends)]:=by
 obtain⟨b1,o1,cv,b2,o2,cw,rfl,hC⟩:=ZhO hd h;have hl1:=hC.l1;have hl2:=hC.l2;have hFl:=ZeI (ZaB hd) hq d.next.length;have hS0:=((St.start w).alloc _ rfl #[.slice (some ⟨b1,o1,none⟩) d.next.length cv,.slice (some ⟨b2,o2,none⟩) d.next.length cw] 32).alloc (w.heap.size+1) (by simp) #[.slice none 0 0,.slice none 0 0] 32
 have hex:=fun (W:World) (hbx:Bx W w.heap.size #[.slice (some ⟨b1,o1,none⟩) d.next.length cv,.slice (some ⟨b2,o2,none⟩) d.next.length cw] 32) (hb:Below w.heap.size w W) =>
  ZhM (q:Int) w.heap.size (dnx d) (den d) (fun x=>0≤x∧x<(d.next.length:Int)) d.next.length W ⟨by omega,by omega⟩
   (fun x c hc hx=>by obtain⟨n,rfl⟩:∃ n:Nat,x=(n:Int):=⟨x.toNat,by omega⟩;have h1:=hC.lt n c (by omega) hc;rw[hC.dx n c (by omega) hc];omega)
   (fun x hx=>by unfold fitI;omega) (by omega) (by omega) hFl
   (fun x c w' hx hc hb'=>by obtain⟨n,rfl⟩:∃ n:Nat,x=(n:Int):=⟨x.toNat,by omega⟩;exact Zmg d b1 o1 cv b2 o2 cw w.heap.size n c w' ((hC.below hb).below hb') (by omega) hc (hbx.below hb' hbx.lt))
   (fun x w' hx hb'=>by obtain⟨n,rfl⟩:∃ n:Nat,x=(n:Int):=⟨x.toNat,by omega⟩;exact Zmf d b1 o1 cv b2 o2 cw w.heap.size n w' ((hC.below hb).below hb') (by omega) (hbx.below hb' hbx.lt))
 obtain⟨F,hF⟩:=eI ((bat (dnx d) (q:Int) d.next.length).met);rw[← hF] at hex hFl;have htr:Zc7 d q=⟨F.map (Zaf (dnx d) F),F.map (den d)⟩:=by unfold Zc7;rw[← hF];rfl
 rw[htr];have Hex:=qh hex;obtain⟨L,hL⟩:=eI (d.next.length);rw[← hL] at Hex hS0 hFl hl1 hl2;rw[← hL];replace hS0:=qh hS0;replace hF:=qh hF;have Hhtr:=qh htr;clear htr;have HhL:=qh hL;clear hL;clear hex hC h
 go_enter Tryz.func38, Tryz.ntmps38
 go_wp2_with fail;refine(Hex.out _ (hS0.out.box 0 rfl) hS0.out.bel).mono ?_;rintro e w2 ⟨a1,c1,a2,c2,a3,c3,vs,rfl,hS'⟩;have hS2:=(hS0.out.cat hS').alloc _ rfl #[.slice a1 F.length c1,.slice a2 F.length c2] 32;have d0:=hS2.cell (v:=.slice a1 F.length c1) 5 0 rfl rfl;have d1:=hS2.cell (v:=.slice a2 F.length c2) 5 1 rfl rfl;have f0:=hS2.fr 1 0 rfl;have f1:=hS2.fr 1 1 rfl;have k0:=hS2.cell (v:=.slice none 0 0) 1 0 rfl rfl;have k1:=hS2.cell (v:=.slice none 0 0) 1 1 rfl rfl;have HhS2:=qh hS2;clear hS2;clear hS';go_wp2;have hq:=(HhS2.out.set 1 rfl 0 (.slice a1 F.length c1)).set 1 rfl 1 (.slice a2 F.length c2);have q0:=hq.cell (v:=.slice a1 F.length c1) 1 0 rfl rfl;have q1:=hq.cell (v:=.slice a2 F.length c2) 1 1 rfl rfl;refine bodyPost_ret (v:=.agg #[.slice a1 F.length c1,.slice a2 F.length c2]) (by simp[results,Tryz.results38,go_sem,q0,q1]) rfl ?_;simp only[List.length_map];exact⟨a1,c1,a2,c2,vs,rfl,hq.pick [2,3] (by decide)⟩
end Go.Proofs.YtehmjmjedopkkaaGreat
