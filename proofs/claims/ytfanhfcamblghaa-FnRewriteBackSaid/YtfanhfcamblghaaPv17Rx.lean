/-
  The walks over the draws of one automaton.
  Condition: the argument reads as bytes.
-/
import Derived.Test.YtfanhfcamblghaaPv11Ty
set_option maxHeartbeats 8000000
set_option maxRecDepth 100000
namespace Go.Proofs.Ytfanhfcamblghaa
open Go.RowKit
theorem Zi0 (bs:List Nat) (v:Value) (w:World) (hb:Bytes 0 w v bs) (hlen:bs.length≤100000000) :
  Calls Try.prog 29 #[v] w fun e w'=>∃ vb bs',bs'.length≤2000∧(∀ u:World,Bytes 0 u v bs→Bytes 0 u vb bs')∧e = .returned (.pointer (some ⟨w.heap.size,0,none⟩))∧St w w' [RdE w.heap.size vb 0]:=by
 obtain⟨a,c,rfl,hc1,hc2,-⟩:=hb.form;have Hb:=qh hb;clear hb;by_cases h2:2000<bs.length
 ·have q1:(2000:Int)<bs.length:=by omega
  have q2:(2000:Int)≤c:=by omega
  have hS:=(St.start w).alloc _ rfl #[.slice a 2000 c,.int .i64 0] 117;have HS:=qh hS;clear hS
  go_enter Try.func29, Try.ntmps29
  go_wp2;go_ret;exact⟨_,bs.take 2000,by rw[List.length_take];omega,fun u h=>h.take (by omega),rfl,HS.out⟩
 have q1:(2000<(bs.length:Int))=False:=by simp;omega
 have hS:=(St.start w).alloc _ rfl #[.slice a bs.length c,.int .i64 0] 117;have HS:=qh hS;have h2:bs.length≤2000:=by omega
 clear hS
 go_enter Try.func29, Try.ntmps29
 go_wp2;go_ret;exact⟨_,bs,h2,fun u h=>h,rfl,HS.out⟩
end Go.Proofs.Ytfanhfcamblghaa
namespace Go.Proofs.Ytfanhfcamblghaa
open Go.RowKit Go.Maps
def Ent.map {α:Type} (kt:Nat) (enc:α→Value) (b:Nat) (M:List (α × Value)):Ent:=⟨fun k=>k=b,fun w=>MapL Try.prog kt enc w b M,fun _ _ h hk=>h.kept (hk b rfl)⟩
section
variable {α:Type} {w0 w w':World} {L:List Ent} {kt:Nat} {enc:α→Value} {b:Nat} {M M':List (α × Value)}
theorem St.map (h:St w0 w L) (i:Nat) (hx:L[i]? = some (Ent.map kt enc b M)):MapL Try.prog kt enc w b M:=(h.has i _ hx).1
theorem St.mapset (h:St w0 w L) (i:Nat) (hx:L[i]? = some (Ent.map kt enc b M)) (hn:MapL Try.prog kt enc w' b M') (hg:w.grownBy w' (some b)):St w0 w' (L.set i (Ent.map kt enc b M')) :=
 h.turn i hx _ hg.os hg.tape hg.output hg.size (fun k hk hne=>hg.block k hk fun e=>hne (show k=b from Option.some.inj e)) hn fun k hk=>by have hk:k=b:=hk;subst hk;exact⟨hn.lt,Or.inl rfl⟩
end
def Zbw (x:Int):Value:=.int .i64 x
theorem ZbC:∀ x y:Int,Zbw x=Zbw y→x=y:=fun x y h=>by simp only[Zbw,Value.int.injEq,true_and] at h;exact h
theorem Try.lawInt:Keyed Try.prog 3:=int_keyed Try.underlying3
theorem Try.keyOfInt (x:Int) (hx:fitI x):∃ l,keyOf Try.prog 3 (Zbw x)=some l:=⟨_,keyOf_int_mk Try.underlying3 (ZhH hx)⟩
theorem ZdN (w:World):(zeroValue 3).run Try.prog w = .ok (.int .i64 0) w:=by kernel_rfl
theorem ZfG (a0:Int) (bc bd:Nat) (nx:Int→Nat→Int) (en:Int→Bool) (Q:Int→Prop) (most:Nat) (w:World) (h0:Q a0) (hQ:∀ x c,c<3→Q x→Q (nx x c)) (hfit:∀ x,Q x→fitI x) (hm0:0<most) (hm1:most≤100000) (hroom:(bat nx a0 most).met.length≤most)
  (hN:∀ x c w',Q x→c<3→Below w.heap.size w w'→Calls Try.prog 111 #[.int .i64 x,.int .i64 (c:Nat),.pointer (some ⟨bc,0,none⟩),.pointer (some ⟨bd,0,none⟩)] w' fun e w2=>e = .returned (.int .i64 (nx x c))∧Below w'.heap.size w' w2)
  (hE:∀ x w',Q x→Below w.heap.size w w'→Calls Try.prog 112 #[.int .i64 x,.pointer (some ⟨bd,0,none⟩)] w' fun e w2=>e = .returned (.bool (en x))∧Below w'.heap.size w' w2) :
  Calls Try.prog 110 #[.int .i64 a0,.int .i64 most,.func (.func 111) #[] #[.pointer (some ⟨bc,0,none⟩),.pointer (some ⟨bd,0,none⟩)],.func (.func 112) #[] #[.pointer (some ⟨bd,0,none⟩)]] w
   fun e w'=>∃ a1 c1 a2 c2 a3 c3 vs,e = .returned (.tuple #[.agg #[.slice a1 (bat nx a0 most).met.length c1,.slice a2 (bat nx a0 most).met.length c2],.slice a3 (bat nx a0 most).met.length c3,.bool true]) ∧
    St w w' [Ent.rows 26 3 (.slice a1 (bat nx a0 most).met.length c1) vs (((bat nx a0 most).met.map (Zab nx (bat nx a0 most).met)).map intCells),Ent.row 4 1 (.slice a2 (bat nx a0 most).met.length c2) (bat nx a0 most).met.length (boolCells ((bat nx a0 most).met.map en)),
     Ent.row 3 1 (.slice a3 (bat nx a0 most).met.length c3) (bat nx a0 most).met.length (intCells (bat nx a0 most).met)]:=by
 have hmm:=@run_makeMap Try.prog;obtain⟨l0,hl0⟩:=Try.keyOfInt a0 (hfit _ h0);obtain⟨i0,hi,hz0,hz1,hz2⟩:=info_parts Try.infoInt;obtain⟨j0,hj,hy0,hy1,hy2⟩:=info_parts Try.infoInts;obtain⟨b0,hbi0,hx0,hx1,hx2⟩:=info_parts Try.infoBool;have hSa:=(St.start w).alloc _ rfl #[.slice none 0 0,.slice none 0 0] 45;have HM:MapL Try.prog 3 Zbw ((w.alloc (.cells #[.slice none 0 0,.slice none 0 0] 45)).alloc (.map #[] 0)) (w.heap.size+1) ([]:List (Int × Value)):=by simpa using MapL.made (P:=Try.prog) (kt:=3) (enc:=Zbw) (w.alloc (.cells #[.slice none 0 0,.slice none 0 0] 45))
 have hSb:=hSa.add ((Below.refl _ _).alloc (Nat.le_refl _) (.map #[] 0)) (Ent.map 3 Zbw (w.heap.size+1) ([]:List (Int × Value))) HM fun k hk=>by have hk:k=w.heap.size+1:=hk;subst hk;simp
 obtain⟨w1,hrun,hm1',hg1⟩:=HM.store Try.lawInt ZbC Try.underlying174 hl0 (.int .i64 0);simp only[Zbw] at hrun;have hSc:=hSb.mapset 1 rfl hm1' hg1;have hSd:=(((((hSc.alloc _ rfl #[.int .i64 a0] 3).boxrow 2 1 1 [.int .i64 a0] rfl rfl (by unfold maxLen;omega)).alloc (w1.heap.size+1) (by simp) #[.slice none 0 0,.slice none 0 0] 45).nilRow 26 1).norows 4 rfl 3).nilRow 4 1;obtain⟨F,hF⟩:=eI ((bat nx a0 most).met);have hbel:∀ k,k≤most→(bat nx a0 k).met.length≤most:=fun k hk=>by have:=(Zez (nx:=nx) (a:=a0) hk).1.length_le;omega
 rw[← hF] at hroom;rw[← hF];have HN:=qh hN;have HE:=qh hE;have HQ:=qh hQ;have Hfit:=qh hfit;have Hh0:=qh h0;have Hbel:=qh hbel;replace hF:=qh hF;have HhSd:=qh hSd;clear hSd;have Hhl0:=qh hl0;clear hl0;have Hhi:=qh hi;clear hi;have Hhz0:=qh hz0;clear hz0;have Hhz1:=qh hz1;clear hz1;have Hhz2:=qh hz2;clear hz2;have Hhj:=qh hj;clear hj;have Hhy0:=qh hy0;clear hy0;have Hhy1:=qh hy1;clear hy1;have Hhy2:=qh hy2;clear hy2;have Hhbi0:=qh hbi0;clear hbi0;have Hhx0:=qh hx0;clear hx0;have Hhx1:=qh hx1;clear hx1;have Hhx2:=qh hx2;clear hx2;clear hSa hSb hSc HM hm1' hg1 hN hE hQ hfit h0 hbel
 go_enter Try.func110, Try.ntmps110
 go_wp2;clear hrun hmm
 go_loopw [9,10,12,14] (fun r1 r2 vm i wr=>∃ (k g3 c3:Nat) (a1 a2:Option Addr) (c1 c2:Nat) (vs:List Value),i = .int .i64 k∧vm = .slice (some ⟨g3,0,none⟩) (bat nx a0 k).met.length c3∧k≤(bat nx a0 k).met.length∧k≤most ∧
   St w wr [Ent.box w.heap.size #[.slice none 0 0,.slice none 0 0] 45,Ent.map 3 Zbw (w.heap.size+1) (numbered (bat nx a0 k).met),Ent.row 3 1 (.slice (some ⟨g3,0,none⟩) (bat nx a0 k).met.length c3) (bat nx a0 k).met.length (intCells (bat nx a0 k).met),
    Ent.box (w1.heap.size+1) #[.slice a1 k c1,.slice a2 k c2] 45,Ent.rows 26 3 (.slice a1 k c1) vs ((((bat nx a0 k).met.take k).map (Zab nx F)).map intCells),Ent.row 4 1 (.slice a2 k c2) k (boolCells (((bat nx a0 k).met.take k).map en))])
  (fun _ _ _ i _=>most+1-(intOf i).toNat)
 case atStart=>exact⟨0,_,_,none,none,0,0,[],rfl,rfl,Nat.zero_le _,Nat.zero_le _,HhSd.out⟩
 case round =>
  obtain⟨k,g3,c3,a1,a2,c1,c2,vs,rfl,rfl,hk,hkm,hS⟩:=hrel;obtain⟨wo,hwo⟩:∃ wo:World,wo=wr:=⟨_,rfl⟩;subst hwo;obtain⟨M,hM⟩:=eI ((bat nx a0 k).met);have hMl:=Hbel.out k hkm;rw[← hM] at hS hk hMl;rw[← hM];by_cases hlt:k<M.length
  ·have hlt2:(k:Int)<M.length:=by omega
   have HF:∀ n,n≤3→(bpart nx a0 k n).met <+: F:=fun n hn=>by rw[hF.out];exact(Zax (by rw[← hM];exact hlt) hn (by omega)).1
   have HT:∀ n,n≤3→(bpart nx a0 k n).met.length≤most:=fun n hn=>Nat.le_trans (HF n hn).length_le hroom
   obtain⟨x,hxx⟩:=eI (M.getD k a0);have hQx:Q x:=by rw[hxx,hM];exact Zbu Hh0.out HQ.out k _ (Zcb (by rw[← hM];exact hlt))
   have Hhxx:=qh hxx;clear hxx;replace HF:=qh HF;have HHT:=qh HT;clear HT;have HhQx:=qh hQx;clear hQx;have HhM:=qh hM;clear hM;have HhS:=qh hS;clear hS;go_wp2_with (at_make;refine wpList_make_full _ rfl _ _ 26 rfl wo.heap.size 3 i0 (.int .i64 0) 1 Try.underlying26 Hhi.out Hhz0.out Hhz1.out .i64 .i64 _ _ 3 rfl rfl rfl rfl (by rw[Hhz2.out];omega) (by unfold maxLen;omega) (Nat.le_refl _) ?_;intro w2 hown hgrow;have HS2:=qh (HhS.out.made ((Below.refl _ _).grown hgrow (Nat.le_refl _) (fun _ h=>by cases h)) hown);have hcl:=qh hown.1;clear hown hgrow)
   go_loopw [9,10,12,32] (fun r1 r2 vm i wi=>∃ (n g4 c4:Nat) (cs:List Value),i = .int .i64 n∧vm = .slice (some ⟨g4,0,none⟩) (bpart nx a0 k n).met.length c4∧n≤3∧cs.length=3∧cs.take n=(intCells (Zab nx F x)).take n ∧
     St w wi [Ent.box w.heap.size #[.slice none 0 0,.slice none 0 0] 45,Ent.map 3 Zbw (w.heap.size+1) (numbered (bpart nx a0 k n).met),Ent.row 3 1 (.slice (some ⟨g4,0,none⟩) (bpart nx a0 k n).met.length c4) (bpart nx a0 k n).met.length (intCells (bpart nx a0 k n).met),
      Ent.box (w1.heap.size+1) #[.slice a1 k c1,.slice a2 k c2] 45,Ent.rows 26 3 (.slice a1 k c1) vs (((M.take k).map (Zab nx F)).map intCells),Ent.row 4 1 (.slice a2 k c2) k (boolCells ((M.take k).map en)),Ent.row 3 1 (.slice (some ⟨wo.heap.size,0,none⟩) 3 3) 3 cs])
    (fun _ _ _ i _=>3-(intOf i).toNat)
   case atStart =>refine⟨0,g3,c3,(madeCells (Value.int .i64 0).cells (3*1)).toList,rfl,by rw[Zao,← HhM.out],by omega,by simpa using hcl.out,rfl,?_⟩;rw[Zao,← HhM.out];exact HS2.out
   case round =>
    obtain⟨n,g4,c4,cs,rfl,rfl,hn,hcs,htk,hSi⟩:=hrel;have hMS:M <+: (bpart nx a0 k n).met:=by rw[HhM.out,← Zao];exact(Za1 (Nat.zero_le n)).1
    have hSl:M.length≤(bpart nx a0 k n).met.length:=hMS.length_le;by_cases hn3:n<3
    ·have hnd:(bpart nx a0 k n).met.Nodup:=(ZcJ (by rw[← HhM.out];exact hlt) hn).1;have hSF:=HF.out n hn;have hSF1:=HF.out (n+1) (by omega);have hT0:=HHT.out n hn;have hT1:=HHT.out (n+1) (by omega);have hold:nx x n∈(bpart nx a0 k n).met→(bpart nx a0 k (n+1)).met=(bpart nx a0 k n).met:=fun h=>by rw[ZbG (by rw[← HhM.out,← Hhxx.out];exact h)]
     have hnew:nx x n ∉ (bpart nx a0 k n).met→(bpart nx a0 k (n+1)).met=(bpart nx a0 k n).met++[nx x n]:=fun h=>by rw[ZbH (by rw[← HhM.out,← Hhxx.out];exact h),← HhM.out,← Hhxx.out]
     have hQy:Q (nx x n):=HQ.out x n hn3 HhQx.out;have hf:=Hfit.out _ hQy;have hNx:=fun w' (h:Below w.heap.size w w')=>HN.out x n w' HhQx.out hn3 h
     have hrowy:(intCells (Zab nx F x))[n]? = some (.int .i64 (Zad F (nx x n):Int)):=by simp[Zab,hn3]
     obtain⟨S1,hS1⟩:=eI ((bpart nx a0 k (n+1)).met);obtain⟨S,hSS⟩:=eI ((bpart nx a0 k n).met);obtain⟨y,hy⟩:=eI (nx x n);rw[← hSS] at hSi hMS hSl hnd hold hnew hSF hT0;rw[← hS1] at hold hnew hSF1 hT1;rw[← hy] at hQy hf hNx hold hnew hrowy;rw[← hSS];have hxS:S.getD k a0=x:=by rw[Hhxx.out];exact Zau hMS hlt _
     have hkS:(k:Int)<S.length:=by omega
     have e1:=hSi.rcell (v:=.int .i64 x) 2 k rfl (by omega) (by rw[← hxS];simp[intCells,show k<S.length by omega]);obtain⟨ly,hly⟩:=Try.keyOfInt y hf;have hNx':=qh (hNx _ hSi.bel);have HhSS:=qh hSS;clear hSS;have HhS1:=qh hS1;clear hS1;have Hhy:=qh hy;clear hy;have Hhnd:=qh hnd;clear hnd;have Hhold:=qh hold;clear hold;have Hhnew:=qh hnew;clear hnew;have HhSF:=qh hSF;clear hSF;have HhSF1:=qh hSF1;clear hSF1;have Hhrowy:=qh hrowy;clear hrowy;have Hhcs:=qh hcs;clear hcs;have Hhtk:=qh htk;clear htk;have HhSi:=qh hSi;clear hSi;have HhMS:=qh hMS;clear hMS;have HhQy:=qh hQy;clear hQy;have Hhf:=qh hf;clear hf;have HhxS:=qh hxS;clear hxS;have Hhly:=qh hly;clear hly;clear hNx;go_wp2_with fail;refine hNx'.out.mono ?_;rintro e w3 ⟨rfl,hb3⟩;have hS3:=HhSi.out.call hb3;clear hb3 e1;by_cases hmem:y∈S
     ·have hlk1:=(hS3.map 1 rfl).lookupOk Try.lawInt ZbC Try.underlying174 (ZdN _) Hhly.out;have hlk2:=(hS3.map 1 rfl).lookup Try.lawInt ZbC Try.underlying174 (ZdN _) Hhly.out;have hpl:Zad S y=Zad F y:=(ZaU HhSF.out hmem).symm;rw[Zbz Hhnd.out hmem,hpl] at hlk1 hlk2;simp only[w_8,Option.isSome_some,Zbw] at hlk1 hlk2;obtain⟨q,hq⟩:=eI (Zad F y);rw[← hq] at hlk1 hlk2;obtain⟨u0,hu0⟩:=Zc1 (hS3.row 6 rfl) n (by omega);have hfr:=hS3.rfr 6 n rfl;have Hhq:=qh hq;clear hq;have Hhpl:=qh hpl;clear hpl;have HhS3:=qh hS3;clear hS3;have Hhmem:=qh hmem;clear hmem;go_wp2;go_roundw
      case rel =>refine⟨n+1,g4,c4,cs.set n (.int .i64 (q:Int)),by go_num,by rw[← HhS1.out,Hhold.out Hhmem.out],by omega,by simpa using Hhcs.out,Zdh (n:=3) Hhcs.out (by simp[Zab]) hn3 Hhtk.out (by rw[Hhrowy.out,← Hhq.out]),?_⟩;rw[← HhS1.out,Hhold.out Hhmem.out];exact HhS3.out.store 6 rfl n (.int .i64 (q:Int))
      case measure=>simp[intOf];omega
     have hlk1:=(hS3.map 1 rfl).lookupOk Try.lawInt ZbC Try.underlying174 (ZdN _) Hhly.out;rw[Zco hmem] at hlk1;simp only[Option.getD_none,Option.isSome_none,Zbw] at hlk1;have hnw:=Hhnew.out hmem;have hfull:S.length<most:=by rw[hnw] at hT1;simp at hT1;omega
     have hq1:((S.length:Int)==(most:Int))=false:=by simp;omega
     have hq2:¬ (S.length:Int)=(most:Int):=by omega
     obtain⟨w5,hrun5,hm5,hg5⟩:=(hS3.map 1 rfl).store Try.lawInt ZbC Try.underlying174 Hhly.out (.int .i64 (S.length:Int));rw[ZcN hmem] at hm5;simp only[Zbw] at hrun5;have hS5:=hS3.mapset 1 rfl hm5 hg5;have hSa:=hS5.alloc_ (.cells #[.int .i64 y] 3);have hR:=hSa.row 2 rfl;obtain⟨q,hq⟩:=eI (Zad F y);have hA:∀ w7,MapL Try.prog 3 Zbw w7 (w.heap.size+1) (numbered (S++[y]))→(Instr.lookup 174 (.map (some (w.heap.size+1))) (.int .i64 y) false).run Try.prog w7 = .ok (.int .i64 (q:Int)) w7:=fun w7 h7=>by have hlk7:=h7.lookup Try.lawInt ZbC Try.underlying174 (ZdN _) Hhly.out;have hpl:Zad (S++[y]) y=Zad F y:=(ZaU (by rw[← hnw];exact HhSF1.out) (by simp)).symm;rw[Zbz (ZcE Hhnd.out hmem) (by simp),hpl,← hq] at hlk7;exact hlk7
     have hsb:(S.length+1)*8≤140737488355328:=by omega
     have hs63:S.length+1≤maxLen:=by unfold maxLen;omega
     have Hhq:=qh hq;clear hq;have HhA:=qh hA;clear hA;have HhS3:=qh hS3;clear hS3;have HhS5:=qh hS5;clear hS5;have HhSa:=qh hSa;clear hSa;have HhR:=qh hR;clear hR;have Hhm5:=qh hm5;clear hm5;have Hhg5:=qh hg5;clear hg5;have Hhmem:=qh hmem;clear hmem;have Hhnw:=qh hnw;clear hnw;go_wp2_with (at_builtin;refine wpList_append_lies _ rfl _ _ _ rfl _ 3 i0 (.int .i64 0) 1 8 Try.underlying26 Hhi.out Hhz0.out Hhz1.out Hhz2.out rfl (by omega) _ S.length _ rfl HhR.out ⟨w5.heap.size,0,none⟩ 1 1 [.int .i64 y] rfl rfl (World.news_of_block (heap_alloc_new w5 _)) ZaV (by omega) hs63 hsb HhSa.out.size _ rfl ?_;intro g7 c7 w7 hown7 hgrow7 hat7 hlt7;have HS7:=qh (HhSa.out.app 2 rfl hown7 hgrow7 hat7);have hlk7:=HhA.out w7 (HS7.out.map 1 rfl);obtain⟨u0,hu0⟩:=Zc1 (HS7.out.row 6 rfl) n (by omega);have hfr7:=HS7.out.rfr 6 n rfl;clear hown7 hgrow7 hat7);go_roundw
     case rel =>refine⟨n+1,g7,c7,cs.set n (.int .i64 (q:Int)),by go_num,by rw[← HhS1.out,Hhnw.out,List.length_append];rfl,by omega,by simpa using Hhcs.out,Zdh (n:=3) Hhcs.out (by simp[Zab]) hn3 Hhtk.out (by rw[Hhrowy.out,← Hhq.out]),?_⟩;rw[← HhS1.out,Hhnw.out,List.length_append,Zan];exact HS7.out.store 6 rfl n (.int .i64 (q:Int))
     case measure=>simp[intOf];omega
    obtain rfl:n=3:=by omega
    have hbs:(bat nx a0 (k+1)).met=(bpart nx a0 k 3).met:=congrArg Bs.met (Za2 (by rw[← HhM.out];exact hlt));have hxS:(bpart nx a0 k 3).met.getD k a0=x:=by rw[Hhxx.out];exact Zau hMS hlt _
    have htake:(bpart nx a0 k 3).met.take (k+1)=M.take k++[x]:=by obtain⟨t,ht⟩:=hMS;rw[← ht,List.take_append_of_le_length (by omega),List.take_succ_eq_append_getElem hlt,Hhxx.out];simp[hlt]
    obtain⟨S,hSS⟩:=eI ((bpart nx a0 k 3).met);rw[← hSS] at hSi hxS htake hSl hbs;rw[← hSS];have hkS:k<S.length:=by omega
    have hkSI:(k:Int)<S.length:=by omega
    have hce:cs=intCells (Zab nx F x):=by rwa [List.take_of_length_le (by omega),List.take_of_length_le (by simp[Zab])] at htk
    subst hce;have hlm:(((M.take k).map (Zab nx F)).map intCells).length=k:=by rw[ZaZ,List.length_take];omega
    have hSa:=hSi.alloc_ (.cells #[.slice (some ⟨wo.heap.size,0,none⟩) 3 3] 26);have hRw:=(hSa.rows 4 rfl).1;rw[hlm] at hRw;have e0:=hSi.cell (v:=.slice a1 k c1) 3 0 rfl rfl;have hsx:(intCells S)[k]? = some (.int .i64 x):=by rw[← hxS];simp[intCells,hkS]
    have htk1:(S.take (k+1)).map (Zab nx F)=(M.take k).map (Zab nx F)++[Zab nx F x]:=by rw[htake,List.map_append];rfl
    have htk2:(S.take (k+1)).map en=(M.take k).map en++[en x]:=by rw[htake,List.map_append];rfl
    have hEn:=fun w' (h:Below w.heap.size w w')=>HE.out x w' HhQx.out h
    obtain⟨r,hr⟩:=eI (en x);rw[← hr] at hEn htk2;have HEn:=qh hEn;have Hhlm:=qh hlm;clear hlm;have HhSi:=qh hSi;clear hSi;have HhSa:=qh hSa;clear hSa;have HhRw:=qh hRw;clear hRw;have Hhbs:=qh hbs;clear hbs;have HhSS:=qh hSS;clear hSS;have Hhtake:=qh htake;clear htake;have Hhsx:=qh hsx;clear hsx;have HhxS:=qh hxS;clear hxS;have Hhtk1:=qh htk1;clear htk1;have Hhtk2:=qh htk2;clear htk2;have HhMS:=qh hMS;clear hMS;have Hhcs:=qh hcs;clear hcs;have Hhtk:=qh htk;clear htk;have Hhr:=qh hr;clear hr;clear hEn;go_wp2_with (at_builtin;refine wpList_append_lies _ rfl _ _ _ rfl _ 26 j0 (.slice none 0 0) 1 24 Try.underlying42 Hhj.out Hhy0.out Hhy1.out Hhy2.out rfl (by omega) _ k _ rfl HhRw.out ⟨wr.heap.size,0,none⟩ 1 1 [.slice (some ⟨wo.heap.size,0,none⟩) 3 3] rfl rfl (World.news_of_block (heap_alloc_new wr _)) ZaM (by omega) (by unfold maxLen;omega) (by omega) HhSa.out.size _ rfl ?_;intro g6 c6 w6 hown6 hgrow6 hat6 hlt6;have HS6:=qh (HhSa.out.snoc 4 6 (by decide) rfl rfl (by decide) hgrow6 (by rw[Hhlm.out];exact hown6) (Zcq hat6));have y1:=HS6.out.cell (v:=.slice a1 k c1) 3 0 rfl rfl;have y2:=HS6.out.fr 3 0 rfl;clear hown6 hgrow6 hat6 hlt6);have hSq:=(HS6.out.set 3 rfl 0 (.slice (some ⟨g6,0,none⟩) (k+1) c6)).pick [0,1,2,3,4,5] (by decide);obtain⟨wq,hwq⟩:=eI (w6.setCell ⟨w1.heap.size+1,0,none⟩ (.slice (some ⟨g6,0,none⟩) (k+1) c6));rw[← hwq] at hSq
    have hSq':St w wq [Ent.box w.heap.size #[.slice none 0 0,.slice none 0 0] 45,Ent.map 3 Zbw (w.heap.size+1) (numbered S),Ent.row 3 1 (.slice (some ⟨g4,0,none⟩) S.length c4) S.length (intCells S),
      Ent.box (w1.heap.size+1) #[.slice (some ⟨g6,0,none⟩) (k+1) c6,.slice a2 k c2] 45,
      Ent.rows 26 3 (.slice (some ⟨g6,0,none⟩) (k+1) c6) (vs++[.slice (some ⟨wo.heap.size,0,none⟩) 3 3]) (((S.take (k+1)).map (Zab nx F)).map intCells),Ent.row 4 1 (.slice a2 k c2) k (boolCells ((M.take k).map en))]:=by
     rw[Hhtk1.out,List.map_append];exact hSq
    rw[← hwq];have HSq:=qh hSq';have Hhwq:=qh hwq;clear hwq;clear hSq hSq' y1 y2 e0 HS6;refine wp_region_any (by kernel_rfl) ?_
    refine Zak (fun A listed a w'=>∃ (l0 l1 l2 l3 l4 l5 l6 l7 l8 l9 l10 l11:Bool) (g7:Nat) (c7:Nat) (bn:Nat),listed=#[l0,l1,l2,l3,l4,l5,l6,l7,l8,l9,l10,l11]∧(l9=true→l1=true∧l8=true)∧(l11=true→l9=true∧l1=true) ∧
      a=⟨(((((((((((A.tmps.setIfInBounds 76 (if l0=true then .pointer (some ⟨w1.heap.size+1,1,none⟩) else A.tmps.getD 76 undef)).setIfInBounds 77 (if l1=true then .slice a2 k c2 else A.tmps.getD 77 undef)).setIfInBounds 78 (if l2=true then .func (.func 112) #[] #[.pointer (some ⟨bd,0,none⟩)] else A.tmps.getD 78 undef)).setIfInBounds 79 (if l3=true then .slice (some ⟨g4,0,none⟩) S.length c4 else A.tmps.getD 79 undef)).setIfInBounds 80 (if l4=true then .int .i64 (k:Int) else A.tmps.getD 80 undef)).setIfInBounds 81 (if l5=true then .pointer (some ⟨g4,k,none⟩) else A.tmps.getD 81 undef)).setIfInBounds 82 (if l6=true then .int .i64 x else A.tmps.getD 82 undef)).setIfInBounds 83 (if l7=true then .bool r else A.tmps.getD 83 undef)).setIfInBounds 84 (if l8=true then .slice (some ⟨bn,0,none⟩) 1 1 else A.tmps.getD 84 undef)).setIfInBounds 85 (if l9=true then .slice (some ⟨g7,0,none⟩) (k+1) c7 else A.tmps.getD 85 undef)).setIfInBounds 86 (if l10=true then .pointer (some ⟨w1.heap.size+1,1,none⟩) else A.tmps.getD 86 undef)),A.defers⟩ ∧
      St w w' [Ent.box w.heap.size #[.slice none 0 0,.slice none 0 0] 45,Ent.map 3 Zbw (w.heap.size+1) (numbered S),Ent.row 3 1 (.slice (some ⟨g4,0,none⟩) S.length c4) S.length (intCells S),Ent.box (w1.heap.size+1) #[.slice (some ⟨g6,0,none⟩) (k+1) c6,(if l11=true then .slice (some ⟨g7,0,none⟩) (k+1) c7 else .slice a2 k c2)] 45,Ent.rows 26 3 (.slice (some ⟨g6,0,none⟩) (k+1) c6) (vs++[.slice (some ⟨wo.heap.size,0,none⟩) 3 3]) (((S.take (k+1)).map (Zab nx F)).map intCells),(if l9=true then Ent.row 4 1 (.slice (some ⟨g7,0,none⟩) (k+1) c7) (k+1) ((boolCells ((M.take k).map en))++[.bool r]) else Ent.row 4 1 (.slice a2 k c2) k (boolCells ((M.take k).map en))),(if l8=true then Ent.box bn #[.bool r] 4 else Ent.nil)]) ?_ ?_ ?_
    ·rintro listed a w' ⟨l0,l1,l2,l3,l4,l5,l6,l7,l8,l9,l10,l11,g7,c7,bn,rfl,hd9,hd11,rfl,hS⟩ i hi;obtain⟨hun,o,ho,hall⟩:=mem_ready.1 hi;have hlt:=(Array.getElem?_eq_some_iff.1 ho).1;refine wpOp_step ho (fun K hK => ?_);clear hi;have HS:=qh hS;clear hS;simp only[w_1,w_2,w_3,w_4,w_5,w_6,w_7,w_8];obtain h|h|h|h|h|h|h|h|h|h|h|h:i=0∨i=1∨i=2∨i=3∨i=4∨i=5∨i=6∨i=7∨i=8∨i=9∨i=10∨i=11:=by simp at hlt;omega
     all_goals subst h
     all_goals simp only[w_5,w_6,w_7,w_9] at ho
     all_goals subst ho
     all_goals simp[Region.binds] at hun hall
     ·subst hun;go_simp;exact hK _ _ ⟨_,_,_,_,_,_,_,_,_,_,_,_,g7,c7,bn,rfl,hd9,hd11,(by simp),HS.out⟩
     ·obtain rfl:=hall;subst hun;obtain rfl:l9=false:=offL hd9 rfl;obtain rfl:l11=false:=offL hd11 rfl;have e0:=HS.out.cell (v:=.slice a2 k c2) 3 1 rfl rfl;go_simp;exact hK _ _ ⟨_,_,_,_,_,_,_,_,_,_,_,_,g7,c7,bn,rfl,by simp,by simp,(by simp),HS.out⟩
     ·subst hun;go_simp;exact hK _ _ ⟨_,_,_,_,_,_,_,_,_,_,_,_,g7,c7,bn,rfl,hd9,hd11,(by simp),HS.out⟩
     ·subst hun;go_simp;exact hK _ _ ⟨_,_,_,_,_,_,_,_,_,_,_,_,g7,c7,bn,rfl,hd9,hd11,(by simp),HS.out⟩
     ·subst hun;go_simp;exact hK _ _ ⟨_,_,_,_,_,_,_,_,_,_,_,_,g7,c7,bn,rfl,hd9,hd11,(by simp),HS.out⟩
     ·obtain⟨rfl,rfl⟩:=hall;subst hun;go_simp;exact hK _ _ ⟨_,_,_,_,_,_,_,_,_,_,_,_,g7,c7,bn,rfl,hd9,hd11,(by simp),HS.out⟩
     ·obtain rfl:=hall;subst hun;have e0:=HS.out.rcell (v:=.int .i64 x) 2 k rfl (by omega) Hhsx.out;go_simp;exact hK _ _ ⟨_,_,_,_,_,_,_,_,_,_,_,_,g7,c7,bn,rfl,hd9,hd11,(by simp),HS.out⟩
     ·obtain⟨rfl,rfl⟩:=hall;subst hun;go_simp
      go_at_call 112
      refine(HEn.out _ HS.out.bel).mono ?_;rintro e u1 ⟨rfl,hbx⟩;have hS2:=HS.out.call hbx;have HhS2:=qh hS2;clear hS2;go_simp;exact hK _ _ ⟨_,_,_,_,_,_,_,_,_,_,_,_,g7,c7,bn,rfl,hd9,hd11,(by simp),HhS2.out⟩
     ·obtain rfl:=hall;subst hun;obtain rfl:l9=false:=offR hd9 rfl;obtain rfl:l11=false:=offL hd11 rfl;have hS2:=(HS.out.alloc _ rfl #[.bool r] 4).pick [0,1,2,3,4,5,7] (by decide);have HhS2:=qh hS2;clear hS2;go_simp;exact hK _ _ ⟨_,_,_,_,_,_,_,_,_,_,_,_,g7,c7,_,rfl,by simp,by simp,(by simp),HhS2.out⟩
     ·obtain⟨rfl,rfl,rfl⟩:=hall;subst hun;obtain rfl:l11=false:=offL hd11 rfl;refine step_append_lies (a:=⟨_,_⟩) _ (by rfl) _ _ _ (by rfl) w.heap.size 4 b0 (.bool false) 1 1 Try.underlying43 Hhbi0.out Hhx0.out Hhx1.out Hhx2.out (by rfl) (by omega) (.slice a2 k c2) k (boolCells ((M.take k).map en)) (by rfl) (HS.out.row 5 rfl) ⟨bn,0,none⟩ 1 1 [.bool r] (by rfl) (by rfl) (World.news_of_block (HS.out.box 6 rfl)) ZaL (by omega) (by unfold maxLen;omega) (by omega) HS.out.size _ rfl ?_;intro g8 c8 w8 hown8 hgrow8 hat8 hlt8;have HS8:=qh (HS.out.app 5 rfl hown8 hgrow8 hat8);clear hown8 hgrow8 hat8;go_simp;exact hK _ _ ⟨_,_,_,_,_,_,_,_,_,_,_,_,g8,c8,bn,rfl,by simp,by simp,(by simp),HS8.out⟩
     ·obtain⟨rfl,rfl,rfl,rfl,rfl,rfl,rfl,rfl,rfl,rfl⟩:=hall;subst hun;go_simp;exact hK _ _ ⟨_,_,_,_,_,_,_,_,_,_,_,_,g7,c7,bn,rfl,by simp,hd11,(by simp only[↓reduceIte,w_1,w_2,w_3]),HS.out⟩
     obtain⟨rfl,rfl,rfl,rfl,rfl,rfl,rfl,rfl,rfl,rfl,rfl,-⟩:=hall;subst hun;have f0:=HS.out.fr 3 1 rfl;have k0:=HS.out.cell (v:=.slice a2 k c2) 3 1 rfl rfl;go_simp;exact hK _ _ ⟨_,_,_,_,_,_,_,_,_,_,_,_,g7,c7,bn,rfl,by simp,by simp,(by simp only[↓reduceIte,w_1,w_2,w_3]),(HS.out.set 3 rfl 1 (.slice (some ⟨g7,0,none⟩) (k+1) c7))⟩
    ·rintro listed a w' ⟨l0,l1,l2,l3,l4,l5,l6,l7,l8,l9,l10,l11,g7,c7,bn,rfl,hd9,hd11,rfl,hS⟩ hr;obtain⟨rfl,rfl,rfl,rfl,rfl,rfl,rfl,rfl,rfl,rfl,rfl,rfl,-⟩:=zA (ZaJ (by kernel_rfl) rfl hr) rfl;clear hr hd9 hd11;simp only[↓reduceIte] at hS ⊢;simp only[w_1,w_2,w_3];have hS9:=hS.pick [0,1,2,3,4,5] (by decide);have HhS9:=qh hS9;clear hS9;clear hS;go_wp2;go_roundw
     case rel =>refine⟨k+1,g4,c4,some ⟨g6,0,none⟩,some ⟨g7,0,none⟩,c6,c7,vs++[.slice (some ⟨wo.heap.size,0,none⟩) 3 3],by go_num,by rw[Hhbs.out],by rw[Hhbs.out];omega,by omega,?_⟩;rw[Hhbs.out,Hhtk2.out,ZaQ];exact HhS9.out
     case measure=>simp[intOf];omega
    refine⟨false,false,false,false,false,false,false,false,false,false,false,false,0,0,0,rfl,by simp,by simp,(by simp),?_⟩;exact HSq.out.drew.pick [0,1,2,3,4,5,6] (by decide)
  have hMF:M=F:=by rw[hF.out,hM];exact(congrArg Bs.met (Zbn (by rw[← hM];omega) (by omega))).symm
  obtain rfl:k=M.length:=by omega
  subst hMF;rw[List.take_length] at hS;have d0:=hS.cell (v:=.slice a1 M.length c1) 3 0 rfl rfl;have d1:=hS.cell (v:=.slice a2 M.length c2) 3 1 rfl rfl;have f0:=hS.fr 0 0 rfl;have f1:=hS.fr 0 1 rfl;have k0:=hS.cell (v:=.slice none 0 0) 0 0 rfl rfl;have k1:=hS.cell (v:=.slice none 0 0) 0 1 rfl rfl;have HhS:=qh hS;clear hS;have HhM:=qh hM;clear hM;clear hk hMl;go_wp2;have hq:=(HhS.out.set 0 rfl 0 (.slice a1 M.length c1)).set 0 rfl 1 (.slice a2 M.length c2);have q0:=hq.cell (v:=.slice a1 M.length c1) 0 0 rfl rfl;have q1:=hq.cell (v:=.slice a2 M.length c2) 0 1 rfl rfl;refine bodyPost_ret (v:=.tuple #[.agg #[.slice a1 M.length c1,.slice a2 M.length c2],.slice (some ⟨g3,0,none⟩) M.length c3,.bool true]) (by simp[results,Try.results110,go_sem,q0,q1]) rfl ?_;exact⟨a1,c1,a2,c2,_,c3,vs,rfl,hq.pick [4,5,2] (by decide)⟩
end Go.Proofs.Ytfanhfcamblghaa
namespace Go.Proofs.Ytfanhfcamblghaa
open Go.RowKit
theorem Zkc (d:DfaD) (cl:Nat→Nat) (b1 o1 cv b2 o2 cw bc bd g cg x c:Nat) (w:World) (hC:DfaC w d b1 o1 cv b2 o2 cw) (hx:x<d.next.length) (hc:c<3) (hb:Bx w bd #[.slice (some ⟨b1,o1,none⟩) d.next.length cv,.slice (some ⟨b2,o2,none⟩) d.next.length cw] 45)
  (hbc:Bx w bc #[.slice (some ⟨g,0,none⟩) d.next.length cg] 26) (hcl:∀ s,s<d.next.length→w.cell? ⟨g,s,none⟩=some (.int .i64 ((cl s:Nat):Int))) :
  Calls Try.prog 111 #[.int .i64 (x:Nat),.int .i64 (c:Nat),.pointer (some ⟨bc,0,none⟩),.pointer (some ⟨bd,0,none⟩)] w fun e w'=>e = .returned (.int .i64 ((cl (nxD d x c):Nat):Int))∧Below w.heap.size w w':=by
 have c0:=hb.cell 0;have c1:=hbc.cell 0;simp only[w_5,w_6] at c0 c1;obtain⟨b3,o3,c3,p1,p2,p3,p4,p5⟩:=hC.row x hx;have p6:=p5 c hc;have hyl:=hC.lt x c hx hc;obtain⟨y,hy⟩:=eI (nxD d x c);rw[← hy] at p6 hyl;rw[← hy];have c2:=hcl y hyl;obtain⟨z,hz⟩:=eI (cl y);rw[← hz] at c2;rw[← hz];have hc3:(c:Int)<3:=by omega
 have hxL:(x:Int)<d.next.length:=by omega
 have hyL:(y:Int)<d.next.length:=by omega
 have hl2:=hC.l2;replace hy:=qh hy;have Hhz:=qh hz;clear hz;clear p5 hC hb hbc hcl
 go_enter Try.func111, Try.ntmps111
 go_wp2
 go_quiet (fail)
 go_wp2;go_ret;exact⟨rfl,below_drewN (Below.refl _ _) _⟩
theorem Zkb (d:DfaD) (b1 o1 cv b2 o2 cw bd x:Nat) (w:World) (hC:DfaC w d b1 o1 cv b2 o2 cw) (hx:x<d.next.length) (hb:Bx w bd #[.slice (some ⟨b1,o1,none⟩) d.next.length cv,.slice (some ⟨b2,o2,none⟩) d.next.length cw] 45) :
  Calls Try.prog 112 #[.int .i64 (x:Nat),.pointer (some ⟨bd,0,none⟩)] w fun e w'=>e = .returned (.bool (den d (x:Int)))∧Below w.heap.size w w':=by
 have c0:=hb.cell 1;simp only[w_5,w_6,w_7] at c0;have p6:=hC.en x hx;have hz:den d (x:Int)=enD d x:=by simp[den,enD]
 rw[hz];obtain⟨y,hy⟩:=eI (enD d x);rw[← hy] at p6;rw[← hy];have hxL:(x:Int)<d.next.length:=by omega
 have hl2:=hC.l2;replace hy:=qh hy;have Hhz:=qh hz;clear hz;clear hC hb
 go_enter Try.func112, Try.ntmps112
 go_wp2;go_ret;exact⟨rfl,Below.refl _ _⟩
theorem Zig {d:DfaD} (hd:Zaf d.next d.ends=true) (K:Nat):(∀ x∈(bat (nxM d) ((clD d 0:Nat):Int) K).met,0≤x∧x<(d.next.length:Int))∧(bat (nxM d) ((clD d 0:Nat):Int) K).met.length≤d.next.length:=by
 have hf:=ZaE hd;have hl:=Zag hd
 have h1:∀ x∈(bat (nxM d) ((clD d 0:Nat):Int) K).met,0≤x∧x<(d.next.length:Int):=by
  refine Zbu (Q:=fun x=>0≤x∧x<(d.next.length:Int)) ?_ (fun x c hc hx => ?_) K
  ·have:=(Za9 (d:=d) 0 (by omega)).1;omega
  have h2:=(Zbp hf (s:=x.toNat) (c:=c) (by omega) hc).1;have h3:=(Za9 (d:=d) (nxD d x.toNat c) h2).1;unfold nxM;omega
 refine⟨h1,?_⟩
 have h2:=ZcF (Zbm (nx:=nxM d) (a:=((clD d 0:Nat):Int)) K).1 (m:=ZcZ d.next.length) (fun x hx=>by
  have:=h1 x hx;have e:x=((x.toNat:Nat):Int):=by omega
  rw[e,ZbY];omega)
 rw[ZbU] at h2;exact h2
theorem Zeo (d:DfaD) (v:Value) (w:World) (hd:Zaf d.next d.ends=true) (h:DfaR 0 w v d) :
  Calls Try.prog 65 #[v] w fun e w'=>RDo (minD d) w e w':=by
 have HR:=qh h;obtain⟨b1,o1,cv,b2,o2,cw,rfl,hC⟩:=Zbh hd h;have hl1:=hC.l1;have hl2:=hC.l2;have hFl:=(Zig hd d.next.length).2;have hS0:=((St.start w).alloc _ rfl #[.slice (some ⟨b1,o1,none⟩) d.next.length cv,.slice (some ⟨b2,o2,none⟩) d.next.length cw] 45).alloc (w.heap.size+1) (by simp) #[.slice none 0 0,.slice none 0 0] 45
 have hex:=fun (W:World) (bc g cg:Nat) (hbx:Bx W w.heap.size #[.slice (some ⟨b1,o1,none⟩) d.next.length cv,.slice (some ⟨b2,o2,none⟩) d.next.length cw] 45) (hbc:Bx W bc #[.slice (some ⟨g,0,none⟩) d.next.length cg] 26)
   (hg:g<W.heap.size) (hcl:∀ s,s<d.next.length→W.cell? ⟨g,s,none⟩=some (.int .i64 ((clD d s:Nat):Int))) (hb:Below w.heap.size w W) =>
  ZfG ((clD d 0:Nat):Int) bc w.heap.size (nxM d) (den d) (fun x=>0≤x∧x<(d.next.length:Int)) d.next.length W
   (by have:=(Za9 (d:=d) 0 (by omega)).1;omega)
   (fun x c hc hx=>by have h2:=(Zbp (ZaE hd) (s:=x.toNat) (c:=c) (by omega) hc).1;have h3:=(Za9 (d:=d) (nxD d x.toNat c) h2).1;unfold nxM;omega)
   (fun x hx=>by unfold fitI;omega) (by omega) (by omega) hFl
   (fun x c w' hx hc hb'=>by obtain⟨n,rfl⟩:∃ n:Nat,x=(n:Int):=⟨x.toNat,by omega⟩;exact Zkc d (clD d) b1 o1 cv b2 o2 cw bc w.heap.size g cg n c w' ((hC.below hb).below hb') (by omega) hc (hbx.below hb' hbx.lt) (hbc.below hb' hbc.lt) (fun s hs=>(bcell hb' g _ hg).trans (hcl s hs)))
   (fun x w' hx hb'=>by obtain⟨n,rfl⟩:∃ n:Nat,x=(n:Int):=⟨x.toNat,by omega⟩;exact Zkb d b1 o1 cv b2 o2 cw w.heap.size n w' ((hC.below hb).below hb') (by omega) (hbx.below hb' hbx.lt))
 obtain⟨F,hF⟩:=eI ((bat (nxM d) ((clD d 0:Nat):Int) d.next.length).met);rw[← hF] at hex hFl;have htr:minD d=⟨F.map (Zab (nxM d) F),F.map (den d)⟩:=by unfold minD;rw[← hF];rfl
 rw[htr];have hsm:=fun (W:World) (hb:Below w.heap.size w W)=>ZeB d (.agg #[.slice (some ⟨b1,o1,none⟩) d.next.length cv,.slice (some ⟨b2,o2,none⟩) d.next.length cw]) W hd (HR.out.below hb)
 unfold RCl at hsm;obtain⟨L,hL⟩:=eI (d.next.length);obtain⟨C,hK⟩:=eI (clD d);rw[← hL,← hK] at hex hsm;rw[← hL] at hS0 hFl hl1 hl2;rw[← hL];obtain⟨k0,hk0⟩:=eI (C 0);rw[← hk0] at hex;have Hex:=qh hex;have Hsm:=qh hsm;replace hS0:=qh hS0;replace hF:=qh hF;have Hhtr:=qh htr;clear htr;have HhL:=qh hL;clear hL;have HhK:=qh hK;clear hK;have Hhk0:=qh hk0;clear hk0;clear hex hsm hC h
 go_enter Try.func65, Try.ntmps65
 have e0:=hS0.out.cell (v:=.slice (some ⟨b1,o1,none⟩) L cv) 0 0 rfl rfl;have e1:=hS0.out.cell (v:=.slice (some ⟨b2,o2,none⟩) L cw) 0 1 rfl rfl;go_wp2_with fail;refine(Hsm.out _ hS0.out.bel).mono ?_;rintro e w1 ⟨g,cg,rfl,hS'⟩;have hS2:=(hS0.out.cat hS').alloc _ rfl #[.slice (some ⟨g,0,none⟩) L cg] 26;have HS:=qh hS2;clear hS2 hS' e0 e1;go_wp2;have hc0:=ZaK (n:=L) (s:=0) C (by omega);rw[← Hhk0.out] at hc0;have hL0:(0:Int)<L:=by omega
 have hL00:0<L:=by omega
 have Hhc0:=qh hc0;clear hc0;refine wp_region_any (by kernel_rfl) ?_
 refine Zak (fun A listed a w'=>∃ (l0 l1 l2 l3 l4 l5 l6 l7 l8 l9 l10 l11 l12 l13 l14 l15 l16:Bool) (a1:Option Addr) (c1:Nat) (a2:Option Addr) (c2:Nat) (a3:Option Addr) (c3:Nat) (vs:List Value) (b:Nat),listed=#[l0,l1,l2,l3,l4,l5,l6,l7,l8,l9,l10,l11,l12,l13,l14,l15,l16]∧(l8=true→l7=true∧l6=true)∧(l9=true→l8=true∧l7=true)∧(l10=true→l9=true∧l8=true)∧(l11=true→l9=true∧l8=true)∧(l14=true→l10=true∧l13=true)∧(l15=true→l11=true∧l14=true) ∧
   a=⟨((((((((((((((((A.tmps.setIfInBounds 10 (if l0=true then .slice (some ⟨g,0,none⟩) L cg else A.tmps.getD 10 undef)).setIfInBounds 11 (if l1=true then .pointer (some ⟨g,0,none⟩) else A.tmps.getD 11 undef)).setIfInBounds 12 (if l2=true then .int .i64 ((k0:Nat):Int) else A.tmps.getD 12 undef)).setIfInBounds 13 (if l3=true then .pointer (some ⟨w.heap.size,0,none⟩) else A.tmps.getD 13 undef)).setIfInBounds 14 (if l4=true then .slice (some ⟨b1,o1,none⟩) L cv else A.tmps.getD 14 undef)).setIfInBounds 15 (if l5=true then .int .i64 (L:Int) else A.tmps.getD 15 undef)).setIfInBounds 16 (if l6=true then .func (.func 111) #[] #[.pointer (some ⟨w1.heap.size,0,none⟩),.pointer (some ⟨w.heap.size,0,none⟩)] else A.tmps.getD 16 undef)).setIfInBounds 17 (if l7=true then .func (.func 112) #[] #[.pointer (some ⟨w.heap.size,0,none⟩)] else A.tmps.getD 17 undef)).setIfInBounds 18 (if l8=true then .tuple #[.agg #[.slice a1 F.length c1,.slice a2 F.length c2],.slice a3 F.length c3,.bool true] else A.tmps.getD 18 undef)).setIfInBounds 9 (if l9=true then .tuple #[.agg #[.slice a1 F.length c1,.slice a2 F.length c2],.slice a3 F.length c3,.bool true] else A.tmps.getD 9 undef)).setIfInBounds 19 (if l10=true then .agg #[.slice a1 F.length c1,.slice a2 F.length c2] else A.tmps.getD 19 undef)).setIfInBounds 20 (if l11=true then .slice a3 F.length c3 else A.tmps.getD 20 undef)).setIfInBounds 21 (if l12=true then .bool true else A.tmps.getD 21 undef)).setIfInBounds 4 (if l13=true then .pointer (some ⟨b,0,none⟩) else A.tmps.getD 4 undef)).setIfInBounds 5 (if l15=true then .slice a3 F.length c3 else A.tmps.getD 5 undef)).setIfInBounds 6 (if l16=true then .bool true else A.tmps.getD 6 undef)),A.defers⟩ ∧
   St w w' [Ent.box w.heap.size #[.slice (some ⟨b1,o1,none⟩) L cv,.slice (some ⟨b2,o2,none⟩) L cw] 45,Ent.box (w.heap.size+1) #[.slice none 0 0,.slice none 0 0] 45,Ent.row 3 1 (.slice (some ⟨g,0,none⟩) L cg) L (intCells (clsL L C)),Ent.box w1.heap.size #[.slice (some ⟨g,0,none⟩) L cg] 26,(if l13=true then Ent.box b (if l14=true then #[.slice a1 F.length c1,.slice a2 F.length c2] else #[.slice none 0 0,.slice none 0 0]) 45 else Ent.nil),(if l8=true then Ent.rows 26 3 (.slice a1 F.length c1) vs ((F.map (Zab (nxM d) F)).map intCells) else Ent.nil),(if l8=true then Ent.row 4 1 (.slice a2 F.length c2) F.length (boolCells (F.map (den d))) else Ent.nil),(if l8=true then Ent.row 3 1 (.slice a3 F.length c3) F.length (intCells F) else Ent.nil)]) ?_ ?_ ?_
 ·rintro listed a w' ⟨l0,l1,l2,l3,l4,l5,l6,l7,l8,l9,l10,l11,l12,l13,l14,l15,l16,a1,c1,a2,c2,a3,c3,vs,b,rfl,hd8,hd9,hd10,hd11,hd14,hd15,rfl,hS⟩ i hi;obtain⟨hun,o,ho,hall⟩:=mem_ready.1 hi;have hlt:=(Array.getElem?_eq_some_iff.1 ho).1;refine wpOp_step ho (fun K hK => ?_);clear hi;have HS:=qh hS;clear hS;simp only[w_1,w_2,w_3,w_4,w_5,w_6,w_7,w_8];obtain h|h|h|h|h|h|h|h|h|h|h|h|h|h|h|h|h:i=0∨i=1∨i=2∨i=3∨i=4∨i=5∨i=6∨i=7∨i=8∨i=9∨i=10∨i=11∨i=12∨i=13∨i=14∨i=15∨i=16:=by simp at hlt;omega
  all_goals subst h
  all_goals simp only[w_5,w_6,w_7,w_9] at ho
  all_goals subst ho
  all_goals simp[Region.binds] at hun hall
  ·subst hun;have e0:=HS.out.cell (v:=.slice (some ⟨g,0,none⟩) L cg) 3 0 rfl rfl;go_simp;exact hK _ _ ⟨_,_,_,_,_,_,_,_,_,_,_,_,_,_,_,_,_,a1,c1,a2,c2,a3,c3,vs,b,rfl,hd8,hd9,hd10,hd11,hd14,hd15,(by simp),HS.out⟩
  ·obtain rfl:=hall;subst hun;go_simp;exact hK _ _ ⟨_,_,_,_,_,_,_,_,_,_,_,_,_,_,_,_,_,a1,c1,a2,c2,a3,c3,vs,b,rfl,hd8,hd9,hd10,hd11,hd14,hd15,(by simp),HS.out⟩
  ·obtain rfl:=hall;subst hun;have e0:=HS.out.rcell (v:=.int .i64 ((k0:Nat):Int)) 2 0 rfl (by omega) Hhc0.out;go_simp;exact hK _ _ ⟨_,_,_,_,_,_,_,_,_,_,_,_,_,_,_,_,_,a1,c1,a2,c2,a3,c3,vs,b,rfl,hd8,hd9,hd10,hd11,hd14,hd15,(by simp),HS.out⟩
  ·subst hun;go_simp;exact hK _ _ ⟨_,_,_,_,_,_,_,_,_,_,_,_,_,_,_,_,_,a1,c1,a2,c2,a3,c3,vs,b,rfl,hd8,hd9,hd10,hd11,hd14,hd15,(by simp),HS.out⟩
  ·obtain rfl:=hall;subst hun;have e0:=HS.out.cell (v:=.slice (some ⟨b1,o1,none⟩) L cv) 0 0 rfl rfl;go_simp;exact hK _ _ ⟨_,_,_,_,_,_,_,_,_,_,_,_,_,_,_,_,_,a1,c1,a2,c2,a3,c3,vs,b,rfl,hd8,hd9,hd10,hd11,hd14,hd15,(by simp),HS.out⟩
  ·obtain rfl:=hall;subst hun;go_simp;exact hK _ _ ⟨_,_,_,_,_,_,_,_,_,_,_,_,_,_,_,_,_,a1,c1,a2,c2,a3,c3,vs,b,rfl,hd8,hd9,hd10,hd11,hd14,hd15,(by simp),HS.out⟩
  ·subst hun;obtain rfl:l8=false:=offR hd8 rfl;obtain rfl:l9=false:=offL hd9 rfl;obtain rfl:l10=false:=offL hd10 rfl;obtain rfl:l11=false:=offL hd11 rfl;obtain rfl:l14=false:=offL hd14 rfl;obtain rfl:l15=false:=offL hd15 rfl;go_simp;exact hK _ _ ⟨_,_,_,_,_,_,_,_,_,_,_,_,_,_,_,_,_,a1,c1,a2,c2,a3,c3,vs,b,rfl,by simp,by simp,by simp,by simp,by simp,by simp,(by simp),HS.out⟩
  ·subst hun;obtain rfl:l8=false:=offL hd8 rfl;obtain rfl:l9=false:=offL hd9 rfl;obtain rfl:l10=false:=offL hd10 rfl;obtain rfl:l11=false:=offL hd11 rfl;obtain rfl:l14=false:=offL hd14 rfl;obtain rfl:l15=false:=offL hd15 rfl;go_simp;exact hK _ _ ⟨_,_,_,_,_,_,_,_,_,_,_,_,_,_,_,_,_,a1,c1,a2,c2,a3,c3,vs,b,rfl,by simp,by simp,by simp,by simp,by simp,by simp,(by simp),HS.out⟩
  ·obtain⟨rfl,rfl,rfl,rfl⟩:=hall;subst hun;obtain rfl:l9=false:=offL hd9 rfl;obtain rfl:l10=false:=offL hd10 rfl;obtain rfl:l11=false:=offL hd11 rfl;obtain rfl:l14=false:=offL hd14 rfl;obtain rfl:l15=false:=offL hd15 rfl;go_simp
   go_at_call 110
   refine(Hex.out _ _ _ _ (HS.out.box 0 rfl) (HS.out.box 3 rfl) (HS.out.rowlt 2 rfl).2 (fun x hx=>HS.out.rcell 2 x rfl (by omega) (ZaK C hx)) HS.out.bel).mono ?_;rintro e u1 ⟨a1,c1,a2,c2,a3,c3,vs,rfl,hSx⟩;have hS2:=(HS.out.cat hSx).pick [0,1,2,3,4,8,9,10] (by decide);have HhS2:=qh hS2;clear hS2;go_simp;exact hK _ _ ⟨_,_,_,_,_,_,_,_,_,_,_,_,_,_,_,_,_,a1,c1,a2,c2,a3,c3,vs,b,rfl,by simp,by simp,by simp,by simp,by simp,by simp,(by simp),HhS2.out⟩
  ·obtain rfl:=hall;subst hun;obtain⟨rfl,rfl⟩:=hd8 rfl;obtain rfl:l10=false:=offL hd10 rfl;obtain rfl:l11=false:=offL hd11 rfl;obtain rfl:l14=false:=offL hd14 rfl;obtain rfl:l15=false:=offL hd15 rfl;go_simp;exact hK _ _ ⟨_,_,_,_,_,_,_,_,_,_,_,_,_,_,_,_,_,a1,c1,a2,c2,a3,c3,vs,b,rfl,by simp,by simp,by simp,by simp,by simp,by simp,(by simp),HS.out⟩
  ·obtain rfl:=hall;subst hun;obtain⟨rfl,rfl⟩:=hd9 rfl;obtain⟨-,rfl⟩:=hd8 rfl;obtain rfl:l14=false:=offL hd14 rfl;obtain rfl:l15=false:=offR hd15 rfl;go_simp;exact hK _ _ ⟨_,_,_,_,_,_,_,_,_,_,_,_,_,_,_,_,_,a1,c1,a2,c2,a3,c3,vs,b,rfl,by simp,by simp,by simp,hd11,by simp,by simp,(by simp),HS.out⟩
  ·obtain rfl:=hall;subst hun;obtain⟨rfl,rfl⟩:=hd9 rfl;obtain⟨-,rfl⟩:=hd8 rfl;obtain rfl:l15=false:=offL hd15 rfl;go_simp;exact hK _ _ ⟨_,_,_,_,_,_,_,_,_,_,_,_,_,_,_,_,_,a1,c1,a2,c2,a3,c3,vs,b,rfl,by simp,by simp,hd10,by simp,hd14,by simp,(by simp),HS.out⟩
  ·obtain rfl:=hall;subst hun;obtain⟨rfl,rfl⟩:=hd9 rfl;obtain⟨-,rfl⟩:=hd8 rfl;go_simp;exact hK _ _ ⟨_,_,_,_,_,_,_,_,_,_,_,_,_,_,_,_,_,a1,c1,a2,c2,a3,c3,vs,b,rfl,by simp,by simp,hd10,hd11,hd14,hd15,(by simp),HS.out⟩
  ·subst hun;obtain rfl:l14=false:=offR hd14 rfl;obtain rfl:l15=false:=offR hd15 rfl;have hS2:=(HS.out.alloc _ rfl #[.slice none 0 0,.slice none 0 0] 45).pick [0,1,2,3,8,5,6,7] (by decide);have HhS2:=qh hS2;clear hS2;go_simp;exact hK _ _ ⟨_,_,_,_,_,_,_,_,_,_,_,_,_,_,_,_,_,a1,c1,a2,c2,a3,c3,vs,_,rfl,hd8,hd9,hd10,hd11,by simp,by simp,(by simp),HhS2.out⟩
  ·obtain⟨rfl,rfl,rfl,rfl,rfl,rfl,rfl,rfl,rfl,rfl,rfl,-,rfl,-⟩:=hall;subst hun;obtain rfl:l15=false:=offR hd15 rfl;have f0:=HS.out.fr 4 0 rfl;have f1:=HS.out.fr 4 1 rfl;have k0:=HS.out.cell (v:=.slice none 0 0) 4 0 rfl rfl;have k1:=HS.out.cell (v:=.slice none 0 0) 4 1 rfl rfl;go_simp;exact hK _ _ ⟨_,_,_,_,_,_,_,_,_,_,_,_,_,_,_,_,_,a1,c1,a2,c2,a3,c3,vs,b,rfl,by simp,by simp,by simp,hd11,by simp,by simp,(by simp),((HS.out.set 4 rfl 0 (.slice a1 F.length c1)).set 4 rfl 1 (.slice a2 F.length c2))⟩
  ·obtain⟨rfl,rfl,rfl,rfl,rfl,rfl,rfl,rfl,rfl,rfl,rfl,rfl,rfl,-,rfl,-⟩:=hall;subst hun;go_simp;exact hK _ _ ⟨_,_,_,_,_,_,_,_,_,_,_,_,_,_,_,_,_,a1,c1,a2,c2,a3,c3,vs,b,rfl,by simp,by simp,by simp,by simp,by simp,by simp,(by simp),HS.out⟩
  obtain⟨rfl,rfl,rfl,rfl,rfl,rfl,rfl,rfl,rfl,rfl,rfl,rfl,rfl,rfl,-,rfl,rfl,-⟩:=hall;subst hun;go_simp;exact hK _ _ ⟨_,_,_,_,_,_,_,_,_,_,_,_,_,_,_,_,_,a1,c1,a2,c2,a3,c3,vs,b,rfl,by simp,by simp,by simp,by simp,by simp,by simp,(by simp only[↓reduceIte,w_1,w_2,w_3]),HS.out⟩
 ·rintro listed a w' ⟨l0,l1,l2,l3,l4,l5,l6,l7,l8,l9,l10,l11,l12,l13,l14,l15,l16,a1,c1,a2,c2,a3,c3,vs,b,rfl,hd8,hd9,hd10,hd11,hd14,hd15,rfl,hS⟩ hr;obtain⟨rfl,rfl,rfl,rfl,rfl,rfl,rfl,rfl,rfl,rfl,rfl,rfl,rfl,rfl,rfl,rfl,rfl,-⟩:=zA (Zay (by kernel_rfl) rfl hr) rfl;clear hr hd8 hd9 hd10 hd11 hd14 hd15;simp only[↓reduceIte] at hS ⊢;simp only[w_1,w_2,w_3];have d0:=hS.cell (v:=.slice a1 F.length c1) 4 0 rfl rfl;have d1:=hS.cell (v:=.slice a2 F.length c2) 4 1 rfl rfl;have f0:=hS.fr 1 0 rfl;have f1:=hS.fr 1 1 rfl;have k0:=hS.cell (v:=.slice none 0 0) 1 0 rfl rfl;have k1:=hS.cell (v:=.slice none 0 0) 1 1 rfl rfl;have HS9:=qh hS;clear hS;go_wp2;have hq:=(HS9.out.set 1 rfl 0 (.slice a1 F.length c1)).set 1 rfl 1 (.slice a2 F.length c2);have q0:=hq.cell (v:=.slice a1 F.length c1) 1 0 rfl rfl;have q1:=hq.cell (v:=.slice a2 F.length c2) 1 1 rfl rfl;refine bodyPost_ret (v:=.agg #[.slice a1 F.length c1,.slice a2 F.length c2]) (by simp[results,Try.results65,go_sem,q0,q1]) rfl ?_;refine⟨a1,c1,a2,c2,by simp only[List.length_map],⟨.slice a1 F.length c1,.slice a2 F.length c2,by simp only[List.length_map],hq.intSS 5 rfl,?_⟩,hq.bel⟩;have hb:=Zaa (hq.row 6 rfl);unfold OBools;simpa only [List.length_map] using hb
 refine⟨false,false,false,false,false,false,false,false,false,false,false,false,false,false,false,false,false,none,0,none,0,none,0,[],0,rfl,by simp,by simp,by simp,by simp,by simp,by simp,(by simp),?_⟩;exact HS.out.drew.pick [0,1,2,3,4,5,6,7] (by decide)
def loW (v:Nat):Nat:=v % 2 ^ 64
def hiW (v:Nat):Nat:=v / 2 ^ 64
@[simp] theorem Zlz:loW 0=0:=rfl
@[simp] theorem ZlA:hiW 0=0:=rfl
end Go.Proofs.Ytfanhfcamblghaa
namespace Go.Proofs.Ytfanhfcamblghaa
open Go.RowKit
end Go.Proofs.Ytfanhfcamblghaa
namespace Go.Proofs.Ytfanhfcamblghaa
open Go.RowKit
def Qs (lo:Nat) (w:World) (e:TypeId) (v:Value) (xs:List Value):Prop :=
 ∃ g off cap cur,v = .slice (some ⟨g,off,none⟩) xs.length cap∧lo≤g∧w.heap[g]? = some (.cells cur e (0,0))∧xs.length≤cap∧cap≤maxLen∧off+cap≤cur.size∧∀ j,j<xs.length→cur[off+j]? = xs[j]?
theorem Qs.obj {lo:Nat} {w:World} {e:TypeId} {v:Value} {xs:List Value} (h:Qs lo w e v xs) {k:Nat} (hk:v.ownBlock=some k):∃ cur,w.heap[k]? = some (.cells cur e (0,0)):=by
 obtain⟨g,off,cap,cur,rfl,_,hg,_⟩:=h;have:g=k:=by simpa [Value.ownBlock] using hk
 subst this;exact⟨cur,hg⟩
theorem Qs.kept {lo:Nat} {w w':World} {e:TypeId} {v:Value} {xs:List Value} (h:Qs lo w e v xs) (hk:∀ k,v.ownBlock=some k→w'.heap[k]? = w.heap[k]?):Qs lo w' e v xs:=by obtain⟨g,off,cap,cur,rfl,h1,hg,h2⟩:=h;exact⟨g,off,cap,cur,rfl,h1,(hk g rfl).trans hg,h2⟩
theorem Qs.grown {lo:Nat} {w w':World} {e:TypeId} {v:Value} {xs:List Value} {row:Option Nat} (h:Qs lo w e v xs) (hg:w.grownBy w' row) (ha:ZbI w row e):Qs lo w' e v xs :=
 h.kept fun k hk=>by obtain⟨cur,hc⟩:=h.obj hk;exact hg.block k (Array.getElem?_eq_some_iff.1 hc).1 fun hr=>ha k hr.symm _ _ hc
theorem Qs.below {lo:Nat} {w w':World} {e:TypeId} {v:Value} {xs:List Value} (h:Qs lo w e v xs) (hb:Below w.heap.size w w'):Qs lo w' e v xs :=
 h.kept fun k hk=>by obtain⟨cur,hc⟩:=h.obj hk;exact hb.block k (Array.getElem?_eq_some_iff.1 hc).1
theorem Qs.form {lo:Nat} {w:World} {e:TypeId} {v:Value} {xs:List Value} (h:Qs lo w e v xs):∃ g off cap,v = .slice (some ⟨g,off,none⟩) xs.length cap∧lo≤g∧g<w.heap.size∧xs.length≤cap∧cap≤9223372036854775807∧∀ j,j<xs.length→w.cell? ⟨g,off+j,none⟩=xs[j]?:=by obtain⟨g,off,cap,cur,rfl,h1,hg,h2,h3,h4,h5⟩:=h;exact⟨g,off,cap,rfl,h1,(Array.getElem?_eq_some_iff.1 hg).1,h2,h3,fun j hj=>(cell_of_row w g _ cur e (0,0) hg).trans (h5 j hj)⟩
theorem Qs.lo {lo:Nat} {w:World} {e:TypeId} {v:Value} {xs:List Value} (h:Qs lo w e v xs) {k:Nat} (hk:v.ownBlock=some k):lo≤k:=by
 obtain⟨g,off,cap,cur,rfl,h1,_⟩:=h;have:g=k:=by simpa [Value.ownBlock] using hk
 omega
def wdB (l:List Nat):ByteArray:=⟨(l.map fun c=>UInt8.ofNat (97+c)).toArray⟩
abbrev wdCells (ws:List (List Nat)):List Value:=ws.map fun l=>Value.string (wdB l)
theorem ZdO (l:List Nat):(wdB l).size=l.length:=by simp[wdB,ByteArray.size]
def knows (n:Nat) (s:Bs Int) (cs:List Value):Prop:=cs.length=n∧∀ j,j<s.met.length→cs[(s.met.getD j 0).toNat]? = some (.string (wdB (s.words.getD j [])))
def marks (n:Nat) (s:Bs Int) (bs:List Value):Prop:=bs.length=n∧∀ x:Nat,x<n→bs[x]? = some (.bool (decide ((x:Int)∈s.met)))
theorem Zg0 {l:List Int} {n:Nat} (hn:l.Nodup) (h:∀ x∈l,0≤x∧x<n):l.length≤n:=by
 have:=ZcF (m:=ZcZ n) hn fun x hx=>by obtain⟨h1,h2⟩:=h x hx;obtain⟨y,rfl⟩:=Int.eq_ofNat_of_zero_le h1;exact ZbY.2 (by omega)
 rwa [ZbU] at this
structure FwW (d:DfaD) (W0 bw bs:Nat) (bx:Array Value) (w:World) (s:Bs Int) (k:Nat) (vq:Value):Prop where
 wo:∃ cs,w.ownsRow W0 9 1 (.slice (some ⟨bw,0,none⟩) d.next.length d.next.length) d.next.length cs∧knows d.next.length s cs
 se:∃ ms,w.ownsRow W0 4 1 (.slice (some ⟨bs,0,none⟩) d.next.length d.next.length) d.next.length ms∧marks d.next.length s ms
 qu:Qs W0 w 3 vq ((s.met.drop k).map (Value.int .i64))
 bx:Bx w W0 bx 45
theorem FwW.below {d:DfaD} {W0 bw bs k:Nat} {bx:Array Value} {w w':World} {s:Bs Int} {vq:Value} (h:FwW d W0 bw bs bx w s k vq) (hb:Below w.heap.size w w'):FwW d W0 bw bs bx w' s k vq:=by obtain⟨⟨cs,h1,h2⟩,⟨ms,h3,h4⟩,h5,h6⟩:=h;exact⟨⟨cs,(Own.below (Zaa h1) hb).1,h2⟩,⟨ms,(Own.below (Zaa h3) hb).1,h4⟩,h5.below hb,h6.below hb h6.lt⟩
theorem FwW.cells {d:DfaD} {W0 bw bs k:Nat} {bx:Array Value} {w:World} {s:Bs Int} {vq:Value} (h:FwW d W0 bw bs bx w s k vq) {x:Nat} (hxn:x<d.next.length):(∃ u,w.cell? ⟨bw,x,none⟩=some u)∧w.frozen? ⟨bw,x,none⟩=false∧w.frozen? ⟨bs,x,none⟩=false:=by obtain⟨⟨cs,h1,h2⟩,⟨ms,h3,h4⟩,_⟩:=h;exact⟨Zc1 h1 x (by omega),h1.frozenAt x,h3.frozenAt x⟩
theorem FwW.lt {d:DfaD} {W0 bw bs k:Nat} {bx:Array Value} {w:World} {s:Bs Int} {vq:Value} (h:FwW d W0 bw bs bx w s k vq):W0≤bw∧W0≤bs∧bw<w.heap.size∧bs<w.heap.size∧bw≠bs∧W0≠bw∧W0≠bs:=by
 obtain⟨⟨cs,h1,h2⟩,⟨ms,h3,h4⟩,_,h6⟩:=h;refine⟨(h1.lt bw rfl).1,(h3.lt bs rfl).1,(h1.lt bw rfl).2,(h3.lt bs rfl).2,?_,?_,?_⟩
 ·intro e;obtain⟨cu,hcu⟩:=Za6 (k:=bs) h3 rfl;exact Zaj (e':=4) h1 (by decide) bs (by rw[e];rfl) _ _ hcu
 ·intro e;exact Zaj (e':=45) h1 (by decide) bw rfl _ _ (by rw[← e];exact h6)
 intro e;exact Zaj (e':=45) h3 (by decide) bs rfl _ _ (by rw[← e];exact h6)
theorem FwW.q2 {d:DfaD} {W0 bw bs k:Nat} {bx:Array Value} {w w4 w5:World} {s:Bs Int} {vq:Value} (h:FwW d W0 bw bs bx w s k vq) (x:Nat) {u v:Value} (_:bw≠bs)
  (h5:w5=(w4.setCell ⟨bw,x,none⟩ u).drew) (h4:w4=w.setCell ⟨bs,x,none⟩ v):Qs W0 w5 3 vq ((s.met.drop k).map (Value.int .i64)):=by
 obtain⟨⟨cs,h1,h2⟩,⟨ms,h3,h4'⟩,hq,h6⟩:=h;subst h4;subst h5;have a1:(w.setCell ⟨bs,x,none⟩ v).ownsRow W0 9 1 (.slice (some ⟨bw,0,none⟩) d.next.length d.next.length) d.next.length cs:=Zae h1 (ZaS w bs x _) (fun k hk=>by cases hk;exact Zaj (e':=9) h3 (by decide) bs rfl);exact((hq.grown (ZaS w bs x v) (fun k hk=>by cases hk;exact Zaj (e':=3) h3 (by decide) bs rfl)).grown (ZaS (w.setCell ⟨bs,x,none⟩ v) bw x u) (fun k hk=>by cases hk;exact Zaj (e':=3) a1 (by decide) bw rfl)).below (Below.refl _ _).drew
end Go.Proofs.Ytfanhfcamblghaa
namespace Go.Proofs.Ytfanhfcamblghaa
open Go.RowKit Go.Maps
def hitK (K:Nat) (a b:DfaD):Option (List Nat):=ZfE (ZcM (fun x y=>x != y) a b) (bat (Zat a b) (0,0) K)
def Zk6:Nat:=1600
def hitP (a b:DfaD):Option (List Nat):=hitK Zk6 a b
end Go.Proofs.Ytfanhfcamblghaa
namespace Go.Proofs.Ytfanhfcamblghaa
open Go.RowKit
section
variable {α β:Type} [DecidableEq α] [DecidableEq β] {nx:α→Nat→α} {nx':β→Nat→β} {a:α} {f:α→β}
theorem ZjO (k:Nat):∀ i,i<(bat nx a k).met.length→((bat nx a k).words.getD i []).foldl nx a=(bat nx a k).met.getD i a∧isW ((bat nx a k).words.getD i []):=by
 have h:=Zdz (nx:=nx) (a:=a) (fun s=>s.words.length=s.met.length∧∀ i,i<s.met.length→(s.words.getD i []).foldl nx a=s.met.getD i a∧isW (s.words.getD i [])) ⟨rfl,fun i hi=>by
  obtain rfl:i=0:=by simpa using hi
  exact⟨rfl,fun c hc=>by simp at hc⟩⟩ (fun s k hk t c hc hs ht=>by
   unfold bvisit
   split
   ·exact ht
   refine⟨by simp[ht.1],fun i hi => ?_⟩;simp only[List.length_append,List.length_singleton] at hi;by_cases hit:i<t.met.length
   ·have h1:=ht.2 i hit;have e1:(t.words++[s.words.getD k []++[c]]).getD i []=t.words.getD i []:=by simp only[List.getD_eq_getElem?_getD];rw[List.getElem?_append_left (by rw[ht.1];exact hit)]
    have e2:(t.met++[nx (s.met.getD k a) c]).getD i a=t.met.getD i a:=by simp only[List.getD_eq_getElem?_getD];rw[List.getElem?_append_left hit]
    show((t.words++[s.words.getD k []++[c]]).getD i []).foldl nx a=(t.met++[nx (s.met.getD k a) c]).getD i a∧isW ((t.words++[s.words.getD k []++[c]]).getD i []);rw[e1,e2];exact h1
   obtain rfl:i=t.met.length:=by omega
   have h2:=hs.2 k hk;have e1:(t.words++[s.words.getD k []++[c]]).getD t.met.length []=s.words.getD k []++[c]:=by simp[← ht.1]
   have e2:(t.met++[nx (s.met.getD k a) c]).getD t.met.length a=nx (s.met.getD k a) c:=by simp
   show((t.words++[s.words.getD k []++[c]]).getD t.met.length []).foldl nx a=(t.met++[nx (s.met.getD k a) c]).getD t.met.length a∧isW ((t.words++[s.words.getD k []++[c]]).getD t.met.length []);rw[e1,e2,List.foldl_append,h2.1];exact⟨rfl,ZcG h2.2 (Zg8 hc)⟩) k
 exact h.2
end
theorem Zc9 {α:Type} {en:α→Bool} {s:Bs α} {w:List Nat} {d:α} (hl:s.words.length=s.met.length) (h:ZfE en s=some w):∃ i,i<s.met.length∧s.words.getD i []=w∧en (s.met.getD i d)=true:=by
 unfold ZfE at h;rw[Option.map_eq_some_iff] at h;obtain⟨p,hp,rfl⟩:=h;obtain⟨h1,i,hi,hpi,-⟩:=List.find?_eq_some_iff_getElem.1 hp;rw[List.length_zip] at hi;have him:i<s.met.length:=by omega
 have hiw:i<s.words.length:=by omega
 rw[List.getElem_zip] at hpi;refine⟨i,him,?_,?_⟩
 ·rw[ZaW hiw,← hpi]
 rw[ZaW him];rw[← hpi] at h1;exact h1
theorem ZeL (a b:DfaD):∀ (w:List Nat) (s t:Int),w.foldl (Zat a b) (s,t)=(runD a s w,runD b t w)
 | [],_,_=>rfl
 | c::w,s,t=>ZeL a b w (dnx a s c) (dnx b t c)
theorem Zkq {K:Nat} {a b:DfaD} {w:List Nat} (h:hitK K a b=some w):isW w∧accD a w≠accD b w:=by have hg:=(Zbm (nx:=Zat a b) (a:=((0,0):Int × Int)) K).2.1;obtain⟨i,hi,hw,he⟩:=Zc9 (d:=((0,0):Int × Int)) hg h;obtain⟨h1,h2⟩:=ZjO (nx:=Zat a b) (a:=((0,0):Int × Int)) K i hi;rw[hw] at h1 h2;rw[ZeL] at h1;refine⟨h2,fun e => ?_⟩;unfold ZcM at he;rw[← h1] at he;unfold accD den at e;simp only at he;rw[e] at he;simp at he
end Go.Proofs.Ytfanhfcamblghaa
namespace Go.Proofs.Ytfanhfcamblghaa
open Go.RowKit Go.Maps
def Zck (p:Int × Int):List Int:=[p.1,p.2]
structure L16W (lo hi:Nat) (w:World) (s:Bs (Int × Int)) (vl vw:Value):Prop where
 li:OIntSS 26 3 lo hi w vl (s.met.map Zck)
 wo:w.ownsRow lo 9 1 vw s.words.length (wdCells s.words)
theorem L16W.below {lo hi:Nat} {w w':World} {s:Bs (Int × Int)} {vl vw:Value} (h:L16W lo hi w s vl vw) (hb:Below w.heap.size w w'):L16W lo hi w' s vl vw :=
 ⟨h.li.below hb,(Own.below (Zaa h.wo) hb).1⟩
theorem L16W.row {lo hi:Nat} {w:World} {s:Bs (Int × Int)} {vl vw:Value} (h:L16W lo hi w s vl vw) (h0:0<s.met.length):∃ g off cap,vl = .slice (some ⟨g,off,none⟩) s.met.length cap∧s.met.length≤cap∧cap≤9223372036854775807∧g<w.heap.size ∧
  ∀ k,k<s.met.length→∃ rb ro rc,w.cell? ⟨g,off+k,none⟩=some (.slice (some ⟨rb,ro,none⟩) 2 rc)∧2≤rc∧rc≤9223372036854775807∧rb<w.heap.size∧w.cell? ⟨rb,ro,none⟩=some (.int .i64 (s.met.getD k (0,0)).1)∧w.cell? ⟨rb,ro+1,none⟩=some (.int .i64 (s.met.getD k (0,0)).2):=by
 obtain⟨a,cap,hv,h1,h2,h3⟩:=h.li.intSS.form;rw[List.length_map] at hv h1 h3;obtain⟨g,off,rfl,-,hg,hc⟩:=h3 h0;refine⟨g,off,cap,hv,h1,h2,hg,fun k hk => ?_⟩;obtain⟨a',cap',hc1,hl,hm,hr⟩:=hc k hk;have e:(s.met.map Zck).getD k []=Zck (s.met.getD k (0,0)):=by simp[hk]
 rw[e] at hc1 hl hr;obtain⟨b',off',rfl,-,hb',hcc⟩:=hr (by simp[Zck]);exact⟨b',off',cap',hc1,hl,hm,hb',by simpa [Zck] using hcc 0 (by simp[Zck]),by simpa [Zck] using hcc 1 (by simp[Zck])⟩
theorem ZjU (w:World):(zeroValue 4).run Try.prog w = .ok (.bool false) w:=by kernel_rfl
end Go.Proofs.Ytfanhfcamblghaa
namespace Go.Proofs.Ytfanhfcamblghaa
open Go.RowKit
section
variable {α:Type} [DecidableEq α] {nx:α→Nat→α} {a:α} {en:α→Bool} {K:Nat}
theorem Zia {F:List α} {x:α} (h:x∈F) (d:α):F.getD (Zad F x) d=x:=by have h1:=ZaP h;rw[ZaW h1];exact List.getElem_idxOf h1
theorem ZiL (hK:(bat nx a K).met.length≤K):∀ (w:List Nat),isW w→∀ x∈(bat nx a K).met,w.foldl nx x∈(bat nx a K).met∧runD (Zaz nx en (bat nx a K).met) (Zad (bat nx a K).met x:Nat) w=(Zad (bat nx a K).met (w.foldl nx x):Nat)
 | [],_,x,hx=>⟨hx,rfl⟩
 | c::w,hw,x,hx=>by have hc:c<3:=hw c (by simp);have hx2:=ZdA hK hx hc;have h1:=ZaP hx;obtain⟨h2,h3⟩:=ZiL hK w (fun b hb=>hw b (by simp[hb])) (nx x c) hx2;refine⟨h2,?_⟩;unfold runD at *;rw[List.foldl_cons,List.foldl_cons,← h3,Zlf (a:=a) (by omega) (by omega) hc];unfold ZgZ;rw[Int.toNat_natCast,Zia hx]
theorem ZhZ (hK:(bat nx a K).met.length≤K) {w:List Nat} (hw:isW w):accD (Zaz nx en (bat nx a K).met) w=en (w.foldl nx a):=by
 have h0:=ZfS (nx:=nx) (a:=a) K;obtain⟨h1,h2⟩:=ZiL (en:=en) hK w hw a h0;have h3:Zad (bat nx a K).met a=0:=by have hp:=Zdy (nx:=nx) (a:=a) K;have hf:=ZeA (nx:=nx) (a:=a) K;have hn:=(Zbm (nx:=nx) (a:=a) K).1;rw[ZaW hp] at hf;have:=List.Nodup.idxOf_getElem hn 0 hp;rw[hf] at this;exact this
 rw[h3] at h2;unfold accD;rw[show((0:Nat):Int)=0 from rfl] at h2;rw[h2,Zli (ZaP h1)];congr 1;exact List.getElem_idxOf _
end
end Go.Proofs.Ytfanhfcamblghaa
