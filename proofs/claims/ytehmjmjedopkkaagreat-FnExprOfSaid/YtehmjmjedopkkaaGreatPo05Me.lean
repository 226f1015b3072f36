/-
  The walk over the reference's list of sets of states that are met: l9Subsets.
  Conditions: there are m states, at most 40; moves, first and last states lie below; the automaton reads as such.
-/
import Derived.Test.YtehmjmjedopkkaaGreatPo03S8
import Derived.Test.YtehmjmjedopkkaaGreatPo04Det
set_option maxHeartbeats 8000000
set_option maxRecDepth 100000
namespace Go.Proofs.YtehmjmjedopkkaaGreat
open Go.RowKit Go.Maps
theorem Tryz.infoBools:(Tryz.prog.info? 30).map (fun i=>(i.zero,i.size,i.bytes))=some (some (.slice none 0 0),1,24):=by kernel_rfl
def flc (m:Nat) (x:Int × Int):List Bool:=flags m x.1.toNat
def isM (m:Nat) (x:Int × Int):Prop:=∃ v:Nat,v<2 ^ m∧x=((v:Int),0)
theorem Ziy (m:Nat) (x:Int × Int):(flc m x).length=m:=ZgK _ _
theorem Zn7 {m:Nat} {x y:Int × Int} (hx:isM m x) (hy:isM m y) (h:flc m x=flc m y):x=y:=by obtain⟨v,hv,rfl⟩:=hx;obtain⟨u,hu,rfl⟩:=hy;have:v=u:=Zn8 hv hu (by simpa [flc] using h);rw[this]
theorem Zob {m:Nat} {S:List (Int × Int)} {x:Int × Int} (hS:∀ y∈S,isM m y) (hx:isM m x):ZiA (S.map (flc m)) (flc m x)=if x∈S then(Zaj S x:Int) else -1:=by
 have hmem:flc m x∈S.map (flc m)↔x∈S:=by
  constructor
  ·intro h;obtain⟨y,hy,e⟩:=List.mem_map.1 h;rw[← Zn7 (hS y hy) hx e];exact hy
  exact fun h=>List.mem_map.2 ⟨x,h,rfl⟩
 by_cases h:x∈S
 ·rw[if_pos h];have hk:=ZaP h;refine Zlp (by simpa using hk) ?_ ?_
  ·rw[← List.map_take];intro hc;obtain⟨y,hy,e⟩:=List.mem_map.1 hc;have hyx:=Zn7 (hS y (List.mem_of_mem_take hy)) hx e;subst hyx;have hp:=ZaY (List.take_prefix (Zaj S y) S) hy;have:=ZaP hy;rw[List.length_take] at this;omega
  have:=Ziw h x;simp only[List.getD_eq_getElem?_getD,List.getElem?_map];rw[List.getElem?_eq_getElem hk];simp only[Option.map_some,w_8];congr 1;simpa [hk] using this
 rw[if_neg h];exact ZhD fun hc=>h (hmem.1 hc)
def nxSM (M:Nat) (n:NfaD) (x:Int × Int) (c:Nat):Int × Int:=((stV M n.moves x.1.toNat (c:Int):Nat),0)
def Zn5 (M:Nat) (n:NfaD):Nat:=clV M n.moves (setV n.firsts)
abbrev metSM (M:Nat) (n:NfaD) (K:Nat):List (Int × Int):=(bat (nxSM M n) (((Zn5 M n:Nat):Int),0) K).met
theorem Znq {M:Nat} {n:NfaD} {m:Nat} (hmv:mvIn m n.moves) (x:Int × Int) (c:Nat):isM m (nxSM M n x c) :=
 ⟨_,Zdk hmv (ZbO _ (fun v=>v<2 ^ m) (fun _ _ hm hv=>Zcz hmv hm hv) (Nat.two_pow_pos m)) M,rfl⟩
theorem ZqB {M:Nat} {n:NfaD} {m:Nat} (hmv:mvIn m n.moves) (hf:inN m n.firsts):isM m (((Zn5 M n:Nat):Int),0):=⟨_,Zdk hmv (Zc8 hf) M,rfl⟩
def ZqM (M:Nat) (n:NfaD) (m K:Nat) (w:World) (e:Ending) (w':World):Prop :=
 ∃ a1 c1 a2 c2 l1 l2,e = .returned (.tuple #[.slice a1 l1 c1,.slice a2 l2 c2])∧l1<1000000 ∧
  (if (metSM M n K).length≤K then l1=(metSM M n K).length∧∃ vs1 vs2,St w w' [Ent.rows 30 4 (.slice a1 l1 c1) vs1 (((metSM M n K).map (flc m)).map boolCells),Ent.rows 59 3 (.slice a2 l2 c2) vs2 (((metSM M n K).map (Zaf (nxSM M n) (metSM M n K))).map intCells)]
   else K<l1∧Below w.heap.size w w')
theorem ZlD {α:Type} [DecidableEq α] (nx:α→Nat→α) (x:α) (wd:List Nat) (s:Bs α):∀ n,(brow nx x wd s n).met.length≤s.met.length+n
 | 0=>Nat.le_refl _
 | n+1=>by
  have ih:=ZlD nx x wd s n;show(bvisit nx x wd (brow nx x wd s n) n).met.length≤_;unfold bvisit
  split
  ·omega
  simp;omega
theorem ZeM {α:Type} [DecidableEq α] (nx:α→Nat→α) (a:α) (k n:Nat):(bpart nx a k n).met.length≤(bat nx a k).met.length+n:=ZlD _ _ _ _ _
theorem Zcm {α β γ:Type} (f:α→β) (g:β→γ) (l:List α):((l.map f).map g).length=l.length:=by simp
theorem Zgi {nx:Int × Int→Nat→Int × Int} {F:List (Int × Int)} {x:Int × Int} {n:Nat} (hn:n<3):(Zaf nx F x).take (n+1)=(Zaf nx F x).take n++[(Zaj F (nx x n):Int)]:=by rw[List.take_succ_eq_append_getElem (by simp[Zaf];omega)];simp[Zaf]
theorem Zb8 {a:Option Addr} {l c:Nat}:∀ u∈[Value.slice a l c],u.oneCell'=true:=by intro u hu;simp only[List.mem_singleton] at hu;subst hu;rfl
theorem Zg2 (M:Nat) (hM:M≤1000) (m K:Nat) (mvs:List (Int × Int × Int)) (fs es:List Int) (v1 v2 v3:Value) (w:World) (hm:m≤M) (hK0:0<K) (hK1:K≤1000) (hmv:mvIn m mvs) (hml:mvs.length≤1000000) (hf:inN m fs) (hfl:fs.length≤1000000) (h1:Moves 0 w v1 mvs) (h2:Ints 0 w v2 fs) :
  Calls Tryz.prog 160 #[.agg #[.int .i64 (m:Int),v1,v2,v3],.int .i64 (K:Nat)] w fun e w'=>ZqM M ⟨(m:Int),mvs,fs,es⟩ m K w e w':=by
 obtain⟨n,hn⟩:∃ n:NfaD,n=⟨(m:Int),mvs,fs,es⟩:=⟨_,rfl⟩;rw[← hn];have hnm:n.moves=mvs:=by rw[hn]
 have hnf:n.firsts=fs:=by rw[hn]
 obtain⟨W,hW⟩:=eI (w.alloc (.cells #[.int .i64 (m:Int),v1,v2,v3] 91));have hS0:St w W [Ent.box w.heap.size #[.int .i64 (m:Int),v1,v2,v3] 91]:=by rw[hW];exact(St.start w).alloc _ rfl _ _
 have c0:=hS0.cell (v:=.int .i64 (m:Int)) 0 0 rfl rfl;have c1:=hS0.cell (v:=v1) 0 1 rfl rfl;have c2:=hS0.cell (v:=v2) 0 2 rfl rfl;have c3:=hS0.cell (v:=v3) 0 3 rfl rfl;have hl0:=(hS0.boxlt 0 rfl).2;have Hk:=qh (fun (w':World) (h:Below W.drew.heap.size W.drew w')=>(show w'.cell? ⟨w.heap.size,0,none⟩=some (.int .i64 (m:Int))∧w'.cell? ⟨w.heap.size,1,none⟩=some v1∧w'.cell? ⟨w.heap.size,2,none⟩=some v2∧w'.cell? ⟨w.heap.size,3,none⟩=some v3 from⟨(bcell h _ _ hl0).trans c0,(bcell h _ _ hl0).trans c1,(bcell h _ _ hl0).trans c2,(bcell h _ _ hl0).trans c3⟩));have H1:=qh (h1.below hS0.bel.drew);have H2:=qh (h2.below hS0.bel.drew);have hfst:clV M mvs (setV fs)=Zn5 M n:=by rw[hn];rfl
 obtain⟨i0,hi,hz0,hz1,hz2⟩:=info_parts Tryz.infoInt;obtain⟨j0,hj,hy0,hy1,hy2⟩:=info_parts Tryz.infoInts;obtain⟨k0,hk,hx0,hx1,hx2⟩:=info_parts Tryz.infoBools;have HG1:=qh h1;replace hn:=qh hn;have Hhnm:=qh hnm;clear hnm;have Hhnf:=qh hnf;clear hnf;replace hS0:=qh hS0;have Hhmv:=qh hmv;clear hmv;have Hhml:=qh hml;clear hml;have Hhf:=qh hf;clear hf;have Hhfl:=qh hfl;clear hfl;have Hhfst:=qh hfst;clear hfst;have Hhi:=qh hi;clear hi;have Hhz0:=qh hz0;clear hz0;have Hhz1:=qh hz1;clear hz1;have Hhz2:=qh hz2;clear hz2;have Hhj:=qh hj;clear hj;have Hhy0:=qh hy0;clear hy0;have Hhy1:=qh hy1;clear hy1;have Hhy2:=qh hy2;clear hy2;have Hhk:=qh hk;clear hk;have Hhx0:=qh hx0;clear hx0;have Hhx1:=qh hx1;clear hx1;have Hhx2:=qh hx2;clear hx2;have HW:=qh hW;clear hW h1 h2
 go_enter Tryz.func160, Tryz.ntmps160
 go_wp2_with fail;rw[← HW.out]
 go_region_held3 (fun w'=>w'.cell? ⟨w.heap.size,0,none⟩=some (.int .i64 (m:Int))∧w'.cell? ⟨w.heap.size,1,none⟩=some v1∧w'.cell? ⟨w.heap.size,2,none⟩=some v2∧w'.cell? ⟨w.heap.size,3,none⟩=some v3)
  (first|go_keep|exact Hk.out _ hq0|exact Hk.out _ hq1)
  (first
   | (go_at_call 163;(with_reducible refine(Zjj fs m _ _ (by omega) Hhf.out Hhfl.out H2.out).mono ?_);rintro e u0 ⟨⟨g0,d0,rfl,hr0⟩,hq0⟩)
   | (go_at_call 162;(with_reducible refine(Zfi M hM ⟨(m:Int),mvs,fs,es⟩ m (setV fs) v1 v2 v3 _ _ hm Hhmv.out Hhml.out (Zc8 Hhf.out) (H1.out.below hq0) (FlagsAt.of hr0)).mono ?_);rintro e u1 ⟨⟨g1,d1,rfl,hr1⟩,hb1⟩;have hq1:=hq0.trans (hb1.mono hq0.size)))
 have hS1:=((hS0.out.drew).call hq0).made hb1 hr1;have hS2:=((hS1.alloc _ rfl #[.slice (some ⟨g1,0,none⟩) m d1] 30).boxrow 2 1 1 [.slice (some ⟨g1,0,none⟩) m d1] rfl rfl (by unfold maxLen;omega)).onerow 2 1 (by decide) rfl rfl;have hS3:=(((hS2.pick [0,2] (by decide)).alloc (u1.heap.size+1) (by simp) #[] 59).boxrow 2 0 1 [] rfl rfl (Nat.zero_le _)).norows 2 rfl 3;have HhS3:=qh hS3;clear hS3;clear hS1 hS2 hq0 hq1 hb1 hr0 hr1 c0 c1 c2 c3 hl0;obtain⟨F,hF⟩:=eI (metSM M n K);obtain⟨a0,ha0⟩:=eI (((((Zn5 M n:Nat):Int),0):Int × Int));have hFa:F=(bat (nxSM M n) a0 K).met:=by rw[hF,ha0]
 have Hin:=qh (fun k=>ZbZ (nx:=nxSM M n) (a:=a0) (Q:=isM m) (by rw[ha0];exact ZqB (by rw[Hhnm.out];exact Hhmv.out) (by rw[Hhnf.out];exact Hhf.out)) (fun x c _ _=>Znq (by rw[Hhnm.out];exact Hhmv.out) x c) k);have hFa':F=(bat (nxSM M n) a0 K).met:=hFa;replace hF:=qh hF;have HhFa:=qh hFa;clear hFa;have HhFa':=qh hFa';clear hFa';have Hha0:=qh ha0;clear ha0;go_wp2
 go_loopw [6,7,8] (fun vs vn i wr=>∃ (k:Nat) (b1 cap1 b2 cap2:Nat) (vs1 vs2:List Value),i = .int .i64 k∧vs = .slice (some ⟨b1,0,none⟩) (bat (nxSM M n) a0 k).met.length cap1∧vn = .slice (some ⟨b2,0,none⟩) k cap2∧k≤(bat (nxSM M n) a0 k).met.length∧k≤K∧(bat (nxSM M n) a0 k).met.length≤K+3 ∧
   St w wr [Ent.box w.heap.size #[.int .i64 (m:Int),v1,v2,v3] 91,Ent.rows 30 4 (.slice (some ⟨b1,0,none⟩) (bat (nxSM M n) a0 k).met.length cap1) vs1 (((bat (nxSM M n) a0 k).met.map (flc m)).map boolCells),
    Ent.rows 59 3 (.slice (some ⟨b2,0,none⟩) k cap2) vs2 ((((bat (nxSM M n) a0 k).met.take k).map (Zaf (nxSM M n) F)).map intCells)])
  (fun _ _ i _=>K-(intOf i).toNat)
 case atStart =>
  refine⟨0,_,_,_,_,[.slice (some ⟨g1,0,none⟩) m d1],[],rfl,rfl,rfl,by simp,by omega,by simp[bat],?_⟩;have e1:((bat (nxSM M n) a0 0).met.map (flc m)).map boolCells=[boolCells (flags m (clV M mvs (setV fs)))]:=by simp[bat,Hha0.out,flc,Hhfst.out]
  rw[e1];exact HhS3.out
 case round =>
  obtain⟨k,b1,cap1,b2,cap2,vs1,vs2,rfl,rfl,rfl,hk,hkK,hML,hS⟩:=hrel;obtain⟨S,hSS⟩:=eI (bat (nxSM M n) a0 k);have hR:=Hin.out k;rw[← hSS] at hk hML hS hR;rw[← hSS];obtain⟨wo,hwo⟩:∃ wo:World,wo=wr:=⟨_,rfl⟩;subst hwo;have HhS:=qh hS;clear hS;have HhSS:=qh hSS;clear hSS;have HhR:=qh hR;clear hR;by_cases hlt:k<S.met.length
  ·by_cases hle:S.met.length≤K
   ·have hlt2:(k:Int)<S.met.length:=by omega
    have hle2:(S.met.length:Int)≤K:=by omega
    have hSe:=(HhS.out.alloc _ rfl #[] 3).boxrow 3 0 1 [] rfl rfl (Nat.zero_le _);obtain⟨x,hx⟩:=eI (S.met.getD k a0);have hxM:isM m x:=by rw[hx];exact HhR.out _ (memD hlt)
    have hkS:k<(bat (nxSM M n) a0 k).met.length:=by rw[← HhSS.out];exact hlt
    have hxb:(bat (nxSM M n) a0 k).met.getD k a0=x:=by rw[← HhSS.out];exact hx.symm
    have HhSe:=qh hSe;clear hSe;have Hhx:=qh hx;clear hx;have HhxM:=qh hxM;clear hxM;have HhkS:=qh hkS;clear hkS;have Hhxb:=qh hxb;clear hxb;go_wp2
    go_loopw [6,9,10] (fun vs rv i wi=>∃ (c:Nat) (b1 cap1 b3 cap3:Nat) (vs1:List Value),i = .int .i64 c∧vs = .slice (some ⟨b1,0,none⟩) (bpart (nxSM M n) a0 k c).met.length cap1∧rv = .slice (some ⟨b3,0,none⟩) c cap3∧c≤3 ∧
      St w wi [Ent.box w.heap.size #[.int .i64 (m:Int),v1,v2,v3] 91,Ent.rows 30 4 (.slice (some ⟨b1,0,none⟩) (bpart (nxSM M n) a0 k c).met.length cap1) vs1 (((bpart (nxSM M n) a0 k c).met.map (flc m)).map boolCells),
       Ent.rows 59 3 (.slice (some ⟨b2,0,none⟩) k cap2) vs2 (((S.met.take k).map (Zaf (nxSM M n) F)).map intCells),Ent.row 3 1 (.slice (some ⟨b3,0,none⟩) c cap3) c (intCells ((Zaf (nxSM M n) F x).take c))])
     (fun _ _ i _=>3-(intOf i).toNat)
    case atStart =>refine⟨0,b1,cap1,_,_,vs1,rfl,by rw[Zaw,← HhSS.out],rfl,by omega,?_⟩;rw[Zaw,← HhSS.out];exact HhSe.out
    case round =>
     obtain⟨c,b1,cap1,b3,cap3,vs1,rfl,rfl,rfl,hc3,hSi⟩:=hrel;obtain⟨wp,hwp⟩:∃ wp:World,wp=wr:=⟨_,rfl⟩;subst hwp;by_cases hc:c<3
     ·have hTl:=ZeM (nxSM M n) a0 k c;have hTall:=ZoC (nx:=nxSM M n) (a:=a0) (Q:=isM m) (by have:=Hin.out 0;exact this a0 (by simp[bat])) (fun x c _ _=>Znq (by rw[Hhnm.out];exact Hhmv.out) x c) HhkS.out (show c≤3 by omega);have hold:=ZbQ (nx:=nxSM M n) (a:=a0) (k:=k) (n:=c);have hnew:=Zbr (nx:=nxSM M n) (a:=a0) (k:=k) (n:=c);have hTS:=ZbR (nx:=nxSM M n) (a:=a0) (k:=k) (Nat.zero_le c);have hTF:=ZaH (nx:=nxSM M n) (a:=a0) (m:=K) HhkS.out (show c≤3 by omega) (show k<K by omega);have hTF2:=ZaH (nx:=nxSM M n) (a:=a0) (m:=K) HhkS.out (show c+1≤3 by omega) (show k<K by omega);rw[Zaw,← HhSS.out] at hTS;rw[Hhxb.out] at hold hnew;rw[← HhSS.out] at hTl;replace hTF:=hTF.1;replace hTF2:=hTF2.1;replace hTS:=hTS.1;rw[← HhFa'.out] at hTF hTF2;obtain⟨y,hy⟩:=eI (nxSM M n x c);have hyM:isM m y:=by rw[hy];exact Znq (by rw[Hhnm.out];exact Hhmv.out) x c
      have hyf:flags m (stV M mvs x.1.toNat (c:Int))=flc m y:=by rw[hy,← Hhnm.out];rfl
      have hold':y∈(bpart (nxSM M n) a0 k c).met→(bpart (nxSM M n) a0 k (c+1)).met=(bpart (nxSM M n) a0 k c).met:=fun h=>by rw[hold (by rw[← hy];exact h)]
      have hnew':y ∉ (bpart (nxSM M n) a0 k c).met→(bpart (nxSM M n) a0 k (c+1)).met=(bpart (nxSM M n) a0 k c).met++[y]:=fun h=>by rw[hnew (by rw[← hy];exact h),← hy]
      clear hold hnew;obtain⟨T1,hT1⟩:=eI ((bpart (nxSM M n) a0 k (c+1)).met);obtain⟨T,hT⟩:=eI ((bpart (nxSM M n) a0 k c).met);rw[← hT] at hSi hTl hTall hTF hTS hold' hnew';rw[← hT1] at hTF2 hold' hnew';rw[← hT];have hkT:k<T.length:=Nat.lt_of_lt_of_le hlt hTS.length_le;have hxT:T.getD k a0=x:=(ZaD hTS hlt _).trans Hhx.out.symm;have hfind:=Zob hTall hyM;have hrow:=Zgi (nx:=nxSM M n) (F:=F) (x:=x) hc;rw[← hy] at hrow;have hlm:((T.map (flc m)).map boolCells).length=T.length:=Zcm _ _ _;have hcs:((T.map (flc m)).map boolCells).getD k []=boolCells (flc m x):=by rw[← hxT];simp[hkT]
      obtain⟨ax,cx,hcell,hxr,hcx1,hcx2,hcp1,hcp2,hb1l⟩:=hSi.rowAt 1 rfl hlm hkT;rw[hcs] at hcell hxr hcx1;have hxl:(boolCells (flc m x)).length=m:=by simp[Ziy]
      rw[hxl] at hcell hxr hcx1;have hxB:=ZjQ hxr;have e0:=hSi.cell (v:=.int .i64 (m:Int)) 0 0 rfl rfl;have e1:=hSi.cell (v:=v1) 0 1 rfl rfl;have e2:=hSi.cell (v:=v2) 0 2 rfl rfl;have e3:=hSi.cell (v:=v3) 0 3 rfl rfl;have hl0:=(hSi.boxlt 0 rfl).2;have Hk2:=qh (fun (w':World) (h:Below wp.drew.heap.size wp.drew w')=>(show w'.cell? ⟨w.heap.size,0,none⟩=some (.int .i64 (m:Int))∧w'.cell? ⟨w.heap.size,1,none⟩=some v1∧w'.cell? ⟨w.heap.size,2,none⟩=some v2∧w'.cell? ⟨w.heap.size,3,none⟩=some v3∧w'.cell? ⟨b1,k,none⟩=some (.slice ax m cx) from⟨(bcell h _ _ hl0).trans e0,(bcell h _ _ hl0).trans e1,(bcell h _ _ hl0).trans e2,(bcell h _ _ hl0).trans e3,(bcell h _ _ hb1l).trans hcell⟩));have HM2:=qh (HG1.out.below hSi.bel.drew);have HX2:=qh (hxB.below (Below.refl _ _).drew);have hkT2:(k:Int)<T.length:=by omega
      have hc4:(c:Int)<3:=by omega
      have Hhy:=qh hy;clear hy;have HhyM:=qh hyM;clear hyM;have Hhyf:=qh hyf;clear hyf;have Hhold':=qh hold';clear hold';have Hhnew':=qh hnew';clear hnew';have HhT1:=qh hT1;clear hT1;have HhT:=qh hT;clear hT;have HhTl:=qh hTl;clear hTl;have HhTall:=qh hTall;clear hTall;have HhTF:=qh hTF;clear hTF;have HhTF2:=qh hTF2;clear hTF2;have HhTS:=qh hTS;clear hTS;have HhxT:=qh hxT;clear hxT;have Hhfind:=qh hfind;clear hfind;have Hhrow:=qh hrow;clear hrow;have Hhlm:=qh hlm;clear hlm;have HhSi:=qh hSi;clear hSi;clear hcs hxr hxl hxB;go_wp2
      go_region_held3 (fun w'=>w'.cell? ⟨w.heap.size,0,none⟩=some (.int .i64 (m:Int))∧w'.cell? ⟨w.heap.size,1,none⟩=some v1∧w'.cell? ⟨w.heap.size,2,none⟩=some v2∧w'.cell? ⟨w.heap.size,3,none⟩=some v3∧w'.cell? ⟨b1,k,none⟩=some (.slice ax m cx))
       (first|go_keep|exact Hk2.out _ hq0)
       (first
        | (go_at_call 164;(with_reducible refine(Zkr M hM ⟨(m:Int),mvs,fs,es⟩ m x.1.toNat (c:Int) v1 v2 v3 _ _ rfl hm Hhmv.out Hhml.out HM2.out HX2.out).mono ?_);rintro e u2 ⟨⟨g2,d2,rfl,hr2⟩,hq0⟩))
      have hSx:=HhSi.out.drew.made hq0 hr2;rw[show flags m (stV M (NfaD.moves ⟨(m:Int),mvs,fs,es⟩) x.1.toNat (c:Int))=flc m y from Hhyf.out] at hSx;have hfa:=Zl8 (T.map (flc m)) (flc m y) m (.slice (some ⟨b1,0,none⟩) T.length cap1) (.slice (some ⟨g2,0,none⟩) m d2) u2 (by intro z hz;obtain⟨q,-,rfl⟩:=List.mem_map.1 hz;exact Ziy _ _) (Ziy _ _) (by rw[List.length_map];have:=HhTl.out;omega) (hSx.boolSS 1 rfl) (hSx.bools 4 rfl);rw[Hhfind.out] at hfa;have HhSx:=qh hSx;clear hSx;clear hcell e0 e1 e2 e3 hq0 hr2;by_cases hmem:y∈T
      ·rw[if_pos hmem] at hfa;obtain⟨p,hp⟩:=eI (Zaj T y);have hpl:p<T.length:=by rw[hp];exact ZaP hmem
       have hpF:Zaj F y=p:=(ZaY HhTF.out hmem).trans hp.symm;rw[← hp] at hfa;have hT1o:=Hhold'.out hmem;have hp0:¬ ((p:Int)<0):=by omega
       have Hhfa:=qh hfa;clear hfa;have Hhp:=qh hp;clear hp;have HhpF:=qh hpF;clear hpF;have HhT1o:=qh hT1o;clear hT1o;go_wp2_with fail;refine Hhfa.out.mono ?_;rintro e w2 ⟨rfl,hb2⟩;have hSa:=(HhSx.out.call hb2).alloc_ (.cells #[.int .i64 (p:Int)] 3);have hR:=hSa.row 3 rfl;have HhSa:=qh hSa;clear hSa;have HhR:=qh hR;clear hR;clear hb2;go_wp2_with (at_builtin;refine wpList_append_lies _ rfl _ _ _ rfl _ 3 i0 (.int .i64 0) 1 8 Tryz.underlying59 Hhi.out Hhz0.out Hhz1.out Hhz2.out rfl (by omega) _ c _ rfl HhR.out ⟨w2.heap.size,0,none⟩ 1 1 [.int .i64 (p:Int)] rfl rfl (World.news_of_block (heap_alloc_new w2 _)) Zbn (by omega) (by unfold maxLen;omega) (by omega) HhSa.out.size _ rfl ?_;intro g6 c6 w6 hown6 hgrow6 hat6 hlt6;have HS6:=qh (HhSa.out.app 3 rfl hown6 hgrow6 hat6);clear hown6 hgrow6 hat6 hlt6);go_roundw
       case rel =>refine⟨c+1,b1,cap1,_,_,vs1,by go_num,by rw[← HhT1.out,HhT1o.out],rfl,by omega,?_⟩;rw[← HhT1.out,HhT1o.out,Hhrow.out,HhpF.out,Zax];exact HS6.out.pick [0,1,2,3] (by decide)
       case measure=>simp[intOf];omega
      rw[if_neg hmem] at hfa;have hT1n:=Hhnew'.out hmem;have hpF:Zaj F y=T.length:=ZfO (by rw[← hT1n];exact HhTF2.out) hmem;have hTlt:=HhTl.out;have Hhfa:=qh hfa;clear hfa;have HhpF:=qh hpF;clear hpF;have HhT1n:=qh hT1n;clear hT1n;go_wp2_with fail;refine Hhfa.out.mono ?_;rintro e w2 ⟨rfl,hb2⟩;have hSa:=(HhSx.out.call hb2).alloc_ (.cells #[.slice (some ⟨g2,0,none⟩) m d2] 30);have hR:=(hSa.rows 1 rfl).1;rw[Hhlm.out] at hR;have HhSa:=qh hSa;clear hSa;have HhR:=qh hR;clear hR;clear hb2
      go_wp2_with (first
       | (at_builtin;refine wpList_append_lies _ rfl _ _ _ rfl _ 30 k0 (.slice none 0 0) 1 24 Tryz.underlying113 Hhk.out Hhx0.out Hhx1.out Hhx2.out rfl (by omega) _ T.length _ rfl HhR.out ⟨w2.heap.size,0,none⟩ 1 1 [.slice (some ⟨g2,0,none⟩) m d2] rfl rfl (World.news_of_block (heap_alloc_new w2 _)) Zb8 (by omega) (by unfold maxLen;omega) (by omega) HhSa.out.size _ rfl ?_;intro g6 c6 w6 hown6 hgrow6 hat6 hlt6;have HS6:=qh ((HhSa.out.snoc 1 4 (by decide) rfl rfl (by decide) hgrow6 (by rw[Hhlm.out];exact hown6) (Zez hat6)).alloc_ (.cells #[.int .i64 (T.length:Int)] 3));have HR6:=qh (HS6.out.row 3 rfl);clear hown6 hgrow6 hat6 hlt6)
       | (at_builtin;refine wpList_append_lies _ rfl _ _ _ rfl _ 3 i0 (.int .i64 0) 1 8 Tryz.underlying59 Hhi.out Hhz0.out Hhz1.out Hhz2.out rfl (by omega) _ c _ rfl HR6.out ⟨w6.heap.size,0,none⟩ 1 1 [.int .i64 (T.length:Int)] rfl rfl (World.news_of_block (heap_alloc_new w6 _)) Zbn (by omega) (by unfold maxLen;omega) (by omega) HS6.out.size _ rfl ?_;intro g7 c7 w7 hown7 hgrow7 hat7 hlt7;have HS7:=qh (HS6.out.app 3 rfl hown7 hgrow7 hat7);clear hown7 hgrow7 hat7 hlt7))
      go_roundw
      case rel =>refine⟨c+1,g6,c6,g7,c7,vs1++[.slice (some ⟨g2,0,none⟩) m d2],by go_num,by rw[← HhT1.out,HhT1n.out,List.length_append];rfl,rfl,by omega,?_⟩;rw[← HhT1.out,HhT1n.out,Hhrow.out,HhpF.out,Zax,List.map_append,List.map_append,List.length_append];exact HS7.out.pick [0,1,2,3] (by decide)
      case measure=>simp[intOf];omega
     obtain rfl:c=3:=by omega
     have hbs:bat (nxSM M n) a0 (k+1)=bpart (nxSM M n) a0 k 3:=ZaM HhkS.out;have hle3:=ZeM (nxSM M n) a0 k 3;have hTS:=(ZbR (nx:=nxSM M n) (a:=a0) (k:=k) (Nat.zero_le 3)).1;rw[Zaw] at hTS;rw[← HhSS.out] at hle3 hTS;have hkl:k+1≤(bpart (nxSM M n) a0 k 3).met.length:=Nat.le_trans hlt hTS.length_le;have htk:(bpart (nxSM M n) a0 k 3).met.take (k+1)=S.met.take k++[x]:=by obtain⟨t,ht⟩:=hTS;rw[← ht,List.take_append_of_le_length (by omega),List.take_succ_eq_append_getElem hlt,Hhx.out];simp[hlt]
     have hn3:(Zaf (nxSM M n) F x).take 3=Zaf (nxSM M n) F x:=List.take_of_length_le (by simp[Zaf]);have hlm:(((S.met.take k).map (Zaf (nxSM M n) F)).map intCells).length=k:=by rw[Zcm,List.length_take];omega
     rw[hn3] at hSi;have hSa:=hSi.alloc_ (.cells #[.slice (some ⟨b3,0,none⟩) 3 cap3] 59);have hR:=(hSa.rows 2 rfl).1;rw[hlm] at hR;have Hhbs:=qh hbs;clear hbs;have Hhle3:=qh hle3;clear hle3;have HhTS:=qh hTS;clear hTS;have Hhtk:=qh htk;clear htk;have Hhn3:=qh hn3;clear hn3;have Hhlm:=qh hlm;clear hlm;have HhSi:=qh hSi;clear hSi;have HhSa:=qh hSa;clear hSa;have HhR:=qh hR;clear hR;go_wp2_with (at_builtin;refine wpList_append_lies _ rfl _ _ _ rfl _ 59 j0 (.slice none 0 0) 1 24 Tryz.underlying29 Hhj.out Hhy0.out Hhy1.out Hhy2.out rfl (by omega) _ k _ rfl HhR.out ⟨wp.heap.size,0,none⟩ 1 1 [.slice (some ⟨b3,0,none⟩) 3 cap3] rfl rfl (World.news_of_block (heap_alloc_new wp _)) Zb8 (by omega) (by unfold maxLen;omega) (by omega) HhSa.out.size _ rfl ?_;intro g6 c6 w6 hown6 hgrow6 hat6 hlt6;have HS6:=qh (HhSa.out.snoc 2 3 (by decide) rfl rfl (by decide) hgrow6 (by rw[Hhlm.out];exact hown6) (Zez hat6));clear hown6 hgrow6 hat6 hlt6);go_roundw
     case rel =>refine⟨k+1,b1,cap1,g6,c6,vs1,vs2++[.slice (some ⟨b3,0,none⟩) 3 cap3],by go_num,by rw[Hhbs.out],rfl,by rw[Hhbs.out];exact hkl,by omega,by rw[Hhbs.out];have:=Hhle3.out;omega,?_⟩;rw[Hhbs.out,Hhtk.out,List.map_append,List.map_append];exact HS6.out.pick [0,1,2] (by decide)
     case measure=>simp[intOf];omega
   have hlt2:(k:Int)<S.met.length:=by omega
   have hle2:¬ ((S.met.length:Int)≤K):=by omega
   have hbig:¬ ((metSM M n K).length≤K):=by have h:=(Zfq (nx:=nxSM M n) (a:=a0) hkK).1.length_le;rw[← HhSS.out,Hha0.out] at h;unfold metSM;omega
   have Hhbig:=qh hbig;clear hbig;go_wp2
   go_ret2
   refine⟨_,_,_,_,_,_,rfl,by omega,?_⟩;rw[if_neg Hhbig.out];exact⟨by omega,HhS.out.bel⟩
  have hkl:k=S.met.length:=by omega
  have hfin:metSM M n K=S.met:=by have h:=Zbz (nx:=nxSM M n) (a:=a0) (k:=k) (m:=K) (by rw[← HhSS.out];omega) hkK;unfold metSM;rw[← Hha0.out,h,← HhSS.out]
  have Hhkl:=qh hkl;clear hkl;have Hhfin:=qh hfin;clear hfin;go_wp2
  go_ret2
  refine⟨_,_,_,_,_,_,rfl,by omega,?_⟩;rw[Hhfin.out,if_pos (by have:=Hhkl.out;omega)];refine⟨rfl,vs1,vs2,?_⟩;have h:=HhS.out.pick [1,2] (by decide);have h2:=Hhkl.out;subst h2;rw[List.take_length,hF.out,Hhfin.out] at h;exact h
def RDetSM (M:Nat) (n:NfaD) (K B:Nat) (e:Ending) (w':World):Prop :=
 if (metSM M n K).length≤K then
  ∃ a1 l1 c1 a2 l2 c2,e = .returned (.tuple #[.agg #[.slice a1 l1 c1,.slice a2 l2 c2],.bool true])∧DfaR B w' (.agg #[.slice a1 l1 c1,.slice a2 l2 c2]) (Zav (nxSM M n) (enS n) (metSM M n K))
 else e = .returned (.tuple #[.agg #[.slice none 0 0,.slice none 0 0],.bool false])
theorem Zgs (M:Nat) (hM:M≤1000) (m K:Nat) (hK:K=40) (mvs:List (Int × Int × Int)) (fs es:List Int) (v1 v2 v3:Value) (w:World) (hm:m≤M) (hmv:mvIn m mvs) (hml:mvs.length≤1000000) (hf:inN m fs) (hfl:fs.length≤1000000) (h1:Moves 0 w v1 mvs) (h2:Ints 0 w v2 fs) :
  Calls Tryz.prog 160 #[.agg #[.int .i64 (m:Int),v1,v2,v3],.int .i64 40] w fun e w'=>ZqM M ⟨(m:Int),mvs,fs,es⟩ m K w e w':=by
 have h:=Zg2 M hM m K mvs fs es v1 v2 v3 w hm (by omega) (by omega) hmv hml hf hfl h1 h2;have e:((K:Nat):Int)=40:=by omega
 rw[e] at h;exact h
theorem St.rowsform {w0 w:World} {L:List Ent} (h:St w0 w L) (i:Nat) {es e n c:Nat} {a:Option Addr} {vs:List Value} {css:List (List Value)} (hx:L[i]? = some (Ent.rows es e (.slice a n c) vs css)) (hn:0<css.length):∃ g,a=some ⟨g,0,none⟩∧n=css.length:=by obtain⟨g,cap,hv,-,-⟩:=(h.rows i hx).1.form hn;simp only[Value.slice.injEq] at hv;exact⟨g,hv.1,hv.2.1⟩
theorem Za4 {x:Bool}:∀ u∈[Value.bool x],u.oneCell'=true:=by intro u hu;simp only[List.mem_singleton] at hu;subst hu;rfl
theorem Za9 (l:List Bool) (x:Bool):boolCells (l++[x])=boolCells l++[.bool x]:=by simp[boolCells]
theorem ZiP {l:List Int} {p:Int→Bool} {j:Nat} (hj:j<l.length):(l.take (j+1)).any p=((l.take j).any p||p (l.getD j 0)):=by rw[List.take_succ_eq_append_getElem hj,List.any_append];simp[hj]
theorem Zhx (M:Nat) (hM:M≤1000) (m K:Nat) (hK:K=40) (mvs:List (Int × Int × Int)) (fs es:List Int) (v1 v2 v3:Value) (w:World) (hm:m≤M) (hmv:mvIn m mvs) (hml:mvs.length≤1000000) (hf:inN m fs) (hfl:fs.length≤1000000) (he:inN m es) (hel:es.length≤1000000) (h1:Moves 0 w v1 mvs) (h2:Ints 0 w v2 fs) (h3:Ints 0 w v3 es) :
  Calls Tryz.prog 147 #[.agg #[.int .i64 (m:Int),v1,v2,v3]] w fun e w'=>RDetSM M ⟨(m:Int),mvs,fs,es⟩ K w.heap.size e w'∧Below w.heap.size w w':=by
 obtain⟨a3,c3,rfl,hc3,hm3,hr3⟩:=h3.form;obtain⟨n,hn⟩:∃ n:NfaD,n=⟨(m:Int),mvs,fs,es⟩:=⟨_,rfl⟩;have hne:n.ends=es:=by rw[hn]
 have hS0:=((St.start w).alloc _ rfl #[.int .i64 (m:Int),v1,v2,.slice a3 es.length c3] 91).alloc (w.heap.size+1) (by simp) #[.slice none 0 0,.slice none 0 0] 32;have hsub:=Zgs M hM m K hK mvs fs es v1 v2 (.slice a3 es.length c3) _ hm hmv hml hf hfl (h1.below hS0.bel) (h2.below hS0.bel);rw[← hn] at hsub;rw[← hn];obtain⟨i0,hi,hz0,hz1,hz2⟩:=info_parts Tryz.infoBool;have hpos:=ZdK (nx:=nxSM M n) (a:=(((Zn5 M n:Nat):Int),0)) K;obtain⟨F,hF⟩:=eI (metSM M n K);have hpos':0<F.length:=by rw[hF];exact hpos
 have hres:∀ B e w',RDetSM M n K B e w'=if F.length≤K then
  ∃ a1 l1 c1 a2 l2 c2,e = .returned (.tuple #[.agg #[.slice a1 l1 c1,.slice a2 l2 c2],.bool true])∧DfaR B w' (.agg #[.slice a1 l1 c1,.slice a2 l2 c2]) (Zav (nxSM M n) (enS n) F)
  else e = .returned (.tuple #[.agg #[.slice none 0 0,.slice none 0 0],.bool false]):=fun B e w'=>by rw[hF];rfl
 have hRS:∀ e w',ZqM M n m K ((w.alloc (.cells #[.int .i64 (m:Int),v1,v2,.slice a3 es.length c3] 91)).alloc (.cells #[.slice none 0 0,.slice none 0 0] 32)) e w'→∃ a1 c1 a2 c2 l1 l2,e = .returned (.tuple #[.slice a1 l1 c1,.slice a2 l2 c2])∧l1<1000000 ∧
  (if F.length≤K then l1=F.length∧∃ vs1 vs2,St ((w.alloc (.cells #[.int .i64 (m:Int),v1,v2,.slice a3 es.length c3] 91)).alloc (.cells #[.slice none 0 0,.slice none 0 0] 32)) w' [Ent.rows 30 4 (.slice a1 l1 c1) vs1 ((F.map (flc m)).map boolCells),Ent.rows 59 3 (.slice a2 l2 c2) vs2 ((F.map (Zaf (nxSM M n) F)).map intCells)]
   else K<l1∧Below ((w.alloc (.cells #[.int .i64 (m:Int),v1,v2,.slice a3 es.length c3] 91)).alloc (.cells #[.slice none 0 0,.slice none 0 0] 32)).heap.size ((w.alloc (.cells #[.int .i64 (m:Int),v1,v2,.slice a3 es.length c3] 91)).alloc (.cells #[.slice none 0 0,.slice none 0 0] 32)) w'):=fun e w' h=>by rw[hF];exact h
 have HRes:=qh hres;have HRS:=qh hRS;have Hsub:=qh hsub;replace hn:=qh hn;have Hhne:=qh hne;clear hne;replace hS0:=qh hS0;have Hhi:=qh hi;clear hi;have Hhz0:=qh hz0;clear hz0;have Hhz1:=qh hz1;clear hz1;have Hhz2:=qh hz2;clear hz2;replace hF:=qh hF;have Hhr3:=qh hr3;clear hr3;have Hhe:=qh he;clear he;have HhK:=qh hK;clear hK;clear h1 h2 h3 hres hRS hsub hpos
 go_enter Tryz.func147, Tryz.ntmps147
 go_wp2_with fail;refine Hsub.out.mono ?_;rintro e w1 hr;obtain⟨a1,c1,a2,c2,l1,l2,rfl,hl1,hr⟩:=HRS.out e w1 hr;by_cases hle:F.length≤K
 ·rw[if_pos hle] at hr;obtain⟨hlF,vs1,vs2,hS'⟩:=hr;have hS1:=hS0.out.cat hS';have hlm1:((F.map (flc m)).map boolCells).length=F.length:=Zcm _ _ _;have hlm2:((F.map (Zaf (nxSM M n) F)).map intCells).length=F.length:=Zcm _ _ _;obtain⟨g1,rfl,-⟩:=hS1.rowsform 2 rfl (by rw[hlm1];exact hpos');obtain⟨g2,rfl,hl2⟩:=hS1.rowsform 3 rfl (by rw[hlm2];exact hpos');rw[hlm2] at hl2;have hl40:(l1:Int)≤40:=by have:=HhK.out;omega
  have hS2:=(hS1.alloc _ rfl #[.slice (some ⟨g2,0,none⟩) l2 c2,.slice none 0 0] 32).nilRow 4 1;have HhlF:=qh hlF;clear hlF;have Hhl2:=qh hl2;clear hl2;have Hhlm1:=qh hlm1;clear hlm1;have Hhlm2:=qh hlm2;clear hlm2;have HhS2:=qh hS2;clear hS2;clear hS1 hS';go_wp2
  go_loopw [7] (fun i wr=>∃ (k c:Nat) (a:Option Addr),i = .int .i64 k∧k≤l1∧St w wr [Ent.box w.heap.size #[.int .i64 (m:Int),v1,v2,.slice a3 es.length c3] 91,Ent.box (w.heap.size+1) #[.slice none 0 0,.slice none 0 0] 32,
    Ent.rows 30 4 (.slice (some ⟨g1,0,none⟩) l1 c1) vs1 ((F.map (flc m)).map boolCells),Ent.rows 59 3 (.slice (some ⟨g2,0,none⟩) l2 c2) vs2 ((F.map (Zaf (nxSM M n) F)).map intCells),
    Ent.box w1.heap.size #[.slice (some ⟨g2,0,none⟩) l2 c2,.slice a k c] 32,Ent.row 4 1 (.slice a k c) k (boolCells ((F.take k).map (enS n)))])
   (fun i _=>l1-(intOf i).toNat)
  case atStart=>exact⟨0,0,none,rfl,Nat.zero_le _,HhS2.out⟩
  case round =>
   obtain⟨k,c,a,rfl,hk,hS⟩:=hrel;obtain⟨wo,hwo⟩:∃ wo:World,wo=wr:=⟨_,rfl⟩;subst hwo;have HhS:=qh hS;clear hS;by_cases hlt:k<l1
   ·have hkF:k<F.length:=by have:=HhlF.out;omega
    obtain⟨x,hx⟩:=eI (F.getD k ((0,0):Int × Int));have hcs:((F.map (flc m)).map boolCells).getD k []=boolCells (flc m x):=by rw[hx];simp[hkF]
    have hlt2:(k:Int)<l1:=by omega
    have Hhx:=qh hx;clear hx;have Hhcs:=qh hcs;clear hcs;go_wp2
    go_loopw [8,9] (fun ev i wi=>∃ (j:Nat) (b:Bool),i = .int .i64 j∧ev = .bool b∧j≤es.length∧b=(es.take j).any (fun s=>x.1.toNat.testBit s.toNat)∧St w wi [Ent.box w.heap.size #[.int .i64 (m:Int),v1,v2,.slice a3 es.length c3] 91,Ent.box (w.heap.size+1) #[.slice none 0 0,.slice none 0 0] 32,
      Ent.rows 30 4 (.slice (some ⟨g1,0,none⟩) l1 c1) vs1 ((F.map (flc m)).map boolCells),Ent.rows 59 3 (.slice (some ⟨g2,0,none⟩) l2 c2) vs2 ((F.map (Zaf (nxSM M n) F)).map intCells),
      Ent.box w1.heap.size #[.slice (some ⟨g2,0,none⟩) l2 c2,.slice a k c] 32,Ent.row 4 1 (.slice a k c) k (boolCells ((F.take k).map (enS n)))])
     (fun _ i _=>es.length-(intOf i).toNat)
    case atStart=>exact⟨0,false,rfl,rfl,Nat.zero_le _,by simp,HhS.out⟩
    case round =>
     obtain⟨j,b,rfl,rfl,hj,hb,hSi⟩:=hrel;have e3:=hSi.cell (v:=.slice a3 es.length c3) 0 3 rfl rfl;by_cases hjl:j<es.length
     ·obtain⟨b3,o3,rfl,-,hbl3,hcs3⟩:=Hhr3.out (by omega);have hce:=(bcell hSi.bel b3 (o3+j) hbl3).trans (hcs3 j hjl);obtain⟨s0,s1⟩:=Hhe.out _ (memD (d:=0) hjl);have hany:=ZiP (p:=fun s=>x.1.toNat.testBit s.toNat) hjl;obtain⟨s,hs⟩:=Int.eq_ofNat_of_zero_le s0;rw[hs] at hce s1 hany;have hsm:s<m:=by omega
      obtain⟨ax,cx,hcell,hxr,hcx1,hcx2,hcp1,hcp2,hb1l⟩:=hSi.rowAt 2 rfl (Hhlm1.out.trans HhlF.out.symm) hlt;rw[Hhcs.out] at hcell hxr hcx1;have hxl:(boolCells (flc m x)).length=m:=by simp[Ziy]
      rw[hxl] at hcell hxr hcx1;obtain⟨gx,cx',hvx,-,-⟩:=hxr.form (by omega);simp only[Value.slice.injEq] at hvx;obtain⟨rfl,-,rfl⟩:=hvx;have hbit:=(hxr.cellAt s (by omega)).trans (ZdC hsm);have hjl2:(j:Int)<es.length:=by omega
      have hsm2:(s:Int)<m:=by omega
      have Hhs:=qh hs;clear hs;have Hhb:=qh hb;clear hb;have Hhany:=qh hany;clear hany;have HhSi:=qh hSi;clear hSi;clear hcs3 hxr hxl s0;cases b
      ·cases ht:x.1.toNat.testBit s
       all_goals
        rw[ht] at hbit;have Hht:=qh ht;clear ht;go_wp2
        go_quiet (fail)
        go_wp2;go_roundw
        case rel =>refine⟨j+1,_,by go_num,rfl,by omega,?_,HhSi.out.drewN _⟩;rw[Hhany.out,← Hhb.out,Int.toNat_natCast,Hht.out];rfl
        case measure=>simp[intOf];omega
      go_wp2
      go_quiet (fail)
      go_wp2;go_roundw
      case rel =>refine⟨j+1,_,by go_num,rfl,by omega,?_,HhSi.out.drewN _⟩;rw[Hhany.out,← Hhb.out];rfl
      case measure=>simp[intOf];omega
     obtain rfl:j=es.length:=by omega
     rw[List.take_length] at hb;have hen:enS n x=b:=by rw[hb,← Hhne.out];rfl
     have d1:=hSi.cell (v:=.slice a k c) 4 1 rfl rfl;have hSa:=hSi.alloc_ (.cells #[.bool b] 4);have hR:=hSa.row 5 rfl;have htk:(F.take (k+1)).map (enS n)=(F.take k).map (enS n)++[b]:=by rw[List.take_succ_eq_append_getElem hkF,List.map_append,← hen,Hhx.out];simp[hkF]
     have Hhen:=qh hen;clear hen;have Hhb:=qh hb;clear hb;have Hhtk:=qh htk;clear htk;have HhSi:=qh hSi;clear hSi;have HhSa:=qh hSa;clear hSa;have HhR:=qh hR;clear hR;go_wp2_with (at_builtin;refine wpList_append_lies _ rfl _ _ _ rfl _ 4 i0 (.bool false) 1 1 Tryz.underlying30 Hhi.out Hhz0.out Hhz1.out Hhz2.out rfl (by omega) _ k _ rfl HhR.out ⟨wr.heap.size,0,none⟩ 1 1 [.bool b] rfl rfl (World.news_of_block (heap_alloc_new wr _)) Za4 (by omega) (by unfold maxLen;omega) (by omega) HhSa.out.size _ rfl ?_;intro g6 c6 w6 hown6 hgrow6 hat6 hlt6;have HS6:=qh (HhSa.out.app 5 rfl hown6 hgrow6 hat6);have y1:=HS6.out.cell (v:=.slice a k c) 4 1 rfl rfl;have y2:=HS6.out.fr 4 1 rfl;clear hown6 hgrow6 hat6 hlt6);go_roundw
     case rel =>refine⟨k+1,c6,some ⟨g6,0,none⟩,by go_num,by omega,?_⟩;rw[Hhtk.out,Za9];exact HS6.out.set 4 rfl 1 (.slice (some ⟨g6,0,none⟩) (k+1) c6)
     case measure=>simp[intOf];omega
   obtain rfl:k=l1:=by omega
   have d0:=HhS.out.cell (v:=.slice (some ⟨g2,0,none⟩) l2 c2) 4 0 rfl rfl;have d1:=HhS.out.cell (v:=.slice a k c) 4 1 rfl rfl;have f0:=HhS.out.fr 1 0 rfl;have f1:=HhS.out.fr 1 1 rfl;have k0:=HhS.out.cell (v:=.slice none 0 0) 1 0 rfl rfl;have k1:=HhS.out.cell (v:=.slice none 0 0) 1 1 rfl rfl;go_wp2;have hq:=(HhS.out.set 1 rfl 0 (.slice (some ⟨g2,0,none⟩) l2 c2)).set 1 rfl 1 (.slice a k c);have q0:=hq.cell (v:=.slice (some ⟨g2,0,none⟩) l2 c2) 1 0 rfl rfl;have q1:=hq.cell (v:=.slice a k c) 1 1 rfl rfl;refine bodyPost_ret (v:=.tuple #[.agg #[.slice (some ⟨g2,0,none⟩) l2 c2,.slice a k c],.bool true]) (by simp[results,Tryz.results147,go_sem,q0,q1]) rfl ⟨?_,hq.bel⟩;rw[HRes.out,if_pos hle];refine⟨_,_,_,_,_,_,rfl,_,_,rfl,(hq.intSS 3 rfl).intSS,?_⟩;have hb:=ZaV (hq.row 5 rfl);rw[List.take_of_length_le (by have:=HhlF.out;omega)] at hb;exact hb
 rw[if_neg hle] at hr;have hl40:(l1:Int)>40:=by have:=HhK.out;omega
 have hS1:=hS0.out.call hr.2;have f0:=hS1.fr 1 0 rfl;have f1:=hS1.fr 1 1 rfl;have k0:=hS1.cell (v:=.slice none 0 0) 1 0 rfl rfl;have k1:=hS1.cell (v:=.slice none 0 0) 1 1 rfl rfl;have HhS1:=qh hS1;clear hS1;go_wp2;have hq:=(HhS1.out.set 1 rfl 0 (.slice none 0 0)).set 1 rfl 1 (.slice none 0 0);have q0:=hq.cell (v:=.slice none 0 0) 1 0 rfl rfl;have q1:=hq.cell (v:=.slice none 0 0) 1 1 rfl rfl;refine bodyPost_ret (v:=.tuple #[.agg #[.slice none 0 0,.slice none 0 0],.bool false]) (by simp[results,Tryz.results147,go_sem,q0,q1]) rfl ⟨?_,hq.bel⟩;rw[HRes.out,if_neg hle]
end Go.Proofs.YtehmjmjedopkkaaGreat
namespace Go.Proofs.YtehmjmjedopkkaaGreat
open Go.RowKit Go.Maps
def detK (K:Nat) (n:NfaD):Option DfaD:=if Zig n=true∧(metS n K).length≤K then some (Zav (nxS n) (enS n) (metS n K)) else none
def Zbg:DfaD:=⟨[],[]⟩
theorem Zge (w:World) (B e size:Nat):w.ownsRow B e size (.slice none 0 0) 0 []:=⟨by simp,Or.inl ⟨rfl,rfl⟩⟩
theorem ZiR (w:World) (B tS tI tB:Nat):DfaO tS tI tB B w.heap.size w (.agg #[.slice none 0 0,.slice none 0 0]) Zbg :=
 ⟨_,_,rfl,⟨[],Zaa (Zge w B tS 1),fun i hi=>absurd hi (by simp[Zbg]),fun i j k _ hj=>absurd hj (by simp[Zbg])⟩,Zaa (Zge w B tB 1)⟩
end Go.Proofs.YtehmjmjedopkkaaGreat
namespace Go.Proofs.YtehmjmjedopkkaaGreat
open Go.RowKit
def ZaA (a b:DfaD) (p:Int × Int) (c:Nat):Int × Int:=((a.next.getD p.1.toNat []).getD c 0,(b.next.getD p.2.toNat []).getD c 0)
def Zci (a b:DfaD) (p:Int × Int):Bool:=inB p.1 0 ((a.next.length:Int)-1)&&inB p.2 0 ((b.next.length:Int)-1)
theorem Zew {x lo hi:Int} (h:inB x lo hi=true):lo≤x∧x≤hi:=by simpa [inB] using h
theorem ZaI {next:List (List Int)} {ends:List Bool} (h:Zae next ends=true) {i:Nat} (hi:i<next.length) :
  (next.getD i []).length=3∧∀ c,c<3→0≤(next.getD i []).getD c 0∧(next.getD i []).getD c 0<next.length:=by
 simp only[Zae,Bool.and_eq_true,List.all_eq_true] at h;have hr:=h.1.1 _ (ZcK (d:=[]) hi);simp only[Zdm,Bool.and_eq_true,decide_eq_true_eq,List.all_eq_true] at hr;refine⟨hr.1,fun c hc => ?_⟩;have:=Zew (hr.2 _ (ZcK (d:=0) (show c<(next.getD i []).length by omega)));omega
theorem Zad {next:List (List Int)} {ends:List Bool} (h:Zae next ends=true):1≤next.length∧next.length≤40∧ends.length=next.length:=by simp only[Zae,Bool.and_eq_true,decide_eq_true_eq] at h;have:=Zew h.1.2;omega
theorem Sl.keptJ {B B':Nat} {w w':World} {v:Value} {n size:Nat} {cs:List Value} (h:Sl B w v n size cs) (hB:B'≤B) (hs:w.heap.size≤w'.heap.size) (hk:∀ k,B≤k→k<w.heap.size→w'.heap[k]? = w.heap[k]?):Sl B' w' v n size cs:=by obtain⟨hl,a,cap,hv,h1,h2,h3⟩:=h;refine⟨hl,a,cap,hv,h1,h2,fun hn => ?_⟩;obtain⟨b,off,ha,hb,hlt,hc⟩:=h3 hn;refine⟨b,off,ha,by omega,by omega,fun j hj => ?_⟩;rw[← hc j hj];exact World.cell?_of_block (hk b hb hlt)
theorem Sl.drop1 {B:Nat} {w:World} {b off n cap:Nat} {cs:List Value} (h:Sl B w (.slice (some ⟨b,off,none⟩) n cap) n 1 cs) (hn:0<n):Sl B w (.slice (some ⟨b,off+1,none⟩) (n-1) (cap-1)) (n-1) 1 (cs.drop 1):=by obtain⟨hl,a',cap',hv,h1,h2,h3⟩:=h;simp only[Value.slice.injEq] at hv;obtain⟨rfl,-,rfl⟩:=hv;refine⟨by rw[List.length_drop];omega,_,_,rfl,by omega,by omega,fun hn0 => ?_⟩;obtain⟨b',off',ha,hb,hlt,hc⟩:=h3 (by omega);simp only[w_9,Addr.mk.injEq,and_true] at ha;obtain⟨rfl,rfl⟩:=ha;refine⟨b,off+1,rfl,hb,hlt,fun j hj => ?_⟩;rw[show off+1+j=off+(1+j) by omega,hc _ (by omega),List.getElem?_drop]
def DfaE (w w':World):Ent:=⟨fun k=>w.heap.size≤k∧k<w'.heap.size,fun u=>∀ k,w.heap.size≤k→k<w'.heap.size→u.heap[k]? = w'.heap[k]?,fun _ _ h hk k h1 h2=>(hk k ⟨h1,h2⟩).trans (h k h1 h2)⟩
theorem St.dfaE {w0 w w':World} {L:List Ent} (h:St w0 w L) (hb:Below w.heap.size w w'):St w0 w' (L++[DfaE w w']):=h.add hb _ (fun _ _ _=>rfl) fun _ hk=>hk
structure DfaH (E:Ent) (v1 v2:Value) (vs:List Value) (D:DfaD):Prop where
 rd:∀ w,E.holds w→(∀ k,E.foot k→k<w.heap.size)→Sl 0 w v1 D.next.length 1 vs∧(∀ i,i<D.next.length→Ints 0 w (vs.getD i undef) (D.next.getD i []))∧Bools 0 w v2 D.ends
theorem DfaH.at {w0 w:World} {L:List Ent} {E:Ent} {v1 v2:Value} {vs:List Value} {D:DfaD} (h:DfaH E v1 v2 vs D) (hS:St w0 w L) (i:Nat) (hx:L[i]? = some E):Sl 0 w v1 D.next.length 1 vs∧(∀ i,i<D.next.length→Ints 0 w (vs.getD i undef) (D.next.getD i []))∧Bools 0 w v2 D.ends :=
 h.rd w (hS.has i _ hx).1 fun k hk=>((hS.has i _ hx).2 k hk).2
theorem DfaH.r {w0 w:World} {L:List Ent} {E:Ent} {v1 v2:Value} {vs:List Value} {D:DfaD} (h:DfaH E v1 v2 vs D) (hS:St w0 w L) (i:Nat) (hx:L[i]? = some E):DfaR 0 w (.agg #[v1,v2]) D:=by obtain⟨h1,h2,h3⟩:=h.at hS i hx;exact⟨v1,v2,rfl,⟨vs,h1,h2⟩,h3⟩
theorem Zok {w w':World} {v1 v2:Value} {D:DfaD} (h:DfaR w.heap.size w' (.agg #[v1,v2]) D) (hn:0<D.next.length):∃ vs,DfaH (DfaE w w') v1 v2 vs D:=by
 obtain⟨_,_,hv,⟨vs,h1,h2⟩,h3⟩:=h;simp only[Value.agg.injEq,Array.mk.injEq,List.cons.injEq,and_true] at hv;obtain⟨rfl,rfl⟩:=hv;have hlt:w.heap.size<w'.heap.size:=by obtain⟨-,a,cap,-,-,-,h4⟩:=h1;obtain⟨b,off,-,h5,h6,-⟩:=h4 (by omega);omega
 refine⟨vs,⟨fun u hu hf => ?_⟩⟩;have hs:w'.heap.size≤u.heap.size:=by have:w'.heap.size-1<u.heap.size:=hf (w'.heap.size-1) (show w.heap.size≤w'.heap.size-1∧w'.heap.size-1<w'.heap.size by omega);omega
 exact⟨h1.keptJ (Nat.zero_le _) hs hu,fun i hi=>Sl.keptJ (h2 i hi) (Nat.zero_le _) hs hu,Sl.keptJ h3 (Nat.zero_le _) hs hu⟩
theorem Zoj (es e e':Nat) (v1 v2:Value) (vs:List Value) (D:DfaD):DfaH (Ent.all [Ent.rows es e v1 vs (D.next.map intCells),Ent.row e' 1 v2 D.ends.length (boolCells D.ends)]) v1 v2 vs D:=by
 refine⟨fun w h _ => ?_⟩;have h1:(Ent.rows es e v1 vs (D.next.map intCells)).holds w:=h _ (by simp);have h2:(Ent.row e' 1 v2 D.ends.length (boolCells D.ends)).holds w:=h _ (by simp);obtain⟨p1,p2,-⟩:=h1;rw[List.length_map] at p1 p2;refine⟨Sl.mono ((Zaa p1).sl (by omega)) (Nat.zero_le _),fun i hi => ?_,Sl.mono ((Zaa h2).sl (by omega)) (Nat.zero_le _)⟩;have:=p2 i hi;have e1:(D.next.map intCells).getD i []=intCells (D.next.getD i []):=by simp[hi]
 rw[e1] at this;have h3:=(Zaa this).sl (by omega);rw[show(intCells (D.next.getD i [])).length=(D.next.getD i []).length by simp[intCells]] at h3;exact Sl.mono h3 (Nat.zero_le _)
theorem DfaH.tailE {E:Ent} {v1:Value} {b o n c:Nat} {vs:List Value} {D:DfaD} (h:DfaH E v1 (.slice (some ⟨b,o,none⟩) n c) vs D) (hn:n=D.ends.length) (h0:0<n):DfaH E v1 (.slice (some ⟨b,o+1,none⟩) (n-1) (c-1)) vs ⟨D.next,D.ends.drop 1⟩:=by subst hn;refine⟨fun w h1 h2 => ?_⟩;obtain⟨p1,p2,p3⟩:=h.rd w h1 h2;refine⟨p1,p2,?_⟩;have h4:=Sl.drop1 p3 h0;show Sl 0 w _ (D.ends.drop 1).length 1 (boolCells (D.ends.drop 1));rw[List.length_drop,show boolCells (D.ends.drop 1)=(boolCells D.ends).drop 1 by simp[boolCells]];exact h4
theorem DfaH.noE {E:Ent} {v1 v2:Value} {a:Option Addr} {vs:List Value} {D:DfaD} (h:DfaH E v1 v2 vs D):DfaH E v1 (.slice a 0 0) vs ⟨D.next,[]⟩ :=
 ⟨fun w h1 h2=>⟨(h.rd w h1 h2).1,(h.rd w h1 h2).2.1,⟨rfl,a,0,rfl,Nat.le_refl _,Nat.zero_le _,fun h=>absurd h (by simp)⟩⟩⟩
theorem DfaH.one {E:Ent} {v1 v2:Value} {vs:List Value} {D:DfaD} (h:DfaH E v1 v2 vs D) {es e m:Nat} {v rv:Value} {row:List Int} (hm:m=row.length):DfaH (Ent.all [E,Ent.row es 1 v 1 [rv],Ent.row e 1 rv m (intCells row)]) v v2 [rv] ⟨[row],D.ends⟩:=by
 subst hm;refine⟨fun w h1 h2 => ?_⟩;have g1:E.holds w:=h1 _ (by simp);have g2:(Ent.row es 1 v 1 [rv]).holds w:=h1 _ (by simp);have g3:(Ent.row e 1 rv row.length (intCells row)).holds w:=h1 _ (by simp);obtain⟨-,-,p3⟩:=h.rd w g1 fun k hk=>h2 k ⟨E,by simp,hk⟩
 refine⟨Sl.mono ((Zaa g2).sl (by omega)) (Nat.zero_le _),fun i hi => ?_,p3⟩;have hi:i<1:=hi;obtain rfl:i=0:=by omega
 exact Sl.mono ((Zaa g3).sl (by omega)) (Nat.zero_le _)
theorem ZpV (w:World) (a:Option Addr):Sl 0 w (.slice a 0 0) 0 1 []:=⟨rfl,a,0,rfl,Nat.le_refl _,Nat.zero_le _,fun h=>absurd h (by simp)⟩
theorem DfaH.head {E:Ent} {v1 v2:Value} {vs:List Value} {D:DfaD} (h:DfaH E v1 v2 vs D) (h0:0<D.next.length) {es e n m:Nat} {v rv:Value} {row:List Int} (hn:n=1+(D.next.length-1)) (hm:m=row.length):DfaH (Ent.all [E,Ent.row es 1 v n (rv::vs.drop 1),Ent.row e 1 rv m (intCells row)]) v v2 (rv::vs.drop 1) ⟨row::D.next.drop 1,D.ends⟩:=by
 subst hm;refine⟨fun w h1 h2 => ?_⟩;have g1:E.holds w:=h1 _ (by simp);have g2:(Ent.row es 1 v n (rv::vs.drop 1)).holds w:=h1 _ (by simp);have g3:(Ent.row e 1 rv row.length (intCells row)).holds w:=h1 _ (by simp);obtain⟨p1,p2,p3⟩:=h.rd w g1 fun k hk=>h2 k ⟨E,by simp,hk⟩
 have hl:(row::D.next.drop 1).length=n:=by simp;omega
 refine⟨?_,fun i hi => ?_,p3⟩
 ·show Sl 0 w v (row::D.next.drop 1).length 1 _;rw[hl];exact Sl.mono ((Zaa g2).sl (by omega)) (Nat.zero_le _)
 cases i with
 | zero=>exact Sl.mono ((Zaa g3).sl (by omega)) (Nat.zero_le _)
 | succ i =>
  have hi:i+1<(row::D.next.drop 1).length:=hi;simp only[List.length_cons,List.length_drop] at hi;have:=p2 (i+1) (by omega);have e1:(rv::vs.drop 1).getD (i+1) undef=vs.getD (i+1) undef:=by simp
  have e2:(row::D.next.drop 1).getD (i+1) []=D.next.getD (i+1) []:=by simp
  show Ints 0 w ((rv::vs.drop 1).getD (i+1) undef) ((row::D.next.drop 1).getD (i+1) []);rw[e1,e2];exact this
theorem Zoi:DfaH Ent.nil (.slice none 0 0) (.slice none 0 0) [] ⟨[],[]⟩ :=
 ⟨fun _ _ _=>⟨⟨rfl,none,0,rfl,Nat.le_refl _,Nat.zero_le _,fun h=>absurd h (by simp)⟩,fun i hi=>absurd hi (by simp),⟨rfl,none,0,rfl,Nat.le_refl _,Nat.zero_le _,fun h=>absurd h (by simp)⟩⟩⟩
structure SmallD (D:DfaD):Prop where
 n:D.next.length≤40
 e:D.ends.length≤40
 r:∀ x∈D.next,x.length≤3
theorem Zf5 {D:DfaD} (h:Zae D.next D.ends=true):SmallD D:=by have hl:=Zad h;refine⟨hl.2.1,by omega,fun x hx => ?_⟩;obtain⟨i,hi,rfl⟩:=List.getElem_of_mem hx;have:=(ZaI h hi).1;rw[Za5 hi] at this;omega
def nxD (d:DfaD) (s c:Nat):Nat:=((d.next.getD s []).getD c 0).toNat
def enD (d:DfaD) (s:Nat):Bool:=d.ends.getD s false
def Za3 (d:DfaD):DfaD:=Zav (dnx d) (den d) (bat (dnx d) 0 d.next.length).met
theorem ZbT {d:DfaD} (hd:fine d) {s c:Nat} (hs:s<d.next.length) (hc:c<3):nxD d s c<d.next.length∧dnx d (s:Int) c=((nxD d s c:Nat):Int):=by obtain⟨-,-,-,h⟩:=hd;obtain⟨-,h2⟩:=h s hs;obtain⟨a,b⟩:=h2 c hc;unfold nxD dnx;rw[Int.toNat_natCast];omega
theorem Zbq {d:DfaD} (hd:fine d) (K:Nat):(∀ x∈(bat (dnx d) 0 K).met,0≤x∧x<(d.next.length:Int))∧(bat (dnx d) 0 K).met.length≤d.next.length:=by
 have h1:∀ x∈(bat (dnx d) 0 K).met,0≤x∧x<(d.next.length:Int):=by refine ZbZ (Q:=fun x=>0≤x∧x<(d.next.length:Int)) ⟨by omega,by have:=hd.1;omega⟩ (fun x c hc hx => ?_) K;obtain⟨s,rfl⟩:=Int.eq_ofNat_of_zero_le hx.1;obtain⟨a,b⟩:=ZbT hd (s:=s) (by omega) hc;rw[b];omega
 refine⟨h1,?_⟩;have:=ZdQ (Zbl (nx:=dnx d) (a:=0) K).1 (m:=Za1 d.next.length) fun x hx=>by obtain⟨a,b⟩:=h1 x hx;obtain⟨s,rfl⟩:=Int.eq_ofNat_of_zero_le a;exact Zcs.2 (by omega)
 rwa [Zcp] at this
theorem Zaz {d:DfaD} (h:Zae d.next d.ends=true):fine d:=by have:=Zad h;exact⟨by omega,by omega,by omega,fun i hi=>ZaI h hi⟩
theorem ZoT {α:Type} [DecidableEq α] {nx:α→Nat→α} {a:α} {en:α→Bool} {K:Nat} (hK:(bat nx a K).met.length≤K):Za3 (Zav nx en (bat nx a K).met)=Zav nx en (bat nx a K).met:=by
 unfold Za3;rw[ZaQ];obtain⟨m,hm⟩:=eI ((bat nx a K).met.length);have hle:(bat nx a m).met.length≤m:=by have:=(Zfq (nx:=nx) (a:=a) (show m≤K by omega)).1.length_le;omega
 have hd:bat nx a K=bat nx a m:=Zbz hle (by omega);have hp:=ZdK (nx:=nx) (a:=a) K;have hpl:∀ (s:Int) c,c<3→0≤s∧s<m→Zaj (bat nx a K).met (nx ((bat nx a K).met.getD s.toNat a) c)<m:=fun s c hc hs=>by rw[hm];exact ZaP (ZdU hK (memD (d:=a) (show s.toNat<(bat nx a K).met.length by omega)) hc)
 have hlt:∀ (s:Int) c,c<3→0≤s∧s<m→0≤ZbM nx a (bat nx a K).met s c∧ZbM nx a (bat nx a K).met s c<m:=fun s c hc hs=>by have:=hpl s c hc hs;unfold ZbM;omega
 have e1:bat (ZbM nx a (bat nx a K).met) 0 m=bat (dnx (Zav nx en (bat nx a K).met)) 0 m :=
  ZgW (Q:=fun s=>0≤s∧s<(m:Int)) (by omega) (fun s c hc hs=>hlt s c hc hs) (fun s c hc hs=>(ZkG (by omega) (by omega) hc).symm) m
 have hmet:(bat (dnx (Zav nx en (bat nx a K).met)) 0 (bat nx a K).met.length).met=Za1 (bat nx a K).met.length:=by rw[← hm,← e1,Znr nx a K m (by omega),← hd,hm]
 rw[hmet]
 have hr:(Za1 (bat nx a K).met.length).map (Zaf (dnx (Zav nx en (bat nx a K).met)) (Za1 (bat nx a K).met.length))=(bat nx a K).met.map (Zaf nx (bat nx a K).met):=by
  refine List.ext_getElem (by simp[Za1]) fun i h1 h2 => ?_
  have hi:i<(bat nx a K).met.length:=by simpa using h2
  have hu:(Za1 (bat nx a K).met.length)[i]'(by simpa using h1)=(i:Int):=by simp[Za1]
  simp only[List.getElem_map];rw[hu];unfold Zaf;refine List.map_congr_left fun c hc => ?_
  have hc3:c<3:=List.mem_range.1 hc;rw[ZkG (a:=a) (by omega) (by omega) hc3];unfold ZbM;have hp2:=hpl (i:Int) c hc3 (by omega);have e2:(bat nx a K).met.getD (i:Int).toNat a=(bat nx a K).met[i]:=by simp[hi]
  rw[e2] at hp2 ⊢;congr 1;obtain⟨q,hq⟩:=eJ (Zaj (bat nx a K).met (nx ((bat nx a K).met[i]) c));rw[hq] at hp2 ⊢;have e3:=ZfY (n:=(bat nx a K).met.length) (k:=q) (by omega);have e4:=Zey (l:=Za1 (bat nx a K).met.length) (k:=q) (by rw[Zcp];omega) (List.Pairwise.map _ (fun _ _ h e=>h (Int.ofNat.inj e)) List.nodup_range) (0:Int);rw[e3] at e4;exact e4
 have he:(Za1 (bat nx a K).met.length).map (den (Zav nx en (bat nx a K).met))=(bat nx a K).met.map en:=by
  refine List.ext_getElem (by simp[Za1]) fun i h1 h2 => ?_
  have hi:i<(bat nx a K).met.length:=by simpa using h2
  have hu:(Za1 (bat nx a K).met.length)[i]'(by simpa using h1)=(i:Int):=by simp[Za1]
  simp only[List.getElem_map];rw[hu];exact ZkH hi
 exact congr (congrArg DfaD.mk hr) he
theorem ZiF {w:World} {v1:Value} {next:List (List Int)} {ends:List Bool} (h:IntSS 0 w v1 next) (hd:Zae next ends=true) {i c:Nat} (hi:i<next.length) (hc:c<3) :
  ∃ q o cap z t s,v1 = .slice (some ⟨q,o,none⟩) next.length cap∧next.length≤cap∧cap≤9223372036854775807∧w.cell? ⟨q,o+i,none⟩=some (.slice (some ⟨z,t,none⟩) 3 s)∧3≤s∧s≤9223372036854775807 ∧
   w.cell? ⟨z,t+c,none⟩=some (.int .i64 ((next.getD i []).getD c 0))∧q<w.heap.size∧z<w.heap.size:=by
 obtain⟨a,cap,rfl,h1,h2,h3⟩:=h.form;obtain⟨q,o,rfl,_,hq,hr⟩:=h3 (by omega);obtain⟨a',s,e1,e2,e3,e4⟩:=hr i hi;obtain⟨hl,_⟩:=ZaI hd hi;rw[hl] at e1 e2 e4;obtain⟨z,t,rfl,_,hz,e5⟩:=e4 (by omega);exact⟨q,o,cap,z,t,s,rfl,h1,h2,e1,e2,e3,e5 c hc,hq,hz⟩
theorem ZdI {w:World} {v1:Value} {xs:List Bool} (h:Bools 0 w v1 xs) {i:Nat} (hi:i<xs.length) :
  ∃ q o cap,v1 = .slice (some ⟨q,o,none⟩) xs.length cap∧xs.length≤cap∧cap≤9223372036854775807∧w.cell? ⟨q,o+i,none⟩=some (.bool (xs.getD i false))∧q<w.heap.size:=by
 obtain⟨a,cap,rfl,h1,h2,h3⟩:=h.form;obtain⟨q,o,rfl,_,hq,hr⟩:=h3 (by omega);exact⟨q,o,cap,rfl,h1,h2,hr i hi,hq⟩
theorem Zcu {a b:DfaD} {p:Int × Int} (h:Zci a b p=true):∃ i j:Nat,p=((i:Int),(j:Int))∧i<a.next.length∧j<b.next.length:=by unfold Zci at h;rw[Bool.and_eq_true] at h;obtain⟨x,y⟩:=p;obtain⟨h1,h2⟩:=Zew h.1;obtain⟨h3,h4⟩:=Zew h.2;simp only at h1 h2 h3 h4;obtain⟨i,rfl⟩:=Int.eq_ofNat_of_zero_le h1;obtain⟨j,rfl⟩:=Int.eq_ofNat_of_zero_le h3;exact⟨i,j,rfl,by omega,by omega⟩
def DfaAt (w:World) (b:Nat) (d:DfaD):Prop:=∃ v1 v2,Bx w b #[v1,v2] 32 ∧ IntSS 0 w v1 d.next∧Bools 0 w v2 d.ends
theorem DfaAt.below {w w':World} {b:Nat} {d:DfaD} (h:DfaAt w b d) (hb:Below w.heap.size w w'):DfaAt w' b d:=by obtain⟨v1,v2,h1,h2,h3⟩:=h;exact⟨v1,v2,h1.below hb h1.lt,h2.below hb,h3.below hb⟩
theorem Zi3 (a b:DfaD) (x:Int × Int) (c ba bb:Nat) (w:World) (hda:Zae a.next a.ends=true) (hdb:Zae b.next b.ends=true) (h1:DfaAt w ba a) (h2:DfaAt w bb b) (hx:Zci a b x=true) (hc:c<3) :
  Calls Tryz.prog 157 #[.agg #[.int .i64 x.1,.int .i64 x.2],.int .i64 c,.pointer (some ⟨ba,0,none⟩),.pointer (some ⟨bb,0,none⟩)] w fun e w'=>e = .returned (.agg #[.int .i64 (ZaA a b x c).1,.int .i64 (ZaA a b x c).2])∧Below w.heap.size w w':=by
 obtain⟨i,j,rfl,hi,hj⟩:=Zcu hx;obtain⟨u1,u2,hB1,g1,-⟩:=h1;obtain⟨u3,u4,hB2,g2,-⟩:=h2;obtain⟨q1,o1,c1,z1,t1,s1,rfl,hc1,hm1,e1,l1,m1,e2,d1,d2⟩:=ZiF g1 hda hi hc;obtain⟨q2,o2,c2,z2,t2,s2,rfl,hc2,hm2,e3,l2,m2,e4,d3,d4⟩:=ZiF g2 hdb hj hc;obtain⟨ta,hta⟩:=eI ((ZaA a b ((i:Int),(j:Int)) c).1);obtain⟨tb,htb⟩:=eI ((ZaA a b ((i:Int),(j:Int)) c).2);have e2':w.cell? ⟨z1,t1+c,none⟩=some (.int .i64 ta):=by rw[hta];exact e2
 have e4':w.cell? ⟨z2,t2+c,none⟩=some (.int .i64 tb):=by rw[htb];exact e4
 rw[← hta,← htb];have hla:=Zad hda;have hlb:=Zad hdb;have ca:=hB1.cell 0;have cb:=hB2.cell 0;simp only[w_5,w_6] at ca cb;have d5:=hB1.lt;have d6:=hB2.lt;have hci:(c:Int)<3:=by omega
 have hii:(i:Int)<a.next.length:=by omega
 have hjj:(j:Int)<b.next.length:=by omega
 clear g1 g2 hB1 hB2 hta htb e2 e4 hx hda hdb;obtain⟨h41,h42,-⟩:=hla;obtain⟨h43,h44,-⟩:=hlb
 go_enter Tryz.func157, Tryz.ntmps157
 go_wp2
 go_region_held3 (fun w'=>w'.cell? ⟨w.heap.size,0,none⟩=some (.int .i64 i)∧w'.cell? ⟨w.heap.size,1,none⟩=some (.int .i64 j)∧w'.cell? ⟨ba,0,none⟩=some (.slice (some ⟨q1,o1,none⟩) a.next.length c1)∧w'.cell? ⟨bb,0,none⟩=some (.slice (some ⟨q2,o2,none⟩) b.next.length c2)∧w'.cell? ⟨q1,o1+i,none⟩=some (.slice (some ⟨z1,t1,none⟩) 3 s1)∧w'.cell? ⟨q2,o2+j,none⟩=some (.slice (some ⟨z2,t2,none⟩) 3 s2)∧w'.cell? ⟨z1,t1+c,none⟩=some (.int .i64 ta)∧w'.cell? ⟨z2,t2+c,none⟩=some (.int .i64 tb))
  (first|go_keep) (fail)
 go_wp2;refine bodyPost_ret (v:=.agg #[.int .i64 ta,.int .i64 tb]) (by simp[results,Tryz.results157,go_sem]) rfl ⟨rfl,?_⟩;exact(((Below.refl _ _).alloc (Nat.le_refl _) _).alloc (by simp) _).drew
def Zcc (f:Bool→Bool→Bool) (a b:DfaD) (p:Int × Int):Bool:=f (a.ends.getD p.1.toNat false) (b.ends.getD p.2.toNat false)
structure DfaC (w:World) (d:DfaD) (b1 o1 cv b2 o2 cw:Nat):Prop where
 l1:1≤d.next.length
 l2:d.next.length≤40
 le:d.ends.length=d.next.length
 c1:d.next.length≤cv∧cv≤9223372036854775807
 c2:d.next.length≤cw∧cw≤9223372036854775807
 hb1:b1<w.heap.size
 hb2:b2<w.heap.size
 row:∀ i,i<d.next.length→∃ b3 o3 c3,b3<w.heap.size∧3≤c3∧c3≤9223372036854775807∧w.cell? ⟨b1,o1+i,none⟩=some (.slice (some ⟨b3,o3,none⟩) 3 c3)∧∀ c,c<3→w.cell? ⟨b3,o3+c,none⟩=some (.int .i64 (nxD d i c:Nat))
 en:∀ i,i<d.next.length→w.cell? ⟨b2,o2+i,none⟩=some (.bool (enD d i))
 lt:∀ i c,i<d.next.length→c<3→nxD d i c<d.next.length
 dx:∀ i c,i<d.next.length→c<3→dnx d (i:Int) c=(nxD d i c:Nat)
theorem ZbP {d:DfaD} {w:World} {v:Value} (hd:Zae d.next d.ends=true) (h:DfaR 0 w v d):∃ b1 o1 cv b2 o2 cw,v = .agg #[.slice (some ⟨b1,o1,none⟩) d.next.length cv,.slice (some ⟨b2,o2,none⟩) d.next.length cw]∧DfaC w d b1 o1 cv b2 o2 cw:=by obtain⟨v1,v2,rfl,q1,q2⟩:=h;have hf:=Zaz hd;obtain⟨hl1,hl2,hle⟩:=Zad hd;obtain⟨av,cv,rfl,hc1,hc2,hr1⟩:=q1.formI;obtain⟨b1,o1,rfl,-,hb1,hcs1⟩:=hr1 (by omega);obtain⟨av2,cw,rfl,hc3,hc4,hr2⟩:=q2.form;rw[hle] at hc3 hr2;obtain⟨b2,o2,rfl,-,hb2,hcs2⟩:=hr2 (by omega);rw[hle];refine⟨b1,o1,cv,b2,o2,cw,rfl,hl1,hl2,hle,⟨hc1,hc2⟩,⟨hc3,hc4⟩,hb1,hb2,fun i hi => ?_,fun i hi=>hcs2 i hi,fun i c hi hc=>(ZbT hf hi hc).1,fun i c hi hc=>(ZbT hf hi hc).2⟩;obtain⟨ax,cx,hks,p1,p2,hIs⟩:=hcs1 i hi;have hr3:=(ZaI hd hi).1;rw[hr3] at hks hIs p1;obtain⟨_,_,hform,-,-,hrs⟩:=hIs.form;rw[hr3] at hform hrs;simp only[Value.slice.injEq,true_and] at hform;obtain⟨rfl,rfl⟩:=hform;obtain⟨b3,o3,rfl,-,hb3,hcs3⟩:=hrs (by omega);refine⟨b3,o3,cx,hb3,p1,p2,hks,fun c hc => ?_⟩;rw[hcs3 c hc];have hyx:=(ZbT hf hi hc).2;unfold dnx at hyx;rw[Int.toNat_natCast] at hyx;rw[hyx]
def RD (D:DfaD) (w:World) (e:Ending) (w':World):Prop:=∃ a1 c1 a2 c2,e = .returned (.agg #[.slice a1 D.next.length c1,.slice a2 D.ends.length c2])∧DfaR w.heap.size w' (.agg #[.slice a1 D.next.length c1,.slice a2 D.ends.length c2]) D∧Below w.heap.size w w'
theorem DfaC.below {w w':World} {d:DfaD} {b1 o1 cv b2 o2 cw:Nat} (h:DfaC w d b1 o1 cv b2 o2 cw) (hb:Below w.heap.size w w'):DfaC w' d b1 o1 cv b2 o2 cw where
 l1:=h.l1
 l2:=h.l2
 le:=h.le
 c1:=h.c1
 c2:=h.c2
 hb1:=Nat.lt_of_lt_of_le h.hb1 hb.size
 hb2:=Nat.lt_of_lt_of_le h.hb2 hb.size
 row:=fun i hi=>by obtain⟨b3,o3,c3,p1,p2,p3,p4,p5⟩:=h.row i hi;exact⟨b3,o3,c3,Nat.lt_of_lt_of_le p1 hb.size,p2,p3,(bcell hb b1 _ h.hb1).trans p4,fun c hc=>(bcell hb b3 _ p1).trans (p5 c hc)⟩
 en:=fun i hi=>(bcell hb b2 _ h.hb2).trans (h.en i hi)
 lt:=h.lt
 dx:=h.dx
def RDo (D:DfaD) (w:World) (e:Ending) (w':World):Prop:=∃ a1 c1 a2 c2,e = .returned (.agg #[.slice a1 D.next.length c1,.slice a2 D.ends.length c2]) ∧
 DfaO 59 3 4 w.heap.size w'.heap.size w' (.agg #[.slice a1 D.next.length c1,.slice a2 D.ends.length c2]) D∧Below w.heap.size w w'
end Go.Proofs.YtehmjmjedopkkaaGreat
namespace Go.Proofs.YtehmjmjedopkkaaGreat
open Go.RowKit Go.Maps
def Ent.map {α:Type} (kt:Nat) (enc:α→Value) (b:Nat) (M:List (α × Value)):Ent:=⟨fun k=>k=b,fun w=>MapL Tryz.prog kt enc w b M,fun _ _ h hk=>h.kept (hk b rfl)⟩
section
variable {α:Type} {w0 w w':World} {L:List Ent} {kt:Nat} {enc:α→Value} {b:Nat} {M M':List (α × Value)}
theorem St.map (h:St w0 w L) (i:Nat) (hx:L[i]? = some (Ent.map kt enc b M)):MapL Tryz.prog kt enc w b M:=(h.has i _ hx).1
theorem St.mapset (h:St w0 w L) (i:Nat) (hx:L[i]? = some (Ent.map kt enc b M)) (hn:MapL Tryz.prog kt enc w' b M') (hg:w.grownBy w' (some b)):St w0 w' (L.set i (Ent.map kt enc b M')) :=
 h.turn i hx _ hg.os hg.tape hg.output hg.size (fun k hk hne=>hg.block k hk fun e=>hne (show k=b from Option.some.inj e)) hn fun k hk=>by have hk:k=b:=hk;subst hk;exact⟨hn.lt,Or.inl rfl⟩
end
def Zch (x:Int):Value:=.int .i64 x
theorem Zct:∀ x y:Int,Zch x=Zch y→x=y:=fun x y h=>by simp only[Zch,Value.int.injEq,true_and] at h;exact h
theorem Tryz.lawInt:Keyed Tryz.prog 3:=int_keyed Tryz.underlying3
theorem Tryz.keyOfInt (x:Int) (hx:fitI x):∃ l,keyOf Tryz.prog 3 (Zch x)=some l:=⟨_,keyOf_int_mk Tryz.underlying3 (Zln hx)⟩
theorem ZfF (w:World):(zeroValue 3).run Tryz.prog w = .ok (.int .i64 0) w:=by kernel_rfl
end Go.Proofs.YtehmjmjedopkkaaGreat
