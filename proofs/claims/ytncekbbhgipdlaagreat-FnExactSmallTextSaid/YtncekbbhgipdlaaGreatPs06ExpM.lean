/-
  The walk over the reference's list of sets of states that are met: l9Subsets.
  Conditions: there are m states, at most 40; moves, first and last states lie below; the automaton reads as such.
-/
import Derived.Test.YtncekbbhgipdlaaGreatPs04S9
import Derived.Test.YtncekbbhgipdlaaGreatPs05Det
set_option maxHeartbeats 8000000
set_option maxRecDepth 100000
namespace Go.Proofs.YtncekbbhgipdlaaGreat
open Go.RowKit Go.Maps
theorem Tryz.infoBools:(Tryz.prog.info? 42).map (fun i=>(i.zero,i.size,i.bytes))=some (some (.slice none 0 0),1,24):=by kernel_rfl
def flc (m:Nat) (x:Int × Int):List Bool:=flags m x.1.toNat
def isM (m:Nat) (x:Int × Int):Prop:=∃ v:Nat,v<2 ^ m∧x=((v:Int),0)
theorem Zio (m:Nat) (x:Int × Int):(flc m x).length=m:=ZgL _ _
theorem Znk {m:Nat} {x y:Int × Int} (hx:isM m x) (hy:isM m y) (h:flc m x=flc m y):x=y:=by obtain⟨v,hv,rfl⟩:=hx;obtain⟨u,hu,rfl⟩:=hy;have:v=u:=Znl hv hu (by simpa [flc] using h);rw[this]
theorem Znp {m:Nat} {S:List (Int × Int)} {x:Int × Int} (hS:∀ y∈S,isM m y) (hx:isM m x):Ziq (S.map (flc m)) (flc m x)=if x∈S then(Zai S x:Int) else -1:=by
 have hmem:flc m x∈S.map (flc m)↔x∈S:=by
  constructor
  ·intro h;obtain⟨y,hy,e⟩:=List.mem_map.1 h;rw[← Znk (hS y hy) hx e];exact hy
  exact fun h=>List.mem_map.2 ⟨x,h,rfl⟩
 by_cases h:x∈S
 ·rw[if_pos h];have hk:=ZaR h;refine ZkS (by simpa using hk) ?_ ?_
  ·rw[← List.map_take];intro hc;obtain⟨y,hy,e⟩:=List.mem_map.1 hc;have hyx:=Znk (hS y (List.mem_of_mem_take hy)) hx e;subst hyx;have hp:=Za0 (List.take_prefix (Zai S y) S) hy;have:=ZaR hy;rw[List.length_take] at this;omega
  have:=Zim h x;simp only[List.getD_eq_getElem?_getD,List.getElem?_map];rw[List.getElem?_eq_getElem hk];simp only[Option.map_some,w_8];congr 1;simpa [hk] using this
 rw[if_neg h];exact ZhD fun hc=>h (hmem.1 hc)
def nxSM (M:Nat) (n:NfaD) (x:Int × Int) (c:Nat):Int × Int:=((stV M n.moves x.1.toNat (c:Int):Nat),0)
def Zni (M:Nat) (n:NfaD):Nat:=clV M n.moves (setV n.firsts)
abbrev metSM (M:Nat) (n:NfaD) (K:Nat):List (Int × Int):=(bat (nxSM M n) (((Zni M n:Nat):Int),0) K).met
theorem ZmI {M:Nat} {n:NfaD} {m:Nat} (hmv:mvIn m n.moves) (x:Int × Int) (c:Nat):isM m (nxSM M n x c) :=
 ⟨_,Zd9 hmv (ZcA _ (fun v=>v<2 ^ m) (fun _ _ hm hv=>Zdk hmv hm hv) (Nat.two_pow_pos m)) M,rfl⟩
theorem ZpA {M:Nat} {n:NfaD} {m:Nat} (hmv:mvIn m n.moves) (hf:inN m n.firsts):isM m (((Zni M n:Nat):Int),0):=⟨_,Zd9 hmv (Zf6 hf) M,rfl⟩
def ZpJ (M:Nat) (n:NfaD) (m K:Nat) (w:World) (e:Ending) (w':World):Prop :=
 ∃ a1 c1 a2 c2 l1 l2,e = .returned (.tuple #[.slice a1 l1 c1,.slice a2 l2 c2])∧l1<1000000 ∧
  (if (metSM M n K).length≤K then l1=(metSM M n K).length∧∃ vs1 vs2,St w w' [Ent.rows 42 4 (.slice a1 l1 c1) vs1 (((metSM M n K).map (flc m)).map boolCells),Ent.rows 38 3 (.slice a2 l2 c2) vs2 (((metSM M n K).map (Zaf (nxSM M n) (metSM M n K))).map intCells)]
   else K<l1∧Below w.heap.size w w')
theorem Zk8 {α:Type} [DecidableEq α] (nx:α→Nat→α) (x:α) (wd:List Nat) (s:Bs α):∀ n,(brow nx x wd s n).met.length≤s.met.length+n
 | 0=>Nat.le_refl _
 | n+1=>by
  have ih:=Zk8 nx x wd s n;show(bvisit nx x wd (brow nx x wd s n) n).met.length≤_;unfold bvisit
  split
  ·omega
  simp;omega
theorem ZeG {α:Type} [DecidableEq α] (nx:α→Nat→α) (a:α) (k n:Nat):(bpart nx a k n).met.length≤(bat nx a k).met.length+n:=Zk8 _ _ _ _ _
theorem Zcj {α β γ:Type} (f:α→β) (g:β→γ) (l:List α):((l.map f).map g).length=l.length:=by simp
theorem Zgk {nx:Int × Int→Nat→Int × Int} {F:List (Int × Int)} {x:Int × Int} {n:Nat} (hn:n<3):(Zaf nx F x).take (n+1)=(Zaf nx F x).take n++[(Zai F (nx x n):Int)]:=by rw[List.take_succ_eq_append_getElem (by simp[Zaf];omega)];simp[Zaf]
theorem Zcw {a:Option Addr} {l c:Nat}:∀ u∈[Value.slice a l c],u.oneCell'=true:=by intro u hu;simp only[List.mem_singleton] at hu;subst hu;rfl
theorem Zg6 (M:Nat) (hM:M≤1000) (m K:Nat) (mvs:List (Int × Int × Int)) (fs es:List Int) (v1 v2 v3:Value) (w:World) (hm:m≤M) (hK0:0<K) (hK1:K≤1000) (hmv:mvIn m mvs) (hml:mvs.length≤1000000) (hf:inN m fs) (hfl:fs.length≤1000000) (h1:Moves 0 w v1 mvs) (h2:Ints 0 w v2 fs) :
  Calls Tryz.prog 156 #[.agg #[.int .i64 (m:Int),v1,v2,v3],.int .i64 (K:Nat)] w fun e w'=>ZpJ M ⟨(m:Int),mvs,fs,es⟩ m K w e w':=by
 obtain⟨n,hn⟩:∃ n:NfaD,n=⟨(m:Int),mvs,fs,es⟩:=⟨_,rfl⟩;rw[← hn];have hnm:n.moves=mvs:=by rw[hn]
 have hnf:n.firsts=fs:=by rw[hn]
 obtain⟨W,hW⟩:=eI (w.alloc (.cells #[.int .i64 (m:Int),v1,v2,v3] 81));have hS0:St w W [Ent.box w.heap.size #[.int .i64 (m:Int),v1,v2,v3] 81]:=by rw[hW];exact(St.start w).alloc _ rfl _ _
 have c0:=hS0.cell (v:=.int .i64 (m:Int)) 0 0 rfl rfl;have c1:=hS0.cell (v:=v1) 0 1 rfl rfl;have c2:=hS0.cell (v:=v2) 0 2 rfl rfl;have c3:=hS0.cell (v:=v3) 0 3 rfl rfl;have hl0:=(hS0.boxlt 0 rfl).2;have Hk:=qh (fun (w':World) (h:Below W.drew.heap.size W.drew w')=>(show w'.cell? ⟨w.heap.size,0,none⟩=some (.int .i64 (m:Int))∧w'.cell? ⟨w.heap.size,1,none⟩=some v1∧w'.cell? ⟨w.heap.size,2,none⟩=some v2∧w'.cell? ⟨w.heap.size,3,none⟩=some v3 from⟨(bcell h _ _ hl0).trans c0,(bcell h _ _ hl0).trans c1,(bcell h _ _ hl0).trans c2,(bcell h _ _ hl0).trans c3⟩));have H1:=qh (h1.below hS0.bel.drew);have H2:=qh (h2.below hS0.bel.drew);have hfst:clV M mvs (setV fs)=Zni M n:=by rw[hn];rfl
 obtain⟨i0,hi,hz0,hz1,hz2⟩:=info_parts Tryz.infoInt;obtain⟨j0,hj,hy0,hy1,hy2⟩:=info_parts Tryz.infoInts;obtain⟨k0,hk,hx0,hx1,hx2⟩:=info_parts Tryz.infoBools;have HG1:=qh h1;replace hn:=qh hn;have Hhnm:=qh hnm;clear hnm;have Hhnf:=qh hnf;clear hnf;replace hS0:=qh hS0;have Hhmv:=qh hmv;clear hmv;have Hhml:=qh hml;clear hml;have Hhf:=qh hf;clear hf;have Hhfl:=qh hfl;clear hfl;have Hhfst:=qh hfst;clear hfst;have Hhi:=qh hi;clear hi;have Hhz0:=qh hz0;clear hz0;have Hhz1:=qh hz1;clear hz1;have Hhz2:=qh hz2;clear hz2;have Hhj:=qh hj;clear hj;have Hhy0:=qh hy0;clear hy0;have Hhy1:=qh hy1;clear hy1;have Hhy2:=qh hy2;clear hy2;have Hhk:=qh hk;clear hk;have Hhx0:=qh hx0;clear hx0;have Hhx1:=qh hx1;clear hx1;have Hhx2:=qh hx2;clear hx2;have HW:=qh hW;clear hW h1 h2
 go_enter Tryz.func156, Tryz.ntmps156
 go_wp2_with fail;rw[← HW.out]
 go_region_held3 (fun w'=>w'.cell? ⟨w.heap.size,0,none⟩=some (.int .i64 (m:Int))∧w'.cell? ⟨w.heap.size,1,none⟩=some v1∧w'.cell? ⟨w.heap.size,2,none⟩=some v2∧w'.cell? ⟨w.heap.size,3,none⟩=some v3)
  (first|go_keep|exact Hk.out _ hq0|exact Hk.out _ hq1)
  (first
   | (go_at_call 166;(with_reducible refine(Zjb fs m _ _ (by omega) Hhf.out Hhfl.out H2.out).mono ?_);rintro e u0 ⟨⟨g0,d0,rfl,hr0⟩,hq0⟩)
   | (go_at_call 165;(with_reducible refine(Zfe M hM ⟨(m:Int),mvs,fs,es⟩ m (setV fs) v1 v2 v3 _ _ hm Hhmv.out Hhml.out (Zf6 Hhf.out) (H1.out.below hq0) (FlagsAt.of hr0)).mono ?_);rintro e u1 ⟨⟨g1,d1,rfl,hr1⟩,hb1⟩;have hq1:=hq0.trans (hb1.mono hq0.size)))
 have hS1:=((hS0.out.drew).call hq0).made hb1 hr1;have hS2:=((hS1.alloc _ rfl #[.slice (some ⟨g1,0,none⟩) m d1] 42).boxrow 2 1 1 [.slice (some ⟨g1,0,none⟩) m d1] rfl rfl (by unfold maxLen;omega)).onerow 2 1 (by decide) rfl rfl;have hS3:=(((hS2.pick [0,2] (by decide)).alloc (u1.heap.size+1) (by simp) #[] 38).boxrow 2 0 1 [] rfl rfl (Nat.zero_le _)).norows 2 rfl 3;have HhS3:=qh hS3;clear hS3;clear hS1 hS2 hq0 hq1 hb1 hr0 hr1 c0 c1 c2 c3 hl0;obtain⟨F,hF⟩:=eI (metSM M n K);obtain⟨a0,ha0⟩:=eI (((((Zni M n:Nat):Int),0):Int × Int));have hFa:F=(bat (nxSM M n) a0 K).met:=by rw[hF,ha0]
 have Hin:=qh (fun k=>Zce (nx:=nxSM M n) (a:=a0) (Q:=isM m) (by rw[ha0];exact ZpA (by rw[Hhnm.out];exact Hhmv.out) (by rw[Hhnf.out];exact Hhf.out)) (fun x c _ _=>ZmI (by rw[Hhnm.out];exact Hhmv.out) x c) k);have hFa':F=(bat (nxSM M n) a0 K).met:=hFa;replace hF:=qh hF;have HhFa:=qh hFa;clear hFa;have HhFa':=qh hFa';clear hFa';have Hha0:=qh ha0;clear ha0;go_wp2
 go_loopw [6,7,8] (fun vs vn i wr=>∃ (k:Nat) (b1 cap1 b2 cap2:Nat) (vs1 vs2:List Value),i = .int .i64 k∧vs = .slice (some ⟨b1,0,none⟩) (bat (nxSM M n) a0 k).met.length cap1∧vn = .slice (some ⟨b2,0,none⟩) k cap2∧k≤(bat (nxSM M n) a0 k).met.length∧k≤K∧(bat (nxSM M n) a0 k).met.length≤K+3 ∧
   St w wr [Ent.box w.heap.size #[.int .i64 (m:Int),v1,v2,v3] 81,Ent.rows 42 4 (.slice (some ⟨b1,0,none⟩) (bat (nxSM M n) a0 k).met.length cap1) vs1 (((bat (nxSM M n) a0 k).met.map (flc m)).map boolCells),
    Ent.rows 38 3 (.slice (some ⟨b2,0,none⟩) k cap2) vs2 ((((bat (nxSM M n) a0 k).met.take k).map (Zaf (nxSM M n) F)).map intCells)])
  (fun _ _ i _=>K-(intOf i).toNat)
 case atStart =>
  refine⟨0,_,_,_,_,[.slice (some ⟨g1,0,none⟩) m d1],[],rfl,rfl,rfl,by simp,by omega,by simp[bat],?_⟩;have e1:((bat (nxSM M n) a0 0).met.map (flc m)).map boolCells=[boolCells (flags m (clV M mvs (setV fs)))]:=by simp[bat,Hha0.out,flc,Hhfst.out]
  rw[e1];exact HhS3.out
 case round =>
  obtain⟨k,b1,cap1,b2,cap2,vs1,vs2,rfl,rfl,rfl,hk,hkK,hML,hS⟩:=hrel;obtain⟨S,hSS⟩:=eI (bat (nxSM M n) a0 k);have hR:=Hin.out k;rw[← hSS] at hk hML hS hR;rw[← hSS];obtain⟨wo,hwo⟩:∃ wo:World,wo=wr:=⟨_,rfl⟩;subst hwo;have HhS:=qh hS;clear hS;have HhSS:=qh hSS;clear hSS;have HhR:=qh hR;clear hR;by_cases hlt:k<S.met.length
  ·by_cases hle:S.met.length≤K
   ·have hlt2:(k:Int)<S.met.length:=by omega
    have hle2:(S.met.length:Int)≤K:=by omega
    have hSe:=(HhS.out.alloc _ rfl #[] 3).boxrow 3 0 1 [] rfl rfl (Nat.zero_le _);obtain⟨x,hx⟩:=eI (S.met.getD k a0);have hxM:isM m x:=by rw[hx];exact HhR.out _ (memD hlt)
    have hkS:k<(bat (nxSM M n) a0 k).met.length:=by rw[← HhSS.out];exact hlt
    have hxb:(bat (nxSM M n) a0 k).met.getD k a0=x:=by rw[← HhSS.out];exact hx.symm
    have HhSe:=qh hSe;clear hSe;have Hhx:=qh hx;clear hx;have HhxM:=qh hxM;clear hxM;have HhkS:=qh hkS;clear hkS;have Hhxb:=qh hxb;clear hxb;go_wp2
    go_loopw [6,9,10] (fun vs rv i wi=>∃ (c:Nat) (b1 cap1 b3 cap3:Nat) (vs1:List Value),i = .int .i64 c∧vs = .slice (some ⟨b1,0,none⟩) (bpart (nxSM M n) a0 k c).met.length cap1∧rv = .slice (some ⟨b3,0,none⟩) c cap3∧c≤3 ∧
      St w wi [Ent.box w.heap.size #[.int .i64 (m:Int),v1,v2,v3] 81,Ent.rows 42 4 (.slice (some ⟨b1,0,none⟩) (bpart (nxSM M n) a0 k c).met.length cap1) vs1 (((bpart (nxSM M n) a0 k c).met.map (flc m)).map boolCells),
       Ent.rows 38 3 (.slice (some ⟨b2,0,none⟩) k cap2) vs2 (((S.met.take k).map (Zaf (nxSM M n) F)).map intCells),Ent.row 3 1 (.slice (some ⟨b3,0,none⟩) c cap3) c (intCells ((Zaf (nxSM M n) F x).take c))])
     (fun _ _ i _=>3-(intOf i).toNat)
    case atStart =>refine⟨0,b1,cap1,_,_,vs1,rfl,by rw[Zas,← HhSS.out],rfl,by omega,?_⟩;rw[Zas,← HhSS.out];exact HhSe.out
    case round =>
     obtain⟨c,b1,cap1,b3,cap3,vs1,rfl,rfl,rfl,hc3,hSi⟩:=hrel;obtain⟨wp,hwp⟩:∃ wp:World,wp=wr:=⟨_,rfl⟩;subst hwp;by_cases hc:c<3
     ·have hTl:=ZeG (nxSM M n) a0 k c;have hTall:=ZnD (nx:=nxSM M n) (a:=a0) (Q:=isM m) (by have:=Hin.out 0;exact this a0 (by simp[bat])) (fun x c _ _=>ZmI (by rw[Hhnm.out];exact Hhmv.out) x c) HhkS.out (show c≤3 by omega);have hold:=ZbR (nx:=nxSM M n) (a:=a0) (k:=k) (n:=c);have hnew:=Zbr (nx:=nxSM M n) (a:=a0) (k:=k) (n:=c);have hTS:=ZbS (nx:=nxSM M n) (a:=a0) (k:=k) (Nat.zero_le c);have hTF:=ZaF (nx:=nxSM M n) (a:=a0) (m:=K) HhkS.out (show c≤3 by omega) (show k<K by omega);have hTF2:=ZaF (nx:=nxSM M n) (a:=a0) (m:=K) HhkS.out (show c+1≤3 by omega) (show k<K by omega);rw[Zas,← HhSS.out] at hTS;rw[Hhxb.out] at hold hnew;rw[← HhSS.out] at hTl;replace hTF:=hTF.1;replace hTF2:=hTF2.1;replace hTS:=hTS.1;rw[← HhFa'.out] at hTF hTF2;obtain⟨y,hy⟩:=eI (nxSM M n x c);have hyM:isM m y:=by rw[hy];exact ZmI (by rw[Hhnm.out];exact Hhmv.out) x c
      have hyf:flags m (stV M mvs x.1.toNat (c:Int))=flc m y:=by rw[hy,← Hhnm.out];rfl
      have hold':y∈(bpart (nxSM M n) a0 k c).met→(bpart (nxSM M n) a0 k (c+1)).met=(bpart (nxSM M n) a0 k c).met:=fun h=>by rw[hold (by rw[← hy];exact h)]
      have hnew':y ∉ (bpart (nxSM M n) a0 k c).met→(bpart (nxSM M n) a0 k (c+1)).met=(bpart (nxSM M n) a0 k c).met++[y]:=fun h=>by rw[hnew (by rw[← hy];exact h),← hy]
      clear hold hnew;obtain⟨T1,hT1⟩:=eI ((bpart (nxSM M n) a0 k (c+1)).met);obtain⟨T,hT⟩:=eI ((bpart (nxSM M n) a0 k c).met);rw[← hT] at hSi hTl hTall hTF hTS hold' hnew';rw[← hT1] at hTF2 hold' hnew';rw[← hT];have hkT:k<T.length:=Nat.lt_of_lt_of_le hlt hTS.length_le;have hxT:T.getD k a0=x:=(ZaE hTS hlt _).trans Hhx.out.symm;have hfind:=Znp hTall hyM;have hrow:=Zgk (nx:=nxSM M n) (F:=F) (x:=x) hc;rw[← hy] at hrow;have hlm:((T.map (flc m)).map boolCells).length=T.length:=Zcj _ _ _;have hcs:((T.map (flc m)).map boolCells).getD k []=boolCells (flc m x):=by rw[← hxT];simp[hkT]
      obtain⟨ax,cx,hcell,hxr,hcx1,hcx2,hcp1,hcp2,hb1l⟩:=hSi.rowAt 1 rfl hlm hkT;rw[hcs] at hcell hxr hcx1;have hxl:(boolCells (flc m x)).length=m:=by simp[Zio]
      rw[hxl] at hcell hxr hcx1;have hxB:=ZjC hxr;have e0:=hSi.cell (v:=.int .i64 (m:Int)) 0 0 rfl rfl;have e1:=hSi.cell (v:=v1) 0 1 rfl rfl;have e2:=hSi.cell (v:=v2) 0 2 rfl rfl;have e3:=hSi.cell (v:=v3) 0 3 rfl rfl;have hl0:=(hSi.boxlt 0 rfl).2;have Hk2:=qh (fun (w':World) (h:Below wp.drew.heap.size wp.drew w')=>(show w'.cell? ⟨w.heap.size,0,none⟩=some (.int .i64 (m:Int))∧w'.cell? ⟨w.heap.size,1,none⟩=some v1∧w'.cell? ⟨w.heap.size,2,none⟩=some v2∧w'.cell? ⟨w.heap.size,3,none⟩=some v3∧w'.cell? ⟨b1,k,none⟩=some (.slice ax m cx) from⟨(bcell h _ _ hl0).trans e0,(bcell h _ _ hl0).trans e1,(bcell h _ _ hl0).trans e2,(bcell h _ _ hl0).trans e3,(bcell h _ _ hb1l).trans hcell⟩));have HM2:=qh (HG1.out.below hSi.bel.drew);have HX2:=qh (hxB.below (Below.refl _ _).drew);have hkT2:(k:Int)<T.length:=by omega
      have hc4:(c:Int)<3:=by omega
      have Hhy:=qh hy;clear hy;have HhyM:=qh hyM;clear hyM;have Hhyf:=qh hyf;clear hyf;have Hhold':=qh hold';clear hold';have Hhnew':=qh hnew';clear hnew';have HhT1:=qh hT1;clear hT1;have HhT:=qh hT;clear hT;have HhTl:=qh hTl;clear hTl;have HhTall:=qh hTall;clear hTall;have HhTF:=qh hTF;clear hTF;have HhTF2:=qh hTF2;clear hTF2;have HhTS:=qh hTS;clear hTS;have HhxT:=qh hxT;clear hxT;have Hhfind:=qh hfind;clear hfind;have Hhrow:=qh hrow;clear hrow;have Hhlm:=qh hlm;clear hlm;have HhSi:=qh hSi;clear hSi;clear hcs hxr hxl hxB;go_wp2
      go_region_held3 (fun w'=>w'.cell? ⟨w.heap.size,0,none⟩=some (.int .i64 (m:Int))∧w'.cell? ⟨w.heap.size,1,none⟩=some v1∧w'.cell? ⟨w.heap.size,2,none⟩=some v2∧w'.cell? ⟨w.heap.size,3,none⟩=some v3∧w'.cell? ⟨b1,k,none⟩=some (.slice ax m cx))
       (first|go_keep|exact Hk2.out _ hq0)
       (first
        | (go_at_call 167;(with_reducible refine(Zj4 M hM ⟨(m:Int),mvs,fs,es⟩ m x.1.toNat (c:Int) v1 v2 v3 _ _ rfl hm Hhmv.out Hhml.out HM2.out HX2.out).mono ?_);rintro e u2 ⟨⟨g2,d2,rfl,hr2⟩,hq0⟩))
      have hSx:=HhSi.out.drew.made hq0 hr2;rw[show flags m (stV M (NfaD.moves ⟨(m:Int),mvs,fs,es⟩) x.1.toNat (c:Int))=flc m y from Hhyf.out] at hSx;have hfa:=ZlA (T.map (flc m)) (flc m y) m (.slice (some ⟨b1,0,none⟩) T.length cap1) (.slice (some ⟨g2,0,none⟩) m d2) u2 (by intro z hz;obtain⟨q,-,rfl⟩:=List.mem_map.1 hz;exact Zio _ _) (Zio _ _) (by rw[List.length_map];have:=HhTl.out;omega) (hSx.boolSS 1 rfl) (hSx.bools 4 rfl);rw[Hhfind.out] at hfa;have HhSx:=qh hSx;clear hSx;clear hcell e0 e1 e2 e3 hq0 hr2;by_cases hmem:y∈T
      ·rw[if_pos hmem] at hfa;obtain⟨p,hp⟩:=eI (Zai T y);have hpl:p<T.length:=by rw[hp];exact ZaR hmem
       have hpF:Zai F y=p:=(Za0 HhTF.out hmem).trans hp.symm;rw[← hp] at hfa;have hT1o:=Hhold'.out hmem;have hp0:¬ ((p:Int)<0):=by omega
       have Hhfa:=qh hfa;clear hfa;have Hhp:=qh hp;clear hp;have HhpF:=qh hpF;clear hpF;have HhT1o:=qh hT1o;clear hT1o;go_wp2_with fail;refine Hhfa.out.mono ?_;rintro e w2 ⟨rfl,hb2⟩;have hSa:=(HhSx.out.call hb2).alloc_ (.cells #[.int .i64 (p:Int)] 3);have hR:=hSa.row 3 rfl;have HhSa:=qh hSa;clear hSa;have HhR:=qh hR;clear hR;clear hb2;go_wp2_with (at_builtin;refine wpList_append_lies _ rfl _ _ _ rfl _ 3 i0 (.int .i64 0) 1 8 Tryz.underlying38 Hhi.out Hhz0.out Hhz1.out Hhz2.out rfl (by omega) _ c _ rfl HhR.out ⟨w2.heap.size,0,none⟩ 1 1 [.int .i64 (p:Int)] rfl rfl (World.news_of_block (heap_alloc_new w2 _)) ZbB (by omega) (by unfold maxLen;omega) (by omega) HhSa.out.size _ rfl ?_;intro g6 c6 w6 hown6 hgrow6 hat6 hlt6;have HS6:=qh (HhSa.out.app 3 rfl hown6 hgrow6 hat6);clear hown6 hgrow6 hat6 hlt6);go_roundw
       case rel =>refine⟨c+1,b1,cap1,_,_,vs1,by go_num,by rw[← HhT1.out,HhT1o.out],rfl,by omega,?_⟩;rw[← HhT1.out,HhT1o.out,Hhrow.out,HhpF.out,Zav];exact HS6.out.pick [0,1,2,3] (by decide)
       case measure=>simp[intOf];omega
      rw[if_neg hmem] at hfa;have hT1n:=Hhnew'.out hmem;have hpF:Zai F y=T.length:=ZfQ (by rw[← hT1n];exact HhTF2.out) hmem;have hTlt:=HhTl.out;have Hhfa:=qh hfa;clear hfa;have HhpF:=qh hpF;clear hpF;have HhT1n:=qh hT1n;clear hT1n;go_wp2_with fail;refine Hhfa.out.mono ?_;rintro e w2 ⟨rfl,hb2⟩;have hSa:=(HhSx.out.call hb2).alloc_ (.cells #[.slice (some ⟨g2,0,none⟩) m d2] 42);have hR:=(hSa.rows 1 rfl).1;rw[Hhlm.out] at hR;have HhSa:=qh hSa;clear hSa;have HhR:=qh hR;clear hR;clear hb2
      go_wp2_with (first
       | (at_builtin;refine wpList_append_lies _ rfl _ _ _ rfl _ 42 k0 (.slice none 0 0) 1 24 Tryz.underlying174 Hhk.out Hhx0.out Hhx1.out Hhx2.out rfl (by omega) _ T.length _ rfl HhR.out ⟨w2.heap.size,0,none⟩ 1 1 [.slice (some ⟨g2,0,none⟩) m d2] rfl rfl (World.news_of_block (heap_alloc_new w2 _)) Zcw (by omega) (by unfold maxLen;omega) (by omega) HhSa.out.size _ rfl ?_;intro g6 c6 w6 hown6 hgrow6 hat6 hlt6;have HS6:=qh ((HhSa.out.snoc 1 4 (by decide) rfl rfl (by decide) hgrow6 (by rw[Hhlm.out];exact hown6) (Zfh hat6)).alloc_ (.cells #[.int .i64 (T.length:Int)] 3));have HR6:=qh (HS6.out.row 3 rfl);clear hown6 hgrow6 hat6 hlt6)
       | (at_builtin;refine wpList_append_lies _ rfl _ _ _ rfl _ 3 i0 (.int .i64 0) 1 8 Tryz.underlying38 Hhi.out Hhz0.out Hhz1.out Hhz2.out rfl (by omega) _ c _ rfl HR6.out ⟨w6.heap.size,0,none⟩ 1 1 [.int .i64 (T.length:Int)] rfl rfl (World.news_of_block (heap_alloc_new w6 _)) ZbB (by omega) (by unfold maxLen;omega) (by omega) HS6.out.size _ rfl ?_;intro g7 c7 w7 hown7 hgrow7 hat7 hlt7;have HS7:=qh (HS6.out.app 3 rfl hown7 hgrow7 hat7);clear hown7 hgrow7 hat7 hlt7))
      go_roundw
      case rel =>refine⟨c+1,g6,c6,g7,c7,vs1++[.slice (some ⟨g2,0,none⟩) m d2],by go_num,by rw[← HhT1.out,HhT1n.out,List.length_append];rfl,rfl,by omega,?_⟩;rw[← HhT1.out,HhT1n.out,Hhrow.out,HhpF.out,Zav,List.map_append,List.map_append,List.length_append];exact HS7.out.pick [0,1,2,3] (by decide)
      case measure=>simp[intOf];omega
     obtain rfl:c=3:=by omega
     have hbs:bat (nxSM M n) a0 (k+1)=bpart (nxSM M n) a0 k 3:=ZaP HhkS.out;have hle3:=ZeG (nxSM M n) a0 k 3;have hTS:=(ZbS (nx:=nxSM M n) (a:=a0) (k:=k) (Nat.zero_le 3)).1;rw[Zas] at hTS;rw[← HhSS.out] at hle3 hTS;have hkl:k+1≤(bpart (nxSM M n) a0 k 3).met.length:=Nat.le_trans hlt hTS.length_le;have htk:(bpart (nxSM M n) a0 k 3).met.take (k+1)=S.met.take k++[x]:=by obtain⟨t,ht⟩:=hTS;rw[← ht,List.take_append_of_le_length (by omega),List.take_succ_eq_append_getElem hlt,Hhx.out];simp[hlt]
     have hn3:(Zaf (nxSM M n) F x).take 3=Zaf (nxSM M n) F x:=List.take_of_length_le (by simp[Zaf]);have hlm:(((S.met.take k).map (Zaf (nxSM M n) F)).map intCells).length=k:=by rw[Zcj,List.length_take];omega
     rw[hn3] at hSi;have hSa:=hSi.alloc_ (.cells #[.slice (some ⟨b3,0,none⟩) 3 cap3] 38);have hR:=(hSa.rows 2 rfl).1;rw[hlm] at hR;have Hhbs:=qh hbs;clear hbs;have Hhle3:=qh hle3;clear hle3;have HhTS:=qh hTS;clear hTS;have Hhtk:=qh htk;clear htk;have Hhn3:=qh hn3;clear hn3;have Hhlm:=qh hlm;clear hlm;have HhSi:=qh hSi;clear hSi;have HhSa:=qh hSa;clear hSa;have HhR:=qh hR;clear hR;go_wp2_with (at_builtin;refine wpList_append_lies _ rfl _ _ _ rfl _ 38 j0 (.slice none 0 0) 1 24 Tryz.underlying41 Hhj.out Hhy0.out Hhy1.out Hhy2.out rfl (by omega) _ k _ rfl HhR.out ⟨wp.heap.size,0,none⟩ 1 1 [.slice (some ⟨b3,0,none⟩) 3 cap3] rfl rfl (World.news_of_block (heap_alloc_new wp _)) Zcw (by omega) (by unfold maxLen;omega) (by omega) HhSa.out.size _ rfl ?_;intro g6 c6 w6 hown6 hgrow6 hat6 hlt6;have HS6:=qh (HhSa.out.snoc 2 3 (by decide) rfl rfl (by decide) hgrow6 (by rw[Hhlm.out];exact hown6) (Zfh hat6));clear hown6 hgrow6 hat6 hlt6);go_roundw
     case rel =>refine⟨k+1,b1,cap1,g6,c6,vs1,vs2++[.slice (some ⟨b3,0,none⟩) 3 cap3],by go_num,by rw[Hhbs.out],rfl,by rw[Hhbs.out];exact hkl,by omega,by rw[Hhbs.out];have:=Hhle3.out;omega,?_⟩;rw[Hhbs.out,Hhtk.out,List.map_append,List.map_append];exact HS6.out.pick [0,1,2] (by decide)
     case measure=>simp[intOf];omega
   have hlt2:(k:Int)<S.met.length:=by omega
   have hle2:¬ ((S.met.length:Int)≤K):=by omega
   have hbig:¬ ((metSM M n K).length≤K):=by have h:=(Zfm (nx:=nxSM M n) (a:=a0) hkK).1.length_le;rw[← HhSS.out,Hha0.out] at h;unfold metSM;omega
   have Hhbig:=qh hbig;clear hbig;go_wp2
   go_ret2
   refine⟨_,_,_,_,_,_,rfl,by omega,?_⟩;rw[if_neg Hhbig.out];exact⟨by omega,HhS.out.bel⟩
  have hkl:k=S.met.length:=by omega
  have hfin:metSM M n K=S.met:=by have h:=ZbT (nx:=nxSM M n) (a:=a0) (k:=k) (m:=K) (by rw[← HhSS.out];omega) hkK;unfold metSM;rw[← Hha0.out,h,← HhSS.out]
  have Hhkl:=qh hkl;clear hkl;have Hhfin:=qh hfin;clear hfin;go_wp2
  go_ret2
  refine⟨_,_,_,_,_,_,rfl,by omega,?_⟩;rw[Hhfin.out,if_pos (by have:=Hhkl.out;omega)];refine⟨rfl,vs1,vs2,?_⟩;have h:=HhS.out.pick [1,2] (by decide);have h2:=Hhkl.out;subst h2;rw[List.take_length,hF.out,Hhfin.out] at h;exact h
def RDetSM (M:Nat) (n:NfaD) (K B:Nat) (e:Ending) (w':World):Prop :=
 if (metSM M n K).length≤K then
  ∃ a1 l1 c1 a2 l2 c2,e = .returned (.tuple #[.agg #[.slice a1 l1 c1,.slice a2 l2 c2],.bool true])∧DfaR B w' (.agg #[.slice a1 l1 c1,.slice a2 l2 c2]) (Zat (nxSM M n) (enS n) (metSM M n K))
 else e = .returned (.tuple #[.agg #[.slice none 0 0,.slice none 0 0],.bool false])
theorem Zgs (M:Nat) (hM:M≤1000) (m K:Nat) (hK:K=40) (mvs:List (Int × Int × Int)) (fs es:List Int) (v1 v2 v3:Value) (w:World) (hm:m≤M) (hmv:mvIn m mvs) (hml:mvs.length≤1000000) (hf:inN m fs) (hfl:fs.length≤1000000) (h1:Moves 0 w v1 mvs) (h2:Ints 0 w v2 fs) :
  Calls Tryz.prog 156 #[.agg #[.int .i64 (m:Int),v1,v2,v3],.int .i64 40] w fun e w'=>ZpJ M ⟨(m:Int),mvs,fs,es⟩ m K w e w':=by
 have h:=Zg6 M hM m K mvs fs es v1 v2 v3 w hm (by omega) (by omega) hmv hml hf hfl h1 h2;have e:((K:Nat):Int)=40:=by omega
 rw[e] at h;exact h
theorem St.rowsform {w0 w:World} {L:List Ent} (h:St w0 w L) (i:Nat) {es e n c:Nat} {a:Option Addr} {vs:List Value} {css:List (List Value)} (hx:L[i]? = some (Ent.rows es e (.slice a n c) vs css)) (hn:0<css.length):∃ g,a=some ⟨g,0,none⟩∧n=css.length:=by obtain⟨g,cap,hv,-,-⟩:=(h.rows i hx).1.form hn;simp only[Value.slice.injEq] at hv;exact⟨g,hv.1,hv.2.1⟩
theorem Zbb {x:Bool}:∀ u∈[Value.bool x],u.oneCell'=true:=by intro u hu;simp only[List.mem_singleton] at hu;subst hu;rfl
theorem Zbs (l:List Bool) (x:Bool):boolCells (l++[x])=boolCells l++[.bool x]:=by simp[boolCells]
theorem ZiD {l:List Int} {p:Int→Bool} {j:Nat} (hj:j<l.length):(l.take (j+1)).any p=((l.take j).any p||p (l.getD j 0)):=by rw[List.take_succ_eq_append_getElem hj,List.any_append];simp[hj]
theorem Zhv (M:Nat) (hM:M≤1000) (m K:Nat) (hK:K=40) (mvs:List (Int × Int × Int)) (fs es:List Int) (v1 v2 v3:Value) (w:World) (hm:m≤M) (hmv:mvIn m mvs) (hml:mvs.length≤1000000) (hf:inN m fs) (hfl:fs.length≤1000000) (he:inN m es) (hel:es.length≤1000000) (h1:Moves 0 w v1 mvs) (h2:Ints 0 w v2 fs) (h3:Ints 0 w v3 es) :
  Calls Tryz.prog 126 #[.agg #[.int .i64 (m:Int),v1,v2,v3]] w fun e w'=>RDetSM M ⟨(m:Int),mvs,fs,es⟩ K w.heap.size e w'∧Below w.heap.size w w':=by
 obtain⟨a3,c3,rfl,hc3,hm3,hr3⟩:=h3.form;obtain⟨n,hn⟩:∃ n:NfaD,n=⟨(m:Int),mvs,fs,es⟩:=⟨_,rfl⟩;have hne:n.ends=es:=by rw[hn]
 have hS0:=((St.start w).alloc _ rfl #[.int .i64 (m:Int),v1,v2,.slice a3 es.length c3] 81).alloc (w.heap.size+1) (by simp) #[.slice none 0 0,.slice none 0 0] 44;have hsub:=Zgs M hM m K hK mvs fs es v1 v2 (.slice a3 es.length c3) _ hm hmv hml hf hfl (h1.below hS0.bel) (h2.below hS0.bel);rw[← hn] at hsub;rw[← hn];obtain⟨i0,hi,hz0,hz1,hz2⟩:=info_parts Tryz.infoBool;have hpos:=ZdE (nx:=nxSM M n) (a:=(((Zni M n:Nat):Int),0)) K;obtain⟨F,hF⟩:=eI (metSM M n K);have hpos':0<F.length:=by rw[hF];exact hpos
 have hres:∀ B e w',RDetSM M n K B e w'=if F.length≤K then
  ∃ a1 l1 c1 a2 l2 c2,e = .returned (.tuple #[.agg #[.slice a1 l1 c1,.slice a2 l2 c2],.bool true])∧DfaR B w' (.agg #[.slice a1 l1 c1,.slice a2 l2 c2]) (Zat (nxSM M n) (enS n) F)
  else e = .returned (.tuple #[.agg #[.slice none 0 0,.slice none 0 0],.bool false]):=fun B e w'=>by rw[hF];rfl
 have hRS:∀ e w',ZpJ M n m K ((w.alloc (.cells #[.int .i64 (m:Int),v1,v2,.slice a3 es.length c3] 81)).alloc (.cells #[.slice none 0 0,.slice none 0 0] 44)) e w'→∃ a1 c1 a2 c2 l1 l2,e = .returned (.tuple #[.slice a1 l1 c1,.slice a2 l2 c2])∧l1<1000000 ∧
  (if F.length≤K then l1=F.length∧∃ vs1 vs2,St ((w.alloc (.cells #[.int .i64 (m:Int),v1,v2,.slice a3 es.length c3] 81)).alloc (.cells #[.slice none 0 0,.slice none 0 0] 44)) w' [Ent.rows 42 4 (.slice a1 l1 c1) vs1 ((F.map (flc m)).map boolCells),Ent.rows 38 3 (.slice a2 l2 c2) vs2 ((F.map (Zaf (nxSM M n) F)).map intCells)]
   else K<l1∧Below ((w.alloc (.cells #[.int .i64 (m:Int),v1,v2,.slice a3 es.length c3] 81)).alloc (.cells #[.slice none 0 0,.slice none 0 0] 44)).heap.size ((w.alloc (.cells #[.int .i64 (m:Int),v1,v2,.slice a3 es.length c3] 81)).alloc (.cells #[.slice none 0 0,.slice none 0 0] 44)) w'):=fun e w' h=>by rw[hF];exact h
 have HRes:=qh hres;have HRS:=qh hRS;have Hsub:=qh hsub;replace hn:=qh hn;have Hhne:=qh hne;clear hne;replace hS0:=qh hS0;have Hhi:=qh hi;clear hi;have Hhz0:=qh hz0;clear hz0;have Hhz1:=qh hz1;clear hz1;have Hhz2:=qh hz2;clear hz2;replace hF:=qh hF;have Hhr3:=qh hr3;clear hr3;have Hhe:=qh he;clear he;have HhK:=qh hK;clear hK;clear h1 h2 h3 hres hRS hsub hpos
 go_enter Tryz.func126, Tryz.ntmps126
 go_wp2_with fail;refine Hsub.out.mono ?_;rintro e w1 hr;obtain⟨a1,c1,a2,c2,l1,l2,rfl,hl1,hr⟩:=HRS.out e w1 hr;by_cases hle:F.length≤K
 ·rw[if_pos hle] at hr;obtain⟨hlF,vs1,vs2,hS'⟩:=hr;have hS1:=hS0.out.cat hS';have hlm1:((F.map (flc m)).map boolCells).length=F.length:=Zcj _ _ _;have hlm2:((F.map (Zaf (nxSM M n) F)).map intCells).length=F.length:=Zcj _ _ _;obtain⟨g1,rfl,-⟩:=hS1.rowsform 2 rfl (by rw[hlm1];exact hpos');obtain⟨g2,rfl,hl2⟩:=hS1.rowsform 3 rfl (by rw[hlm2];exact hpos');rw[hlm2] at hl2;have hl40:(l1:Int)≤40:=by have:=HhK.out;omega
  have hS2:=(hS1.alloc _ rfl #[.slice (some ⟨g2,0,none⟩) l2 c2,.slice none 0 0] 44).nilRow 4 1;have HhlF:=qh hlF;clear hlF;have Hhl2:=qh hl2;clear hl2;have Hhlm1:=qh hlm1;clear hlm1;have Hhlm2:=qh hlm2;clear hlm2;have HhS2:=qh hS2;clear hS2;clear hS1 hS';go_wp2
  go_loopw [7] (fun i wr=>∃ (k c:Nat) (a:Option Addr),i = .int .i64 k∧k≤l1∧St w wr [Ent.box w.heap.size #[.int .i64 (m:Int),v1,v2,.slice a3 es.length c3] 81,Ent.box (w.heap.size+1) #[.slice none 0 0,.slice none 0 0] 44,
    Ent.rows 42 4 (.slice (some ⟨g1,0,none⟩) l1 c1) vs1 ((F.map (flc m)).map boolCells),Ent.rows 38 3 (.slice (some ⟨g2,0,none⟩) l2 c2) vs2 ((F.map (Zaf (nxSM M n) F)).map intCells),
    Ent.box w1.heap.size #[.slice (some ⟨g2,0,none⟩) l2 c2,.slice a k c] 44,Ent.row 4 1 (.slice a k c) k (boolCells ((F.take k).map (enS n)))])
   (fun i _=>l1-(intOf i).toNat)
  case atStart=>exact⟨0,0,none,rfl,Nat.zero_le _,HhS2.out⟩
  case round =>
   obtain⟨k,c,a,rfl,hk,hS⟩:=hrel;obtain⟨wo,hwo⟩:∃ wo:World,wo=wr:=⟨_,rfl⟩;subst hwo;have HhS:=qh hS;clear hS;by_cases hlt:k<l1
   ·have hkF:k<F.length:=by have:=HhlF.out;omega
    obtain⟨x,hx⟩:=eI (F.getD k ((0,0):Int × Int));have hcs:((F.map (flc m)).map boolCells).getD k []=boolCells (flc m x):=by rw[hx];simp[hkF]
    have hlt2:(k:Int)<l1:=by omega
    have Hhx:=qh hx;clear hx;have Hhcs:=qh hcs;clear hcs;go_wp2
    go_loopw [8,9] (fun ev i wi=>∃ (j:Nat) (b:Bool),i = .int .i64 j∧ev = .bool b∧j≤es.length∧b=(es.take j).any (fun s=>x.1.toNat.testBit s.toNat)∧St w wi [Ent.box w.heap.size #[.int .i64 (m:Int),v1,v2,.slice a3 es.length c3] 81,Ent.box (w.heap.size+1) #[.slice none 0 0,.slice none 0 0] 44,
      Ent.rows 42 4 (.slice (some ⟨g1,0,none⟩) l1 c1) vs1 ((F.map (flc m)).map boolCells),Ent.rows 38 3 (.slice (some ⟨g2,0,none⟩) l2 c2) vs2 ((F.map (Zaf (nxSM M n) F)).map intCells),
      Ent.box w1.heap.size #[.slice (some ⟨g2,0,none⟩) l2 c2,.slice a k c] 44,Ent.row 4 1 (.slice a k c) k (boolCells ((F.take k).map (enS n)))])
     (fun _ i _=>es.length-(intOf i).toNat)
    case atStart=>exact⟨0,false,rfl,rfl,Nat.zero_le _,by simp,HhS.out⟩
    case round =>
     obtain⟨j,b,rfl,rfl,hj,hb,hSi⟩:=hrel;have e3:=hSi.cell (v:=.slice a3 es.length c3) 0 3 rfl rfl;by_cases hjl:j<es.length
     ·obtain⟨b3,o3,rfl,-,hbl3,hcs3⟩:=Hhr3.out (by omega);have hce:=(bcell hSi.bel b3 (o3+j) hbl3).trans (hcs3 j hjl);obtain⟨s0,s1⟩:=Hhe.out _ (memD (d:=0) hjl);have hany:=ZiD (p:=fun s=>x.1.toNat.testBit s.toNat) hjl;obtain⟨s,hs⟩:=Int.eq_ofNat_of_zero_le s0;rw[hs] at hce s1 hany;have hsm:s<m:=by omega
      obtain⟨ax,cx,hcell,hxr,hcx1,hcx2,hcp1,hcp2,hb1l⟩:=hSi.rowAt 2 rfl (Hhlm1.out.trans HhlF.out.symm) hlt;rw[Hhcs.out] at hcell hxr hcx1;have hxl:(boolCells (flc m x)).length=m:=by simp[Zio]
      rw[hxl] at hcell hxr hcx1;obtain⟨gx,cx',hvx,-,-⟩:=hxr.form (by omega);simp only[Value.slice.injEq] at hvx;obtain⟨rfl,-,rfl⟩:=hvx;have hbit:=(hxr.cellAt s (by omega)).trans (Zdw hsm);have hjl2:(j:Int)<es.length:=by omega
      have hsm2:(s:Int)<m:=by omega
      have Hhs:=qh hs;clear hs;have Hhb:=qh hb;clear hb;have Hhany:=qh hany;clear hany;have HhSi:=qh hSi;clear hSi;clear hcs3 hxr hxl s0;cases b
      ·cases ht:x.1.toNat.testBit s
       all_goals
        rw[ht] at hbit;have Hht:=qh ht;clear ht;go_wp2
        go_quiet (fail)
        go_wp2;go_roundw
        case rel =>refine⟨j+1,_,by go_num,rfl,by omega,?_,HhSi.out.drewN _⟩;rw[Hhany.out,← Hhb.out,Int.toNat_natCast,Hht.out];rfl
        case measure=>simp[intOf];omega
      go_wp2
      go_quiet (fail)
      go_wp2;go_roundw
      case rel =>refine⟨j+1,_,by go_num,rfl,by omega,?_,HhSi.out.drewN _⟩;rw[Hhany.out,← Hhb.out];rfl
      case measure=>simp[intOf];omega
     obtain rfl:j=es.length:=by omega
     rw[List.take_length] at hb;have hen:enS n x=b:=by rw[hb,← Hhne.out];rfl
     have d1:=hSi.cell (v:=.slice a k c) 4 1 rfl rfl;have hSa:=hSi.alloc_ (.cells #[.bool b] 4);have hR:=hSa.row 5 rfl;have htk:(F.take (k+1)).map (enS n)=(F.take k).map (enS n)++[b]:=by rw[List.take_succ_eq_append_getElem hkF,List.map_append,← hen,Hhx.out];simp[hkF]
     have Hhen:=qh hen;clear hen;have Hhb:=qh hb;clear hb;have Hhtk:=qh htk;clear htk;have HhSi:=qh hSi;clear hSi;have HhSa:=qh hSa;clear hSa;have HhR:=qh hR;clear hR;go_wp2_with (at_builtin;refine wpList_append_lies _ rfl _ _ _ rfl _ 4 i0 (.bool false) 1 1 Tryz.underlying42 Hhi.out Hhz0.out Hhz1.out Hhz2.out rfl (by omega) _ k _ rfl HhR.out ⟨wr.heap.size,0,none⟩ 1 1 [.bool b] rfl rfl (World.news_of_block (heap_alloc_new wr _)) Zbb (by omega) (by unfold maxLen;omega) (by omega) HhSa.out.size _ rfl ?_;intro g6 c6 w6 hown6 hgrow6 hat6 hlt6;have HS6:=qh (HhSa.out.app 5 rfl hown6 hgrow6 hat6);have y1:=HS6.out.cell (v:=.slice a k c) 4 1 rfl rfl;have y2:=HS6.out.fr 4 1 rfl;clear hown6 hgrow6 hat6 hlt6);go_roundw
     case rel =>refine⟨k+1,c6,some ⟨g6,0,none⟩,by go_num,by omega,?_⟩;rw[Hhtk.out,Zbs];exact HS6.out.set 4 rfl 1 (.slice (some ⟨g6,0,none⟩) (k+1) c6)
     case measure=>simp[intOf];omega
   obtain rfl:k=l1:=by omega
   have d0:=HhS.out.cell (v:=.slice (some ⟨g2,0,none⟩) l2 c2) 4 0 rfl rfl;have d1:=HhS.out.cell (v:=.slice a k c) 4 1 rfl rfl;have f0:=HhS.out.fr 1 0 rfl;have f1:=HhS.out.fr 1 1 rfl;have k0:=HhS.out.cell (v:=.slice none 0 0) 1 0 rfl rfl;have k1:=HhS.out.cell (v:=.slice none 0 0) 1 1 rfl rfl;go_wp2;have hq:=(HhS.out.set 1 rfl 0 (.slice (some ⟨g2,0,none⟩) l2 c2)).set 1 rfl 1 (.slice a k c);have q0:=hq.cell (v:=.slice (some ⟨g2,0,none⟩) l2 c2) 1 0 rfl rfl;have q1:=hq.cell (v:=.slice a k c) 1 1 rfl rfl;refine bodyPost_ret (v:=.tuple #[.agg #[.slice (some ⟨g2,0,none⟩) l2 c2,.slice a k c],.bool true]) (by simp[results,Tryz.results126,go_sem,q0,q1]) rfl ⟨?_,hq.bel⟩;rw[HRes.out,if_pos hle];refine⟨_,_,_,_,_,_,rfl,_,_,rfl,(hq.intSS 3 rfl).intSS,?_⟩;have hb:=ZaX (hq.row 5 rfl);rw[List.take_of_length_le (by have:=HhlF.out;omega)] at hb;exact hb
 rw[if_neg hle] at hr;have hl40:(l1:Int)>40:=by have:=HhK.out;omega
 have hS1:=hS0.out.call hr.2;have f0:=hS1.fr 1 0 rfl;have f1:=hS1.fr 1 1 rfl;have k0:=hS1.cell (v:=.slice none 0 0) 1 0 rfl rfl;have k1:=hS1.cell (v:=.slice none 0 0) 1 1 rfl rfl;have HhS1:=qh hS1;clear hS1;go_wp2;have hq:=(HhS1.out.set 1 rfl 0 (.slice none 0 0)).set 1 rfl 1 (.slice none 0 0);have q0:=hq.cell (v:=.slice none 0 0) 1 0 rfl rfl;have q1:=hq.cell (v:=.slice none 0 0) 1 1 rfl rfl;refine bodyPost_ret (v:=.tuple #[.agg #[.slice none 0 0,.slice none 0 0],.bool false]) (by simp[results,Tryz.results126,go_sem,q0,q1]) rfl ⟨?_,hq.bel⟩;rw[HRes.out,if_neg hle]
end Go.Proofs.YtncekbbhgipdlaaGreat
namespace Go.Proofs.YtncekbbhgipdlaaGreat
open Go.RowKit Go.Maps
def Zbz:DfaD:=⟨[],[]⟩
theorem Zgi (w:World) (B e size:Nat):w.ownsRow B e size (.slice none 0 0) 0 []:=⟨by simp,Or.inl ⟨rfl,rfl⟩⟩
theorem ZlY (w:World) (B tS tI tB:Nat):DfaO tS tI tB B w.heap.size w (.agg #[.slice none 0 0,.slice none 0 0]) Zbz :=
 ⟨_,_,rfl,⟨[],Zab (Zgi w B tS 1),fun i hi=>absurd hi (by simp[Zbz]),fun i j k _ hj=>absurd hj (by simp[Zbz])⟩,Zab (Zgi w B tB 1)⟩
theorem Zir (a0:Int) (bc bd:Nat) (nx:Int→Nat→Int) (en:Int→Bool) (Q:Int→Prop) (most:Nat) (w:World) (h0:Q a0) (hQ:∀ x c,c<3→Q x→Q (nx x c)) (hfit:∀ x,Q x→fitI x) (hm0:0<most) (hm1:most≤100000) (hroom:(bat nx a0 most).met.length≤most)
  (hN:∀ x c w',Q x→c<3→Below w.heap.size w w'→Calls Tryz.prog 106 #[.int .i64 x,.int .i64 (c:Nat),.pointer (some ⟨bc,0,none⟩),.pointer (some ⟨bd,0,none⟩)] w' fun e w2=>e = .returned (.int .i64 (nx x c))∧Below w'.heap.size w' w2)
  (hE:∀ x w',Q x→Below w.heap.size w w'→Calls Tryz.prog 107 #[.int .i64 x,.pointer (some ⟨bd,0,none⟩)] w' fun e w2=>e = .returned (.bool (en x))∧Below w'.heap.size w' w2) :
  Calls Tryz.prog 105 #[.int .i64 a0,.int .i64 most,.func (.func 106) #[] #[.pointer (some ⟨bc,0,none⟩),.pointer (some ⟨bd,0,none⟩)],.func (.func 107) #[] #[.pointer (some ⟨bd,0,none⟩)]] w
   fun e w'=>∃ a1 c1 a2 c2 a3 c3 vs,e = .returned (.tuple #[.agg #[.slice a1 (bat nx a0 most).met.length c1,.slice a2 (bat nx a0 most).met.length c2],.slice a3 (bat nx a0 most).met.length c3,.bool true]) ∧
    St w w' [Ent.rows 38 3 (.slice a1 (bat nx a0 most).met.length c1) vs (((bat nx a0 most).met.map (Zaf nx (bat nx a0 most).met)).map intCells),Ent.row 4 1 (.slice a2 (bat nx a0 most).met.length c2) (bat nx a0 most).met.length (boolCells ((bat nx a0 most).met.map en)),
     Ent.row 3 1 (.slice a3 (bat nx a0 most).met.length c3) (bat nx a0 most).met.length (intCells (bat nx a0 most).met)]:=by
 have hmm:=@run_makeMap Tryz.prog;obtain⟨l0,hl0⟩:=Tryz.keyOfInt a0 (hfit _ h0);obtain⟨i0,hi,hz0,hz1,hz2⟩:=info_parts Tryz.infoInt;obtain⟨j0,hj,hy0,hy1,hy2⟩:=info_parts Tryz.infoInts;obtain⟨b0,hbi0,hx0,hx1,hx2⟩:=info_parts Tryz.infoBool;have hSa:=(St.start w).alloc _ rfl #[.slice none 0 0,.slice none 0 0] 44;have HM:MapL Tryz.prog 3 ZbO ((w.alloc (.cells #[.slice none 0 0,.slice none 0 0] 44)).alloc (.map #[] 0)) (w.heap.size+1) ([]:List (Int × Value)):=by simpa using MapL.made (P:=Tryz.prog) (kt:=3) (enc:=ZbO) (w.alloc (.cells #[.slice none 0 0,.slice none 0 0] 44))
 have hSb:=hSa.add ((Below.refl _ _).alloc (Nat.le_refl _) (.map #[] 0)) (Ent.map 3 ZbO (w.heap.size+1) ([]:List (Int × Value))) HM fun k hk=>by have hk:k=w.heap.size+1:=hk;subst hk;simp
 obtain⟨w1,hrun,hm1',hg1⟩:=HM.store Tryz.lawInt ZaA Tryz.underlying159 hl0 (.int .i64 0);simp only[ZbO] at hrun;have hSc:=hSb.mapset 1 rfl hm1' hg1;have hSd:=(((((hSc.alloc _ rfl #[.int .i64 a0] 3).boxrow 2 1 1 [.int .i64 a0] rfl rfl (by unfold maxLen;omega)).alloc (w1.heap.size+1) (by simp) #[.slice none 0 0,.slice none 0 0] 44).nilRow 38 1).norows 4 rfl 3).nilRow 4 1;obtain⟨F,hF⟩:=eI ((bat nx a0 most).met);have hbel:∀ k,k≤most→(bat nx a0 k).met.length≤most:=fun k hk=>by have:=(Zfm (nx:=nx) (a:=a0) hk).1.length_le;omega
 rw[← hF] at hroom;rw[← hF];have HN:=qh hN;have HE:=qh hE;have HQ:=qh hQ;have Hfit:=qh hfit;have Hh0:=qh h0;have Hbel:=qh hbel;replace hF:=qh hF;have HhSd:=qh hSd;clear hSd;have Hhl0:=qh hl0;clear hl0;have Hhi:=qh hi;clear hi;have Hhz0:=qh hz0;clear hz0;have Hhz1:=qh hz1;clear hz1;have Hhz2:=qh hz2;clear hz2;have Hhj:=qh hj;clear hj;have Hhy0:=qh hy0;clear hy0;have Hhy1:=qh hy1;clear hy1;have Hhy2:=qh hy2;clear hy2;have Hhbi0:=qh hbi0;clear hbi0;have Hhx0:=qh hx0;clear hx0;have Hhx1:=qh hx1;clear hx1;have Hhx2:=qh hx2;clear hx2;clear hSa hSb hSc HM hm1' hg1 hN hE hQ hfit h0 hbel
 go_enter Tryz.func105, Tryz.ntmps105
 go_wp2;clear hrun hmm
 go_loopw [9,10,12,14] (fun r1 r2 vm i wr=>∃ (k g3 c3:Nat) (a1 a2:Option Addr) (c1 c2:Nat) (vs:List Value),i = .int .i64 k∧vm = .slice (some ⟨g3,0,none⟩) (bat nx a0 k).met.length c3∧k≤(bat nx a0 k).met.length∧k≤most ∧
   St w wr [Ent.box w.heap.size #[.slice none 0 0,.slice none 0 0] 44,Ent.map 3 ZbO (w.heap.size+1) (numbered (bat nx a0 k).met),Ent.row 3 1 (.slice (some ⟨g3,0,none⟩) (bat nx a0 k).met.length c3) (bat nx a0 k).met.length (intCells (bat nx a0 k).met),
    Ent.box (w1.heap.size+1) #[.slice a1 k c1,.slice a2 k c2] 44,Ent.rows 38 3 (.slice a1 k c1) vs ((((bat nx a0 k).met.take k).map (Zaf nx F)).map intCells),Ent.row 4 1 (.slice a2 k c2) k (boolCells (((bat nx a0 k).met.take k).map en))])
  (fun _ _ _ i _=>most+1-(intOf i).toNat)
 case atStart=>exact⟨0,_,_,none,none,0,0,[],rfl,rfl,Nat.zero_le _,Nat.zero_le _,HhSd.out⟩
 case round =>
  obtain⟨k,g3,c3,a1,a2,c1,c2,vs,rfl,rfl,hk,hkm,hS⟩:=hrel;obtain⟨wo,hwo⟩:∃ wo:World,wo=wr:=⟨_,rfl⟩;subst hwo;obtain⟨M,hM⟩:=eI ((bat nx a0 k).met);have hMl:=Hbel.out k hkm;rw[← hM] at hS hk hMl;rw[← hM];by_cases hlt:k<M.length
  ·have hlt2:(k:Int)<M.length:=by omega
   have HF:∀ n,n≤3→(bpart nx a0 k n).met <+: F:=fun n hn=>by rw[hF.out];exact(ZaF (by rw[← hM];exact hlt) hn (by omega)).1
   have HT:∀ n,n≤3→(bpart nx a0 k n).met.length≤most:=fun n hn=>Nat.le_trans (HF n hn).length_le hroom
   obtain⟨x,hxx⟩:=eI (M.getD k a0);have hQx:Q x:=by rw[hxx,hM];exact Zce Hh0.out HQ.out k _ (ZcE (by rw[← hM];exact hlt))
   have Hhxx:=qh hxx;clear hxx;replace HF:=qh HF;have HHT:=qh HT;clear HT;have HhQx:=qh hQx;clear hQx;have HhM:=qh hM;clear hM;have HhS:=qh hS;clear hS;go_wp2_with (at_make;refine wpList_make_full _ rfl _ _ 38 rfl wo.heap.size 3 i0 (.int .i64 0) 1 Tryz.underlying38 Hhi.out Hhz0.out Hhz1.out .i64 .i64 _ _ 3 rfl rfl rfl rfl (by rw[Hhz2.out];omega) (by unfold maxLen;omega) (Nat.le_refl _) ?_;intro w2 hown hgrow;have HS2:=qh (HhS.out.made ((Below.refl _ _).grown hgrow (Nat.le_refl _) (fun _ h=>by cases h)) hown);have hcl:=qh hown.1;clear hown hgrow)
   go_loopw [9,10,12,32] (fun r1 r2 vm i wi=>∃ (n g4 c4:Nat) (cs:List Value),i = .int .i64 n∧vm = .slice (some ⟨g4,0,none⟩) (bpart nx a0 k n).met.length c4∧n≤3∧cs.length=3∧cs.take n=(intCells (Zaf nx F x)).take n ∧
     St w wi [Ent.box w.heap.size #[.slice none 0 0,.slice none 0 0] 44,Ent.map 3 ZbO (w.heap.size+1) (numbered (bpart nx a0 k n).met),Ent.row 3 1 (.slice (some ⟨g4,0,none⟩) (bpart nx a0 k n).met.length c4) (bpart nx a0 k n).met.length (intCells (bpart nx a0 k n).met),
      Ent.box (w1.heap.size+1) #[.slice a1 k c1,.slice a2 k c2] 44,Ent.rows 38 3 (.slice a1 k c1) vs (((M.take k).map (Zaf nx F)).map intCells),Ent.row 4 1 (.slice a2 k c2) k (boolCells ((M.take k).map en)),Ent.row 3 1 (.slice (some ⟨wo.heap.size,0,none⟩) 3 3) 3 cs])
    (fun _ _ _ i _=>3-(intOf i).toNat)
   case atStart =>refine⟨0,g3,c3,(madeCells (Value.int .i64 0).cells (3*1)).toList,rfl,by rw[Zas,← HhM.out],by omega,by simpa using hcl.out,rfl,?_⟩;rw[Zas,← HhM.out];exact HS2.out
   case round =>
    obtain⟨n,g4,c4,cs,rfl,rfl,hn,hcs,htk,hSi⟩:=hrel;have hMS:M <+: (bpart nx a0 k n).met:=by rw[HhM.out,← Zas];exact(ZbS (Nat.zero_le n)).1
    have hSl:M.length≤(bpart nx a0 k n).met.length:=hMS.length_le;by_cases hn3:n<3
    ·have hnd:(bpart nx a0 k n).met.Nodup:=(ZdN (by rw[← HhM.out];exact hlt) hn).1;have hSF:=HF.out n hn;have hSF1:=HF.out (n+1) (by omega);have hT0:=HHT.out n hn;have hT1:=HHT.out (n+1) (by omega);have hold:nx x n∈(bpart nx a0 k n).met→(bpart nx a0 k (n+1)).met=(bpart nx a0 k n).met:=fun h=>by rw[ZbR (by rw[← HhM.out,← Hhxx.out];exact h)]
     have hnew:nx x n ∉ (bpart nx a0 k n).met→(bpart nx a0 k (n+1)).met=(bpart nx a0 k n).met++[nx x n]:=fun h=>by rw[Zbr (by rw[← HhM.out,← Hhxx.out];exact h),← HhM.out,← Hhxx.out]
     have hQy:Q (nx x n):=HQ.out x n hn3 HhQx.out;have hf:=Hfit.out _ hQy;have hNx:=fun w' (h:Below w.heap.size w w')=>HN.out x n w' HhQx.out hn3 h
     have hrowy:(intCells (Zaf nx F x))[n]? = some (.int .i64 (Zai F (nx x n):Int)):=by simp[Zaf,hn3]
     obtain⟨S1,hS1⟩:=eI ((bpart nx a0 k (n+1)).met);obtain⟨S,hSS⟩:=eI ((bpart nx a0 k n).met);obtain⟨y,hy⟩:=eI (nx x n);rw[← hSS] at hSi hMS hSl hnd hold hnew hSF hT0;rw[← hS1] at hold hnew hSF1 hT1;rw[← hy] at hQy hf hNx hold hnew hrowy;rw[← hSS];have hxS:S.getD k a0=x:=by rw[Hhxx.out];exact ZaE hMS hlt _
     have hkS:(k:Int)<S.length:=by omega
     have e1:=hSi.rcell (v:=.int .i64 x) 2 k rfl (by omega) (by rw[← hxS];simp[intCells,show k<S.length by omega]);obtain⟨ly,hly⟩:=Tryz.keyOfInt y hf;have hNx':=qh (hNx _ hSi.bel);have HhSS:=qh hSS;clear hSS;have HhS1:=qh hS1;clear hS1;have Hhy:=qh hy;clear hy;have Hhnd:=qh hnd;clear hnd;have Hhold:=qh hold;clear hold;have Hhnew:=qh hnew;clear hnew;have HhSF:=qh hSF;clear hSF;have HhSF1:=qh hSF1;clear hSF1;have Hhrowy:=qh hrowy;clear hrowy;have Hhcs:=qh hcs;clear hcs;have Hhtk:=qh htk;clear htk;have HhSi:=qh hSi;clear hSi;have HhMS:=qh hMS;clear hMS;have HhQy:=qh hQy;clear hQy;have Hhf:=qh hf;clear hf;have HhxS:=qh hxS;clear hxS;have Hhly:=qh hly;clear hly;clear hNx;go_wp2_with fail;refine hNx'.out.mono ?_;rintro e w3 ⟨rfl,hb3⟩;have hS3:=HhSi.out.call hb3;clear hb3 e1;by_cases hmem:y∈S
     ·have hlk1:=(hS3.map 1 rfl).lookupOk Tryz.lawInt ZaA Tryz.underlying159 (ZfB _) Hhly.out;have hlk2:=(hS3.map 1 rfl).lookup Tryz.lawInt ZaA Tryz.underlying159 (ZfB _) Hhly.out;have hpl:Zai S y=Zai F y:=(Za0 HhSF.out hmem).symm;rw[Zbi Hhnd.out hmem,hpl] at hlk1 hlk2;simp only[w_8,Option.isSome_some,ZbO] at hlk1 hlk2;obtain⟨q,hq⟩:=eI (Zai F y);rw[← hq] at hlk1 hlk2;obtain⟨u0,hu0⟩:=Zc3 (hS3.row 6 rfl) n (by omega);have hfr:=hS3.rfr 6 n rfl;have Hhq:=qh hq;clear hq;have Hhpl:=qh hpl;clear hpl;have HhS3:=qh hS3;clear hS3;have Hhmem:=qh hmem;clear hmem;go_wp2;go_roundw
      case rel =>refine⟨n+1,g4,c4,cs.set n (.int .i64 (q:Int)),by go_num,by rw[← HhS1.out,Hhold.out Hhmem.out],by omega,by simpa using Hhcs.out,ZcY (n:=3) Hhcs.out (by simp[Zaf]) hn3 Hhtk.out (by rw[Hhrowy.out,← Hhq.out]),?_⟩;rw[← HhS1.out,Hhold.out Hhmem.out];exact HhS3.out.store 6 rfl n (.int .i64 (q:Int))
      case measure=>simp[intOf];omega
     have hlk1:=(hS3.map 1 rfl).lookupOk Tryz.lawInt ZaA Tryz.underlying159 (ZfB _) Hhly.out;rw[Zcy hmem] at hlk1;simp only[Option.getD_none,Option.isSome_none,ZbO] at hlk1;have hnw:=Hhnew.out hmem;have hfull:S.length<most:=by rw[hnw] at hT1;simp at hT1;omega
     have hq1:((S.length:Int)==(most:Int))=false:=by simp;omega
     have hq2:¬ (S.length:Int)=(most:Int):=by omega
     obtain⟨w5,hrun5,hm5,hg5⟩:=(hS3.map 1 rfl).store Tryz.lawInt ZaA Tryz.underlying159 Hhly.out (.int .i64 (S.length:Int));rw[ZcI hmem] at hm5;simp only[ZbO] at hrun5;have hS5:=hS3.mapset 1 rfl hm5 hg5;have hSa:=hS5.alloc_ (.cells #[.int .i64 y] 3);have hR:=hSa.row 2 rfl;obtain⟨q,hq⟩:=eI (Zai F y);have hA:∀ w7,MapL Tryz.prog 3 ZbO w7 (w.heap.size+1) (numbered (S++[y]))→(Instr.lookup 159 (.map (some (w.heap.size+1))) (.int .i64 y) false).run Tryz.prog w7 = .ok (.int .i64 (q:Int)) w7:=fun w7 h7=>by have hlk7:=h7.lookup Tryz.lawInt ZaA Tryz.underlying159 (ZfB _) Hhly.out;have hpl:Zai (S++[y]) y=Zai F y:=(Za0 (by rw[← hnw];exact HhSF1.out) (by simp)).symm;rw[Zbi (ZcR Hhnd.out hmem) (by simp),hpl,← hq] at hlk7;exact hlk7
     have hsb:(S.length+1)*8≤140737488355328:=by omega
     have hs63:S.length+1≤maxLen:=by unfold maxLen;omega
     have Hhq:=qh hq;clear hq;have HhA:=qh hA;clear hA;have HhS3:=qh hS3;clear hS3;have HhS5:=qh hS5;clear hS5;have HhSa:=qh hSa;clear hSa;have HhR:=qh hR;clear hR;have Hhm5:=qh hm5;clear hm5;have Hhg5:=qh hg5;clear hg5;have Hhmem:=qh hmem;clear hmem;have Hhnw:=qh hnw;clear hnw;go_wp2_with (at_builtin;refine wpList_append_lies _ rfl _ _ _ rfl _ 3 i0 (.int .i64 0) 1 8 Tryz.underlying38 Hhi.out Hhz0.out Hhz1.out Hhz2.out rfl (by omega) _ S.length _ rfl HhR.out ⟨w5.heap.size,0,none⟩ 1 1 [.int .i64 y] rfl rfl (World.news_of_block (heap_alloc_new w5 _)) ZbB (by omega) hs63 hsb HhSa.out.size _ rfl ?_;intro g7 c7 w7 hown7 hgrow7 hat7 hlt7;have HS7:=qh (HhSa.out.app 2 rfl hown7 hgrow7 hat7);have hlk7:=HhA.out w7 (HS7.out.map 1 rfl);obtain⟨u0,hu0⟩:=Zc3 (HS7.out.row 6 rfl) n (by omega);have hfr7:=HS7.out.rfr 6 n rfl;clear hown7 hgrow7 hat7);go_roundw
     case rel =>refine⟨n+1,g7,c7,cs.set n (.int .i64 (q:Int)),by go_num,by rw[← HhS1.out,Hhnw.out,List.length_append];rfl,by omega,by simpa using Hhcs.out,ZcY (n:=3) Hhcs.out (by simp[Zaf]) hn3 Hhtk.out (by rw[Hhrowy.out,← Hhq.out]),?_⟩;rw[← HhS1.out,Hhnw.out,List.length_append,Zav];exact HS7.out.store 6 rfl n (.int .i64 (q:Int))
     case measure=>simp[intOf];omega
    obtain rfl:n=3:=by omega
    have hbs:(bat nx a0 (k+1)).met=(bpart nx a0 k 3).met:=congrArg Bs.met (ZaP (by rw[← HhM.out];exact hlt));have hxS:(bpart nx a0 k 3).met.getD k a0=x:=by rw[Hhxx.out];exact ZaE hMS hlt _
    have htake:(bpart nx a0 k 3).met.take (k+1)=M.take k++[x]:=by obtain⟨t,ht⟩:=hMS;rw[← ht,List.take_append_of_le_length (by omega),List.take_succ_eq_append_getElem hlt,Hhxx.out];simp[hlt]
    obtain⟨S,hSS⟩:=eI ((bpart nx a0 k 3).met);rw[← hSS] at hSi hxS htake hSl hbs;rw[← hSS];have hkS:k<S.length:=by omega
    have hkSI:(k:Int)<S.length:=by omega
    have hce:cs=intCells (Zaf nx F x):=by rwa [List.take_of_length_le (by omega),List.take_of_length_le (by simp[Zaf])] at htk
    subst hce;have hlm:(((M.take k).map (Zaf nx F)).map intCells).length=k:=by rw[Zcj,List.length_take];omega
    have hSa:=hSi.alloc_ (.cells #[.slice (some ⟨wo.heap.size,0,none⟩) 3 3] 38);have hRw:=(hSa.rows 4 rfl).1;rw[hlm] at hRw;have e0:=hSi.cell (v:=.slice a1 k c1) 3 0 rfl rfl;have hsx:(intCells S)[k]? = some (.int .i64 x):=by rw[← hxS];simp[intCells,hkS]
    have htk1:(S.take (k+1)).map (Zaf nx F)=(M.take k).map (Zaf nx F)++[Zaf nx F x]:=by rw[htake,List.map_append];rfl
    have htk2:(S.take (k+1)).map en=(M.take k).map en++[en x]:=by rw[htake,List.map_append];rfl
    have hEn:=fun w' (h:Below w.heap.size w w')=>HE.out x w' HhQx.out h
    obtain⟨r,hr⟩:=eI (en x);rw[← hr] at hEn htk2;have HEn:=qh hEn;have Hhlm:=qh hlm;clear hlm;have HhSi:=qh hSi;clear hSi;have HhSa:=qh hSa;clear hSa;have HhRw:=qh hRw;clear hRw;have Hhbs:=qh hbs;clear hbs;have HhSS:=qh hSS;clear hSS;have Hhtake:=qh htake;clear htake;have Hhsx:=qh hsx;clear hsx;have HhxS:=qh hxS;clear hxS;have Hhtk1:=qh htk1;clear htk1;have Hhtk2:=qh htk2;clear htk2;have HhMS:=qh hMS;clear hMS;have Hhcs:=qh hcs;clear hcs;have Hhtk:=qh htk;clear htk;have Hhr:=qh hr;clear hr;clear hEn;go_wp2_with (at_builtin;refine wpList_append_lies _ rfl _ _ _ rfl _ 38 j0 (.slice none 0 0) 1 24 Tryz.underlying41 Hhj.out Hhy0.out Hhy1.out Hhy2.out rfl (by omega) _ k _ rfl HhRw.out ⟨wr.heap.size,0,none⟩ 1 1 [.slice (some ⟨wo.heap.size,0,none⟩) 3 3] rfl rfl (World.news_of_block (heap_alloc_new wr _)) Zcw (by omega) (by unfold maxLen;omega) (by omega) HhSa.out.size _ rfl ?_;intro g6 c6 w6 hown6 hgrow6 hat6 hlt6;have HS6:=qh (HhSa.out.snoc 4 6 (by decide) rfl rfl (by decide) hgrow6 (by rw[Hhlm.out];exact hown6) (Zfh hat6));have y1:=HS6.out.cell (v:=.slice a1 k c1) 3 0 rfl rfl;have y2:=HS6.out.fr 3 0 rfl;clear hown6 hgrow6 hat6 hlt6);have hSq:=(HS6.out.set 3 rfl 0 (.slice (some ⟨g6,0,none⟩) (k+1) c6)).pick [0,1,2,3,4,5] (by decide);obtain⟨wq,hwq⟩:=eI (w6.setCell ⟨w1.heap.size+1,0,none⟩ (.slice (some ⟨g6,0,none⟩) (k+1) c6));rw[← hwq] at hSq
    have hSq':St w wq [Ent.box w.heap.size #[.slice none 0 0,.slice none 0 0] 44,Ent.map 3 ZbO (w.heap.size+1) (numbered S),Ent.row 3 1 (.slice (some ⟨g4,0,none⟩) S.length c4) S.length (intCells S),
      Ent.box (w1.heap.size+1) #[.slice (some ⟨g6,0,none⟩) (k+1) c6,.slice a2 k c2] 44,
      Ent.rows 38 3 (.slice (some ⟨g6,0,none⟩) (k+1) c6) (vs++[.slice (some ⟨wo.heap.size,0,none⟩) 3 3]) (((S.take (k+1)).map (Zaf nx F)).map intCells),Ent.row 4 1 (.slice a2 k c2) k (boolCells ((M.take k).map en))]:=by
     rw[Hhtk1.out,List.map_append];exact hSq
    rw[← hwq];have HSq:=qh hSq';have Hhwq:=qh hwq;clear hwq;clear hSq hSq' y1 y2 e0 HS6;refine wp_region_any (by kernel_rfl) ?_
    refine Zar (fun A listed a w'=>∃ (l0 l1 l2 l3 l4 l5 l6 l7 l8 l9 l10 l11:Bool) (g7:Nat) (c7:Nat) (bn:Nat),listed=#[l0,l1,l2,l3,l4,l5,l6,l7,l8,l9,l10,l11]∧(l9=true→l1=true∧l8=true)∧(l11=true→l9=true∧l1=true) ∧
      a=⟨(((((((((((A.tmps.setIfInBounds 76 (if l0=true then .pointer (some ⟨w1.heap.size+1,1,none⟩) else A.tmps.getD 76 undef)).setIfInBounds 77 (if l1=true then .slice a2 k c2 else A.tmps.getD 77 undef)).setIfInBounds 78 (if l2=true then .func (.func 107) #[] #[.pointer (some ⟨bd,0,none⟩)] else A.tmps.getD 78 undef)).setIfInBounds 79 (if l3=true then .slice (some ⟨g4,0,none⟩) S.length c4 else A.tmps.getD 79 undef)).setIfInBounds 80 (if l4=true then .int .i64 (k:Int) else A.tmps.getD 80 undef)).setIfInBounds 81 (if l5=true then .pointer (some ⟨g4,k,none⟩) else A.tmps.getD 81 undef)).setIfInBounds 82 (if l6=true then .int .i64 x else A.tmps.getD 82 undef)).setIfInBounds 83 (if l7=true then .bool r else A.tmps.getD 83 undef)).setIfInBounds 84 (if l8=true then .slice (some ⟨bn,0,none⟩) 1 1 else A.tmps.getD 84 undef)).setIfInBounds 85 (if l9=true then .slice (some ⟨g7,0,none⟩) (k+1) c7 else A.tmps.getD 85 undef)).setIfInBounds 86 (if l10=true then .pointer (some ⟨w1.heap.size+1,1,none⟩) else A.tmps.getD 86 undef)),A.defers⟩ ∧
      St w w' [Ent.box w.heap.size #[.slice none 0 0,.slice none 0 0] 44,Ent.map 3 ZbO (w.heap.size+1) (numbered S),Ent.row 3 1 (.slice (some ⟨g4,0,none⟩) S.length c4) S.length (intCells S),Ent.box (w1.heap.size+1) #[.slice (some ⟨g6,0,none⟩) (k+1) c6,(if l11=true then .slice (some ⟨g7,0,none⟩) (k+1) c7 else .slice a2 k c2)] 44,Ent.rows 38 3 (.slice (some ⟨g6,0,none⟩) (k+1) c6) (vs++[.slice (some ⟨wo.heap.size,0,none⟩) 3 3]) (((S.take (k+1)).map (Zaf nx F)).map intCells),(if l9=true then Ent.row 4 1 (.slice (some ⟨g7,0,none⟩) (k+1) c7) (k+1) ((boolCells ((M.take k).map en))++[.bool r]) else Ent.row 4 1 (.slice a2 k c2) k (boolCells ((M.take k).map en))),(if l8=true then Ent.box bn #[.bool r] 4 else Ent.nil)]) ?_ ?_ ?_
    ·rintro listed a w' ⟨l0,l1,l2,l3,l4,l5,l6,l7,l8,l9,l10,l11,g7,c7,bn,rfl,hd9,hd11,rfl,hS⟩ i hi;obtain⟨hun,o,ho,hall⟩:=mem_ready.1 hi;have hlt:=(Array.getElem?_eq_some_iff.1 ho).1;refine wpOp_step ho (fun K hK => ?_);clear hi;have HS:=qh hS;clear hS;simp only[w_1,w_2,w_3,w_4,w_5,w_6,w_7,w_8];obtain h|h|h|h|h|h|h|h|h|h|h|h:i=0∨i=1∨i=2∨i=3∨i=4∨i=5∨i=6∨i=7∨i=8∨i=9∨i=10∨i=11:=by simp at hlt;omega
     all_goals subst h
     all_goals simp only[w_5,w_6,w_7,w_9] at ho
     all_goals subst ho
     all_goals simp[Region.binds] at hun hall
     ·subst hun;go_simp;exact hK _ _ ⟨_,_,_,_,_,_,_,_,_,_,_,_,g7,c7,bn,rfl,hd9,hd11,(by simp),HS.out⟩
     ·obtain rfl:=hall;subst hun;obtain rfl:l9=false:=offL hd9 rfl;obtain rfl:l11=false:=offL hd11 rfl;have e0:=HS.out.cell (v:=.slice a2 k c2) 3 1 rfl rfl;go_simp;exact hK _ _ ⟨_,_,_,_,_,_,_,_,_,_,_,_,g7,c7,bn,rfl,by simp,by simp,(by simp),HS.out⟩
     ·subst hun;go_simp;exact hK _ _ ⟨_,_,_,_,_,_,_,_,_,_,_,_,g7,c7,bn,rfl,hd9,hd11,(by simp),HS.out⟩
     ·subst hun;go_simp;exact hK _ _ ⟨_,_,_,_,_,_,_,_,_,_,_,_,g7,c7,bn,rfl,hd9,hd11,(by simp),HS.out⟩
     ·subst hun;go_simp;exact hK _ _ ⟨_,_,_,_,_,_,_,_,_,_,_,_,g7,c7,bn,rfl,hd9,hd11,(by simp),HS.out⟩
     ·obtain⟨rfl,rfl⟩:=hall;subst hun;go_simp;exact hK _ _ ⟨_,_,_,_,_,_,_,_,_,_,_,_,g7,c7,bn,rfl,hd9,hd11,(by simp),HS.out⟩
     ·obtain rfl:=hall;subst hun;have e0:=HS.out.rcell (v:=.int .i64 x) 2 k rfl (by omega) Hhsx.out;go_simp;exact hK _ _ ⟨_,_,_,_,_,_,_,_,_,_,_,_,g7,c7,bn,rfl,hd9,hd11,(by simp),HS.out⟩
     ·obtain⟨rfl,rfl⟩:=hall;subst hun;go_simp
      go_at_call 107
      refine(HEn.out _ HS.out.bel).mono ?_;rintro e u1 ⟨rfl,hbx⟩;have hS2:=HS.out.call hbx;have HhS2:=qh hS2;clear hS2;go_simp;exact hK _ _ ⟨_,_,_,_,_,_,_,_,_,_,_,_,g7,c7,bn,rfl,hd9,hd11,(by simp),HhS2.out⟩
     ·obtain rfl:=hall;subst hun;obtain rfl:l9=false:=offR hd9 rfl;obtain rfl:l11=false:=offL hd11 rfl;have hS2:=(HS.out.alloc _ rfl #[.bool r] 4).pick [0,1,2,3,4,5,7] (by decide);have HhS2:=qh hS2;clear hS2;go_simp;exact hK _ _ ⟨_,_,_,_,_,_,_,_,_,_,_,_,g7,c7,_,rfl,by simp,by simp,(by simp),HhS2.out⟩
     ·obtain⟨rfl,rfl,rfl⟩:=hall;subst hun;obtain rfl:l11=false:=offL hd11 rfl;refine step_append_lies (a:=⟨_,_⟩) _ (by rfl) _ _ _ (by rfl) w.heap.size 4 b0 (.bool false) 1 1 Tryz.underlying42 Hhbi0.out Hhx0.out Hhx1.out Hhx2.out (by rfl) (by omega) (.slice a2 k c2) k (boolCells ((M.take k).map en)) (by rfl) (HS.out.row 5 rfl) ⟨bn,0,none⟩ 1 1 [.bool r] (by rfl) (by rfl) (World.news_of_block (HS.out.box 6 rfl)) Zbb (by omega) (by unfold maxLen;omega) (by omega) HS.out.size _ rfl ?_;intro g8 c8 w8 hown8 hgrow8 hat8 hlt8;have HS8:=qh (HS.out.app 5 rfl hown8 hgrow8 hat8);clear hown8 hgrow8 hat8;go_simp;exact hK _ _ ⟨_,_,_,_,_,_,_,_,_,_,_,_,g8,c8,bn,rfl,by simp,by simp,(by simp),HS8.out⟩
     ·obtain⟨rfl,rfl,rfl,rfl,rfl,rfl,rfl,rfl,rfl,rfl⟩:=hall;subst hun;go_simp;exact hK _ _ ⟨_,_,_,_,_,_,_,_,_,_,_,_,g7,c7,bn,rfl,by simp,hd11,(by simp only[↓reduceIte,w_1,w_2,w_3]),HS.out⟩
     obtain⟨rfl,rfl,rfl,rfl,rfl,rfl,rfl,rfl,rfl,rfl,rfl,-⟩:=hall;subst hun;have f0:=HS.out.fr 3 1 rfl;have k0:=HS.out.cell (v:=.slice a2 k c2) 3 1 rfl rfl;go_simp;exact hK _ _ ⟨_,_,_,_,_,_,_,_,_,_,_,_,g7,c7,bn,rfl,by simp,by simp,(by simp only[↓reduceIte,w_1,w_2,w_3]),(HS.out.set 3 rfl 1 (.slice (some ⟨g7,0,none⟩) (k+1) c7))⟩
    ·rintro listed a w' ⟨l0,l1,l2,l3,l4,l5,l6,l7,l8,l9,l10,l11,g7,c7,bn,rfl,hd9,hd11,rfl,hS⟩ hr;obtain⟨rfl,rfl,rfl,rfl,rfl,rfl,rfl,rfl,rfl,rfl,rfl,rfl,-⟩:=zA (Zbo (by kernel_rfl) rfl hr) rfl;clear hr hd9 hd11;simp only[↓reduceIte] at hS ⊢;simp only[w_1,w_2,w_3];have hS9:=hS.pick [0,1,2,3,4,5] (by decide);have HhS9:=qh hS9;clear hS9;clear hS;go_wp2;go_roundw
     case rel =>refine⟨k+1,g4,c4,some ⟨g6,0,none⟩,some ⟨g7,0,none⟩,c6,c7,vs++[.slice (some ⟨wo.heap.size,0,none⟩) 3 3],by go_num,by rw[Hhbs.out],by rw[Hhbs.out];omega,by omega,?_⟩;rw[Hhbs.out,Hhtk2.out,Zbs];exact HhS9.out
     case measure=>simp[intOf];omega
    refine⟨false,false,false,false,false,false,false,false,false,false,false,false,0,0,0,rfl,by simp,by simp,(by simp),?_⟩;exact HSq.out.drew.pick [0,1,2,3,4,5,6] (by decide)
  have hMF:M=F:=by rw[hF.out,hM];exact(congrArg Bs.met (ZbT (by rw[← hM];omega) (by omega))).symm
  obtain rfl:k=M.length:=by omega
  subst hMF;rw[List.take_length] at hS;have d0:=hS.cell (v:=.slice a1 M.length c1) 3 0 rfl rfl;have d1:=hS.cell (v:=.slice a2 M.length c2) 3 1 rfl rfl;have f0:=hS.fr 0 0 rfl;have f1:=hS.fr 0 1 rfl;have k0:=hS.cell (v:=.slice none 0 0) 0 0 rfl rfl;have k1:=hS.cell (v:=.slice none 0 0) 0 1 rfl rfl;have HhS:=qh hS;clear hS;have HhM:=qh hM;clear hM;clear hk hMl;go_wp2;have hq:=(HhS.out.set 0 rfl 0 (.slice a1 M.length c1)).set 0 rfl 1 (.slice a2 M.length c2);have q0:=hq.cell (v:=.slice a1 M.length c1) 0 0 rfl rfl;have q1:=hq.cell (v:=.slice a2 M.length c2) 0 1 rfl rfl;refine bodyPost_ret (v:=.tuple #[.agg #[.slice a1 M.length c1,.slice a2 M.length c2],.slice (some ⟨g3,0,none⟩) M.length c3,.bool true]) (by simp[results,Tryz.results105,go_sem,q0,q1]) rfl ?_;exact⟨a1,c1,a2,c2,_,c3,vs,rfl,hq.pick [4,5,2] (by decide)⟩
end Go.Proofs.YtncekbbhgipdlaaGreat
