/-
  The walk over the reference's list of sets of states that are met: l9Subsets.
  Conditions: there are m states, at most 40; moves, first and last states lie below; the automaton reads as such.
-/
import Derived.Test.YtfanhfcamblghaaPv03KeysS
import Derived.Test.YtfanhfcamblghaaPv05Det
set_option maxHeartbeats 8000000
set_option maxRecDepth 100000
namespace Go.Proofs.Ytfanhfcamblghaa
open Go.RowKit Go.Maps
theorem Try.infoBools:(Try.prog.info? 43).map (fun i=>(i.zero,i.size,i.bytes))=some (some (.slice none 0 0),1,24):=by kernel_rfl
def flc (m:Nat) (x:Int × Int):List Bool:=flags m x.1.toNat
def isM (m:Nat) (x:Int × Int):Prop:=∃ v:Nat,v<2 ^ m∧x=((v:Int),0)
theorem ZfD (m:Nat) (x:Int × Int):(flc m x).length=m:=Zes _ _
theorem Zjv {m:Nat} {x y:Int × Int} (hx:isM m x) (hy:isM m y) (h:flc m x=flc m y):x=y:=by obtain⟨v,hv,rfl⟩:=hx;obtain⟨u,hu,rfl⟩:=hy;have:v=u:=Zjw hv hu (by simpa [flc] using h);rw[this]
theorem Zjy {m:Nat} {S:List (Int × Int)} {x:Int × Int} (hS:∀ y∈S,isM m y) (hx:isM m x):ZfF (S.map (flc m)) (flc m x)=if x∈S then(Zad S x:Int) else -1:=by
 have hmem:flc m x∈S.map (flc m)↔x∈S:=by
  constructor
  ·intro h;obtain⟨y,hy,e⟩:=List.mem_map.1 h;rw[← Zjv (hS y hy) hx e];exact hy
  exact fun h=>List.mem_map.2 ⟨x,h,rfl⟩
 by_cases h:x∈S
 ·rw[if_pos h];have hk:=ZaP h;refine ZhI (by simpa using hk) ?_ ?_
  ·rw[← List.map_take];intro hc;obtain⟨y,hy,e⟩:=List.mem_map.1 hc;have hyx:=Zjv (hS y (List.mem_of_mem_take hy)) hx e;subst hyx;have hp:=ZaU (List.take_prefix (Zad S y) S) hy;have:=ZaP hy;rw[List.length_take] at this;omega
  have:=ZfB h x;simp only[List.getD_eq_getElem?_getD,List.getElem?_map];rw[List.getElem?_eq_getElem hk];simp only[Option.map_some,w_8];congr 1;simpa [hk] using this
 rw[if_neg h];exact Ze8 fun hc=>h (hmem.1 hc)
def nxSM (M:Nat) (n:NfaD) (x:Int × Int) (c:Nat):Int × Int:=((stV M n.moves x.1.toNat (c:Int):Nat),0)
def Zjt (M:Nat) (n:NfaD):Nat:=clV M n.moves (setV n.firsts)
abbrev metSM (M:Nat) (n:NfaD) (K:Nat):List (Int × Int):=(bat (nxSM M n) (((Zjt M n:Nat):Int),0) K).met
theorem Zi5 {M:Nat} {n:NfaD} {m:Nat} (hmv:mvIn m n.moves) (x:Int × Int) (c:Nat):isM m (nxSM M n x c) :=
 ⟨_,ZfL hmv (Zcs _ (fun v=>v<2 ^ m) (fun _ _ hm hv=>Zf1 hmv hm hv) (Nat.two_pow_pos m)) M,rfl⟩
theorem Zld {M:Nat} {n:NfaD} {m:Nat} (hmv:mvIn m n.moves) (hf:inN m n.firsts):isM m (((Zjt M n:Nat):Int),0):=⟨_,ZfL hmv (ZiI hf) M,rfl⟩
def Zll (M:Nat) (n:NfaD) (m K:Nat) (w:World) (e:Ending) (w':World):Prop :=
 ∃ a1 c1 a2 c2 l1 l2,e = .returned (.tuple #[.slice a1 l1 c1,.slice a2 l2 c2])∧l1<1000000 ∧
  (if (metSM M n K).length≤K then l1=(metSM M n K).length∧∃ vs1 vs2,St w w' [Ent.rows 43 4 (.slice a1 l1 c1) vs1 (((metSM M n K).map (flc m)).map boolCells),Ent.rows 26 3 (.slice a2 l2 c2) vs2 (((metSM M n K).map (Zab (nxSM M n) (metSM M n K))).map intCells)]
   else K<l1∧Below w.heap.size w w')
theorem ZhT {α:Type} [DecidableEq α] (nx:α→Nat→α) (x:α) (wd:List Nat) (s:Bs α):∀ n,(brow nx x wd s n).met.length≤s.met.length+n
 | 0=>Nat.le_refl _
 | n+1=>by
  have ih:=ZhT nx x wd s n;show(bvisit nx x wd (brow nx x wd s n) n).met.length≤_;unfold bvisit
  split
  ·omega
  simp;omega
theorem Zb3 {α:Type} [DecidableEq α] (nx:α→Nat→α) (a:α) (k n:Nat):(bpart nx a k n).met.length≤(bat nx a k).met.length+n:=ZhT _ _ _ _ _
theorem ZaZ {α β γ:Type} (f:α→β) (g:β→γ) (l:List α):((l.map f).map g).length=l.length:=by simp
theorem ZcT {nx:Int × Int→Nat→Int × Int} {F:List (Int × Int)} {x:Int × Int} {n:Nat} (hn:n<3):(Zab nx F x).take (n+1)=(Zab nx F x).take n++[(Zad F (nx x n):Int)]:=by rw[List.take_succ_eq_append_getElem (by simp[Zab];omega)];simp[Zab]
theorem ZaM {a:Option Addr} {l c:Nat}:∀ u∈[Value.slice a l c],u.oneCell'=true:=by intro u hu;simp only[List.mem_singleton] at hu;subst hu;rfl
theorem ZeC (M:Nat) (hM:M≤1000) (m K:Nat) (mvs:List (Int × Int × Int)) (fs es:List Int) (v1 v2 v3:Value) (w:World) (hm:m≤M) (hK0:0<K) (hK1:K≤1000) (hmv:mvIn m mvs) (hml:mvs.length≤1000000) (hf:inN m fs) (hfl:fs.length≤1000000) (h1:Moves 0 w v1 mvs) (h2:Ints 0 w v2 fs) :
  Calls Try.prog 162 #[.agg #[.int .i64 (m:Int),v1,v2,v3],.int .i64 (K:Nat)] w fun e w'=>Zll M ⟨(m:Int),mvs,fs,es⟩ m K w e w':=by
 obtain⟨n,hn⟩:∃ n:NfaD,n=⟨(m:Int),mvs,fs,es⟩:=⟨_,rfl⟩;rw[← hn];have hnm:n.moves=mvs:=by rw[hn]
 have hnf:n.firsts=fs:=by rw[hn]
 obtain⟨W,hW⟩:=eI (w.alloc (.cells #[.int .i64 (m:Int),v1,v2,v3] 28));have hS0:St w W [Ent.box w.heap.size #[.int .i64 (m:Int),v1,v2,v3] 28]:=by rw[hW];exact(St.start w).alloc _ rfl _ _
 have c0:=hS0.cell (v:=.int .i64 (m:Int)) 0 0 rfl rfl;have c1:=hS0.cell (v:=v1) 0 1 rfl rfl;have c2:=hS0.cell (v:=v2) 0 2 rfl rfl;have c3:=hS0.cell (v:=v3) 0 3 rfl rfl;have hl0:=(hS0.boxlt 0 rfl).2;have Hk:=qh (fun (w':World) (h:Below W.drew.heap.size W.drew w')=>(show w'.cell? ⟨w.heap.size,0,none⟩=some (.int .i64 (m:Int))∧w'.cell? ⟨w.heap.size,1,none⟩=some v1∧w'.cell? ⟨w.heap.size,2,none⟩=some v2∧w'.cell? ⟨w.heap.size,3,none⟩=some v3 from⟨(bcell h _ _ hl0).trans c0,(bcell h _ _ hl0).trans c1,(bcell h _ _ hl0).trans c2,(bcell h _ _ hl0).trans c3⟩));have H1:=qh (h1.below hS0.bel.drew);have H2:=qh (h2.below hS0.bel.drew);have hfst:clV M mvs (setV fs)=Zjt M n:=by rw[hn];rfl
 obtain⟨i0,hi,hz0,hz1,hz2⟩:=info_parts Try.infoInt;obtain⟨j0,hj,hy0,hy1,hy2⟩:=info_parts Try.infoInts;obtain⟨k0,hk,hx0,hx1,hx2⟩:=info_parts Try.infoBools;have HG1:=qh h1;replace hn:=qh hn;have Hhnm:=qh hnm;clear hnm;have Hhnf:=qh hnf;clear hnf;replace hS0:=qh hS0;have Hhmv:=qh hmv;clear hmv;have Hhml:=qh hml;clear hml;have Hhf:=qh hf;clear hf;have Hhfl:=qh hfl;clear hfl;have Hhfst:=qh hfst;clear hfst;have Hhi:=qh hi;clear hi;have Hhz0:=qh hz0;clear hz0;have Hhz1:=qh hz1;clear hz1;have Hhz2:=qh hz2;clear hz2;have Hhj:=qh hj;clear hj;have Hhy0:=qh hy0;clear hy0;have Hhy1:=qh hy1;clear hy1;have Hhy2:=qh hy2;clear hy2;have Hhk:=qh hk;clear hk;have Hhx0:=qh hx0;clear hx0;have Hhx1:=qh hx1;clear hx1;have Hhx2:=qh hx2;clear hx2;have HW:=qh hW;clear hW h1 h2
 go_enter Try.func162, Try.ntmps162
 go_wp2_with fail;rw[← HW.out]
 go_region_held3 (fun w'=>w'.cell? ⟨w.heap.size,0,none⟩=some (.int .i64 (m:Int))∧w'.cell? ⟨w.heap.size,1,none⟩=some v1∧w'.cell? ⟨w.heap.size,2,none⟩=some v2∧w'.cell? ⟨w.heap.size,3,none⟩=some v3)
  (first|go_keep|exact Hk.out _ hq0|exact Hk.out _ hq1)
  (first
   | (go_at_call 164;(with_reducible refine(Zgm fs m _ _ (by omega) Hhf.out Hhfl.out H2.out).mono ?_);rintro e u0 ⟨⟨g0,d0,rfl,hr0⟩,hq0⟩)
   | (go_at_call 163;(with_reducible refine(ZdH M hM ⟨(m:Int),mvs,fs,es⟩ m (setV fs) v1 v2 v3 _ _ hm Hhmv.out Hhml.out (ZiI Hhf.out) (H1.out.below hq0) (FlagsAt.of hr0)).mono ?_);rintro e u1 ⟨⟨g1,d1,rfl,hr1⟩,hb1⟩;have hq1:=hq0.trans (hb1.mono hq0.size)))
 have hS1:=((hS0.out.drew).call hq0).made hb1 hr1;have hS2:=((hS1.alloc _ rfl #[.slice (some ⟨g1,0,none⟩) m d1] 43).boxrow 2 1 1 [.slice (some ⟨g1,0,none⟩) m d1] rfl rfl (by unfold maxLen;omega)).onerow 2 1 (by decide) rfl rfl;have hS3:=(((hS2.pick [0,2] (by decide)).alloc (u1.heap.size+1) (by simp) #[] 26).boxrow 2 0 1 [] rfl rfl (Nat.zero_le _)).norows 2 rfl 3;have HhS3:=qh hS3;clear hS3;clear hS1 hS2 hq0 hq1 hb1 hr0 hr1 c0 c1 c2 c3 hl0;obtain⟨F,hF⟩:=eI (metSM M n K);obtain⟨a0,ha0⟩:=eI (((((Zjt M n:Nat):Int),0):Int × Int));have hFa:F=(bat (nxSM M n) a0 K).met:=by rw[hF,ha0]
 have Hin:=qh (fun k=>Zbu (nx:=nxSM M n) (a:=a0) (Q:=isM m) (by rw[ha0];exact Zld (by rw[Hhnm.out];exact Hhmv.out) (by rw[Hhnf.out];exact Hhf.out)) (fun x c _ _=>Zi5 (by rw[Hhnm.out];exact Hhmv.out) x c) k);have hFa':F=(bat (nxSM M n) a0 K).met:=hFa;replace hF:=qh hF;have HhFa:=qh hFa;clear hFa;have HhFa':=qh hFa';clear hFa';have Hha0:=qh ha0;clear ha0;go_wp2
 go_loopw [6,7,8] (fun vs vn i wr=>∃ (k:Nat) (b1 cap1 b2 cap2:Nat) (vs1 vs2:List Value),i = .int .i64 k∧vs = .slice (some ⟨b1,0,none⟩) (bat (nxSM M n) a0 k).met.length cap1∧vn = .slice (some ⟨b2,0,none⟩) k cap2∧k≤(bat (nxSM M n) a0 k).met.length∧k≤K∧(bat (nxSM M n) a0 k).met.length≤K+3 ∧
   St w wr [Ent.box w.heap.size #[.int .i64 (m:Int),v1,v2,v3] 28,Ent.rows 43 4 (.slice (some ⟨b1,0,none⟩) (bat (nxSM M n) a0 k).met.length cap1) vs1 (((bat (nxSM M n) a0 k).met.map (flc m)).map boolCells),
    Ent.rows 26 3 (.slice (some ⟨b2,0,none⟩) k cap2) vs2 ((((bat (nxSM M n) a0 k).met.take k).map (Zab (nxSM M n) F)).map intCells)])
  (fun _ _ i _=>K-(intOf i).toNat)
 case atStart =>
  refine⟨0,_,_,_,_,[.slice (some ⟨g1,0,none⟩) m d1],[],rfl,rfl,rfl,by simp,by omega,by simp[bat],?_⟩;have e1:((bat (nxSM M n) a0 0).met.map (flc m)).map boolCells=[boolCells (flags m (clV M mvs (setV fs)))]:=by simp[bat,Hha0.out,flc,Hhfst.out]
  rw[e1];exact HhS3.out
 case round =>
  obtain⟨k,b1,cap1,b2,cap2,vs1,vs2,rfl,rfl,rfl,hk,hkK,hML,hS⟩:=hrel;obtain⟨S,hSS⟩:=eI (bat (nxSM M n) a0 k);have hR:=Hin.out k;rw[← hSS] at hk hML hS hR;rw[← hSS];obtain⟨wo,hwo⟩:∃ wo:World,wo=wr:=⟨_,rfl⟩;subst hwo;have HhS:=qh hS;clear hS;have HhSS:=qh hSS;clear hSS;have HhR:=qh hR;clear hR;by_cases hlt:k<S.met.length
  ·by_cases hle:S.met.length≤K
   ·have hlt2:(k:Int)<S.met.length:=by omega
    have hle2:(S.met.length:Int)≤K:=by omega
    have hSe:=(HhS.out.alloc _ rfl #[] 3).boxrow 3 0 1 [] rfl rfl (Nat.zero_le _);obtain⟨x,hx⟩:=eI (S.met.getD k a0);have hxM:isM m x:=by rw[hx];exact HhR.out _ (memD hlt)
    have hkS:k<(bat (nxSM M n) a0 k).met.length:=by rw[← HhSS.out];exact hlt
    have hxb:(bat (nxSM M n) a0 k).met.getD k a0=x:=by rw[← HhSS.out];exact hx.symm
    have HhSe:=qh hSe;clear hSe;have Hhx:=qh hx;clear hx;have HhxM:=qh hxM;clear hxM;have HhkS:=qh hkS;clear hkS;have Hhxb:=qh hxb;clear hxb;go_wp2
    go_loopw [6,9,10] (fun vs rv i wi=>∃ (c:Nat) (b1 cap1 b3 cap3:Nat) (vs1:List Value),i = .int .i64 c∧vs = .slice (some ⟨b1,0,none⟩) (bpart (nxSM M n) a0 k c).met.length cap1∧rv = .slice (some ⟨b3,0,none⟩) c cap3∧c≤3 ∧
      St w wi [Ent.box w.heap.size #[.int .i64 (m:Int),v1,v2,v3] 28,Ent.rows 43 4 (.slice (some ⟨b1,0,none⟩) (bpart (nxSM M n) a0 k c).met.length cap1) vs1 (((bpart (nxSM M n) a0 k c).met.map (flc m)).map boolCells),
       Ent.rows 26 3 (.slice (some ⟨b2,0,none⟩) k cap2) vs2 (((S.met.take k).map (Zab (nxSM M n) F)).map intCells),Ent.row 3 1 (.slice (some ⟨b3,0,none⟩) c cap3) c (intCells ((Zab (nxSM M n) F x).take c))])
     (fun _ _ i _=>3-(intOf i).toNat)
    case atStart =>refine⟨0,b1,cap1,_,_,vs1,rfl,by rw[Zao,← HhSS.out],rfl,by omega,?_⟩;rw[Zao,← HhSS.out];exact HhSe.out
    case round =>
     obtain⟨c,b1,cap1,b3,cap3,vs1,rfl,rfl,rfl,hc3,hSi⟩:=hrel;obtain⟨wp,hwp⟩:∃ wp:World,wp=wr:=⟨_,rfl⟩;subst hwp;by_cases hc:c<3
     ·have hTl:=Zb3 (nxSM M n) a0 k c;have hTall:=ZjK (nx:=nxSM M n) (a:=a0) (Q:=isM m) (by have:=Hin.out 0;exact this a0 (by simp[bat])) (fun x c _ _=>Zi5 (by rw[Hhnm.out];exact Hhmv.out) x c) HhkS.out (show c≤3 by omega);have hold:=ZbG (nx:=nxSM M n) (a:=a0) (k:=k) (n:=c);have hnew:=ZbH (nx:=nxSM M n) (a:=a0) (k:=k) (n:=c);have hTS:=Za1 (nx:=nxSM M n) (a:=a0) (k:=k) (Nat.zero_le c);have hTF:=Zax (nx:=nxSM M n) (a:=a0) (m:=K) HhkS.out (show c≤3 by omega) (show k<K by omega);have hTF2:=Zax (nx:=nxSM M n) (a:=a0) (m:=K) HhkS.out (show c+1≤3 by omega) (show k<K by omega);rw[Zao,← HhSS.out] at hTS;rw[Hhxb.out] at hold hnew;rw[← HhSS.out] at hTl;replace hTF:=hTF.1;replace hTF2:=hTF2.1;replace hTS:=hTS.1;rw[← HhFa'.out] at hTF hTF2;obtain⟨y,hy⟩:=eI (nxSM M n x c);have hyM:isM m y:=by rw[hy];exact Zi5 (by rw[Hhnm.out];exact Hhmv.out) x c
      have hyf:flags m (stV M mvs x.1.toNat (c:Int))=flc m y:=by rw[hy,← Hhnm.out];rfl
      have hold':y∈(bpart (nxSM M n) a0 k c).met→(bpart (nxSM M n) a0 k (c+1)).met=(bpart (nxSM M n) a0 k c).met:=fun h=>by rw[hold (by rw[← hy];exact h)]
      have hnew':y ∉ (bpart (nxSM M n) a0 k c).met→(bpart (nxSM M n) a0 k (c+1)).met=(bpart (nxSM M n) a0 k c).met++[y]:=fun h=>by rw[hnew (by rw[← hy];exact h),← hy]
      clear hold hnew;obtain⟨T1,hT1⟩:=eI ((bpart (nxSM M n) a0 k (c+1)).met);obtain⟨T,hT⟩:=eI ((bpart (nxSM M n) a0 k c).met);rw[← hT] at hSi hTl hTall hTF hTS hold' hnew';rw[← hT1] at hTF2 hold' hnew';rw[← hT];have hkT:k<T.length:=Nat.lt_of_lt_of_le hlt hTS.length_le;have hxT:T.getD k a0=x:=(Zau hTS hlt _).trans Hhx.out.symm;have hfind:=Zjy hTall hyM;have hrow:=ZcT (nx:=nxSM M n) (F:=F) (x:=x) hc;rw[← hy] at hrow;have hlm:((T.map (flc m)).map boolCells).length=T.length:=ZaZ _ _ _;have hcs:((T.map (flc m)).map boolCells).getD k []=boolCells (flc m x):=by rw[← hxT];simp[hkT]
      obtain⟨ax,cx,hcell,hxr,hcx1,hcx2,hcp1,hcp2,hb1l⟩:=hSi.rowAt 1 rfl hlm hkT;rw[hcs] at hcell hxr hcx1;have hxl:(boolCells (flc m x)).length=m:=by simp[ZfD]
      rw[hxl] at hcell hxr hcx1;have hxB:=ZgG hxr;have e0:=hSi.cell (v:=.int .i64 (m:Int)) 0 0 rfl rfl;have e1:=hSi.cell (v:=v1) 0 1 rfl rfl;have e2:=hSi.cell (v:=v2) 0 2 rfl rfl;have e3:=hSi.cell (v:=v3) 0 3 rfl rfl;have hl0:=(hSi.boxlt 0 rfl).2;have Hk2:=qh (fun (w':World) (h:Below wp.drew.heap.size wp.drew w')=>(show w'.cell? ⟨w.heap.size,0,none⟩=some (.int .i64 (m:Int))∧w'.cell? ⟨w.heap.size,1,none⟩=some v1∧w'.cell? ⟨w.heap.size,2,none⟩=some v2∧w'.cell? ⟨w.heap.size,3,none⟩=some v3∧w'.cell? ⟨b1,k,none⟩=some (.slice ax m cx) from⟨(bcell h _ _ hl0).trans e0,(bcell h _ _ hl0).trans e1,(bcell h _ _ hl0).trans e2,(bcell h _ _ hl0).trans e3,(bcell h _ _ hb1l).trans hcell⟩));have HM2:=qh (HG1.out.below hSi.bel.drew);have HX2:=qh (hxB.below (Below.refl _ _).drew);have hkT2:(k:Int)<T.length:=by omega
      have hc4:(c:Int)<3:=by omega
      have Hhy:=qh hy;clear hy;have HhyM:=qh hyM;clear hyM;have Hhyf:=qh hyf;clear hyf;have Hhold':=qh hold';clear hold';have Hhnew':=qh hnew';clear hnew';have HhT1:=qh hT1;clear hT1;have HhT:=qh hT;clear hT;have HhTl:=qh hTl;clear hTl;have HhTall:=qh hTall;clear hTall;have HhTF:=qh hTF;clear hTF;have HhTF2:=qh hTF2;clear hTF2;have HhTS:=qh hTS;clear hTS;have HhxT:=qh hxT;clear hxT;have Hhfind:=qh hfind;clear hfind;have Hhrow:=qh hrow;clear hrow;have Hhlm:=qh hlm;clear hlm;have HhSi:=qh hSi;clear hSi;clear hcs hxr hxl hxB;go_wp2
      go_region_held3 (fun w'=>w'.cell? ⟨w.heap.size,0,none⟩=some (.int .i64 (m:Int))∧w'.cell? ⟨w.heap.size,1,none⟩=some v1∧w'.cell? ⟨w.heap.size,2,none⟩=some v2∧w'.cell? ⟨w.heap.size,3,none⟩=some v3∧w'.cell? ⟨b1,k,none⟩=some (.slice ax m cx))
       (first|go_keep|exact Hk2.out _ hq0)
       (first
        | (go_at_call 165;(with_reducible refine(Zg2 M hM ⟨(m:Int),mvs,fs,es⟩ m x.1.toNat (c:Int) v1 v2 v3 _ _ rfl hm Hhmv.out Hhml.out HM2.out HX2.out).mono ?_);rintro e u2 ⟨⟨g2,d2,rfl,hr2⟩,hq0⟩))
      have hSx:=HhSi.out.drew.made hq0 hr2;rw[show flags m (stV M (NfaD.moves ⟨(m:Int),mvs,fs,es⟩) x.1.toNat (c:Int))=flc m y from Hhyf.out] at hSx;have hfa:=Zil (T.map (flc m)) (flc m y) m (.slice (some ⟨b1,0,none⟩) T.length cap1) (.slice (some ⟨g2,0,none⟩) m d2) u2 (by intro z hz;obtain⟨q,-,rfl⟩:=List.mem_map.1 hz;exact ZfD _ _) (ZfD _ _) (by rw[List.length_map];have:=HhTl.out;omega) (hSx.boolSS 1 rfl) (hSx.bools 4 rfl);rw[Hhfind.out] at hfa;have HhSx:=qh hSx;clear hSx;clear hcell e0 e1 e2 e3 hq0 hr2;by_cases hmem:y∈T
      ·rw[if_pos hmem] at hfa;obtain⟨p,hp⟩:=eI (Zad T y);have hpl:p<T.length:=by rw[hp];exact ZaP hmem
       have hpF:Zad F y=p:=(ZaU HhTF.out hmem).trans hp.symm;rw[← hp] at hfa;have hT1o:=Hhold'.out hmem;have hp0:¬ ((p:Int)<0):=by omega
       have Hhfa:=qh hfa;clear hfa;have Hhp:=qh hp;clear hp;have HhpF:=qh hpF;clear hpF;have HhT1o:=qh hT1o;clear hT1o;go_wp2_with fail;refine Hhfa.out.mono ?_;rintro e w2 ⟨rfl,hb2⟩;have hSa:=(HhSx.out.call hb2).alloc_ (.cells #[.int .i64 (p:Int)] 3);have hR:=hSa.row 3 rfl;have HhSa:=qh hSa;clear hSa;have HhR:=qh hR;clear hR;clear hb2;go_wp2_with (at_builtin;refine wpList_append_lies _ rfl _ _ _ rfl _ 3 i0 (.int .i64 0) 1 8 Try.underlying26 Hhi.out Hhz0.out Hhz1.out Hhz2.out rfl (by omega) _ c _ rfl HhR.out ⟨w2.heap.size,0,none⟩ 1 1 [.int .i64 (p:Int)] rfl rfl (World.news_of_block (heap_alloc_new w2 _)) ZaV (by omega) (by unfold maxLen;omega) (by omega) HhSa.out.size _ rfl ?_;intro g6 c6 w6 hown6 hgrow6 hat6 hlt6;have HS6:=qh (HhSa.out.app 3 rfl hown6 hgrow6 hat6);clear hown6 hgrow6 hat6 hlt6);go_roundw
       case rel =>refine⟨c+1,b1,cap1,_,_,vs1,by go_num,by rw[← HhT1.out,HhT1o.out],rfl,by omega,?_⟩;rw[← HhT1.out,HhT1o.out,Hhrow.out,HhpF.out,Zan];exact HS6.out.pick [0,1,2,3] (by decide)
       case measure=>simp[intOf];omega
      rw[if_neg hmem] at hfa;have hT1n:=Hhnew'.out hmem;have hpF:Zad F y=T.length:=ZdT (by rw[← hT1n];exact HhTF2.out) hmem;have hTlt:=HhTl.out;have Hhfa:=qh hfa;clear hfa;have HhpF:=qh hpF;clear hpF;have HhT1n:=qh hT1n;clear hT1n;go_wp2_with fail;refine Hhfa.out.mono ?_;rintro e w2 ⟨rfl,hb2⟩;have hSa:=(HhSx.out.call hb2).alloc_ (.cells #[.slice (some ⟨g2,0,none⟩) m d2] 43);have hR:=(hSa.rows 1 rfl).1;rw[Hhlm.out] at hR;have HhSa:=qh hSa;clear hSa;have HhR:=qh hR;clear hR;clear hb2
      go_wp2_with (first
       | (at_builtin;refine wpList_append_lies _ rfl _ _ _ rfl _ 43 k0 (.slice none 0 0) 1 24 Try.underlying181 Hhk.out Hhx0.out Hhx1.out Hhx2.out rfl (by omega) _ T.length _ rfl HhR.out ⟨w2.heap.size,0,none⟩ 1 1 [.slice (some ⟨g2,0,none⟩) m d2] rfl rfl (World.news_of_block (heap_alloc_new w2 _)) ZaM (by omega) (by unfold maxLen;omega) (by omega) HhSa.out.size _ rfl ?_;intro g6 c6 w6 hown6 hgrow6 hat6 hlt6;have HS6:=qh ((HhSa.out.snoc 1 4 (by decide) rfl rfl (by decide) hgrow6 (by rw[Hhlm.out];exact hown6) (Zcq hat6)).alloc_ (.cells #[.int .i64 (T.length:Int)] 3));have HR6:=qh (HS6.out.row 3 rfl);clear hown6 hgrow6 hat6 hlt6)
       | (at_builtin;refine wpList_append_lies _ rfl _ _ _ rfl _ 3 i0 (.int .i64 0) 1 8 Try.underlying26 Hhi.out Hhz0.out Hhz1.out Hhz2.out rfl (by omega) _ c _ rfl HR6.out ⟨w6.heap.size,0,none⟩ 1 1 [.int .i64 (T.length:Int)] rfl rfl (World.news_of_block (heap_alloc_new w6 _)) ZaV (by omega) (by unfold maxLen;omega) (by omega) HS6.out.size _ rfl ?_;intro g7 c7 w7 hown7 hgrow7 hat7 hlt7;have HS7:=qh (HS6.out.app 3 rfl hown7 hgrow7 hat7);clear hown7 hgrow7 hat7 hlt7))
      go_roundw
      case rel =>refine⟨c+1,g6,c6,g7,c7,vs1++[.slice (some ⟨g2,0,none⟩) m d2],by go_num,by rw[← HhT1.out,HhT1n.out,List.length_append];rfl,rfl,by omega,?_⟩;rw[← HhT1.out,HhT1n.out,Hhrow.out,HhpF.out,Zan,List.map_append,List.map_append,List.length_append];exact HS7.out.pick [0,1,2,3] (by decide)
      case measure=>simp[intOf];omega
     obtain rfl:c=3:=by omega
     have hbs:bat (nxSM M n) a0 (k+1)=bpart (nxSM M n) a0 k 3:=Za2 HhkS.out;have hle3:=Zb3 (nxSM M n) a0 k 3;have hTS:=(Za1 (nx:=nxSM M n) (a:=a0) (k:=k) (Nat.zero_le 3)).1;rw[Zao] at hTS;rw[← HhSS.out] at hle3 hTS;have hkl:k+1≤(bpart (nxSM M n) a0 k 3).met.length:=Nat.le_trans hlt hTS.length_le;have htk:(bpart (nxSM M n) a0 k 3).met.take (k+1)=S.met.take k++[x]:=by obtain⟨t,ht⟩:=hTS;rw[← ht,List.take_append_of_le_length (by omega),List.take_succ_eq_append_getElem hlt,Hhx.out];simp[hlt]
     have hn3:(Zab (nxSM M n) F x).take 3=Zab (nxSM M n) F x:=List.take_of_length_le (by simp[Zab]);have hlm:(((S.met.take k).map (Zab (nxSM M n) F)).map intCells).length=k:=by rw[ZaZ,List.length_take];omega
     rw[hn3] at hSi;have hSa:=hSi.alloc_ (.cells #[.slice (some ⟨b3,0,none⟩) 3 cap3] 26);have hR:=(hSa.rows 2 rfl).1;rw[hlm] at hR;have Hhbs:=qh hbs;clear hbs;have Hhle3:=qh hle3;clear hle3;have HhTS:=qh hTS;clear hTS;have Hhtk:=qh htk;clear htk;have Hhn3:=qh hn3;clear hn3;have Hhlm:=qh hlm;clear hlm;have HhSi:=qh hSi;clear hSi;have HhSa:=qh hSa;clear hSa;have HhR:=qh hR;clear hR;go_wp2_with (at_builtin;refine wpList_append_lies _ rfl _ _ _ rfl _ 26 j0 (.slice none 0 0) 1 24 Try.underlying42 Hhj.out Hhy0.out Hhy1.out Hhy2.out rfl (by omega) _ k _ rfl HhR.out ⟨wp.heap.size,0,none⟩ 1 1 [.slice (some ⟨b3,0,none⟩) 3 cap3] rfl rfl (World.news_of_block (heap_alloc_new wp _)) ZaM (by omega) (by unfold maxLen;omega) (by omega) HhSa.out.size _ rfl ?_;intro g6 c6 w6 hown6 hgrow6 hat6 hlt6;have HS6:=qh (HhSa.out.snoc 2 3 (by decide) rfl rfl (by decide) hgrow6 (by rw[Hhlm.out];exact hown6) (Zcq hat6));clear hown6 hgrow6 hat6 hlt6);go_roundw
     case rel =>refine⟨k+1,b1,cap1,g6,c6,vs1,vs2++[.slice (some ⟨b3,0,none⟩) 3 cap3],by go_num,by rw[Hhbs.out],rfl,by rw[Hhbs.out];exact hkl,by omega,by rw[Hhbs.out];have:=Hhle3.out;omega,?_⟩;rw[Hhbs.out,Hhtk.out,List.map_append,List.map_append];exact HS6.out.pick [0,1,2] (by decide)
     case measure=>simp[intOf];omega
   have hlt2:(k:Int)<S.met.length:=by omega
   have hle2:¬ ((S.met.length:Int)≤K):=by omega
   have hbig:¬ ((metSM M n K).length≤K):=by have h:=(Zez (nx:=nxSM M n) (a:=a0) hkK).1.length_le;rw[← HhSS.out,Hha0.out] at h;unfold metSM;omega
   have Hhbig:=qh hbig;clear hbig;go_wp2
   go_ret2
   refine⟨_,_,_,_,_,_,rfl,by omega,?_⟩;rw[if_neg Hhbig.out];exact⟨by omega,HhS.out.bel⟩
  have hkl:k=S.met.length:=by omega
  have hfin:metSM M n K=S.met:=by have h:=Zbn (nx:=nxSM M n) (a:=a0) (k:=k) (m:=K) (by rw[← HhSS.out];omega) hkK;unfold metSM;rw[← Hha0.out,h,← HhSS.out]
  have Hhkl:=qh hkl;clear hkl;have Hhfin:=qh hfin;clear hfin;go_wp2
  go_ret2
  refine⟨_,_,_,_,_,_,rfl,by omega,?_⟩;rw[Hhfin.out,if_pos (by have:=Hhkl.out;omega)];refine⟨rfl,vs1,vs2,?_⟩;have h:=HhS.out.pick [1,2] (by decide);have h2:=Hhkl.out;subst h2;rw[List.take_length,hF.out,Hhfin.out] at h;exact h
def RDetSM (M:Nat) (n:NfaD) (K B:Nat) (e:Ending) (w':World):Prop :=
 if (metSM M n K).length≤K then
  ∃ a1 l1 c1 a2 l2 c2,e = .returned (.tuple #[.agg #[.slice a1 l1 c1,.slice a2 l2 c2],.bool true])∧DfaR B w' (.agg #[.slice a1 l1 c1,.slice a2 l2 c2]) (Zaz (nxSM M n) (enS n) (metSM M n K))
 else e = .returned (.tuple #[.agg #[.slice none 0 0,.slice none 0 0],.bool false])
theorem Zec (M:Nat) (hM:M≤1000) (m K:Nat) (hK:K=40) (mvs:List (Int × Int × Int)) (fs es:List Int) (v1 v2 v3:Value) (w:World) (hm:m≤M) (hmv:mvIn m mvs) (hml:mvs.length≤1000000) (hf:inN m fs) (hfl:fs.length≤1000000) (h1:Moves 0 w v1 mvs) (h2:Ints 0 w v2 fs) :
  Calls Try.prog 162 #[.agg #[.int .i64 (m:Int),v1,v2,v3],.int .i64 40] w fun e w'=>Zll M ⟨(m:Int),mvs,fs,es⟩ m K w e w':=by
 have h:=ZeC M hM m K mvs fs es v1 v2 v3 w hm (by omega) (by omega) hmv hml hf hfl h1 h2;have e:((K:Nat):Int)=40:=by omega
 rw[e] at h;exact h
theorem St.rowsform {w0 w:World} {L:List Ent} (h:St w0 w L) (i:Nat) {es e n c:Nat} {a:Option Addr} {vs:List Value} {css:List (List Value)} (hx:L[i]? = some (Ent.rows es e (.slice a n c) vs css)) (hn:0<css.length):∃ g,a=some ⟨g,0,none⟩∧n=css.length:=by obtain⟨g,cap,hv,-,-⟩:=(h.rows i hx).1.form hn;simp only[Value.slice.injEq] at hv;exact⟨g,hv.1,hv.2.1⟩
theorem ZaL {x:Bool}:∀ u∈[Value.bool x],u.oneCell'=true:=by intro u hu;simp only[List.mem_singleton] at hu;subst hu;rfl
theorem ZaQ (l:List Bool) (x:Bool):boolCells (l++[x])=boolCells l++[.bool x]:=by simp[boolCells]
theorem ZfT {l:List Int} {p:Int→Bool} {j:Nat} (hj:j<l.length):(l.take (j+1)).any p=((l.take j).any p||p (l.getD j 0)):=by rw[List.take_succ_eq_append_getElem hj,List.any_append];simp[hj]
theorem ZeZ (M:Nat) (hM:M≤1000) (m K:Nat) (hK:K=40) (mvs:List (Int × Int × Int)) (fs es:List Int) (v1 v2 v3:Value) (w:World) (hm:m≤M) (hmv:mvIn m mvs) (hml:mvs.length≤1000000) (hf:inN m fs) (hfl:fs.length≤1000000) (he:inN m es) (hel:es.length≤1000000) (h1:Moves 0 w v1 mvs) (h2:Ints 0 w v2 fs) (h3:Ints 0 w v3 es) :
  Calls Try.prog 160 #[.agg #[.int .i64 (m:Int),v1,v2,v3]] w fun e w'=>RDetSM M ⟨(m:Int),mvs,fs,es⟩ K w.heap.size e w'∧Below w.heap.size w w':=by
 obtain⟨a3,c3,rfl,hc3,hm3,hr3⟩:=h3.form;obtain⟨n,hn⟩:∃ n:NfaD,n=⟨(m:Int),mvs,fs,es⟩:=⟨_,rfl⟩;have hne:n.ends=es:=by rw[hn]
 have hS0:=((St.start w).alloc _ rfl #[.int .i64 (m:Int),v1,v2,.slice a3 es.length c3] 28).alloc (w.heap.size+1) (by simp) #[.slice none 0 0,.slice none 0 0] 45;have hsub:=Zec M hM m K hK mvs fs es v1 v2 (.slice a3 es.length c3) _ hm hmv hml hf hfl (h1.below hS0.bel) (h2.below hS0.bel);rw[← hn] at hsub;rw[← hn];obtain⟨i0,hi,hz0,hz1,hz2⟩:=info_parts Try.infoBool;have hpos:=Zdy (nx:=nxSM M n) (a:=(((Zjt M n:Nat):Int),0)) K;obtain⟨F,hF⟩:=eI (metSM M n K);have hpos':0<F.length:=by rw[hF];exact hpos
 have hres:∀ B e w',RDetSM M n K B e w'=if F.length≤K then
  ∃ a1 l1 c1 a2 l2 c2,e = .returned (.tuple #[.agg #[.slice a1 l1 c1,.slice a2 l2 c2],.bool true])∧DfaR B w' (.agg #[.slice a1 l1 c1,.slice a2 l2 c2]) (Zaz (nxSM M n) (enS n) F)
  else e = .returned (.tuple #[.agg #[.slice none 0 0,.slice none 0 0],.bool false]):=fun B e w'=>by rw[hF];rfl
 have hRS:∀ e w',Zll M n m K ((w.alloc (.cells #[.int .i64 (m:Int),v1,v2,.slice a3 es.length c3] 28)).alloc (.cells #[.slice none 0 0,.slice none 0 0] 45)) e w'→∃ a1 c1 a2 c2 l1 l2,e = .returned (.tuple #[.slice a1 l1 c1,.slice a2 l2 c2])∧l1<1000000 ∧
  (if F.length≤K then l1=F.length∧∃ vs1 vs2,St ((w.alloc (.cells #[.int .i64 (m:Int),v1,v2,.slice a3 es.length c3] 28)).alloc (.cells #[.slice none 0 0,.slice none 0 0] 45)) w' [Ent.rows 43 4 (.slice a1 l1 c1) vs1 ((F.map (flc m)).map boolCells),Ent.rows 26 3 (.slice a2 l2 c2) vs2 ((F.map (Zab (nxSM M n) F)).map intCells)]
   else K<l1∧Below ((w.alloc (.cells #[.int .i64 (m:Int),v1,v2,.slice a3 es.length c3] 28)).alloc (.cells #[.slice none 0 0,.slice none 0 0] 45)).heap.size ((w.alloc (.cells #[.int .i64 (m:Int),v1,v2,.slice a3 es.length c3] 28)).alloc (.cells #[.slice none 0 0,.slice none 0 0] 45)) w'):=fun e w' h=>by rw[hF];exact h
 have HRes:=qh hres;have HRS:=qh hRS;have Hsub:=qh hsub;replace hn:=qh hn;have Hhne:=qh hne;clear hne;replace hS0:=qh hS0;have Hhi:=qh hi;clear hi;have Hhz0:=qh hz0;clear hz0;have Hhz1:=qh hz1;clear hz1;have Hhz2:=qh hz2;clear hz2;replace hF:=qh hF;have Hhr3:=qh hr3;clear hr3;have Hhe:=qh he;clear he;have HhK:=qh hK;clear hK;clear h1 h2 h3 hres hRS hsub hpos
 go_enter Try.func160, Try.ntmps160
 go_wp2_with fail;refine Hsub.out.mono ?_;rintro e w1 hr;obtain⟨a1,c1,a2,c2,l1,l2,rfl,hl1,hr⟩:=HRS.out e w1 hr;by_cases hle:F.length≤K
 ·rw[if_pos hle] at hr;obtain⟨hlF,vs1,vs2,hS'⟩:=hr;have hS1:=hS0.out.cat hS';have hlm1:((F.map (flc m)).map boolCells).length=F.length:=ZaZ _ _ _;have hlm2:((F.map (Zab (nxSM M n) F)).map intCells).length=F.length:=ZaZ _ _ _;obtain⟨g1,rfl,-⟩:=hS1.rowsform 2 rfl (by rw[hlm1];exact hpos');obtain⟨g2,rfl,hl2⟩:=hS1.rowsform 3 rfl (by rw[hlm2];exact hpos');rw[hlm2] at hl2;have hl40:(l1:Int)≤40:=by have:=HhK.out;omega
  have hS2:=(hS1.alloc _ rfl #[.slice (some ⟨g2,0,none⟩) l2 c2,.slice none 0 0] 45).nilRow 4 1;have HhlF:=qh hlF;clear hlF;have Hhl2:=qh hl2;clear hl2;have Hhlm1:=qh hlm1;clear hlm1;have Hhlm2:=qh hlm2;clear hlm2;have HhS2:=qh hS2;clear hS2;clear hS1 hS';go_wp2
  go_loopw [7] (fun i wr=>∃ (k c:Nat) (a:Option Addr),i = .int .i64 k∧k≤l1∧St w wr [Ent.box w.heap.size #[.int .i64 (m:Int),v1,v2,.slice a3 es.length c3] 28,Ent.box (w.heap.size+1) #[.slice none 0 0,.slice none 0 0] 45,
    Ent.rows 43 4 (.slice (some ⟨g1,0,none⟩) l1 c1) vs1 ((F.map (flc m)).map boolCells),Ent.rows 26 3 (.slice (some ⟨g2,0,none⟩) l2 c2) vs2 ((F.map (Zab (nxSM M n) F)).map intCells),
    Ent.box w1.heap.size #[.slice (some ⟨g2,0,none⟩) l2 c2,.slice a k c] 45,Ent.row 4 1 (.slice a k c) k (boolCells ((F.take k).map (enS n)))])
   (fun i _=>l1-(intOf i).toNat)
  case atStart=>exact⟨0,0,none,rfl,Nat.zero_le _,HhS2.out⟩
  case round =>
   obtain⟨k,c,a,rfl,hk,hS⟩:=hrel;obtain⟨wo,hwo⟩:∃ wo:World,wo=wr:=⟨_,rfl⟩;subst hwo;have HhS:=qh hS;clear hS;by_cases hlt:k<l1
   ·have hkF:k<F.length:=by have:=HhlF.out;omega
    obtain⟨x,hx⟩:=eI (F.getD k ((0,0):Int × Int));have hcs:((F.map (flc m)).map boolCells).getD k []=boolCells (flc m x):=by rw[hx];simp[hkF]
    have hlt2:(k:Int)<l1:=by omega
    have Hhx:=qh hx;clear hx;have Hhcs:=qh hcs;clear hcs;go_wp2
    go_loopw [8,9] (fun ev i wi=>∃ (j:Nat) (b:Bool),i = .int .i64 j∧ev = .bool b∧j≤es.length∧b=(es.take j).any (fun s=>x.1.toNat.testBit s.toNat)∧St w wi [Ent.box w.heap.size #[.int .i64 (m:Int),v1,v2,.slice a3 es.length c3] 28,Ent.box (w.heap.size+1) #[.slice none 0 0,.slice none 0 0] 45,
      Ent.rows 43 4 (.slice (some ⟨g1,0,none⟩) l1 c1) vs1 ((F.map (flc m)).map boolCells),Ent.rows 26 3 (.slice (some ⟨g2,0,none⟩) l2 c2) vs2 ((F.map (Zab (nxSM M n) F)).map intCells),
      Ent.box w1.heap.size #[.slice (some ⟨g2,0,none⟩) l2 c2,.slice a k c] 45,Ent.row 4 1 (.slice a k c) k (boolCells ((F.take k).map (enS n)))])
     (fun _ i _=>es.length-(intOf i).toNat)
    case atStart=>exact⟨0,false,rfl,rfl,Nat.zero_le _,by simp,HhS.out⟩
    case round =>
     obtain⟨j,b,rfl,rfl,hj,hb,hSi⟩:=hrel;have e3:=hSi.cell (v:=.slice a3 es.length c3) 0 3 rfl rfl;by_cases hjl:j<es.length
     ·obtain⟨b3,o3,rfl,-,hbl3,hcs3⟩:=Hhr3.out (by omega);have hce:=(bcell hSi.bel b3 (o3+j) hbl3).trans (hcs3 j hjl);obtain⟨s0,s1⟩:=Hhe.out _ (memD (d:=0) hjl);have hany:=ZfT (p:=fun s=>x.1.toNat.testBit s.toNat) hjl;obtain⟨s,hs⟩:=Int.eq_ofNat_of_zero_le s0;rw[hs] at hce s1 hany;have hsm:s<m:=by omega
      obtain⟨ax,cx,hcell,hxr,hcx1,hcx2,hcp1,hcp2,hb1l⟩:=hSi.rowAt 2 rfl (Hhlm1.out.trans HhlF.out.symm) hlt;rw[Hhcs.out] at hcell hxr hcx1;have hxl:(boolCells (flc m x)).length=m:=by simp[ZfD]
      rw[hxl] at hcell hxr hcx1;obtain⟨gx,cx',hvx,-,-⟩:=hxr.form (by omega);simp only[Value.slice.injEq] at hvx;obtain⟨rfl,-,rfl⟩:=hvx;have hbit:=(hxr.cellAt s (by omega)).trans (Zct hsm);have hjl2:(j:Int)<es.length:=by omega
      have hsm2:(s:Int)<m:=by omega
      have Hhs:=qh hs;clear hs;have Hhb:=qh hb;clear hb;have Hhany:=qh hany;clear hany;have HhSi:=qh hSi;clear hSi;clear hcs3 hxr hxl s0;cases b
      ·cases ht:x.1.toNat.testBit s
       all_goals
        rw[ht] at hbit;have Hht:=qh ht;clear ht;go_wp2
        go_quiet (fail)
        go_wp2;go_roundw
        case rel =>refine⟨j+1,_,by go_num,rfl,by omega,?_,HhSi.out.drewN _⟩;rw[Hhany.out,← Hhb.out,Int.toNat_natCast,Hht.out];rfl
        case measure=>simp[intOf];omega
      go_wp2
      go_quiet (fail)
      go_wp2;go_roundw
      case rel =>refine⟨j+1,_,by go_num,rfl,by omega,?_,HhSi.out.drewN _⟩;rw[Hhany.out,← Hhb.out];rfl
      case measure=>simp[intOf];omega
     obtain rfl:j=es.length:=by omega
     rw[List.take_length] at hb;have hen:enS n x=b:=by rw[hb,← Hhne.out];rfl
     have d1:=hSi.cell (v:=.slice a k c) 4 1 rfl rfl;have hSa:=hSi.alloc_ (.cells #[.bool b] 4);have hR:=hSa.row 5 rfl;have htk:(F.take (k+1)).map (enS n)=(F.take k).map (enS n)++[b]:=by rw[List.take_succ_eq_append_getElem hkF,List.map_append,← hen,Hhx.out];simp[hkF]
     have Hhen:=qh hen;clear hen;have Hhb:=qh hb;clear hb;have Hhtk:=qh htk;clear htk;have HhSi:=qh hSi;clear hSi;have HhSa:=qh hSa;clear hSa;have HhR:=qh hR;clear hR;go_wp2_with (at_builtin;refine wpList_append_lies _ rfl _ _ _ rfl _ 4 i0 (.bool false) 1 1 Try.underlying43 Hhi.out Hhz0.out Hhz1.out Hhz2.out rfl (by omega) _ k _ rfl HhR.out ⟨wr.heap.size,0,none⟩ 1 1 [.bool b] rfl rfl (World.news_of_block (heap_alloc_new wr _)) ZaL (by omega) (by unfold maxLen;omega) (by omega) HhSa.out.size _ rfl ?_;intro g6 c6 w6 hown6 hgrow6 hat6 hlt6;have HS6:=qh (HhSa.out.app 5 rfl hown6 hgrow6 hat6);have y1:=HS6.out.cell (v:=.slice a k c) 4 1 rfl rfl;have y2:=HS6.out.fr 4 1 rfl;clear hown6 hgrow6 hat6 hlt6);go_roundw
     case rel =>refine⟨k+1,c6,some ⟨g6,0,none⟩,by go_num,by omega,?_⟩;rw[Hhtk.out,ZaQ];exact HS6.out.set 4 rfl 1 (.slice (some ⟨g6,0,none⟩) (k+1) c6)
     case measure=>simp[intOf];omega
   obtain rfl:k=l1:=by omega
   have d0:=HhS.out.cell (v:=.slice (some ⟨g2,0,none⟩) l2 c2) 4 0 rfl rfl;have d1:=HhS.out.cell (v:=.slice a k c) 4 1 rfl rfl;have f0:=HhS.out.fr 1 0 rfl;have f1:=HhS.out.fr 1 1 rfl;have k0:=HhS.out.cell (v:=.slice none 0 0) 1 0 rfl rfl;have k1:=HhS.out.cell (v:=.slice none 0 0) 1 1 rfl rfl;go_wp2;have hq:=(HhS.out.set 1 rfl 0 (.slice (some ⟨g2,0,none⟩) l2 c2)).set 1 rfl 1 (.slice a k c);have q0:=hq.cell (v:=.slice (some ⟨g2,0,none⟩) l2 c2) 1 0 rfl rfl;have q1:=hq.cell (v:=.slice a k c) 1 1 rfl rfl;refine bodyPost_ret (v:=.tuple #[.agg #[.slice (some ⟨g2,0,none⟩) l2 c2,.slice a k c],.bool true]) (by simp[results,Try.results160,go_sem,q0,q1]) rfl ⟨?_,hq.bel⟩;rw[HRes.out,if_pos hle];refine⟨_,_,_,_,_,_,rfl,_,_,rfl,(hq.intSS 3 rfl).intSS,?_⟩;have hb:=ZaB (hq.row 5 rfl);rw[List.take_of_length_le (by have:=HhlF.out;omega)] at hb;exact hb
 rw[if_neg hle] at hr;have hl40:(l1:Int)>40:=by have:=HhK.out;omega
 have hS1:=hS0.out.call hr.2;have f0:=hS1.fr 1 0 rfl;have f1:=hS1.fr 1 1 rfl;have k0:=hS1.cell (v:=.slice none 0 0) 1 0 rfl rfl;have k1:=hS1.cell (v:=.slice none 0 0) 1 1 rfl rfl;have HhS1:=qh hS1;clear hS1;go_wp2;have hq:=(HhS1.out.set 1 rfl 0 (.slice none 0 0)).set 1 rfl 1 (.slice none 0 0);have q0:=hq.cell (v:=.slice none 0 0) 1 0 rfl rfl;have q1:=hq.cell (v:=.slice none 0 0) 1 1 rfl rfl;refine bodyPost_ret (v:=.tuple #[.agg #[.slice none 0 0,.slice none 0 0],.bool false]) (by simp[results,Try.results160,go_sem,q0,q1]) rfl ⟨?_,hq.bel⟩;rw[HRes.out,if_neg hle]
end Go.Proofs.Ytfanhfcamblghaa
namespace Go.Proofs.Ytfanhfcamblghaa
open Go.RowKit Go.Maps
def ZaX:DfaD:=⟨[],[]⟩
theorem Zd6 (w:World) (B e size:Nat):w.ownsRow B e size (.slice none 0 0) 0 []:=⟨by simp,Or.inl ⟨rfl,rfl⟩⟩
theorem ZfW (w:World) (B tS tI tB:Nat):DfaO tS tI tB B w.heap.size w (.agg #[.slice none 0 0,.slice none 0 0]) ZaX :=
 ⟨_,_,rfl,⟨[],Zaa (Zd6 w B tS 1),fun i hi=>absurd hi (by simp[ZaX]),fun i j k _ hj=>absurd hj (by simp[ZaX])⟩,Zaa (Zd6 w B tB 1)⟩
end Go.Proofs.Ytfanhfcamblghaa
namespace Go.Proofs.Ytfanhfcamblghaa
open Go.RowKit
theorem Sl.keptJ {B B':Nat} {w w':World} {v:Value} {n size:Nat} {cs:List Value} (h:Sl B w v n size cs) (hB:B'≤B) (hs:w.heap.size≤w'.heap.size) (hk:∀ k,B≤k→k<w.heap.size→w'.heap[k]? = w.heap[k]?):Sl B' w' v n size cs:=by obtain⟨hl,a,cap,hv,h1,h2,h3⟩:=h;refine⟨hl,a,cap,hv,h1,h2,fun hn => ?_⟩;obtain⟨b,off,ha,hb,hlt,hc⟩:=h3 hn;refine⟨b,off,ha,by omega,by omega,fun j hj => ?_⟩;rw[← hc j hj];exact World.cell?_of_block (hk b hb hlt)
theorem Sl.drop1 {B:Nat} {w:World} {b off n cap:Nat} {cs:List Value} (h:Sl B w (.slice (some ⟨b,off,none⟩) n cap) n 1 cs) (hn:0<n):Sl B w (.slice (some ⟨b,off+1,none⟩) (n-1) (cap-1)) (n-1) 1 (cs.drop 1):=by obtain⟨hl,a',cap',hv,h1,h2,h3⟩:=h;simp only[Value.slice.injEq] at hv;obtain⟨rfl,-,rfl⟩:=hv;refine⟨by rw[List.length_drop];omega,_,_,rfl,by omega,by omega,fun hn0 => ?_⟩;obtain⟨b',off',ha,hb,hlt,hc⟩:=h3 (by omega);simp only[w_9,Addr.mk.injEq,and_true] at ha;obtain⟨rfl,rfl⟩:=ha;refine⟨b,off+1,rfl,hb,hlt,fun j hj => ?_⟩;rw[show off+1+j=off+(1+j) by omega,hc _ (by omega),List.getElem?_drop]
def DfaE (w w':World):Ent:=⟨fun k=>w.heap.size≤k∧k<w'.heap.size,fun u=>∀ k,w.heap.size≤k→k<w'.heap.size→u.heap[k]? = w'.heap[k]?,fun _ _ h hk k h1 h2=>(hk k ⟨h1,h2⟩).trans (h k h1 h2)⟩
theorem St.dfaE {w0 w w':World} {L:List Ent} (h:St w0 w L) (hb:Below w.heap.size w w'):St w0 w' (L++[DfaE w w']):=h.add hb _ (fun _ _ _=>rfl) fun _ hk=>hk
structure DfaH (E:Ent) (v1 v2:Value) (vs:List Value) (D:DfaD):Prop where
 rd:∀ w,E.holds w→(∀ k,E.foot k→k<w.heap.size)→Sl 0 w v1 D.next.length 1 vs∧(∀ i,i<D.next.length→Ints 0 w (vs.getD i undef) (D.next.getD i []))∧Bools 0 w v2 D.ends
theorem DfaH.at {w0 w:World} {L:List Ent} {E:Ent} {v1 v2:Value} {vs:List Value} {D:DfaD} (h:DfaH E v1 v2 vs D) (hS:St w0 w L) (i:Nat) (hx:L[i]? = some E):Sl 0 w v1 D.next.length 1 vs∧(∀ i,i<D.next.length→Ints 0 w (vs.getD i undef) (D.next.getD i []))∧Bools 0 w v2 D.ends :=
 h.rd w (hS.has i _ hx).1 fun k hk=>((hS.has i _ hx).2 k hk).2
theorem DfaH.r {w0 w:World} {L:List Ent} {E:Ent} {v1 v2:Value} {vs:List Value} {D:DfaD} (h:DfaH E v1 v2 vs D) (hS:St w0 w L) (i:Nat) (hx:L[i]? = some E):DfaR 0 w (.agg #[v1,v2]) D:=by obtain⟨h1,h2,h3⟩:=h.at hS i hx;exact⟨v1,v2,rfl,⟨vs,h1,h2⟩,h3⟩
theorem ZjD {w w':World} {v1 v2:Value} {D:DfaD} (h:DfaR w.heap.size w' (.agg #[v1,v2]) D) (hn:0<D.next.length):∃ vs,DfaH (DfaE w w') v1 v2 vs D:=by
 obtain⟨_,_,hv,⟨vs,h1,h2⟩,h3⟩:=h;simp only[Value.agg.injEq,Array.mk.injEq,List.cons.injEq,and_true] at hv;obtain⟨rfl,rfl⟩:=hv;have hlt:w.heap.size<w'.heap.size:=by obtain⟨-,a,cap,-,-,-,h4⟩:=h1;obtain⟨b,off,-,h5,h6,-⟩:=h4 (by omega);omega
 refine⟨vs,⟨fun u hu hf => ?_⟩⟩;have hs:w'.heap.size≤u.heap.size:=by have:w'.heap.size-1<u.heap.size:=hf (w'.heap.size-1) (show w.heap.size≤w'.heap.size-1∧w'.heap.size-1<w'.heap.size by omega);omega
 exact⟨h1.keptJ (Nat.zero_le _) hs hu,fun i hi=>Sl.keptJ (h2 i hi) (Nat.zero_le _) hs hu,Sl.keptJ h3 (Nat.zero_le _) hs hu⟩
theorem ZjC (es e e':Nat) (v1 v2:Value) (vs:List Value) (D:DfaD):DfaH (Ent.all [Ent.rows es e v1 vs (D.next.map intCells),Ent.row e' 1 v2 D.ends.length (boolCells D.ends)]) v1 v2 vs D:=by
 refine⟨fun w h _ => ?_⟩;have h1:(Ent.rows es e v1 vs (D.next.map intCells)).holds w:=h _ (by simp);have h2:(Ent.row e' 1 v2 D.ends.length (boolCells D.ends)).holds w:=h _ (by simp);obtain⟨p1,p2,-⟩:=h1;rw[List.length_map] at p1 p2;refine⟨Sl.mono ((Zaa p1).sl (by omega)) (Nat.zero_le _),fun i hi => ?_,Sl.mono ((Zaa h2).sl (by omega)) (Nat.zero_le _)⟩;have:=p2 i hi;have e1:(D.next.map intCells).getD i []=intCells (D.next.getD i []):=by simp[hi]
 rw[e1] at this;have h3:=(Zaa this).sl (by omega);rw[show(intCells (D.next.getD i [])).length=(D.next.getD i []).length by simp[intCells]] at h3;exact Sl.mono h3 (Nat.zero_le _)
theorem DfaH.tailE {E:Ent} {v1:Value} {b o n c:Nat} {vs:List Value} {D:DfaD} (h:DfaH E v1 (.slice (some ⟨b,o,none⟩) n c) vs D) (hn:n=D.ends.length) (h0:0<n):DfaH E v1 (.slice (some ⟨b,o+1,none⟩) (n-1) (c-1)) vs ⟨D.next,D.ends.drop 1⟩:=by subst hn;refine⟨fun w h1 h2 => ?_⟩;obtain⟨p1,p2,p3⟩:=h.rd w h1 h2;refine⟨p1,p2,?_⟩;have h4:=Sl.drop1 p3 h0;show Sl 0 w _ (D.ends.drop 1).length 1 (boolCells (D.ends.drop 1));rw[List.length_drop,show boolCells (D.ends.drop 1)=(boolCells D.ends).drop 1 by simp[boolCells]];exact h4
theorem DfaH.noE {E:Ent} {v1 v2:Value} {a:Option Addr} {vs:List Value} {D:DfaD} (h:DfaH E v1 v2 vs D):DfaH E v1 (.slice a 0 0) vs ⟨D.next,[]⟩ :=
 ⟨fun w h1 h2=>⟨(h.rd w h1 h2).1,(h.rd w h1 h2).2.1,⟨rfl,a,0,rfl,Nat.le_refl _,Nat.zero_le _,fun h=>absurd h (by simp)⟩⟩⟩
theorem DfaH.one {E:Ent} {v1 v2:Value} {vs:List Value} {D:DfaD} (h:DfaH E v1 v2 vs D) {es e m:Nat} {v rv:Value} {row:List Int} (hm:m=row.length):DfaH (Ent.all [E,Ent.row es 1 v 1 [rv],Ent.row e 1 rv m (intCells row)]) v v2 [rv] ⟨[row],D.ends⟩:=by
 subst hm;refine⟨fun w h1 h2 => ?_⟩;have g1:E.holds w:=h1 _ (by simp);have g2:(Ent.row es 1 v 1 [rv]).holds w:=h1 _ (by simp);have g3:(Ent.row e 1 rv row.length (intCells row)).holds w:=h1 _ (by simp);obtain⟨-,-,p3⟩:=h.rd w g1 fun k hk=>h2 k ⟨E,by simp,hk⟩
 refine⟨Sl.mono ((Zaa g2).sl (by omega)) (Nat.zero_le _),fun i hi => ?_,p3⟩;have hi:i<1:=hi;obtain rfl:i=0:=by omega
 exact Sl.mono ((Zaa g3).sl (by omega)) (Nat.zero_le _)
theorem ZkD (w:World) (a:Option Addr):Sl 0 w (.slice a 0 0) 0 1 []:=⟨rfl,a,0,rfl,Nat.le_refl _,Nat.zero_le _,fun h=>absurd h (by simp)⟩
theorem DfaH.head {E:Ent} {v1 v2:Value} {vs:List Value} {D:DfaD} (h:DfaH E v1 v2 vs D) (h0:0<D.next.length) {es e n m:Nat} {v rv:Value} {row:List Int} (hn:n=1+(D.next.length-1)) (hm:m=row.length):DfaH (Ent.all [E,Ent.row es 1 v n (rv::vs.drop 1),Ent.row e 1 rv m (intCells row)]) v v2 (rv::vs.drop 1) ⟨row::D.next.drop 1,D.ends⟩:=by
 subst hm;refine⟨fun w h1 h2 => ?_⟩;have g1:E.holds w:=h1 _ (by simp);have g2:(Ent.row es 1 v n (rv::vs.drop 1)).holds w:=h1 _ (by simp);have g3:(Ent.row e 1 rv row.length (intCells row)).holds w:=h1 _ (by simp);obtain⟨p1,p2,p3⟩:=h.rd w g1 fun k hk=>h2 k ⟨E,by simp,hk⟩
 have hl:(row::D.next.drop 1).length=n:=by simp;omega
 refine⟨?_,fun i hi => ?_,p3⟩
 ·show Sl 0 w v (row::D.next.drop 1).length 1 _;rw[hl];exact Sl.mono ((Zaa g2).sl (by omega)) (Nat.zero_le _)
 cases i with
 | zero=>exact Sl.mono ((Zaa g3).sl (by omega)) (Nat.zero_le _)
 | succ i =>
  have hi:i+1<(row::D.next.drop 1).length:=hi;simp only[List.length_cons,List.length_drop] at hi;have:=p2 (i+1) (by omega);have e1:(rv::vs.drop 1).getD (i+1) undef=vs.getD (i+1) undef:=by simp
  have e2:(row::D.next.drop 1).getD (i+1) []=D.next.getD (i+1) []:=by simp
  show Ints 0 w ((rv::vs.drop 1).getD (i+1) undef) ((row::D.next.drop 1).getD (i+1) []);rw[e1,e2];exact this
theorem Zgy:DfaH Ent.nil (.slice none 0 0) (.slice none 0 0) [] ⟨[],[]⟩ :=
 ⟨fun _ _ _=>⟨⟨rfl,none,0,rfl,Nat.le_refl _,Nat.zero_le _,fun h=>absurd h (by simp)⟩,fun i hi=>absurd hi (by simp),⟨rfl,none,0,rfl,Nat.le_refl _,Nat.zero_le _,fun h=>absurd h (by simp)⟩⟩⟩
structure SmallD (D:DfaD):Prop where
 n:D.next.length≤40
 e:D.ends.length≤40
 r:∀ x∈D.next,x.length≤3
theorem ZiG {D:DfaD} (h:Zaf D.next D.ends=true):SmallD D:=by have hl:=Zag h;refine⟨hl.2.1,by omega,fun x hx => ?_⟩;obtain⟨i,hi,rfl⟩:=List.getElem_of_mem hx;have:=(ZaI h hi).1;rw[ZaW hi] at this;omega
theorem Zcm {α β:Type} {f:α→β}:∀ {l:List α},(l.map f).Nodup→l.Nodup
 | [],_=>List.nodup_nil
 | x::l,h=>by rw[List.map_cons,List.nodup_cons] at h;exact List.nodup_cons.2 ⟨fun hx=>h.1 (List.mem_map.2 ⟨x,hx,rfl⟩),Zcm h.2⟩
theorem ZdK {α β:Type} {f:α→β}:∀ {l:List α},(l.map f).Nodup→∀ {x y:α},x∈l→y∈l→f x=f y→x=y
 | [],_,x,_,hx,_,_=>by simp at hx
 | z::l,h,x,y,hx,hy,e=>by
  rw[List.map_cons,List.nodup_cons] at h;rcases List.mem_cons.1 hx with hx1|hx1
  ·rcases List.mem_cons.1 hy with hy1|hy1
   ·rw[hx1,hy1]
   exact absurd (List.mem_map.2 ⟨y,hy1,by rw[← e,hx1]⟩) h.1
  rcases List.mem_cons.1 hy with hy1|hy1
  ·exact absurd (List.mem_map.2 ⟨x,hx1,by rw[e,hy1]⟩) h.1
  exact ZdK h.2 hx1 hy1 e
/-! Closing a list of words: a word becomes a start if no start has its key. -/
section
variable {β:Type} [DecidableEq β] (key:List Nat→β)
def kvisit (s:List (List Nat)) (w:List Nat):List (List Nat):=if key w∈s.map key then s else s++[w]
def krow (s:List (List Nat)) (w:List Nat):Nat→List (List Nat)
 | 0=>s
 | n+1=>kvisit key (krow s w n) (w++[n])
def kat (s0:List (List Nat)):Nat→List (List Nat)
 | 0=>s0
 | k+1=>if k<(kat s0 k).length then krow key (kat s0 k) ((kat s0 k).getD k []) 3 else kat s0 k
def kpart (s0:List (List Nat)) (k n:Nat):List (List Nat):=krow key (kat key s0 k) ((kat key s0 k).getD k []) n
variable {key} {s0:List (List Nat)}
theorem Zc5 {k:Nat} (h:k<(kat key s0 k).length):kat key s0 (k+1)=kpart key s0 k 3:=by simp only[kat,if_pos h];rfl
theorem Zc6 {k:Nat} (h:(kat key s0 k).length≤k):kat key s0 (k+1)=kat key s0 k:=by simp only[kat,if_neg (show ¬ k<(kat key s0 k).length by omega)]
theorem Ze4 (k n:Nat):kpart key s0 k (n+1)=kvisit key (kpart key s0 k n) ((kat key s0 k).getD k []++[n]):=rfl
theorem Ze2 (s:List (List Nat)) (w:List Nat):s <+: kvisit key s w:=by
 unfold kvisit
 split
 ·exact List.prefix_rfl
 exact List.prefix_append _ _
theorem Zkl (s:List (List Nat)) (w:List Nat) {n m:Nat} (h:n≤m):krow key s w n <+: krow key s w m:=by
 induction m with
 | zero =>
  obtain rfl:n=0:=by omega
  exact List.prefix_rfl
 | succ m ih =>
  by_cases hn:n=m+1
  ·subst hn;exact List.prefix_rfl
  exact(ih (by omega)).trans (Ze2 _ _)
theorem Zgo {k n m:Nat} (h:n≤m):kpart key s0 k n <+: kpart key s0 k m:=Zkl _ _ h
theorem Zfv {k m:Nat} (h:k≤m):kat key s0 k <+: kat key s0 m:=by
 induction m with
 | zero =>
  obtain rfl:k=0:=by omega
  exact List.prefix_rfl
 | succ m ih =>
  by_cases hn:k=m+1
  ·subst hn;exact List.prefix_rfl
  refine(ih (by omega)).trans ?_;by_cases hl:m<(kat key s0 m).length
  ·rw[Zc5 hl];exact Zgo (Nat.zero_le 3)
  rw[Zc6 (by omega)];exact List.prefix_rfl
theorem Zkm {k m:Nat} (h:(kat key s0 k).length≤k) (hm:k≤m):kat key s0 m=kat key s0 k:=by
 induction m with
 | zero =>
  obtain rfl:k=0:=by omega
  rfl
 | succ m ih =>
  by_cases hn:k=m+1
  ·subst hn;rfl
  have e:=ih (by omega);rw[Zc6 (by rw[e];omega),e]
theorem Ze3 (Q:List (List Nat)→Prop) (hv:∀ s w,Q s→Q (kvisit key s w)) {s:List (List Nat)} (hs:Q s) (w:List Nat):∀ n,Q (krow key s w n)
 | 0=>hs
 | n+1=>hv _ _ (Ze3 Q hv hs w n)
theorem Zjm (Q:List (List Nat)→Prop) (h0:Q s0) (hv:∀ s w,Q s→Q (kvisit key s w)):∀ k,Q (kat key s0 k)
 | 0=>h0
 | k+1=>by
  have ih:=Zjm Q h0 hv k;by_cases h:k<(kat key s0 k).length
  ·rw[Zc5 h];exact Ze3 Q hv ih _ 3
  rw[Zc6 (by omega)];exact ih
theorem Zgn {s:List (List Nat)} (w:List Nat) (h:(s.map key).Nodup):((kvisit key s w).map key).Nodup:=by
 unfold kvisit
 split
 ·exact h
 rename_i hn;rw[List.map_append];exact ZcE h hn
theorem Zjl (h:(s0.map key).Nodup) (k:Nat):((kat key s0 k).map key).Nodup:=Zjm (fun s=>(s.map key).Nodup) h (fun _ w hs=>Zgn w hs) k
theorem Zip (s:List (List Nat)) (w:List Nat):key w∈(kvisit key s w).map key:=by
 unfold kvisit
 split
 ·assumption
 simp
theorem Zjj {k n c:Nat} (hc:c<n):key ((kat key s0 k).getD k []++[c])∈(kpart key s0 k n).map key:=by
 have h1:key ((kat key s0 k).getD k []++[c])∈(kpart key s0 k (c+1)).map key:=by rw[Ze4];exact Zip _ _
 obtain⟨t,ht⟩:=Zgo (key:=key) (s0:=s0) (k:=k) (show c+1≤n by omega);rw[← ht,List.map_append,List.mem_append];exact Or.inl h1
theorem Ziq {K:Nat} (hK:(kat key s0 K).length≤K) {i c:Nat} (hi:i<(kat key s0 K).length) (hc:c<3):key ((kat key s0 K).getD i []++[c])∈(kat key s0 K).map key:=by
 have hp:=Zfv (key:=key) (s0:=s0) (show i≤K by omega);by_cases h:i<(kat key s0 i).length
 ·rw[Zau hp h];have h1:=Zjj (key:=key) (s0:=s0) (k:=i) hc;rw[← Zc5 h] at h1;obtain⟨t,ht⟩:=Zfv (key:=key) (s0:=s0) (show i+1≤K by omega);rw[← ht,List.map_append,List.mem_append];exact Or.inl h1
 have:=Zkm (key:=key) (s0:=s0) (m:=K) (show(kat key s0 i).length≤i by omega) (by omega);rw[this] at hi;omega
end
/-! The table. -/
def runD (d:DfaD) (s:Int) (w:List Nat):Int:=w.foldl (dnx d) s
def accD (d:DfaD) (w:List Nat):Bool:=den d (runD d 0 w)
def rowW (d:DfaD) (rests:List (List Nat)) (w:List Nat):List Bool:=rests.map fun r=>accD d (w++r)
theorem ZcR (d:DfaD) (s:Int) (u v:List Nat):runD d s (u++v)=runD d (runD d s u) v:=by simp[runD]
theorem Zhh (d:DfaD) (u v:List Nat):accD d (u++v)=den d (runD d (runD d 0 u) v):=by rw[accD,ZcR]
theorem Zfn (d:DfaD) (rests:List (List Nat)) (w:List Nat):(rowW d rests w).length=rests.length:=by simp[rowW]
def isW (w:List Nat):Prop:=∀ c∈w,c<3
theorem ZcG {u v:List Nat} (hu:isW u) (hv:isW v):isW (u++v):=fun c hc=>by
 rcases List.mem_append.1 hc with h|h
 ·exact hu c h
 exact hv c h
theorem Zg8 {c:Nat} (h:c<3):isW [c]:=fun x hx=>by simp at hx;omega
theorem Zfw {w:List Nat} (h:isW w) (k:Nat):isW (w.take k):=fun c hc=>h c (List.mem_of_mem_take hc)
theorem Zfx {w:List Nat} (h:isW w) (k:Nat):isW (w.drop k):=fun c hc=>h c (List.mem_of_mem_drop hc)
theorem Zfl {d:DfaD} (hd:Zaf d.next d.ends=true):∀ {w:List Nat},isW w→∀ {s:Int},0≤s→s<d.next.length→0≤runD d s w∧runD d s w<d.next.length
 | [],_,s,h0,h1=>⟨h0,h1⟩
 | c::w,hw,s,h0,h1=>by have hc:c<3:=hw c (by simp);have hr:=(ZaI hd (i:=s.toNat) (by omega)).2 c hc;exact Zfl hd (w:=w) (fun x hx=>hw x (by simp[hx])) (s:=dnx d s c) hr.1 hr.2
theorem ZiM {d:DfaD} (hd:Zaf d.next d.ends=true) {rests l:List (List Nat)} (hl:∀ w∈l,isW w) (hn:(l.map (rowW d rests)).Nodup):l.length≤d.next.length:=by
 have h0:=(Zag hd).1
 have hm:(l.map (runD d 0)).Nodup:=by
  have e:l.map (rowW d rests)=(l.map (runD d 0)).map fun s=>rests.map fun r=>den d (runD d s r):=by rw[List.map_map];apply List.map_congr_left;intro w _;simp[rowW,Zhh]
  rw[e] at hn;exact Zcm hn
 have h1:=ZcF (m:=ZcZ d.next.length) hm fun x hx=>by obtain⟨w,hw,rfl⟩:=List.mem_map.1 hx;obtain⟨a,b⟩:=Zfl hd (hl w hw) (s:=0) (by omega) (by omega);obtain⟨n,hn⟩:=Int.eq_ofNat_of_zero_le a;rw[hn] at b ⊢;exact ZbY.2 (by omega)
 simpa [ZbU] using h1
def Zcx (d:DfaD) (starts rests:List (List Nat)):List (List Nat):=kat (rowW d rests) starts (d.next.length+1)
def Zas (d:DfaD) (starts rests:List (List Nat)):DfaD:=⟨starts.map fun w=>(List.range 3).map fun c=>ZfF (starts.map (rowW d rests)) (rowW d rests (w++[c])),starts.map (accD d)⟩
def mixW (starts:List (List Nat)) (g:DfaD) (s:List Nat) (k:Nat):List Nat:=starts.getD (runD g 0 (s.take k)).toNat []++s.drop k
def cutW (d:DfaD) (starts:List (List Nat)) (g:DfaD) (s:List Nat):Nat:=((List.range s.length).find? fun k=>accD d (mixW starts g s k) != accD d (mixW starts g s (k+1))).getD 0
def tabW (d:DfaD) (hit:DfaD→Option (List Nat)):Nat→List (List Nat) × List (List Nat)
 | 0=>(Zcx d [[]] [[]],[[]])
 | j+1 =>
  let s:=(tabW d hit j).1
  let r:=(tabW d hit j).2
  let g:=Zas d s r
  let w:=(hit g).getD []
  let r':=r++[w.drop (cutW d s g w+1)]
  (Zcx d s r',r')
def gssW (d:DfaD) (hit:DfaD→Option (List Nat)) (j:Nat):DfaD:=Zas d (tabW d hit j).1 (tabW d hit j).2
structure LInv (d:DfaD) (s r:List (List Nat)):Prop where
 sw:∀ x∈s,isW x
 rw:∀ x∈r,isW x
 s0:s.head? = some []
 r0:r.head? = some []
 nd:(s.map (rowW d r)).Nodup
 cl:∀ i c,i<s.length→c<3→rowW d r (s.getD i []++[c])∈s.map (rowW d r)
theorem LInv.pos {d:DfaD} {s r:List (List Nat)} (h:LInv d s r):0<s.length:=by
 have:=h.s0;cases s with
 | nil=>simp at this
 | cons=>simp
theorem LInv.first {d:DfaD} {s r:List (List Nat)} (h:LInv d s r):s.getD 0 []=[]:=by
 have:=h.s0;cases s with
 | nil=>rfl
 | cons x l=>simpa using this
theorem LInv.le {d:DfaD} (hd:Zaf d.next d.ends=true) {s r:List (List Nat)} (h:LInv d s r):s.length≤d.next.length:=ZiM hd h.sw h.nd
theorem Ze9 {d:DfaD} (hd:Zaf d.next d.ends=true) {s r:List (List Nat)} (hs:∀ x∈s,isW x) (hr:∀ x∈r,isW x) (h0:s.head? = some []) (hr0:r.head? = some []) (hn:(s.map (rowW d r)).Nodup):LInv d (Zcx d s r) r∧s <+: Zcx d s r:=by
 have hpre:s <+: Zcx d s r:=Zfv (key:=rowW d r) (s0:=s) (Nat.zero_le (d.next.length+1))
 have hw:∀ K,∀ x∈kat (rowW d r) s K,isW x:=fun K=>by
  induction K with
  | zero=>exact hs
  | succ K ih =>
   by_cases h:K<(kat (rowW d r) s K).length
   ·rw[Zc5 h]
    have key:∀ n,n≤3→∀ x∈kpart (rowW d r) s K n,isW x:=by
     intro n
     induction n with
     | zero=>intro _;exact ih
     | succ n ihn =>
      intro hn3 x hx;rw[Ze4] at hx;unfold kvisit at hx
      split at hx
      ·exact ihn (by omega) x hx
      rcases List.mem_append.1 hx with hx|hx
      ·exact ihn (by omega) x hx
      simp only[List.mem_singleton] at hx;subst hx;exact ZcG (ih _ (memD h)) (Zg8 (by omega))
    exact key 3 (by omega)
   rw[Zc6 (by omega)];exact ih
 have hnd:=Zjl (key:=rowW d r) (s0:=s) hn (d.next.length+1);have hle:=ZiM hd (hw (d.next.length+1)) hnd;refine⟨⟨hw _,hr,?_,hr0,hnd,fun i c hi hc=>Ziq (by omega) hi hc⟩,hpre⟩;obtain⟨t,ht⟩:=hpre;rw[← ht];cases s with
 | nil=>simp at h0
 | cons x l=>simpa using h0
theorem ZfA {d:DfaD} {s r:List (List Nat)} (h:LInv d s r) {i c:Nat} (hi:i<s.length) (hc:c<3) :
  ∃ q:Nat,q<s.length∧((Zas d s r).next.getD i []).getD c 0=(q:Int)∧rowW d r (s.getD q [])=rowW d r (s.getD i []++[c]):=by
 have hm:=h.cl i c hi hc;have hl:=ZaP hm;rw[List.length_map] at hl;refine⟨Zad (s.map (rowW d r)) (rowW d r (s.getD i []++[c])),hl,?_,?_⟩
 ·have e1:(Zas d s r).next.getD i []=(List.range 3).map fun c=>ZfF (s.map (rowW d r)) (rowW d r (s.getD i []++[c])):=by simp[Zas,hi]
  rw[e1];simp only[List.getD_eq_getElem?_getD,List.getElem?_map,List.getElem?_range hc,Option.map_some,w_8];unfold ZfF;rw[← List.getD_eq_getElem?_getD,if_pos hm]
 have:=ZfB hm (rowW d r []);simpa [hl] using this
theorem Zjr (d:DfaD) (s r:List (List Nat)):(Zas d s r).next.length=s.length∧(Zas d s r).ends.length=s.length:=by simp[Zas]
theorem Zep {d:DfaD} {s r:List (List Nat)} (h:LInv d s r):∀ {w:List Nat},isW w→∀ {i:Nat},i<s.length→∃ q:Nat,q<s.length∧runD (Zas d s r) i w=(q:Int)
 | [],_,i,hi=>⟨i,hi,rfl⟩
 | c::w,hw,i,hi=>by obtain⟨q,hq,e,-⟩:=ZfA h hi (hw c (by simp));obtain⟨p,hp,e2⟩:=Zep h (w:=w) (fun x hx=>hw x (by simp[hx])) hq;refine⟨p,hp,?_⟩;show runD (Zas d s r) (dnx (Zas d s r) i c) w=_;unfold dnx;rw[Int.toNat_natCast,e];exact e2
theorem Zjs {d:DfaD} {s r:List (List Nat)} {q:Nat} (hq:q<s.length):den (Zas d s r) (q:Int)=accD d (s.getD q []):=by unfold den;simp[Zas,hq]
theorem ZiE {f:Nat→Bool}:∀ {n:Nat},f 0≠f n→∃ k,k<n∧f k≠f (k+1)
 | 0,h=>absurd rfl h
 | n+1,h=>by
  by_cases e:f n=f (n+1)
  ·rw[← e] at h;obtain⟨k,hk,hh⟩:=ZiE h;exact⟨k,by omega,hh⟩
  exact⟨n,by omega,e⟩
theorem Zlu {d:DfaD} {s r:List (List Nat)} (h:LInv d s r) {w:List Nat} (hw:isW w) (hne:accD d w≠accD (Zas d s r) w) :
  cutW d s (Zas d s r) w<w.length∧(accD d (mixW s (Zas d s r) w (cutW d s (Zas d s r) w)) != accD d (mixW s (Zas d s r) w (cutW d s (Zas d s r) w+1)))=true ∧
   ∀ k,k<cutW d s (Zas d s r) w→(accD d (mixW s (Zas d s r) w k) != accD d (mixW s (Zas d s r) w (k+1)))=false:=by
 have f0:accD d (mixW s (Zas d s r) w 0)=accD d w:=by unfold mixW;rw[List.take_zero,List.drop_zero];show accD d (s.getD 0 []++w)=_;rw[h.first,List.nil_append]
 have fn:accD d (mixW s (Zas d s r) w w.length)=accD (Zas d s r) w:=by obtain⟨q,hq,e⟩:=Zep h hw h.pos;unfold mixW;rw[List.take_length,List.drop_length,List.append_nil];unfold accD at *;have e':runD (Zas d s r) 0 w=(q:Int):=e;rw[e',Int.toNat_natCast,Zjs hq];rfl
 obtain⟨k,hk,hkne⟩:=ZiE (f:=fun k=>accD d (mixW s (Zas d s r) w k)) (n:=w.length) (by rw[f0,fn];exact hne);unfold cutW;cases hf:(List.range w.length).find? fun k=>accD d (mixW s (Zas d s r) w k) != accD d (mixW s (Zas d s r) w (k+1)) with
 | none =>have:=List.find?_eq_none.1 hf k (List.mem_range.2 hk);simp only[bne_iff_ne,ne_eq,Decidable.not_not] at this;exact absurd this hkne
 | some c =>obtain⟨h1,n,hn,hc,h2⟩:=List.find?_eq_some_iff_getElem.1 hf;simp only[List.getElem_range,List.length_range] at hn hc h2;subst hc;simp only[w_8];refine⟨hn,h1,fun k hk => ?_⟩;have:=h2 k hk;simpa using this
theorem Zg1 {d:DfaD} (hd:Zaf d.next d.ends=true) {s r:List (List Nat)} (h:LInv d s r) {w:List Nat} (hw:isW w) (hne:accD d w≠accD (Zas d s r) w) {r':List (List Nat)} (hr':r'=r++[w.drop (cutW d s (Zas d s r) w+1)]) :
  LInv d (Zcx d s r') r'∧s <+: Zcx d s r'∧s.length<(Zcx d s r').length:=by
 obtain⟨hk,hcut,-⟩:=Zlu h hw hne;obtain⟨k,hkk⟩:=eI (cutW d s (Zas d s r) w);rw[← hkk] at hk hcut hr'
 have hrw:∀ x∈r',isW x:=fun x hx=>by
  rw[hr'] at hx;rcases List.mem_append.1 hx with hx|hx
  ·exact h.rw x hx
  simp only[List.mem_singleton] at hx;subst hx;exact Zfx hw _
 have hrow:∀ u,rowW d r' u=rowW d r u++[accD d (u++w.drop (k+1))]:=fun u=>by rw[hr'];simp[rowW]
 have hr0:r'.head? = some []:=by
  rw[hr'];have:=h.r0;cases hr:r with
  | nil=>rw[hr] at this;simp at this
  | cons x l=>rw[hr] at this;simpa using this
 have hnd:(s.map (rowW d r')).Nodup:=by
  have e:s.map (rowW d r)=(s.map (rowW d r')).map (List.take r.length):=by rw[List.map_map];apply List.map_congr_left;intro u _;simp only[Function.comp_apply];rw[hrow,List.take_left' (Zfn _ _ _)]
  have:=h.nd;rw[e] at this;exact Zcm this
 obtain⟨hI,hp⟩:=Ze9 hd h.sw hrw h.s0 hr0 hnd;refine⟨hI,hp,?_⟩;obtain⟨q,hq,e⟩:=Zep h (Zfw hw k) h.pos;have hc:w.getD k 0<3:=hw _ (memD hk);obtain⟨q',hq',e2,e3⟩:=ZfA h hq hc;have e:runD (Zas d s r) 0 (w.take k)=(q:Int):=e;have htk:w.take (k+1)=w.take k++[w.getD k 0]:=by rw[List.take_succ_eq_append_getElem hk];simp[hk]
 have hdk:w.drop k=w.getD k 0::w.drop (k+1):=by rw[List.drop_eq_getElem_cons hk];simp[hk]
 have e':runD (Zas d s r) 0 (w.take (k+1))=(q':Int):=by rw[htk,ZcR,e];show dnx (Zas d s r) (q:Int) (w.getD k 0)=_;unfold dnx;rw[Int.toNat_natCast,e2]
 have m1:mixW s (Zas d s r) w k=(s.getD q []++[w.getD k 0])++w.drop (k+1):=by unfold mixW;rw[e,Int.toNat_natCast,hdk];simp
 have m2:mixW s (Zas d s r) w (k+1)=s.getD q' []++w.drop (k+1):=by unfold mixW;rw[e',Int.toNat_natCast]
 rw[m1,m2] at hcut
 have hnot:rowW d r' (s.getD q []++[w.getD k 0]) ∉ s.map (rowW d r'):=by
  intro hm;obtain⟨u,hu,eu⟩:=List.mem_map.1 hm;rw[hrow,hrow] at eu;obtain⟨h1,h2⟩:=List.append_inj eu (by rw[Zfn,Zfn]);have hq1:s.getD q' []∈s:=memD hq';have:u=s.getD q' []:=by exact ZdK h.nd hu hq1 (by rw[h1,e3])
  rw[this] at h2;simp only[List.cons.injEq,and_true] at h2;rw[h2] at hcut;simp at hcut
 rcases Nat.lt_or_ge s.length (Zcx d s r').length with h1|h1
 ·exact h1
 exfalso;have heq:Zcx d s r'=s:=by obtain⟨t,ht⟩:=hp;have:t=[]:=List.eq_nil_of_length_eq_zero (by have:=congrArg List.length ht;simp at this;omega);rw[← ht,this,List.append_nil]
 have hcl:=hI.cl q (w.getD k 0) (by rw[heq];exact hq) hc;rw[heq] at hcl;exact hnot hcl
theorem ZhL {next:List (List Int)} {ends:List Bool} (h1:1≤next.length) (h2:next.length≤40) (h3:ends.length=next.length) (hr:∀ i,i<next.length→(next.getD i []).length=3∧∀ c,c<3→0≤(next.getD i []).getD c 0∧(next.getD i []).getD c 0<next.length):Zaf next ends=true:=by
 simp only[Zaf,Bool.and_eq_true,List.all_eq_true,decide_eq_true_eq];refine⟨⟨fun x hx => ?_,?_⟩,h3⟩
 ·obtain⟨i,hi,e⟩:=List.getElem_of_mem hx;obtain⟨a,b⟩:=hr i hi;rw[ZaW hi,e] at a b;simp only[Zcf,Bool.and_eq_true,decide_eq_true_eq,List.all_eq_true];refine⟨a,fun y hy => ?_⟩;obtain⟨c,hc,e2⟩:=List.getElem_of_mem hy;have:=b c (by omega);rw[ZaW hc,e2] at this;simp[inB];omega
 simp[inB];omega
theorem Zkt {d:DfaD} (hd:Zaf d.next d.ends=true) {s r:List (List Nat)} (h:LInv d s r):Zaf (Zas d s r).next (Zas d s r).ends=true:=by
 have h1:=h.pos;have h2:=h.le hd;have h3:=Zag hd;obtain⟨l1,l2⟩:=Zjr d s r;refine ZhL (by omega) (by omega) (by omega) fun i hi => ?_
 rw[l1] at hi;refine⟨by simp[Zas,hi],fun c hc => ?_⟩;obtain⟨q,hq,e,-⟩:=ZfA h hi hc;rw[e,l1];omega
def Zlt (d:DfaD) (hit:DfaD→Option (List Nat)):Prop:=∀ g,Zaf g.next g.ends=true→∀ w,hit g=some w→isW w∧accD d w≠accD g w
theorem ZgL {d:DfaD} (hd:Zaf d.next d.ends=true) {hit:DfaD→Option (List Nat)} (hh:Zlt d hit):∀ j,(∀ i,i<j→(hit (gssW d hit i)).isSome=true)→LInv d (tabW d hit j).1 (tabW d hit j).2∧j+1≤(tabW d hit j).1.length
 | 0,_=>by have h:=(Ze9 hd (s:=[[]]) (r:=[[]]) (fun x hx=>by simp at hx;subst hx;intro c hc;simp at hc) (fun x hx=>by simp at hx;subst hx;intro c hc;simp at hc) rfl rfl (by simp)).1;exact⟨h,h.pos⟩
 | j+1,hy=>by
  obtain⟨h,hl⟩:=ZgL hd hh j fun i hi=>hy i (by omega)
  have h1:=hy j (by omega);obtain⟨w,hw⟩:=Option.isSome_iff_exists.1 h1;obtain⟨hw1,hw2⟩:=hh _ (Zkt hd h) w hw;have hm:=Zg1 hd h hw1 hw2 (r':=(tabW d hit (j+1)).2) (by show(tabW d hit j).2++_=_;simp only[show hit (Zas d (tabW d hit j).1 (tabW d hit j).2)=some w from hw,w_8]);exact⟨hm.1,by have:=hm.2.2;show _≤(Zcx d (tabW d hit j).1 (tabW d hit (j+1)).2).length;omega⟩
def rowM (d:DfaD) (s:Nat):List (Int × Int × Int):=(List.range 3).map fun (c:Nat)=>((s:Int),(c:Int),(d.next.getD s []).getD c 0)
def mvs (d:DfaD):Nat→List (Int × Int × Int)
 | 0=>[]
 | s+1=>mvs d s++rowM d s
def ZbR (d:DfaD):NfaD:=⟨d.next.length,mvs d d.next.length,[0],eds d d.next.length⟩
theorem Zfo (d:DfaD) (s:Nat):(rowM d s).length=3:=by simp[rowM]
theorem ZiR (d:DfaD) (s:Nat) {c:Nat} (hc:c<3):(rowM d s).take (c+1)=(rowM d s).take c++[((s:Int),(c:Int),(d.next.getD s []).getD c 0)]:=by rw[List.take_succ_eq_append_getElem (by rw[Zfo];exact hc)];simp[rowM]
theorem Zdp (d:DfaD):∀ s,(mvs d s).length=3*s
 | 0=>rfl
 | s+1=>by show(mvs d s++rowM d s).length=_;rw[List.length_append,Zdp d s,Zfo];omega
theorem Zgw (d:DfaD):∀ s,∀ x∈eds d s,0≤x∧x<(s:Int)
 | 0,x,hx=>by simp[eds] at hx
 | s+1,x,hx=>by
  have ih:=Zgw d s;unfold eds at hx
  split at hx
  ·rcases List.mem_append.1 hx with hx|hx
   ·have:=ih x hx;omega
   simp only[List.mem_singleton] at hx;omega
  have:=ih x hx;omega
theorem Zgh {d:DfaD} (hd:Zaf d.next d.ends=true):∀ s,s≤d.next.length→mvIn d.next.length (mvs d s)
 | 0,_,x,hx=>by simp[mvs] at hx
 | s+1,hs,x,hx=>by
  have hx:x∈mvs d s++rowM d s:=hx;rcases List.mem_append.1 hx with hx|hx
  ·exact Zgh hd s (by omega) x hx
  obtain⟨c,hc,rfl⟩:=List.mem_map.1 hx;have:=(ZaI hd (show s<d.next.length by omega)).2 c (List.mem_range.1 hc);simp only;omega
end Go.Proofs.Ytfanhfcamblghaa
namespace Go.Proofs.Ytfanhfcamblghaa
open Go.RowKit
end Go.Proofs.Ytfanhfcamblghaa
