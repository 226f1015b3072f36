/-
  The walk over the reference's list of sets of states that are met: l9Subsets.
  Conditions: there are m states, at most 40; moves, first and last states lie below; the automaton reads as such.
-/
import Derived.Test.YtfgpkadhegdffaaGreatPe08Nk
import Derived.Test.YtfgpkadhegdffaaGreatPe10Det
set_option maxHeartbeats 8000000
set_option maxRecDepth 100000
namespace Go.Proofs.YtfgpkadhegdffaaGreat
open Go.RowKit Go.Maps
theorem Tryz.infoBools:(Tryz.prog.info? 23).map (fun i=>(i.zero,i.size,i.bytes))=some (some (.slice none 0 0),1,24):=by kernel_rfl
def flc (m:Nat) (x:Int × Int):List Bool:=flags m x.1.toNat
def isM (m:Nat) (x:Int × Int):Prop:=∃ v:Nat,v<2 ^ m∧x=((v:Int),0)
theorem ZiY (m:Nat) (x:Int × Int):(flc m x).length=m:=Zhg _ _
theorem Zoq {m:Nat} {x y:Int × Int} (hx:isM m x) (hy:isM m y) (h:flc m x=flc m y):x=y:=by obtain⟨v,hv,rfl⟩:=hx;obtain⟨u,hu,rfl⟩:=hy;have:v=u:=Zor hv hu (by simpa [flc] using h);rw[this]
theorem Zou {m:Nat} {S:List (Int × Int)} {x:Int × Int} (hS:∀ y∈S,isM m y) (hx:isM m x):Zi0 (S.map (flc m)) (flc m x)=if x∈S then(Zaj S x:Int) else -1:=by
 have hmem:flc m x∈S.map (flc m)↔x∈S:=by
  constructor
  ·intro h;obtain⟨y,hy,e⟩:=List.mem_map.1 h;rw[← Zoq (hS y hy) hx e];exact hy
  exact fun h=>List.mem_map.2 ⟨x,h,rfl⟩
 by_cases h:x∈S
 ·rw[if_pos h];have hk:=ZaV h;refine ZlI (by simpa using hk) ?_ ?_
  ·rw[← List.map_take];intro hc;obtain⟨y,hy,e⟩:=List.mem_map.1 hc;have hyx:=Zoq (hS y (List.mem_of_mem_take hy)) hx e;subst hyx;have hp:=Za3 (List.take_prefix (Zaj S y) S) hy;have:=ZaV hy;rw[List.length_take] at this;omega
  have:=ZiW h x;simp only[List.getD_eq_getElem?_getD,List.getElem?_map];rw[List.getElem?_eq_getElem hk];simp only[Option.map_some,Option.getD_some];congr 1;simpa [hk] using this
 rw[if_neg h];exact Zib fun hc=>h (hmem.1 hc)
def nxSM (M:Nat) (n:NfaD) (x:Int × Int) (c:Nat):Int × Int:=((stV M n.moves x.1.toNat (c:Int):Nat),0)
def Zoo (M:Nat) (n:NfaD):Nat:=clV M n.moves (setV n.firsts)
abbrev metSM (M:Nat) (n:NfaD) (K:Nat):List (Int × Int):=(bat (nxSM M n) (((Zoo M n:Nat):Int),0) K).met
theorem ZnF {M:Nat} {n:NfaD} {m:Nat} (hmv:mvIn m n.moves) (x:Int × Int) (c:Nat):isM m (nxSM M n x c) :=
 ⟨_,Zdw hmv (Zb0 _ (fun v=>v<2 ^ m) (fun _ _ hm hv=>ZcH hmv hm hv) (Nat.two_pow_pos m)) M,rfl⟩
theorem ZqU {M:Nat} {n:NfaD} {m:Nat} (hmv:mvIn m n.moves) (hf:inN m n.firsts):isM m (((Zoo M n:Nat):Int),0):=⟨_,Zdw hmv (Zdk hf) M,rfl⟩
def Zq7 (M:Nat) (n:NfaD) (m K:Nat) (w:World) (e:Ending) (w':World):Prop :=
 ∃ a1 c1 a2 c2 l1 l2,e = .returned (.tuple #[.slice a1 l1 c1,.slice a2 l2 c2])∧l1<1000000 ∧
  (if (metSM M n K).length≤K then l1=(metSM M n K).length∧∃ vs1 vs2,St w w' [Ent.rows 23 4 (.slice a1 l1 c1) vs1 (((metSM M n K).map (flc m)).map boolCells),Ent.rows 67 3 (.slice a2 l2 c2) vs2 (((metSM M n K).map (Zae (nxSM M n) (metSM M n K))).map intCells)]
   else K<l1∧Below w.heap.size w w')
theorem ZlW {α:Type} [DecidableEq α] (nx:α→Nat→α) (x:α) (wd:List Nat) (s:Bs α):∀ n,(brow nx x wd s n).met.length≤s.met.length+n
 | 0=>Nat.le_refl _
 | n+1=>by
  have ih:=ZlW nx x wd s n;show(bvisit nx x wd (brow nx x wd s n) n).met.length≤_;unfold bvisit
  split
  ·omega
  simp;omega
theorem Ze8 {α:Type} [DecidableEq α] (nx:α→Nat→α) (a:α) (k n:Nat):(bpart nx a k n).met.length≤(bat nx a k).met.length+n:=ZlW _ _ _ _ _
theorem Zcu {α β γ:Type} (f:α→β) (g:β→γ) (l:List α):((l.map f).map g).length=l.length:=by simp
theorem ZgS {nx:Int × Int→Nat→Int × Int} {F:List (Int × Int)} {x:Int × Int} {n:Nat} (hn:n<3):(Zae nx F x).take (n+1)=(Zae nx F x).take n++[(Zaj F (nx x n):Int)]:=by rw[List.take_succ_eq_append_getElem (by simp[Zae];omega)];simp[Zae]
theorem ZcK {a:Option Addr} {l c:Nat}:∀ u∈[Value.slice a l c],u.oneCell'=true:=by intro u hu;simp only[List.mem_singleton] at hu;subst hu;rfl
theorem ZhA (M:Nat) (hM:M≤1000) (m K:Nat) (mvs:List (Int × Int × Int)) (fs es:List Int) (v1 v2 v3:Value) (w:World) (hm:m≤M) (hK0:0<K) (hK1:K≤1000) (hmv:mvIn m mvs) (hml:mvs.length≤1000000) (hf:inN m fs) (hfl:fs.length≤1000000) (h1:Moves 0 w v1 mvs) (h2:Ints 0 w v2 fs) :
  Calls Tryz.prog 163 #[.agg #[.int .i64 (m:Int),v1,v2,v3],.int .i64 (K:Nat)] w fun e w'=>Zq7 M ⟨(m:Int),mvs,fs,es⟩ m K w e w':=by
 obtain⟨n,hn⟩:∃ n:NfaD,n=⟨(m:Int),mvs,fs,es⟩:=⟨_,rfl⟩;rw[← hn];have hnm:n.moves=mvs:=by rw[hn]
 have hnf:n.firsts=fs:=by rw[hn]
 obtain⟨W,hW⟩:=eI (w.alloc (.cells #[.int .i64 (m:Int),v1,v2,v3] 90));have hS0:St w W [Ent.box w.heap.size #[.int .i64 (m:Int),v1,v2,v3] 90]:=by rw[hW];exact(St.start w).alloc _ rfl _ _
 have c0:=hS0.cell (v:=.int .i64 (m:Int)) 0 0 rfl rfl;have c1:=hS0.cell (v:=v1) 0 1 rfl rfl;have c2:=hS0.cell (v:=v2) 0 2 rfl rfl;have c3:=hS0.cell (v:=v3) 0 3 rfl rfl;have hl0:=(hS0.boxlt 0 rfl).2;have Hk:=qh (fun (w':World) (h:Below W.drew.heap.size W.drew w')=>(show w'.cell? ⟨w.heap.size,0,none⟩=some (.int .i64 (m:Int))∧w'.cell? ⟨w.heap.size,1,none⟩=some v1∧w'.cell? ⟨w.heap.size,2,none⟩=some v2∧w'.cell? ⟨w.heap.size,3,none⟩=some v3 from⟨(bcell h _ _ hl0).trans c0,(bcell h _ _ hl0).trans c1,(bcell h _ _ hl0).trans c2,(bcell h _ _ hl0).trans c3⟩));have H1:=qh (h1.below hS0.bel.drew);have H2:=qh (h2.below hS0.bel.drew);have hfst:clV M mvs (setV fs)=Zoo M n:=by rw[hn];rfl
 obtain⟨i0,hi,hz0,hz1,hz2⟩:=info_parts Tryz.infoInt;obtain⟨j0,hj,hy0,hy1,hy2⟩:=info_parts Tryz.infoInts;obtain⟨k0,hk,hx0,hx1,hx2⟩:=info_parts Tryz.infoBools;have HG1:=qh h1;replace hn:=qh hn;have Hhnm:=qh hnm;clear hnm;have Hhnf:=qh hnf;clear hnf;replace hS0:=qh hS0;have Hhmv:=qh hmv;clear hmv;have Hhml:=qh hml;clear hml;have Hhf:=qh hf;clear hf;have Hhfl:=qh hfl;clear hfl;have Hhfst:=qh hfst;clear hfst;have Hhi:=qh hi;clear hi;have Hhz0:=qh hz0;clear hz0;have Hhz1:=qh hz1;clear hz1;have Hhz2:=qh hz2;clear hz2;have Hhj:=qh hj;clear hj;have Hhy0:=qh hy0;clear hy0;have Hhy1:=qh hy1;clear hy1;have Hhy2:=qh hy2;clear hy2;have Hhk:=qh hk;clear hk;have Hhx0:=qh hx0;clear hx0;have Hhx1:=qh hx1;clear hx1;have Hhx2:=qh hx2;clear hx2;have HW:=qh hW;clear hW h1 h2
 go_enter Tryz.func163, Tryz.ntmps163
 go_wp2_with fail;rw[← HW.out]
 go_region_held3 (fun w'=>w'.cell? ⟨w.heap.size,0,none⟩=some (.int .i64 (m:Int))∧w'.cell? ⟨w.heap.size,1,none⟩=some v1∧w'.cell? ⟨w.heap.size,2,none⟩=some v2∧w'.cell? ⟨w.heap.size,3,none⟩=some v3)
  (first|go_keep|exact Hk.out _ hq0|exact Hk.out _ hq1)
  (first
   | (go_at_call 176;(with_reducible refine(ZjM fs m _ _ (by omega) Hhf.out Hhfl.out H2.out).mono ?_);rintro e u0 ⟨⟨g0,d0,rfl,hr0⟩,hq0⟩)
   | (go_at_call 175;(with_reducible refine(ZfK M hM ⟨(m:Int),mvs,fs,es⟩ m (setV fs) v1 v2 v3 _ _ hm Hhmv.out Hhml.out (Zdk Hhf.out) (H1.out.below hq0) (FlagsAt.of hr0)).mono ?_);rintro e u1 ⟨⟨g1,d1,rfl,hr1⟩,hb1⟩;have hq1:=hq0.trans (hb1.mono hq0.size)))
 have hS1:=((hS0.out.drew).call hq0).made hb1 hr1;have hS2:=((hS1.alloc _ rfl #[.slice (some ⟨g1,0,none⟩) m d1] 23).boxrow 2 1 1 [.slice (some ⟨g1,0,none⟩) m d1] rfl rfl (by unfold maxLen;omega)).onerow 2 1 (by decide) rfl rfl;have hS3:=(((hS2.pick [0,2] (by decide)).alloc (u1.heap.size+1) (by simp) #[] 67).boxrow 2 0 1 [] rfl rfl (Nat.zero_le _)).norows 2 rfl 3;have HhS3:=qh hS3;clear hS3;clear hS1 hS2 hq0 hq1 hb1 hr0 hr1 c0 c1 c2 c3 hl0;obtain⟨F,hF⟩:=eI (metSM M n K);obtain⟨a0,ha0⟩:=eI (((((Zoo M n:Nat):Int),0):Int × Int));have hFa:F=(bat (nxSM M n) a0 K).met:=by rw[hF,ha0]
 have Hin:=qh (fun k=>Zca (nx:=nxSM M n) (a:=a0) (Q:=isM m) (by rw[ha0];exact ZqU (by rw[Hhnm.out];exact Hhmv.out) (by rw[Hhnf.out];exact Hhf.out)) (fun x c _ _=>ZnF (by rw[Hhnm.out];exact Hhmv.out) x c) k);have hFa':F=(bat (nxSM M n) a0 K).met:=hFa;replace hF:=qh hF;have HhFa:=qh hFa;clear hFa;have HhFa':=qh hFa';clear hFa';have Hha0:=qh ha0;clear ha0;go_wp2
 go_loopw [6,7,8] (fun vs vn i wr=>∃ (k:Nat) (b1 cap1 b2 cap2:Nat) (vs1 vs2:List Value),i = .int .i64 k∧vs = .slice (some ⟨b1,0,none⟩) (bat (nxSM M n) a0 k).met.length cap1∧vn = .slice (some ⟨b2,0,none⟩) k cap2∧k≤(bat (nxSM M n) a0 k).met.length∧k≤K∧(bat (nxSM M n) a0 k).met.length≤K+3 ∧
   St w wr [Ent.box w.heap.size #[.int .i64 (m:Int),v1,v2,v3] 90,Ent.rows 23 4 (.slice (some ⟨b1,0,none⟩) (bat (nxSM M n) a0 k).met.length cap1) vs1 (((bat (nxSM M n) a0 k).met.map (flc m)).map boolCells),
    Ent.rows 67 3 (.slice (some ⟨b2,0,none⟩) k cap2) vs2 ((((bat (nxSM M n) a0 k).met.take k).map (Zae (nxSM M n) F)).map intCells)])
  (fun _ _ i _=>K-(intOf i).toNat)
 case atStart =>
  refine⟨0,_,_,_,_,[.slice (some ⟨g1,0,none⟩) m d1],[],rfl,rfl,rfl,by simp,by omega,by simp[bat],?_⟩;have e1:((bat (nxSM M n) a0 0).met.map (flc m)).map boolCells=[boolCells (flags m (clV M mvs (setV fs)))]:=by simp[bat,Hha0.out,flc,Hhfst.out]
  rw[e1];exact HhS3.out
 case round =>
  obtain⟨k,b1,cap1,b2,cap2,vs1,vs2,rfl,rfl,rfl,hk,hkK,hML,hS⟩:=hrel;obtain⟨S,hSS⟩:=eI (bat (nxSM M n) a0 k);have hR:=Hin.out k;rw[← hSS] at hk hML hS hR;rw[← hSS];obtain⟨wo,hwo⟩:∃ wo:World,wo=wr:=⟨_,rfl⟩;subst hwo;have HhS:=qh hS;clear hS;have HhSS:=qh hSS;clear hSS;have HhR:=qh hR;clear hR;by_cases hlt:k<S.met.length
  ·by_cases hle:S.met.length≤K
   ·have hlt2:(k:Int)<S.met.length:=by omega
    have hle2:(S.met.length:Int)≤K:=by omega
    have hSe:=(HhS.out.alloc _ rfl #[] 3).boxrow 3 0 1 [] rfl rfl (Nat.zero_le _);obtain⟨x,hx⟩:=eI (S.met.getD k a0);have hxM:isM m x:=by rw[hx];exact HhR.out _ (memD hlt)
    have hkS:k<(bat (nxSM M n) a0 k).met.length:=by rw[← HhSS.out];exact hlt
    have hxb:(bat (nxSM M n) a0 k).met.getD k a0=x:=by rw[← HhSS.out];exact hx.symm
    have HhSe:=qh hSe;clear hSe;have Hhx:=qh hx;clear hx;have HhxM:=qh hxM;clear hxM;have HhkS:=qh hkS;clear hkS;have Hhxb:=qh hxb;clear hxb;go_wp2
    go_loopw [6,9,10] (fun vs rv i wi=>∃ (c:Nat) (b1 cap1 b3 cap3:Nat) (vs1:List Value),i = .int .i64 c∧vs = .slice (some ⟨b1,0,none⟩) (bpart (nxSM M n) a0 k c).met.length cap1∧rv = .slice (some ⟨b3,0,none⟩) c cap3∧c≤3 ∧
      St w wi [Ent.box w.heap.size #[.int .i64 (m:Int),v1,v2,v3] 90,Ent.rows 23 4 (.slice (some ⟨b1,0,none⟩) (bpart (nxSM M n) a0 k c).met.length cap1) vs1 (((bpart (nxSM M n) a0 k c).met.map (flc m)).map boolCells),
       Ent.rows 67 3 (.slice (some ⟨b2,0,none⟩) k cap2) vs2 (((S.met.take k).map (Zae (nxSM M n) F)).map intCells),Ent.row 3 1 (.slice (some ⟨b3,0,none⟩) c cap3) c (intCells ((Zae (nxSM M n) F x).take c))])
     (fun _ _ i _=>3-(intOf i).toNat)
    case atStart =>refine⟨0,b1,cap1,_,_,vs1,rfl,by rw[Zat,← HhSS.out],rfl,by omega,?_⟩;rw[Zat,← HhSS.out];exact HhSe.out
    case round =>
     obtain⟨c,b1,cap1,b3,cap3,vs1,rfl,rfl,rfl,hc3,hSi⟩:=hrel;obtain⟨wp,hwp⟩:∃ wp:World,wp=wr:=⟨_,rfl⟩;subst hwp;by_cases hc:c<3
     ·have hTl:=Ze8 (nxSM M n) a0 k c;have hTall:=ZoW (nx:=nxSM M n) (a:=a0) (Q:=isM m) (by have:=Hin.out 0;exact this a0 (by simp[bat])) (fun x c _ _=>ZnF (by rw[Hhnm.out];exact Hhmv.out) x c) HhkS.out (show c≤3 by omega);have hold:=Zb2 (nx:=nxSM M n) (a:=a0) (k:=k) (n:=c);have hnew:=Zbz (nx:=nxSM M n) (a:=a0) (k:=k) (n:=c);have hTS:=Zb3 (nx:=nxSM M n) (a:=a0) (k:=k) (Nat.zero_le c);have hTF:=ZaG (nx:=nxSM M n) (a:=a0) (m:=K) HhkS.out (show c≤3 by omega) (show k<K by omega);have hTF2:=ZaG (nx:=nxSM M n) (a:=a0) (m:=K) HhkS.out (show c+1≤3 by omega) (show k<K by omega);rw[Zat,← HhSS.out] at hTS;rw[Hhxb.out] at hold hnew;rw[← HhSS.out] at hTl;replace hTF:=hTF.1;replace hTF2:=hTF2.1;replace hTS:=hTS.1;rw[← HhFa'.out] at hTF hTF2;obtain⟨y,hy⟩:=eI (nxSM M n x c);have hyM:isM m y:=by rw[hy];exact ZnF (by rw[Hhnm.out];exact Hhmv.out) x c
      have hyf:flags m (stV M mvs x.1.toNat (c:Int))=flc m y:=by rw[hy,← Hhnm.out];rfl
      have hold':y∈(bpart (nxSM M n) a0 k c).met→(bpart (nxSM M n) a0 k (c+1)).met=(bpart (nxSM M n) a0 k c).met:=fun h=>by rw[hold (by rw[← hy];exact h)]
      have hnew':y ∉ (bpart (nxSM M n) a0 k c).met→(bpart (nxSM M n) a0 k (c+1)).met=(bpart (nxSM M n) a0 k c).met++[y]:=fun h=>by rw[hnew (by rw[← hy];exact h),← hy]
      clear hold hnew;obtain⟨T1,hT1⟩:=eI ((bpart (nxSM M n) a0 k (c+1)).met);obtain⟨T,hT⟩:=eI ((bpart (nxSM M n) a0 k c).met);rw[← hT] at hSi hTl hTall hTF hTS hold' hnew';rw[← hT1] at hTF2 hold' hnew';rw[← hT];have hkT:k<T.length:=Nat.lt_of_lt_of_le hlt hTS.length_le;have hxT:T.getD k a0=x:=(ZaD hTS hlt _).trans Hhx.out.symm;have hfind:=Zou hTall hyM;have hrow:=ZgS (nx:=nxSM M n) (F:=F) (x:=x) hc;rw[← hy] at hrow;have hlm:((T.map (flc m)).map boolCells).length=T.length:=Zcu _ _ _;have hcs:((T.map (flc m)).map boolCells).getD k []=boolCells (flc m x):=by rw[← hxT];simp[hkT]
      obtain⟨ax,cx,hcell,hxr,hcx1,hcx2,hcp1,hcp2,hb1l⟩:=hSi.rowAt 1 rfl hlm hkT;rw[hcs] at hcell hxr hcx1;have hxl:(boolCells (flc m x)).length=m:=by simp[ZiY]
      rw[hxl] at hcell hxr hcx1;have hxB:=Zke hxr;have e0:=hSi.cell (v:=.int .i64 (m:Int)) 0 0 rfl rfl;have e1:=hSi.cell (v:=v1) 0 1 rfl rfl;have e2:=hSi.cell (v:=v2) 0 2 rfl rfl;have e3:=hSi.cell (v:=v3) 0 3 rfl rfl;have hl0:=(hSi.boxlt 0 rfl).2;have Hk2:=qh (fun (w':World) (h:Below wp.drew.heap.size wp.drew w')=>(show w'.cell? ⟨w.heap.size,0,none⟩=some (.int .i64 (m:Int))∧w'.cell? ⟨w.heap.size,1,none⟩=some v1∧w'.cell? ⟨w.heap.size,2,none⟩=some v2∧w'.cell? ⟨w.heap.size,3,none⟩=some v3∧w'.cell? ⟨b1,k,none⟩=some (.slice ax m cx) from⟨(bcell h _ _ hl0).trans e0,(bcell h _ _ hl0).trans e1,(bcell h _ _ hl0).trans e2,(bcell h _ _ hl0).trans e3,(bcell h _ _ hb1l).trans hcell⟩));have HM2:=qh (HG1.out.below hSi.bel.drew);have HX2:=qh (hxB.below (Below.refl _ _).drew);have hkT2:(k:Int)<T.length:=by omega
      have hc4:(c:Int)<3:=by omega
      have Hhy:=qh hy;clear hy;have HhyM:=qh hyM;clear hyM;have Hhyf:=qh hyf;clear hyf;have Hhold':=qh hold';clear hold';have Hhnew':=qh hnew';clear hnew';have HhT1:=qh hT1;clear hT1;have HhT:=qh hT;clear hT;have HhTl:=qh hTl;clear hTl;have HhTall:=qh hTall;clear hTall;have HhTF:=qh hTF;clear hTF;have HhTF2:=qh hTF2;clear hTF2;have HhTS:=qh hTS;clear hTS;have HhxT:=qh hxT;clear hxT;have Hhfind:=qh hfind;clear hfind;have Hhrow:=qh hrow;clear hrow;have Hhlm:=qh hlm;clear hlm;have HhSi:=qh hSi;clear hSi;clear hcs hxr hxl hxB;go_wp2
      go_region_held3 (fun w'=>w'.cell? ⟨w.heap.size,0,none⟩=some (.int .i64 (m:Int))∧w'.cell? ⟨w.heap.size,1,none⟩=some v1∧w'.cell? ⟨w.heap.size,2,none⟩=some v2∧w'.cell? ⟨w.heap.size,3,none⟩=some v3∧w'.cell? ⟨b1,k,none⟩=some (.slice ax m cx))
       (first|go_keep|exact Hk2.out _ hq0)
       (first
        | (go_at_call 177;(with_reducible refine(ZkM M hM ⟨(m:Int),mvs,fs,es⟩ m x.1.toNat (c:Int) v1 v2 v3 _ _ rfl hm Hhmv.out Hhml.out HM2.out HX2.out).mono ?_);rintro e u2 ⟨⟨g2,d2,rfl,hr2⟩,hq0⟩))
      have hSx:=HhSi.out.drew.made hq0 hr2;rw[show flags m (stV M (NfaD.moves ⟨(m:Int),mvs,fs,es⟩) x.1.toNat (c:Int))=flc m y from Hhyf.out] at hSx;have hfa:=Zmt (T.map (flc m)) (flc m y) m (.slice (some ⟨b1,0,none⟩) T.length cap1) (.slice (some ⟨g2,0,none⟩) m d2) u2 (by intro z hz;obtain⟨q,-,rfl⟩:=List.mem_map.1 hz;exact ZiY _ _) (ZiY _ _) (by rw[List.length_map];have:=HhTl.out;omega) (hSx.boolSS 1 rfl) (hSx.bools 4 rfl);rw[Hhfind.out] at hfa;have HhSx:=qh hSx;clear hSx;clear hcell e0 e1 e2 e3 hq0 hr2;by_cases hmem:y∈T
      ·rw[if_pos hmem] at hfa;obtain⟨p,hp⟩:=eI (Zaj T y);have hpl:p<T.length:=by rw[hp];exact ZaV hmem
       have hpF:Zaj F y=p:=(Za3 HhTF.out hmem).trans hp.symm;rw[← hp] at hfa;have hT1o:=Hhold'.out hmem;have hp0:¬ ((p:Int)<0):=by omega
       have Hhfa:=qh hfa;clear hfa;have Hhp:=qh hp;clear hp;have HhpF:=qh hpF;clear hpF;have HhT1o:=qh hT1o;clear hT1o;go_wp2_with fail;refine Hhfa.out.mono ?_;rintro e w2 ⟨rfl,hb2⟩;have hSa:=(HhSx.out.call hb2).alloc_ (.cells #[.int .i64 (p:Int)] 3);have hR:=hSa.row 3 rfl;have HhSa:=qh hSa;clear hSa;have HhR:=qh hR;clear hR;clear hb2;go_wp2_with (at_builtin;refine wpList_append_lies _ rfl _ _ _ rfl _ 3 i0 (.int .i64 0) 1 8 Tryz.underlying67 Hhi.out Hhz0.out Hhz1.out Hhz2.out rfl (by omega) _ c _ rfl HhR.out ⟨w2.heap.size,0,none⟩ 1 1 [.int .i64 (p:Int)] rfl rfl (World.news_of_block (heap_alloc_new w2 _)) ZbL (by omega) (by unfold maxLen;omega) (by omega) HhSa.out.size _ rfl ?_;intro g6 c6 w6 hown6 hgrow6 hat6 hlt6;have HS6:=qh (HhSa.out.app 3 rfl hown6 hgrow6 hat6);clear hown6 hgrow6 hat6 hlt6);go_roundw
       case rel =>refine⟨c+1,b1,cap1,_,_,vs1,by go_num,by rw[← HhT1.out,HhT1o.out],rfl,by omega,?_⟩;rw[← HhT1.out,HhT1o.out,Hhrow.out,HhpF.out,Zav];exact HS6.out.pick [0,1,2,3] (by decide)
       case measure=>simp[intOf];omega
      rw[if_neg hmem] at hfa;have hT1n:=Hhnew'.out hmem;have hpF:Zaj F y=T.length:=Zgl (by rw[← hT1n];exact HhTF2.out) hmem;have hTlt:=HhTl.out;have Hhfa:=qh hfa;clear hfa;have HhpF:=qh hpF;clear hpF;have HhT1n:=qh hT1n;clear hT1n;go_wp2_with fail;refine Hhfa.out.mono ?_;rintro e w2 ⟨rfl,hb2⟩;have hSa:=(HhSx.out.call hb2).alloc_ (.cells #[.slice (some ⟨g2,0,none⟩) m d2] 23);have hR:=(hSa.rows 1 rfl).1;rw[Hhlm.out] at hR;have HhSa:=qh hSa;clear hSa;have HhR:=qh hR;clear hR;clear hb2
      go_wp2_with (first
       | (at_builtin;refine wpList_append_lies _ rfl _ _ _ rfl _ 23 k0 (.slice none 0 0) 1 24 Tryz.underlying179 Hhk.out Hhx0.out Hhx1.out Hhx2.out rfl (by omega) _ T.length _ rfl HhR.out ⟨w2.heap.size,0,none⟩ 1 1 [.slice (some ⟨g2,0,none⟩) m d2] rfl rfl (World.news_of_block (heap_alloc_new w2 _)) ZcK (by omega) (by unfold maxLen;omega) (by omega) HhSa.out.size _ rfl ?_;intro g6 c6 w6 hown6 hgrow6 hat6 hlt6;have HS6:=qh ((HhSa.out.snoc 1 4 (by decide) rfl rfl (by decide) hgrow6 (by rw[Hhlm.out];exact hown6) (ZfN hat6)).alloc_ (.cells #[.int .i64 (T.length:Int)] 3));have HR6:=qh (HS6.out.row 3 rfl);clear hown6 hgrow6 hat6 hlt6)
       | (at_builtin;refine wpList_append_lies _ rfl _ _ _ rfl _ 3 i0 (.int .i64 0) 1 8 Tryz.underlying67 Hhi.out Hhz0.out Hhz1.out Hhz2.out rfl (by omega) _ c _ rfl HR6.out ⟨w6.heap.size,0,none⟩ 1 1 [.int .i64 (T.length:Int)] rfl rfl (World.news_of_block (heap_alloc_new w6 _)) ZbL (by omega) (by unfold maxLen;omega) (by omega) HS6.out.size _ rfl ?_;intro g7 c7 w7 hown7 hgrow7 hat7 hlt7;have HS7:=qh (HS6.out.app 3 rfl hown7 hgrow7 hat7);clear hown7 hgrow7 hat7 hlt7))
      go_roundw
      case rel =>refine⟨c+1,g6,c6,g7,c7,vs1++[.slice (some ⟨g2,0,none⟩) m d2],by go_num,by rw[← HhT1.out,HhT1n.out,List.length_append];rfl,rfl,by omega,?_⟩;rw[← HhT1.out,HhT1n.out,Hhrow.out,HhpF.out,Zav,List.map_append,List.map_append,List.length_append];exact HS7.out.pick [0,1,2,3] (by decide)
      case measure=>simp[intOf];omega
     obtain rfl:c=3:=by omega
     have hbs:bat (nxSM M n) a0 (k+1)=bpart (nxSM M n) a0 k 3:=ZaR HhkS.out;have hle3:=Ze8 (nxSM M n) a0 k 3;have hTS:=(Zb3 (nx:=nxSM M n) (a:=a0) (k:=k) (Nat.zero_le 3)).1;rw[Zat] at hTS;rw[← HhSS.out] at hle3 hTS;have hkl:k+1≤(bpart (nxSM M n) a0 k 3).met.length:=Nat.le_trans hlt hTS.length_le;have htk:(bpart (nxSM M n) a0 k 3).met.take (k+1)=S.met.take k++[x]:=by obtain⟨t,ht⟩:=hTS;rw[← ht,List.take_append_of_le_length (by omega),List.take_succ_eq_append_getElem hlt,Hhx.out];simp[hlt]
     have hn3:(Zae (nxSM M n) F x).take 3=Zae (nxSM M n) F x:=List.take_of_length_le (by simp[Zae]);have hlm:(((S.met.take k).map (Zae (nxSM M n) F)).map intCells).length=k:=by rw[Zcu,List.length_take];omega
     rw[hn3] at hSi;have hSa:=hSi.alloc_ (.cells #[.slice (some ⟨b3,0,none⟩) 3 cap3] 67);have hR:=(hSa.rows 2 rfl).1;rw[hlm] at hR;have Hhbs:=qh hbs;clear hbs;have Hhle3:=qh hle3;clear hle3;have HhTS:=qh hTS;clear hTS;have Hhtk:=qh htk;clear htk;have Hhn3:=qh hn3;clear hn3;have Hhlm:=qh hlm;clear hlm;have HhSi:=qh hSi;clear hSi;have HhSa:=qh hSa;clear hSa;have HhR:=qh hR;clear hR;go_wp2_with (at_builtin;refine wpList_append_lies _ rfl _ _ _ rfl _ 67 j0 (.slice none 0 0) 1 24 Tryz.underlying22 Hhj.out Hhy0.out Hhy1.out Hhy2.out rfl (by omega) _ k _ rfl HhR.out ⟨wp.heap.size,0,none⟩ 1 1 [.slice (some ⟨b3,0,none⟩) 3 cap3] rfl rfl (World.news_of_block (heap_alloc_new wp _)) ZcK (by omega) (by unfold maxLen;omega) (by omega) HhSa.out.size _ rfl ?_;intro g6 c6 w6 hown6 hgrow6 hat6 hlt6;have HS6:=qh (HhSa.out.snoc 2 3 (by decide) rfl rfl (by decide) hgrow6 (by rw[Hhlm.out];exact hown6) (ZfN hat6));clear hown6 hgrow6 hat6 hlt6);go_roundw
     case rel =>refine⟨k+1,b1,cap1,g6,c6,vs1,vs2++[.slice (some ⟨b3,0,none⟩) 3 cap3],by go_num,by rw[Hhbs.out],rfl,by rw[Hhbs.out];exact hkl,by omega,by rw[Hhbs.out];have:=Hhle3.out;omega,?_⟩;rw[Hhbs.out,Hhtk.out,List.map_append,List.map_append];exact HS6.out.pick [0,1,2] (by decide)
     case measure=>simp[intOf];omega
   have hlt2:(k:Int)<S.met.length:=by omega
   have hle2:¬ ((S.met.length:Int)≤K):=by omega
   have hbig:¬ ((metSM M n K).length≤K):=by have h:=(ZfU (nx:=nxSM M n) (a:=a0) hkK).1.length_le;rw[← HhSS.out,Hha0.out] at h;unfold metSM;omega
   have Hhbig:=qh hbig;clear hbig;go_wp2
   go_ret2
   refine⟨_,_,_,_,_,_,rfl,by omega,?_⟩;rw[if_neg Hhbig.out];exact⟨by omega,HhS.out.bel⟩
  have hkl:k=S.met.length:=by omega
  have hfin:metSM M n K=S.met:=by have h:=ZbI (nx:=nxSM M n) (a:=a0) (k:=k) (m:=K) (by rw[← HhSS.out];omega) hkK;unfold metSM;rw[← Hha0.out,h,← HhSS.out]
  have Hhkl:=qh hkl;clear hkl;have Hhfin:=qh hfin;clear hfin;go_wp2
  go_ret2
  refine⟨_,_,_,_,_,_,rfl,by omega,?_⟩;rw[Hhfin.out,if_pos (by have:=Hhkl.out;omega)];refine⟨rfl,vs1,vs2,?_⟩;have h:=HhS.out.pick [1,2] (by decide);have h2:=Hhkl.out;subst h2;rw[List.take_length,hF.out,Hhfin.out] at h;exact h
end Go.Proofs.YtfgpkadhegdffaaGreat
namespace Go.Proofs.YtfgpkadhegdffaaGreat
open Go.RowKit
def inL (M:List Int) (n:Nat):List Bool:=(List.range n).map fun (s:Nat)=>decide ((s:Int)∈M)
theorem Zp0 (M:List Int) (n x:Nat):inL (M++[(x:Int)]) n=(inL M n).set x true:=by
 apply List.ext_getElem?;intro i;rw[List.getElem?_set];by_cases hin:i<n
 ·by_cases hx:x=i
  ·subst hx;simp[inL,hin]
  have:¬ (i:Int)=(x:Int):=by omega
  simp[inL,hin,hx,this]
 by_cases hx:x=i
 ·subst hx;simp[inL,hin]
 simp[inL,hin,hx]
theorem ZqS (n:Nat):inL [] n=List.replicate n false:=by apply List.ext_getElem?;intro i;by_cases hin:i<n<;>simp[inL,hin]
theorem ZlF {M:List Int} {n s:Nat} (h:s<n):(boolCells (inL M n))[s]? = some (.bool (decide ((s:Int)∈M))):=by simp[inL,h]
theorem Zof {M:List Int} {n x:Nat}:(boolCells (inL M n)).set x (.bool true)=boolCells (inL (M++[(x:Int)]) n):=by rw[Zp0];simp[boolCells,List.map_set]
theorem ZpL {w:World} {B n:Nat} {v:Value} (h:w.ownsRow B 4 1 v n (madeCells (Value.bool false).cells (n*1)).toList):w.ownsRow B 4 1 v n (boolCells (inL [] n)):=by
 have e:(madeCells (Value.bool false).cells (n*1)).toList=boolCells (inL [] n):=by rw[ZqS];simp[madeCells,Value.cells,boolCells,Nat.mod_one,List.map_const']
 rwa [e] at h
theorem ZkN (d:DfaD) (v:Value) (w:World) (hd:Zag d.next d.ends=true) (h:DfaR 0 w v d) (F:List Int) (hF:(bat (dnx d) 0 d.next.length).met=F) :
  Calls Tryz.prog 164 #[v] w fun e w'=>∃ a c,e = .returned (.slice a F.length c)∧St w w' [Ent.row 3 1 (.slice a F.length c) F.length (intCells F)]:=by
 obtain⟨v1,v2,rfl,q1,q2⟩:=h;have hf:=ZaL hd;obtain⟨L,hL⟩:=eI (d.next.length);obtain⟨hl1,hl2,-⟩:=Zaf hd;have hrow:=fun (i:Nat) (hi:i<d.next.length)=>(ZaM hd hi).1
 have hnx:=fun (i c:Nat) (hi:i<d.next.length) (h3:c<3)=>(Zcf hf hi h3)
 have hmet:=fun (K:Nat)=>Zby hf K
 obtain⟨av,cvv,rfl,hc1,hc2,hr1⟩:=q1.formI;obtain⟨b1,o1,rfl,-,hb1,hcs1⟩:=hr1 (by omega);obtain⟨i0,hi,hz0,hz1,hz2⟩:=info_parts Tryz.infoBool;obtain⟨j0,hj,hy0,hy1,hy2⟩:=info_parts Tryz.infoInt;have hS0:=(((St.start w).alloc _ rfl #[.slice (some ⟨b1,o1,none⟩) d.next.length cvv,v2] 25).alloc (w.heap.size+1) (by simp) #[.int .i64 0] 3).boxrow 1 1 1 [.int .i64 0] rfl rfl (by unfold maxLen;omega);rw[← hL] at hl1 hl2 hS0 hF;rw[← hL];have hL0:(0:Int)<L:=by omega
 have hL00:0<L:=by omega
 have Hrow:=qh hrow;have Hnx:=qh hnx;have Hmet:=qh hmet;have Hcs1:=qh hcs1;replace hS0:=qh hS0;replace hL:=qh hL;replace hF:=qh hF;have Hhi:=qh hi;clear hi;have Hhz0:=qh hz0;clear hz0;have Hhz1:=qh hz1;clear hz1;have Hhz2:=qh hz2;clear hz2;have Hhj:=qh hj;clear hj;have Hhy0:=qh hy0;clear hy0;have Hhy1:=qh hy1;clear hy1;have Hhy2:=qh hy2;clear hy2;clear hrow hnx hmet hcs1 hr1 q1 q2 hf hd
 go_enter Tryz.func164, Tryz.ntmps164
 have HD:=qh (show ∀ w1:World,w1.ownsRow ((w.alloc (.cells #[.slice (some ⟨b1,o1,none⟩) L cvv,v2] 25)).alloc (.cells #[.int .i64 0] 3)).heap.size 4 1 (.slice (some ⟨w.heap.size+1+1,0,none⟩) L L) L (boolCells (inL [] L))→Below ((w.alloc (.cells #[.slice (some ⟨b1,o1,none⟩) L cvv,v2] 25)).alloc (.cells #[.int .i64 0] 3)).heap.size ((w.alloc (.cells #[.slice (some ⟨b1,o1,none⟩) L cvv,v2] 25)).alloc (.cells #[.int .i64 0] 3)) w1 →
   St w w1 [Ent.box w.heap.size #[.slice (some ⟨b1,o1,none⟩) L cvv,v2] 25,Ent.row 3 1 (.slice (some ⟨w.heap.size+1,0,none⟩) 1 1) 1 [.int .i64 0],Ent.row 4 1 (.slice (some ⟨w.heap.size+1+1,0,none⟩) L L) L (boolCells (inL [] L))] from fun w1 h1 h2=>hS0.out.made h2 h1)
 go_wp2_with (at_make;refine wpList_make_full _ rfl _ _ 23 rfl _ 4 i0 (.bool false) 1 Tryz.underlying23 Hhi.out Hhz0.out Hhz1.out .i64 .i64 _ _ L rfl rfl rfl rfl (by rw[Hhz2.out];omega) (by unfold maxLen;omega) (Nat.le_refl _) ?_;intro w1 hown hgrow;have hm:=ZpL hown;simp only[World.size_alloc] at hm;have HS1:=qh (HD.out w1 (by simpa only [World.size_alloc] using hm) ((Below.refl _ _).grown hgrow (Nat.le_refl _) (fun _ h=>by cases h)));have f0:=HS1.out.rfr 2 0 rfl;have k0:=HS1.out.rcell (v:=.bool false) 2 0 rfl (by omega) (by rw[ZlF (by omega)];simp);clear hown hgrow hm);clear f0 k0
 go_loopw [3,5] (fun vo i wr=>∃ (k:Nat) (g cap:Nat),i = .int .i64 k∧vo = .slice (some ⟨g,0,none⟩) (bat (dnx d) 0 k).met.length cap∧k≤(bat (dnx d) 0 k).met.length ∧
   St w wr [Ent.box w.heap.size #[.slice (some ⟨b1,o1,none⟩) L cvv,v2] 25,Ent.row 3 1 (.slice (some ⟨g,0,none⟩) (bat (dnx d) 0 k).met.length cap) (bat (dnx d) 0 k).met.length (intCells (bat (dnx d) 0 k).met),Ent.row 4 1 (.slice (some ⟨w.heap.size+1+1,0,none⟩) L L) L (boolCells (inL (bat (dnx d) 0 k).met L))])
  (fun _ i _=>L+1-(intOf i).toNat)
 case atStart =>refine⟨0,_,_,rfl,rfl,Nat.zero_le _,?_⟩;have h:=HS1.out.store 2 rfl 0 (.bool true);have e:=Zof (M:=[]) (n:=L) (x:=0);rw[e] at h;exact h
 case round =>
  obtain⟨k,g,cap,rfl,rfl,hk,hS⟩:=hrel;obtain⟨S,hSS⟩:=eI (bat (dnx d) 0 k);have hML:=(Hmet.out k).2;have hMi:=(Hmet.out k).1;rw[← hSS] at hk hS hML hMi;rw[← hSS];rw[← hL.out] at hML hMi;by_cases hlt:k<S.met.length
  ·have hlt2:(k:Int)<S.met.length:=by omega
   have hkS:k<(bat (dnx d) 0 k).met.length:=by rw[← hSS];exact hlt
   obtain⟨x,hx⟩:∃ x:Nat,S.met.getD k 0=(x:Int):=⟨(S.met.getD k 0).toNat,by have:=(hMi _ (ZcS hlt (d:=0))).1;omega⟩;have hxL:x<L:=by have:=(hMi _ (ZcS hlt (d:=0))).2;omega
   have hxb:(bat (dnx d) 0 k).met.getD k 0=(x:Int):=by rw[← hSS];exact hx
   obtain⟨ax,cx,hks,-,-,hIs⟩:=Hcs1.out x (by rw[← hL.out];exact hxL);have hr3:=Hrow.out x (by rw[← hL.out];exact hxL);rw[hr3] at hks hIs;obtain⟨_,_,hform,-,-,hrs⟩:=hIs.form;rw[hr3] at hform hrs;simp only[Value.slice.injEq,true_and] at hform;obtain⟨rfl,rfl⟩:=hform;obtain⟨b3,o3,rfl,-,hb3,hcs3⟩:=hrs (by omega);have Hcs3:=qh hcs3;have hxI:(x:Int)<L:=by omega
   have HhS:=qh hS;clear hS;have HhSS:=qh hSS;clear hSS;have HhMi:=qh hMi;clear hMi;have HhkS:=qh hkS;clear hkS;have Hhx:=qh hx;clear hx;have Hhxb:=qh hxb;clear hxb;have Hhr3:=qh hr3;clear hr3;have Hhks:=qh hks;clear hks;clear hIs hrs hcs3;go_wp2
   go_loopw [3,6] (fun vo i wi=>∃ (c:Nat) (g cap:Nat),i = .int .i64 c∧vo = .slice (some ⟨g,0,none⟩) (bpart (dnx d) 0 k c).met.length cap∧c≤3 ∧
     St w wi [Ent.box w.heap.size #[.slice (some ⟨b1,o1,none⟩) L cvv,v2] 25,Ent.row 3 1 (.slice (some ⟨g,0,none⟩) (bpart (dnx d) 0 k c).met.length cap) (bpart (dnx d) 0 k c).met.length (intCells (bpart (dnx d) 0 k c).met),Ent.row 4 1 (.slice (some ⟨w.heap.size+1+1,0,none⟩) L L) L (boolCells (inL (bpart (dnx d) 0 k c).met L))])
    (fun _ i _=>3-(intOf i).toNat)
   case atStart =>refine⟨0,g,cap,rfl,by rw[Zat,← HhSS.out],by omega,?_⟩;rw[Zat,← HhSS.out];exact HhS.out
   case round =>
    obtain⟨c,g,cap,rfl,rfl,hc3,hSi⟩:=hrel;obtain⟨wp,hwp⟩:∃ wp:World,wp=wr:=⟨_,rfl⟩;subst hwp;by_cases hc:c<3
    ·have hTS:=(Zb3 (nx:=dnx d) (a:=0) (k:=k) (Nat.zero_le c)).1;rw[Zat,← HhSS.out] at hTS;have hold:=Zb2 (nx:=dnx d) (a:=0) (k:=k) (n:=c);have hnew:=Zbz (nx:=dnx d) (a:=0) (k:=k) (n:=c);rw[Hhxb.out] at hold hnew;obtain⟨hyL,hyx⟩:=Hnx.out x c (by rw[← hL.out];exact hxL) hc
     have hval:(d.next.getD x []).getD c 0=((nxD d x c:Nat):Int):=by
      unfold dnx at hyx
      rwa [Int.toNat_natCast] at hyx
     rw[hyx] at hold hnew;rw[← hL.out] at hyL;obtain⟨y,hy⟩:=eI (nxD d x c);rw[← hy] at hold hnew hval hyL;have hold':(y:Int)∈(bpart (dnx d) 0 k c).met→(bpart (dnx d) 0 k (c+1)).met=(bpart (dnx d) 0 k c).met:=fun h=>by rw[hold h]
     have hnew':(y:Int) ∉ (bpart (dnx d) 0 k c).met→(bpart (dnx d) 0 k (c+1)).met=(bpart (dnx d) 0 k c).met++[(y:Int)]:=fun h=>by rw[hnew h]
     clear hold hnew;have hle:=(ZaG (nx:=dnx d) (a:=0) (m:=k+1) HhkS.out (show c≤3 by omega) (by omega)).1.length_le;have hML2:=(Hmet.out (k+1)).2;rw[← hL.out] at hML2;obtain⟨T1,hT1⟩:=eI ((bpart (dnx d) 0 k (c+1)).met);obtain⟨T,hT⟩:=eI ((bpart (dnx d) 0 k c).met);rw[← hT] at hSi hTS hold' hnew' hle;rw[← hT1] at hold' hnew';rw[← hT];have hTL:T.length≤L:=by omega
     have hkT:k<T.length:=Nat.lt_of_lt_of_le hlt hTS.length_le;have hxT:T.getD k 0=(x:Int):=(ZaD hTS hlt _).trans Hhx.out;have e0:=hSi.cell (v:=.slice (some ⟨b1,o1,none⟩) L cvv) 0 0 rfl rfl;have e1:=hSi.rcell (v:=.int .i64 (x:Int)) 1 k rfl (by omega) (by rw[← hxT];simp[intCells,hkT]);have e2:=(bcell hSi.bel b1 _ hb1).trans Hhks.out;have e3:=(bcell hSi.bel b3 _ hb3).trans (Hcs3.out c hc);rw[hval] at e3;have e4:=hSi.rcell (v:=.bool (decide ((y:Int)∈T))) 2 y rfl (by omega) (ZlF hyL);have e5:=hSi.rfr 2 y rfl;have hc4:(c:Int)<3:=by omega
     have hyI:(y:Int)<L:=by omega
     have hkT2:(k:Int)<T.length:=by omega
     have hset:=Zof (M:=T) (n:=L) (x:=y);clear hle hML2;have HhSi:=qh hSi;clear hSi;have Hhy:=qh hy;clear hy;have Hhold':=qh hold';clear hold';have Hhnew':=qh hnew';clear hnew';have HhT1:=qh hT1;clear hT1;have HhT:=qh hT;clear hT;have HhTS:=qh hTS;clear hTS;have HhxT:=qh hxT;clear hxT;have Hhval:=qh hval;clear hval;have Hhyx:=qh hyx;clear hyx;have Hhset:=qh hset;clear hset;by_cases hmem:(y:Int)∈T
     ·have hdm:decide ((y:Int)∈T)=true:=by simpa using hmem
      rw[hdm] at e4;have hT1o:=Hhold'.out hmem;have HhT1o:=qh hT1o;clear hT1o;have Hhdm:=qh hdm;clear hdm;have Hhmem:=qh hmem;clear hmem;go_wp2
      go_quiet (fail)
      go_wp2;go_roundw
      case rel =>refine⟨c+1,g,cap,by go_num,by rw[← HhT1.out,HhT1o.out],by omega,?_⟩;rw[← HhT1.out,HhT1o.out];exact HhSi.out.drewN _
      case measure=>simp[intOf];omega
     have hdm:decide ((y:Int)∈T)=false:=by simpa using hmem
     rw[hdm] at e4;have hT1n:=Hhnew'.out hmem;have HhT1n:=qh hT1n;clear hT1n;have Hhdm:=qh hdm;clear hdm;have Hhmem:=qh hmem;clear hmem;go_wp2
     go_quiet (fail)
     have hSs:=((HhSi.out.drewN nq).store 2 rfl y (.bool true)).alloc_ (.cells #[.int .i64 (y:Int)] 3);rw[Hhset.out] at hSs;have hR:=hSs.row 1 rfl;have hal:=heap_alloc_new ((wp.drewN nq).setCell ⟨w.heap.size+1+1,y,none⟩ (.bool true)) (.cells #[.int .i64 (y:Int)] 3);rw[ZaO,show(wp.drewN nq).heap.size=wp.heap.size from rfl] at hal;have Hhal:=qh hal;clear hal;have HhSs:=qh hSs;clear hSs;have HhR:=qh hR;clear hR;go_wp2_with (at_builtin;refine wpList_append_lies _ rfl _ _ _ rfl _ 3 j0 (.int .i64 0) 1 8 Tryz.underlying67 Hhj.out Hhy0.out Hhy1.out Hhy2.out rfl (by omega) _ T.length _ rfl HhR.out ⟨wp.heap.size,0,none⟩ 1 1 [.int .i64 (y:Int)] rfl rfl (World.news_of_block Hhal.out) ZbL (by omega) (by unfold maxLen;omega) (by omega) HhSs.out.size _ rfl ?_;intro g6 c6 w6 hown6 hgrow6 hat6 hlt6;have HS6:=qh (HhSs.out.app 1 rfl hown6 hgrow6 hat6);clear hown6 hgrow6 hat6 hlt6);go_roundw
     case rel =>refine⟨c+1,g6,c6,by go_num,by rw[← HhT1.out,HhT1n.out,List.length_append];rfl,by omega,?_⟩;rw[← HhT1.out,HhT1n.out,List.length_append,Zav];exact HS6.out
     case measure=>simp[intOf];omega
    obtain rfl:c=3:=by omega
    have hbs:bat (dnx d) 0 (k+1)=bpart (dnx d) 0 k 3:=ZaR HhkS.out;have hTS:=(Zb3 (nx:=dnx d) (a:=0) (k:=k) (Nat.zero_le 3)).1.length_le;rw[Zat,← HhSS.out] at hTS;have Hhbs:=qh hbs;clear hbs;have HhSi:=qh hSi;clear hSi;go_wp2;go_roundw
    case rel=>exact⟨k+1,g,cap,by go_num,by rw[Hhbs.out],by rw[Hhbs.out];omega,by rw[Hhbs.out];exact HhSi.out⟩
    case measure=>simp[intOf];omega
  obtain rfl:k=S.met.length:=by omega
  have hfin:F=S.met:=by have h:=ZbI (nx:=dnx d) (a:=0) (k:=S.met.length) (m:=L) (by rw[← hSS];omega) hML;rw[← hF.out,h,← hSS]
  subst hfin;have HhS:=qh hS;clear hS;have HhSS:=qh hSS;clear hSS;go_wp2;go_ret;exact⟨_,_,rfl,HhS.out.pick [1] (by decide)⟩
structure DfaC (w:World) (d:DfaD) (b1 o1 cv b2 o2 cw:Nat):Prop where
 l1:1≤d.next.length
 l2:d.next.length≤40
 le:d.ends.length=d.next.length
 c1:d.next.length≤cv∧cv≤9223372036854775807
 c2:d.next.length≤cw∧cw≤9223372036854775807
 hb1:b1<w.heap.size
 hb2:b2<w.heap.size
 row:∀ i,i<d.next.length→∃ b3 o3 c3,b3<w.heap.size∧3≤c3∧c3≤9223372036854775807∧w.cell? ⟨b1,o1+i,none⟩=some (.slice (some ⟨b3,o3,none⟩) 3 c3)∧∀ c,c<3→w.cell? ⟨b3,o3+c,none⟩=some (.int .i64 (nxD d i c:Nat))
 en:∀ i,i<d.next.length→w.cell? ⟨b2,o2+i,none⟩=some (.bool (enD d i))
 lt:∀ i c,i<d.next.length→c<3→nxD d i c<d.next.length
 dx:∀ i c,i<d.next.length→c<3→dnx d (i:Int) c=(nxD d i c:Nat)
theorem Zb1 {d:DfaD} {w:World} {v:Value} (hd:Zag d.next d.ends=true) (h:DfaR 0 w v d):∃ b1 o1 cv b2 o2 cw,v = .agg #[.slice (some ⟨b1,o1,none⟩) d.next.length cv,.slice (some ⟨b2,o2,none⟩) d.next.length cw]∧DfaC w d b1 o1 cv b2 o2 cw:=by obtain⟨v1,v2,rfl,q1,q2⟩:=h;have hf:=ZaL hd;obtain⟨hl1,hl2,hle⟩:=Zaf hd;obtain⟨av,cv,rfl,hc1,hc2,hr1⟩:=q1.formI;obtain⟨b1,o1,rfl,-,hb1,hcs1⟩:=hr1 (by omega);obtain⟨av2,cw,rfl,hc3,hc4,hr2⟩:=q2.form;rw[hle] at hc3 hr2;obtain⟨b2,o2,rfl,-,hb2,hcs2⟩:=hr2 (by omega);rw[hle];refine⟨b1,o1,cv,b2,o2,cw,rfl,hl1,hl2,hle,⟨hc1,hc2⟩,⟨hc3,hc4⟩,hb1,hb2,fun i hi => ?_,fun i hi=>hcs2 i hi,fun i c hi hc=>(Zcf hf hi hc).1,fun i c hi hc=>(Zcf hf hi hc).2⟩;obtain⟨ax,cx,hks,p1,p2,hIs⟩:=hcs1 i hi;have hr3:=(ZaM hd hi).1;rw[hr3] at hks hIs p1;obtain⟨_,_,hform,-,-,hrs⟩:=hIs.form;rw[hr3] at hform hrs;simp only[Value.slice.injEq,true_and] at hform;obtain⟨rfl,rfl⟩:=hform;obtain⟨b3,o3,rfl,-,hb3,hcs3⟩:=hrs (by omega);refine⟨b3,o3,cx,hb3,p1,p2,hks,fun c hc => ?_⟩;rw[hcs3 c hc];have hyx:=(Zcf hf hi hc).2;unfold dnx at hyx;rw[Int.toNat_natCast] at hyx;rw[hyx]
def RD (D:DfaD) (w:World) (e:Ending) (w':World):Prop:=∃ a1 c1 a2 c2,e = .returned (.agg #[.slice a1 D.next.length c1,.slice a2 D.ends.length c2])∧DfaR w.heap.size w' (.agg #[.slice a1 D.next.length c1,.slice a2 D.ends.length c2]) D∧Below w.heap.size w w'
theorem DfaC.below {w w':World} {d:DfaD} {b1 o1 cv b2 o2 cw:Nat} (h:DfaC w d b1 o1 cv b2 o2 cw) (hb:Below w.heap.size w w'):DfaC w' d b1 o1 cv b2 o2 cw where
 l1:=h.l1
 l2:=h.l2
 le:=h.le
 c1:=h.c1
 c2:=h.c2
 hb1:=Nat.lt_of_lt_of_le h.hb1 hb.size
 hb2:=Nat.lt_of_lt_of_le h.hb2 hb.size
 row:=fun i hi=>by obtain⟨b3,o3,c3,p1,p2,p3,p4,p5⟩:=h.row i hi;exact⟨b3,o3,c3,Nat.lt_of_lt_of_le p1 hb.size,p2,p3,(bcell hb b1 _ h.hb1).trans p4,fun c hc=>(bcell hb b3 _ p1).trans (p5 c hc)⟩
 en:=fun i hi=>(bcell hb b2 _ h.hb2).trans (h.en i hi)
 lt:=h.lt
 dx:=h.dx
def RDo (D:DfaD) (w:World) (e:Ending) (w':World):Prop:=∃ a1 c1 a2 c2,e = .returned (.agg #[.slice a1 D.next.length c1,.slice a2 D.ends.length c2]) ∧
 DfaO 67 3 4 w.heap.size w'.heap.size w' (.agg #[.slice a1 D.next.length c1,.slice a2 D.ends.length c2]) D∧Below w.heap.size w w'
theorem Zmp {d:DfaD} (hd:Zag d.next d.ends=true) {k c:Nat} (hk:k<(bat (dnx d) 0 d.next.length).met.length) (hc:c<3):dnx d ((bat (dnx d) 0 d.next.length).met.getD k 0) c∈(bat (dnx d) 0 d.next.length).met:=by
 have hm:=(Zby (ZaL hd) d.next.length).2;have hkl:k<d.next.length:=by omega
 have hkk:k<(bat (dnx d) 0 k).met.length:=by
  by_cases h:k<(bat (dnx d) 0 k).met.length
  ·exact h
  have:=ZbI (nx:=dnx d) (a:=0) (k:=k) (m:=d.next.length) (by omega) (by omega);rw[this] at hk;omega
 have hp:=(ZfU (nx:=dnx d) (a:=(0:Int)) (k:=k) (m:=d.next.length) (by omega)).1;rw[ZaD hp hkk];have h1:=Zkc (nx:=dnx d) (a:=(0:Int)) (k:=k) (n:=3) hc;have h2:=(ZaG (nx:=dnx d) (a:=(0:Int)) (m:=d.next.length) hkk (Nat.le_refl 3) hkl).1;exact h2.subset h1
theorem ZqL {d:DfaD} (hd:Zag d.next d.ends=true) {k:Nat} (hk:k<(bat (dnx d) 0 d.next.length).met.length):∃ x:Nat,(bat (dnx d) 0 d.next.length).met.getD k 0=(x:Int)∧x<d.next.length∧∀ c,c<3→((nxD d x c:Nat):Int)∈(bat (dnx d) 0 d.next.length).met:=by
 have h:=(Zby (ZaL hd) d.next.length).1 _ (ZcS hk (d:=0));refine⟨((bat (dnx d) 0 d.next.length).met.getD k 0).toNat,by omega,by omega,fun c hc => ?_⟩;have h1:=Zmp hd hk hc;have e:(bat (dnx d) 0 d.next.length).met.getD k 0=((((bat (dnx d) 0 d.next.length).met.getD k 0).toNat:Nat):Int):=by omega
 rw[e,(Zcf (ZaL hd) (by omega) hc).2] at h1;exact h1
theorem Zmn {l:List Int} {x:Int} (h:x∈l):Zda l x=(Zaj l x:Int):=by unfold Zda Zaj;rw[if_pos h]
end Go.Proofs.YtfgpkadhegdffaaGreat
