/-
  The walk over the reference's list of sets of states that are met: l9Subsets.
  Conditions: there are m states, at most 40; moves, first and last states lie below; the automaton reads as such.
-/
import Derived.Test.YtehmjmjedopkkaaGreatPn04Det
set_option maxHeartbeats 8000000
set_option maxRecDepth 100000
namespace Go.Proofs.YtehmjmjedopkkaaGreat
open Go.RowKit Go.Maps
theorem Tryz.infoBools:(Tryz.prog.info? 30).map (fun i=>(i.zero,i.size,i.bytes))=some (some (.slice none 0 0),1,24):=by kernel_rfl
def flc (m:Nat) (x:Int × Int):List Bool:=flags m x.1.toNat
def isM (m:Nat) (x:Int × Int):Prop:=∃ v:Nat,v<2 ^ m∧x=((v:Int),0)
theorem ZhR (m:Nat) (x:Int × Int):(flc m x).length=m:=Zge _ _
theorem ZmX {m:Nat} {x y:Int × Int} (hx:isM m x) (hy:isM m y) (h:flc m x=flc m y):x=y:=by obtain⟨v,hv,rfl⟩:=hx;obtain⟨u,hu,rfl⟩:=hy;have:v=u:=ZmY hv hu (by simpa [flc] using h);rw[this]
theorem Zm2 {m:Nat} {S:List (Int × Int)} {x:Int × Int} (hS:∀ y∈S,isM m y) (hx:isM m x):ZhU (S.map (flc m)) (flc m x)=if x∈S then(Zai S x:Int) else -1:=by
 have hmem:flc m x∈S.map (flc m)↔x∈S:=by
  constructor
  ·intro h;obtain⟨y,hy,e⟩:=List.mem_map.1 h;rw[← ZmX (hS y hy) hx e];exact hy
  exact fun h=>List.mem_map.2 ⟨x,h,rfl⟩
 by_cases h:x∈S
 ·rw[if_pos h];have hk:=ZaN h;refine Zkv (by simpa using hk) ?_ ?_
  ·rw[← List.map_take];intro hc;obtain⟨y,hy,e⟩:=List.mem_map.1 hc;have hyx:=ZmX (hS y (List.mem_of_mem_take hy)) hx e;subst hyx;have hp:=ZaU (List.take_prefix (Zai S y) S) hy;have:=ZaN hy;rw[List.length_take] at this;omega
  have:=ZhP h x;simp only[List.getD_eq_getElem?_getD,List.getElem?_map];rw[List.getElem?_eq_getElem hk];simp only[Option.map_some,Option.getD_some];congr 1;simpa [hk] using this
 rw[if_neg h];exact Zg4 fun hc=>h (hmem.1 hc)
def nxSM (M:Nat) (n:NfaD) (x:Int × Int) (c:Nat):Int × Int:=((stV M n.moves x.1.toNat (c:Int):Nat),0)
def ZmV (M:Nat) (n:NfaD):Nat:=clV M n.moves (setV n.firsts)
abbrev metSM (M:Nat) (n:NfaD) (K:Nat):List (Int × Int):=(bat (nxSM M n) (((ZmV M n:Nat):Int),0) K).met
theorem Zmk {M:Nat} {n:NfaD} {m:Nat} (hmv:mvIn m n.moves) (x:Int × Int) (c:Nat):isM m (nxSM M n x c) :=
 ⟨_,Zc5 hmv (ZbD _ (fun v=>v<2 ^ m) (fun _ _ hm hv=>Zch hmv hm hv) (Nat.two_pow_pos m)) M,rfl⟩
theorem Zpa {M:Nat} {n:NfaD} {m:Nat} (hmv:mvIn m n.moves) (hf:inN m n.firsts):isM m (((ZmV M n:Nat):Int),0):=⟨_,Zc5 hmv (ZcU hf) M,rfl⟩
def Zpj (M:Nat) (n:NfaD) (m K:Nat) (w:World) (e:Ending) (w':World):Prop :=
 ∃ a1 c1 a2 c2 l1 l2,e = .returned (.tuple #[.slice a1 l1 c1,.slice a2 l2 c2])∧l1<1000000 ∧
  (if (metSM M n K).length≤K then l1=(metSM M n K).length∧∃ vs1 vs2,St w w' [Ent.rows 30 4 (.slice a1 l1 c1) vs1 (((metSM M n K).map (flc m)).map boolCells),Ent.rows 59 3 (.slice a2 l2 c2) vs2 (((metSM M n K).map (Zae (nxSM M n) (metSM M n K))).map intCells)]
   else K<l1∧Below w.heap.size w w')
theorem ZkK {α:Type} [DecidableEq α] (nx:α→Nat→α) (x:α) (wd:List Nat) (s:Bs α):∀ n,(brow nx x wd s n).met.length≤s.met.length+n
 | 0=>Nat.le_refl _
 | n+1=>by
  have ih:=ZkK nx x wd s n;show(bvisit nx x wd (brow nx x wd s n) n).met.length≤_;unfold bvisit
  split
  ·omega
  simp;omega
theorem Zel {α:Type} [DecidableEq α] (nx:α→Nat→α) (a:α) (k n:Nat):(bpart nx a k n).met.length≤(bat nx a k).met.length+n:=ZkK _ _ _ _ _
theorem Zb6 {α β γ:Type} (f:α→β) (g:β→γ) (l:List α):((l.map f).map g).length=l.length:=by simp
theorem ZfK {nx:Int × Int→Nat→Int × Int} {F:List (Int × Int)} {x:Int × Int} {n:Nat} (hn:n<3):(Zae nx F x).take (n+1)=(Zae nx F x).take n++[(Zai F (nx x n):Int)]:=by rw[List.take_succ_eq_append_getElem (by simp[Zae];omega)];simp[Zae]
theorem ZbU {a:Option Addr} {l c:Nat}:∀ u∈[Value.slice a l c],u.oneCell'=true:=by intro u hu;simp only[List.mem_singleton] at hu;subst hu;rfl
theorem Zgv (M:Nat) (hM:M≤1000) (m K:Nat) (mvs:List (Int × Int × Int)) (fs es:List Int) (v1 v2 v3:Value) (w:World) (hm:m≤M) (hK0:0<K) (hK1:K≤1000) (hmv:mvIn m mvs) (hml:mvs.length≤1000000) (hf:inN m fs) (hfl:fs.length≤1000000) (h1:Moves 0 w v1 mvs) (h2:Ints 0 w v2 fs) :
  Calls Tryz.prog 160 #[.agg #[.int .i64 (m:Int),v1,v2,v3],.int .i64 (K:Nat)] w fun e w'=>Zpj M ⟨(m:Int),mvs,fs,es⟩ m K w e w':=by
 obtain⟨n,hn⟩:∃ n:NfaD,n=⟨(m:Int),mvs,fs,es⟩:=⟨_,rfl⟩;rw[← hn];have hnm:n.moves=mvs:=by rw[hn]
 have hnf:n.firsts=fs:=by rw[hn]
 obtain⟨W,hW⟩:=eI (w.alloc (.cells #[.int .i64 (m:Int),v1,v2,v3] 91));have hS0:St w W [Ent.box w.heap.size #[.int .i64 (m:Int),v1,v2,v3] 91]:=by rw[hW];exact(St.start w).alloc _ rfl _ _
 have c0:=hS0.cell (v:=.int .i64 (m:Int)) 0 0 rfl rfl;have c1:=hS0.cell (v:=v1) 0 1 rfl rfl;have c2:=hS0.cell (v:=v2) 0 2 rfl rfl;have c3:=hS0.cell (v:=v3) 0 3 rfl rfl;have hl0:=(hS0.boxlt 0 rfl).2;have Hk:=qh (fun (w':World) (h:Below W.drew.heap.size W.drew w')=>(show w'.cell? ⟨w.heap.size,0,none⟩=some (.int .i64 (m:Int))∧w'.cell? ⟨w.heap.size,1,none⟩=some v1∧w'.cell? ⟨w.heap.size,2,none⟩=some v2∧w'.cell? ⟨w.heap.size,3,none⟩=some v3 from⟨(bcell h _ _ hl0).trans c0,(bcell h _ _ hl0).trans c1,(bcell h _ _ hl0).trans c2,(bcell h _ _ hl0).trans c3⟩));have H1:=qh (h1.below hS0.bel.drew);have H2:=qh (h2.below hS0.bel.drew);have hfst:clV M mvs (setV fs)=ZmV M n:=by rw[hn];rfl
 obtain⟨i0,hi,hz0,hz1,hz2⟩:=info_parts Tryz.infoInt;obtain⟨j0,hj,hy0,hy1,hy2⟩:=info_parts Tryz.infoInts;obtain⟨k0,hk,hx0,hx1,hx2⟩:=info_parts Tryz.infoBools;have HG1:=qh h1;replace hn:=qh hn;have Hhnm:=qh hnm;clear hnm;have Hhnf:=qh hnf;clear hnf;replace hS0:=qh hS0;have Hhmv:=qh hmv;clear hmv;have Hhml:=qh hml;clear hml;have Hhf:=qh hf;clear hf;have Hhfl:=qh hfl;clear hfl;have Hhfst:=qh hfst;clear hfst;have Hhi:=qh hi;clear hi;have Hhz0:=qh hz0;clear hz0;have Hhz1:=qh hz1;clear hz1;have Hhz2:=qh hz2;clear hz2;have Hhj:=qh hj;clear hj;have Hhy0:=qh hy0;clear hy0;have Hhy1:=qh hy1;clear hy1;have Hhy2:=qh hy2;clear hy2;have Hhk:=qh hk;clear hk;have Hhx0:=qh hx0;clear hx0;have Hhx1:=qh hx1;clear hx1;have Hhx2:=qh hx2;clear hx2;have HW:=qh hW;clear hW h1 h2
 go_enter Tryz.func160, Tryz.ntmps160
 go_wp2_with fail;rw[← HW.out]
 go_region_held3 (fun w'=>w'.cell? ⟨w.heap.size,0,none⟩=some (.int .i64 (m:Int))∧w'.cell? ⟨w.heap.size,1,none⟩=some v1∧w'.cell? ⟨w.heap.size,2,none⟩=some v2∧w'.cell? ⟨w.heap.size,3,none⟩=some v3)
  (first|go_keep|exact Hk.out _ hq0|exact Hk.out _ hq1)
  (first
   | (go_at_call 163;(with_reducible refine(ZiB fs m _ _ (by omega) Hhf.out Hhfl.out H2.out).mono ?_);rintro e u0 ⟨⟨g0,d0,rfl,hr0⟩,hq0⟩)
   | (go_at_call 162;(with_reducible refine(ZeS M hM ⟨(m:Int),mvs,fs,es⟩ m (setV fs) v1 v2 v3 _ _ hm Hhmv.out Hhml.out (ZcU Hhf.out) (H1.out.below hq0) (FlagsAt.of hr0)).mono ?_);rintro e u1 ⟨⟨g1,d1,rfl,hr1⟩,hb1⟩;have hq1:=hq0.trans (hb1.mono hq0.size)))
 have hS1:=((hS0.out.drew).call hq0).made hb1 hr1;have hS2:=((hS1.alloc _ rfl #[.slice (some ⟨g1,0,none⟩) m d1] 30).boxrow 2 1 1 [.slice (some ⟨g1,0,none⟩) m d1] rfl rfl (by unfold maxLen;omega)).onerow 2 1 (by decide) rfl rfl;have hS3:=(((hS2.pick [0,2] (by decide)).alloc (u1.heap.size+1) (by simp) #[] 59).boxrow 2 0 1 [] rfl rfl (Nat.zero_le _)).norows 2 rfl 3;have HhS3:=qh hS3;clear hS3;clear hS1 hS2 hq0 hq1 hb1 hr0 hr1 c0 c1 c2 c3 hl0;obtain⟨F,hF⟩:=eI (metSM M n K);obtain⟨a0,ha0⟩:=eI (((((ZmV M n:Nat):Int),0):Int × Int));have hFa:F=(bat (nxSM M n) a0 K).met:=by rw[hF,ha0]
 have Hin:=qh (fun k=>ZbN (nx:=nxSM M n) (a:=a0) (Q:=isM m) (by rw[ha0];exact Zpa (by rw[Hhnm.out];exact Hhmv.out) (by rw[Hhnf.out];exact Hhf.out)) (fun x c _ _=>Zmk (by rw[Hhnm.out];exact Hhmv.out) x c) k);have hFa':F=(bat (nxSM M n) a0 K).met:=hFa;replace hF:=qh hF;have HhFa:=qh hFa;clear hFa;have HhFa':=qh hFa';clear hFa';have Hha0:=qh ha0;clear ha0;go_wp2
 go_loopw [6,7,8] (fun vs vn i wr=>∃ (k:Nat) (b1 cap1 b2 cap2:Nat) (vs1 vs2:List Value),i = .int .i64 k∧vs = .slice (some ⟨b1,0,none⟩) (bat (nxSM M n) a0 k).met.length cap1∧vn = .slice (some ⟨b2,0,none⟩) k cap2∧k≤(bat (nxSM M n) a0 k).met.length∧k≤K∧(bat (nxSM M n) a0 k).met.length≤K+3 ∧
   St w wr [Ent.box w.heap.size #[.int .i64 (m:Int),v1,v2,v3] 91,Ent.rows 30 4 (.slice (some ⟨b1,0,none⟩) (bat (nxSM M n) a0 k).met.length cap1) vs1 (((bat (nxSM M n) a0 k).met.map (flc m)).map boolCells),
    Ent.rows 59 3 (.slice (some ⟨b2,0,none⟩) k cap2) vs2 ((((bat (nxSM M n) a0 k).met.take k).map (Zae (nxSM M n) F)).map intCells)])
  (fun _ _ i _=>K-(intOf i).toNat)
 case atStart =>
  refine⟨0,_,_,_,_,[.slice (some ⟨g1,0,none⟩) m d1],[],rfl,rfl,rfl,by simp,by omega,by simp[bat],?_⟩;have e1:((bat (nxSM M n) a0 0).met.map (flc m)).map boolCells=[boolCells (flags m (clV M mvs (setV fs)))]:=by simp[bat,Hha0.out,flc,Hhfst.out]
  rw[e1];exact HhS3.out
 case round =>
  obtain⟨k,b1,cap1,b2,cap2,vs1,vs2,rfl,rfl,rfl,hk,hkK,hML,hS⟩:=hrel;obtain⟨S,hSS⟩:=eI (bat (nxSM M n) a0 k);have hR:=Hin.out k;rw[← hSS] at hk hML hS hR;rw[← hSS];obtain⟨wo,hwo⟩:∃ wo:World,wo=wr:=⟨_,rfl⟩;subst hwo;have HhS:=qh hS;clear hS;have HhSS:=qh hSS;clear hSS;have HhR:=qh hR;clear hR;by_cases hlt:k<S.met.length
  ·by_cases hle:S.met.length≤K
   ·have hlt2:(k:Int)<S.met.length:=by omega
    have hle2:(S.met.length:Int)≤K:=by omega
    have hSe:=(HhS.out.alloc _ rfl #[] 3).boxrow 3 0 1 [] rfl rfl (Nat.zero_le _);obtain⟨x,hx⟩:=eI (S.met.getD k a0);have hxM:isM m x:=by rw[hx];exact HhR.out _ (memD hlt)
    have hkS:k<(bat (nxSM M n) a0 k).met.length:=by rw[← HhSS.out];exact hlt
    have hxb:(bat (nxSM M n) a0 k).met.getD k a0=x:=by rw[← HhSS.out];exact hx.symm
    have HhSe:=qh hSe;clear hSe;have Hhx:=qh hx;clear hx;have HhxM:=qh hxM;clear hxM;have HhkS:=qh hkS;clear hkS;have Hhxb:=qh hxb;clear hxb;go_wp2
    go_loopw [6,9,10] (fun vs rv i wi=>∃ (c:Nat) (b1 cap1 b3 cap3:Nat) (vs1:List Value),i = .int .i64 c∧vs = .slice (some ⟨b1,0,none⟩) (bpart (nxSM M n) a0 k c).met.length cap1∧rv = .slice (some ⟨b3,0,none⟩) c cap3∧c≤3 ∧
      St w wi [Ent.box w.heap.size #[.int .i64 (m:Int),v1,v2,v3] 91,Ent.rows 30 4 (.slice (some ⟨b1,0,none⟩) (bpart (nxSM M n) a0 k c).met.length cap1) vs1 (((bpart (nxSM M n) a0 k c).met.map (flc m)).map boolCells),
       Ent.rows 59 3 (.slice (some ⟨b2,0,none⟩) k cap2) vs2 (((S.met.take k).map (Zae (nxSM M n) F)).map intCells),Ent.row 3 1 (.slice (some ⟨b3,0,none⟩) c cap3) c (intCells ((Zae (nxSM M n) F x).take c))])
     (fun _ _ i _=>3-(intOf i).toNat)
    case atStart =>refine⟨0,b1,cap1,_,_,vs1,rfl,by rw[Zau,← HhSS.out],rfl,by omega,?_⟩;rw[Zau,← HhSS.out];exact HhSe.out
    case round =>
     obtain⟨c,b1,cap1,b3,cap3,vs1,rfl,rfl,rfl,hc3,hSi⟩:=hrel;obtain⟨wp,hwp⟩:∃ wp:World,wp=wr:=⟨_,rfl⟩;subst hwp;by_cases hc:c<3
     ·have hTl:=Zel (nxSM M n) a0 k c;have hTall:=Znr (nx:=nxSM M n) (a:=a0) (Q:=isM m) (by have:=Hin.out 0;exact this a0 (by simp[bat])) (fun x c _ _=>Zmk (by rw[Hhnm.out];exact Hhmv.out) x c) HhkS.out (show c≤3 by omega);have hold:=ZbF (nx:=nxSM M n) (a:=a0) (k:=k) (n:=c);have hnew:=Zbj (nx:=nxSM M n) (a:=a0) (k:=k) (n:=c);have hTS:=ZbG (nx:=nxSM M n) (a:=a0) (k:=k) (Nat.zero_le c);have hTF:=ZaE (nx:=nxSM M n) (a:=a0) (m:=K) HhkS.out (show c≤3 by omega) (show k<K by omega);have hTF2:=ZaE (nx:=nxSM M n) (a:=a0) (m:=K) HhkS.out (show c+1≤3 by omega) (show k<K by omega);rw[Zau,← HhSS.out] at hTS;rw[Hhxb.out] at hold hnew;rw[← HhSS.out] at hTl;replace hTF:=hTF.1;replace hTF2:=hTF2.1;replace hTS:=hTS.1;rw[← HhFa'.out] at hTF hTF2;obtain⟨y,hy⟩:=eI (nxSM M n x c);have hyM:isM m y:=by rw[hy];exact Zmk (by rw[Hhnm.out];exact Hhmv.out) x c
      have hyf:flags m (stV M mvs x.1.toNat (c:Int))=flc m y:=by rw[hy,← Hhnm.out];rfl
      have hold':y∈(bpart (nxSM M n) a0 k c).met→(bpart (nxSM M n) a0 k (c+1)).met=(bpart (nxSM M n) a0 k c).met:=fun h=>by rw[hold (by rw[← hy];exact h)]
      have hnew':y ∉ (bpart (nxSM M n) a0 k c).met→(bpart (nxSM M n) a0 k (c+1)).met=(bpart (nxSM M n) a0 k c).met++[y]:=fun h=>by rw[hnew (by rw[← hy];exact h),← hy]
      clear hold hnew;obtain⟨T1,hT1⟩:=eI ((bpart (nxSM M n) a0 k (c+1)).met);obtain⟨T,hT⟩:=eI ((bpart (nxSM M n) a0 k c).met);rw[← hT] at hSi hTl hTall hTF hTS hold' hnew';rw[← hT1] at hTF2 hold' hnew';rw[← hT];have hkT:k<T.length:=Nat.lt_of_lt_of_le hlt hTS.length_le;have hxT:T.getD k a0=x:=(ZaB hTS hlt _).trans Hhx.out.symm;have hfind:=Zm2 hTall hyM;have hrow:=ZfK (nx:=nxSM M n) (F:=F) (x:=x) hc;rw[← hy] at hrow;have hlm:((T.map (flc m)).map boolCells).length=T.length:=Zb6 _ _ _;have hcs:((T.map (flc m)).map boolCells).getD k []=boolCells (flc m x):=by rw[← hxT];simp[hkT]
      obtain⟨ax,cx,hcell,hxr,hcx1,hcx2,hcp1,hcp2,hb1l⟩:=hSi.rowAt 1 rfl hlm hkT;rw[hcs] at hcell hxr hcx1;have hxl:(boolCells (flc m x)).length=m:=by simp[ZhR]
      rw[hxl] at hcell hxr hcx1;have hxB:=Zi9 hxr;have e0:=hSi.cell (v:=.int .i64 (m:Int)) 0 0 rfl rfl;have e1:=hSi.cell (v:=v1) 0 1 rfl rfl;have e2:=hSi.cell (v:=v2) 0 2 rfl rfl;have e3:=hSi.cell (v:=v3) 0 3 rfl rfl;have hl0:=(hSi.boxlt 0 rfl).2;have Hk2:=qh (fun (w':World) (h:Below wp.drew.heap.size wp.drew w')=>(show w'.cell? ⟨w.heap.size,0,none⟩=some (.int .i64 (m:Int))∧w'.cell? ⟨w.heap.size,1,none⟩=some v1∧w'.cell? ⟨w.heap.size,2,none⟩=some v2∧w'.cell? ⟨w.heap.size,3,none⟩=some v3∧w'.cell? ⟨b1,k,none⟩=some (.slice ax m cx) from⟨(bcell h _ _ hl0).trans e0,(bcell h _ _ hl0).trans e1,(bcell h _ _ hl0).trans e2,(bcell h _ _ hl0).trans e3,(bcell h _ _ hb1l).trans hcell⟩));have HM2:=qh (HG1.out.below hSi.bel.drew);have HX2:=qh (hxB.below (Below.refl _ _).drew);have hkT2:(k:Int)<T.length:=by omega
      have hc4:(c:Int)<3:=by omega
      have Hhy:=qh hy;clear hy;have HhyM:=qh hyM;clear hyM;have Hhyf:=qh hyf;clear hyf;have Hhold':=qh hold';clear hold';have Hhnew':=qh hnew';clear hnew';have HhT1:=qh hT1;clear hT1;have HhT:=qh hT;clear hT;have HhTl:=qh hTl;clear hTl;have HhTall:=qh hTall;clear hTall;have HhTF:=qh hTF;clear hTF;have HhTF2:=qh hTF2;clear hTF2;have HhTS:=qh hTS;clear hTS;have HhxT:=qh hxT;clear hxT;have Hhfind:=qh hfind;clear hfind;have Hhrow:=qh hrow;clear hrow;have Hhlm:=qh hlm;clear hlm;have HhSi:=qh hSi;clear hSi;clear hcs hxr hxl hxB;go_wp2
      go_region_held3 (fun w'=>w'.cell? ⟨w.heap.size,0,none⟩=some (.int .i64 (m:Int))∧w'.cell? ⟨w.heap.size,1,none⟩=some v1∧w'.cell? ⟨w.heap.size,2,none⟩=some v2∧w'.cell? ⟨w.heap.size,3,none⟩=some v3∧w'.cell? ⟨b1,k,none⟩=some (.slice ax m cx))
       (first|go_keep|exact Hk2.out _ hq0)
       (first
        | (go_at_call 164;(with_reducible refine(ZjD M hM ⟨(m:Int),mvs,fs,es⟩ m x.1.toNat (c:Int) v1 v2 v3 _ _ rfl hm Hhmv.out Hhml.out HM2.out HX2.out).mono ?_);rintro e u2 ⟨⟨g2,d2,rfl,hr2⟩,hq0⟩))
      have hSx:=HhSi.out.drew.made hq0 hr2;rw[show flags m (stV M (NfaD.moves ⟨(m:Int),mvs,fs,es⟩) x.1.toNat (c:Int))=flc m y from Hhyf.out] at hSx;have hfa:=Zlc (T.map (flc m)) (flc m y) m (.slice (some ⟨b1,0,none⟩) T.length cap1) (.slice (some ⟨g2,0,none⟩) m d2) u2 (by intro z hz;obtain⟨q,-,rfl⟩:=List.mem_map.1 hz;exact ZhR _ _) (ZhR _ _) (by rw[List.length_map];have:=HhTl.out;omega) (hSx.boolSS 1 rfl) (hSx.bools 4 rfl);rw[Hhfind.out] at hfa;have HhSx:=qh hSx;clear hSx;clear hcell e0 e1 e2 e3 hq0 hr2;by_cases hmem:y∈T
      ·rw[if_pos hmem] at hfa;obtain⟨p,hp⟩:=eI (Zai T y);have hpl:p<T.length:=by rw[hp];exact ZaN hmem
       have hpF:Zai F y=p:=(ZaU HhTF.out hmem).trans hp.symm;rw[← hp] at hfa;have hT1o:=Hhold'.out hmem;have hp0:¬ ((p:Int)<0):=by omega
       have Hhfa:=qh hfa;clear hfa;have Hhp:=qh hp;clear hp;have HhpF:=qh hpF;clear hpF;have HhT1o:=qh hT1o;clear hT1o;go_wp2_with fail;refine Hhfa.out.mono ?_;rintro e w2 ⟨rfl,hb2⟩;have hSa:=(HhSx.out.call hb2).alloc_ (.cells #[.int .i64 (p:Int)] 3);have hR:=hSa.row 3 rfl;have HhSa:=qh hSa;clear hSa;have HhR:=qh hR;clear hR;clear hb2;go_wp2_with (at_builtin;refine wpList_append_lies _ rfl _ _ _ rfl _ 3 i0 (.int .i64 0) 1 8 Tryz.underlying59 Hhi.out Hhz0.out Hhz1.out Hhz2.out rfl (by omega) _ c _ rfl HhR.out ⟨w2.heap.size,0,none⟩ 1 1 [.int .i64 (p:Int)] rfl rfl (World.news_of_block (heap_alloc_new w2 _)) Zbf (by omega) (by unfold maxLen;omega) (by omega) HhSa.out.size _ rfl ?_;intro g6 c6 w6 hown6 hgrow6 hat6 hlt6;have HS6:=qh (HhSa.out.app 3 rfl hown6 hgrow6 hat6);clear hown6 hgrow6 hat6 hlt6);go_roundw
       case rel =>refine⟨c+1,b1,cap1,_,_,vs1,by go_num,by rw[← HhT1.out,HhT1o.out],rfl,by omega,?_⟩;rw[← HhT1.out,HhT1o.out,Hhrow.out,HhpF.out,Zav];exact HS6.out.pick [0,1,2,3] (by decide)
       case measure=>simp[intOf];omega
      rw[if_neg hmem] at hfa;have hT1n:=Hhnew'.out hmem;have hpF:Zai F y=T.length:=Zfk (by rw[← hT1n];exact HhTF2.out) hmem;have hTlt:=HhTl.out;have Hhfa:=qh hfa;clear hfa;have HhpF:=qh hpF;clear hpF;have HhT1n:=qh hT1n;clear hT1n;go_wp2_with fail;refine Hhfa.out.mono ?_;rintro e w2 ⟨rfl,hb2⟩;have hSa:=(HhSx.out.call hb2).alloc_ (.cells #[.slice (some ⟨g2,0,none⟩) m d2] 30);have hR:=(hSa.rows 1 rfl).1;rw[Hhlm.out] at hR;have HhSa:=qh hSa;clear hSa;have HhR:=qh hR;clear hR;clear hb2
      go_wp2_with (first
       | (at_builtin;refine wpList_append_lies _ rfl _ _ _ rfl _ 30 k0 (.slice none 0 0) 1 24 Tryz.underlying113 Hhk.out Hhx0.out Hhx1.out Hhx2.out rfl (by omega) _ T.length _ rfl HhR.out ⟨w2.heap.size,0,none⟩ 1 1 [.slice (some ⟨g2,0,none⟩) m d2] rfl rfl (World.news_of_block (heap_alloc_new w2 _)) ZbU (by omega) (by unfold maxLen;omega) (by omega) HhSa.out.size _ rfl ?_;intro g6 c6 w6 hown6 hgrow6 hat6 hlt6;have HS6:=qh ((HhSa.out.snoc 1 4 (by decide) rfl rfl (by decide) hgrow6 (by rw[Hhlm.out];exact hown6) (Zd7 hat6)).alloc_ (.cells #[.int .i64 (T.length:Int)] 3));have HR6:=qh (HS6.out.row 3 rfl);clear hown6 hgrow6 hat6 hlt6)
       | (at_builtin;refine wpList_append_lies _ rfl _ _ _ rfl _ 3 i0 (.int .i64 0) 1 8 Tryz.underlying59 Hhi.out Hhz0.out Hhz1.out Hhz2.out rfl (by omega) _ c _ rfl HR6.out ⟨w6.heap.size,0,none⟩ 1 1 [.int .i64 (T.length:Int)] rfl rfl (World.news_of_block (heap_alloc_new w6 _)) Zbf (by omega) (by unfold maxLen;omega) (by omega) HS6.out.size _ rfl ?_;intro g7 c7 w7 hown7 hgrow7 hat7 hlt7;have HS7:=qh (HS6.out.app 3 rfl hown7 hgrow7 hat7);clear hown7 hgrow7 hat7 hlt7))
      go_roundw
      case rel =>refine⟨c+1,g6,c6,g7,c7,vs1++[.slice (some ⟨g2,0,none⟩) m d2],by go_num,by rw[← HhT1.out,HhT1n.out,List.length_append];rfl,rfl,by omega,?_⟩;rw[← HhT1.out,HhT1n.out,Hhrow.out,HhpF.out,Zav,List.map_append,List.map_append,List.length_append];exact HS7.out.pick [0,1,2,3] (by decide)
      case measure=>simp[intOf];omega
     obtain rfl:c=3:=by omega
     have hbs:bat (nxSM M n) a0 (k+1)=bpart (nxSM M n) a0 k 3:=ZaK HhkS.out;have hle3:=Zel (nxSM M n) a0 k 3;have hTS:=(ZbG (nx:=nxSM M n) (a:=a0) (k:=k) (Nat.zero_le 3)).1;rw[Zau] at hTS;rw[← HhSS.out] at hle3 hTS;have hkl:k+1≤(bpart (nxSM M n) a0 k 3).met.length:=Nat.le_trans hlt hTS.length_le;have htk:(bpart (nxSM M n) a0 k 3).met.take (k+1)=S.met.take k++[x]:=by obtain⟨t,ht⟩:=hTS;rw[← ht,List.take_append_of_le_length (by omega),List.take_succ_eq_append_getElem hlt,Hhx.out];simp[hlt]
     have hn3:(Zae (nxSM M n) F x).take 3=Zae (nxSM M n) F x:=List.take_of_length_le (by simp[Zae]);have hlm:(((S.met.take k).map (Zae (nxSM M n) F)).map intCells).length=k:=by rw[Zb6,List.length_take];omega
     rw[hn3] at hSi;have hSa:=hSi.alloc_ (.cells #[.slice (some ⟨b3,0,none⟩) 3 cap3] 59);have hR:=(hSa.rows 2 rfl).1;rw[hlm] at hR;have Hhbs:=qh hbs;clear hbs;have Hhle3:=qh hle3;clear hle3;have HhTS:=qh hTS;clear hTS;have Hhtk:=qh htk;clear htk;have Hhn3:=qh hn3;clear hn3;have Hhlm:=qh hlm;clear hlm;have HhSi:=qh hSi;clear hSi;have HhSa:=qh hSa;clear hSa;have HhR:=qh hR;clear hR;go_wp2_with (at_builtin;refine wpList_append_lies _ rfl _ _ _ rfl _ 59 j0 (.slice none 0 0) 1 24 Tryz.underlying29 Hhj.out Hhy0.out Hhy1.out Hhy2.out rfl (by omega) _ k _ rfl HhR.out ⟨wp.heap.size,0,none⟩ 1 1 [.slice (some ⟨b3,0,none⟩) 3 cap3] rfl rfl (World.news_of_block (heap_alloc_new wp _)) ZbU (by omega) (by unfold maxLen;omega) (by omega) HhSa.out.size _ rfl ?_;intro g6 c6 w6 hown6 hgrow6 hat6 hlt6;have HS6:=qh (HhSa.out.snoc 2 3 (by decide) rfl rfl (by decide) hgrow6 (by rw[Hhlm.out];exact hown6) (Zd7 hat6));clear hown6 hgrow6 hat6 hlt6);go_roundw
     case rel =>refine⟨k+1,b1,cap1,g6,c6,vs1,vs2++[.slice (some ⟨b3,0,none⟩) 3 cap3],by go_num,by rw[Hhbs.out],rfl,by rw[Hhbs.out];exact hkl,by omega,by rw[Hhbs.out];have:=Hhle3.out;omega,?_⟩;rw[Hhbs.out,Hhtk.out,List.map_append,List.map_append];exact HS6.out.pick [0,1,2] (by decide)
     case measure=>simp[intOf];omega
   have hlt2:(k:Int)<S.met.length:=by omega
   have hle2:¬ ((S.met.length:Int)≤K):=by omega
   have hbig:¬ ((metSM M n K).length≤K):=by have h:=(ZeY (nx:=nxSM M n) (a:=a0) hkK).1.length_le;rw[← HhSS.out,Hha0.out] at h;unfold metSM;omega
   have Hhbig:=qh hbig;clear hbig;go_wp2
   go_ret2
   refine⟨_,_,_,_,_,_,rfl,by omega,?_⟩;rw[if_neg Hhbig.out];exact⟨by omega,HhS.out.bel⟩
  have hkl:k=S.met.length:=by omega
  have hfin:metSM M n K=S.met:=by have h:=Zbr (nx:=nxSM M n) (a:=a0) (k:=k) (m:=K) (by rw[← HhSS.out];omega) hkK;unfold metSM;rw[← Hha0.out,h,← HhSS.out]
  have Hhkl:=qh hkl;clear hkl;have Hhfin:=qh hfin;clear hfin;go_wp2
  go_ret2
  refine⟨_,_,_,_,_,_,rfl,by omega,?_⟩;rw[Hhfin.out,if_pos (by have:=Hhkl.out;omega)];refine⟨rfl,vs1,vs2,?_⟩;have h:=HhS.out.pick [1,2] (by decide);have h2:=Hhkl.out;subst h2;rw[List.take_length,hF.out,Hhfin.out] at h;exact h
def RDetSM (M:Nat) (n:NfaD) (K B:Nat) (e:Ending) (w':World):Prop :=
 if (metSM M n K).length≤K then
  ∃ a1 l1 c1 a2 l2 c2,e = .returned (.tuple #[.agg #[.slice a1 l1 c1,.slice a2 l2 c2],.bool true])∧DfaR B w' (.agg #[.slice a1 l1 c1,.slice a2 l2 c2]) (Zat (nxSM M n) (enS n) (metSM M n K))
 else e = .returned (.tuple #[.agg #[.slice none 0 0,.slice none 0 0],.bool false])
theorem ZfV (M:Nat) (hM:M≤1000) (m K:Nat) (hK:K=40) (mvs:List (Int × Int × Int)) (fs es:List Int) (v1 v2 v3:Value) (w:World) (hm:m≤M) (hmv:mvIn m mvs) (hml:mvs.length≤1000000) (hf:inN m fs) (hfl:fs.length≤1000000) (h1:Moves 0 w v1 mvs) (h2:Ints 0 w v2 fs) :
  Calls Tryz.prog 160 #[.agg #[.int .i64 (m:Int),v1,v2,v3],.int .i64 40] w fun e w'=>Zpj M ⟨(m:Int),mvs,fs,es⟩ m K w e w':=by
 have h:=Zgv M hM m K mvs fs es v1 v2 v3 w hm (by omega) (by omega) hmv hml hf hfl h1 h2;have e:((K:Nat):Int)=40:=by omega
 rw[e] at h;exact h
theorem St.rowsform {w0 w:World} {L:List Ent} (h:St w0 w L) (i:Nat) {es e n c:Nat} {a:Option Addr} {vs:List Value} {css:List (List Value)} (hx:L[i]? = some (Ent.rows es e (.slice a n c) vs css)) (hn:0<css.length):∃ g,a=some ⟨g,0,none⟩∧n=css.length:=by obtain⟨g,cap,hv,-,-⟩:=(h.rows i hx).1.form hn;simp only[Value.slice.injEq] at hv;exact⟨g,hv.1,hv.2.1⟩
theorem ZaZ {x:Bool}:∀ u∈[Value.bool x],u.oneCell'=true:=by intro u hu;simp only[List.mem_singleton] at hu;subst hu;rfl
theorem Za3 (l:List Bool) (x:Bool):boolCells (l++[x])=boolCells l++[.bool x]:=by simp[boolCells]
theorem Zh8 {l:List Int} {p:Int→Bool} {j:Nat} (hj:j<l.length):(l.take (j+1)).any p=((l.take j).any p||p (l.getD j 0)):=by rw[List.take_succ_eq_append_getElem hj,List.any_append];simp[hj]
theorem ZgY (M:Nat) (hM:M≤1000) (m K:Nat) (hK:K=40) (mvs:List (Int × Int × Int)) (fs es:List Int) (v1 v2 v3:Value) (w:World) (hm:m≤M) (hmv:mvIn m mvs) (hml:mvs.length≤1000000) (hf:inN m fs) (hfl:fs.length≤1000000) (he:inN m es) (hel:es.length≤1000000) (h1:Moves 0 w v1 mvs) (h2:Ints 0 w v2 fs) (h3:Ints 0 w v3 es) :
  Calls Tryz.prog 147 #[.agg #[.int .i64 (m:Int),v1,v2,v3]] w fun e w'=>RDetSM M ⟨(m:Int),mvs,fs,es⟩ K w.heap.size e w'∧Below w.heap.size w w':=by
 obtain⟨a3,c3,rfl,hc3,hm3,hr3⟩:=h3.form;obtain⟨n,hn⟩:∃ n:NfaD,n=⟨(m:Int),mvs,fs,es⟩:=⟨_,rfl⟩;have hne:n.ends=es:=by rw[hn]
 have hS0:=((St.start w).alloc _ rfl #[.int .i64 (m:Int),v1,v2,.slice a3 es.length c3] 91).alloc (w.heap.size+1) (by simp) #[.slice none 0 0,.slice none 0 0] 32;have hsub:=ZfV M hM m K hK mvs fs es v1 v2 (.slice a3 es.length c3) _ hm hmv hml hf hfl (h1.below hS0.bel) (h2.below hS0.bel);rw[← hn] at hsub;rw[← hn];obtain⟨i0,hi,hz0,hz1,hz2⟩:=info_parts Tryz.infoBool;have hpos:=Zdq (nx:=nxSM M n) (a:=(((ZmV M n:Nat):Int),0)) K;obtain⟨F,hF⟩:=eI (metSM M n K);have hpos':0<F.length:=by rw[hF];exact hpos
 have hres:∀ B e w',RDetSM M n K B e w'=if F.length≤K then
  ∃ a1 l1 c1 a2 l2 c2,e = .returned (.tuple #[.agg #[.slice a1 l1 c1,.slice a2 l2 c2],.bool true])∧DfaR B w' (.agg #[.slice a1 l1 c1,.slice a2 l2 c2]) (Zat (nxSM M n) (enS n) F)
  else e = .returned (.tuple #[.agg #[.slice none 0 0,.slice none 0 0],.bool false]):=fun B e w'=>by rw[hF];rfl
 have hRS:∀ e w',Zpj M n m K ((w.alloc (.cells #[.int .i64 (m:Int),v1,v2,.slice a3 es.length c3] 91)).alloc (.cells #[.slice none 0 0,.slice none 0 0] 32)) e w'→∃ a1 c1 a2 c2 l1 l2,e = .returned (.tuple #[.slice a1 l1 c1,.slice a2 l2 c2])∧l1<1000000 ∧
  (if F.length≤K then l1=F.length∧∃ vs1 vs2,St ((w.alloc (.cells #[.int .i64 (m:Int),v1,v2,.slice a3 es.length c3] 91)).alloc (.cells #[.slice none 0 0,.slice none 0 0] 32)) w' [Ent.rows 30 4 (.slice a1 l1 c1) vs1 ((F.map (flc m)).map boolCells),Ent.rows 59 3 (.slice a2 l2 c2) vs2 ((F.map (Zae (nxSM M n) F)).map intCells)]
   else K<l1∧Below ((w.alloc (.cells #[.int .i64 (m:Int),v1,v2,.slice a3 es.length c3] 91)).alloc (.cells #[.slice none 0 0,.slice none 0 0] 32)).heap.size ((w.alloc (.cells #[.int .i64 (m:Int),v1,v2,.slice a3 es.length c3] 91)).alloc (.cells #[.slice none 0 0,.slice none 0 0] 32)) w'):=fun e w' h=>by rw[hF];exact h
 have HRes:=qh hres;have HRS:=qh hRS;have Hsub:=qh hsub;replace hn:=qh hn;have Hhne:=qh hne;clear hne;replace hS0:=qh hS0;have Hhi:=qh hi;clear hi;have Hhz0:=qh hz0;clear hz0;have Hhz1:=qh hz1;clear hz1;have Hhz2:=qh hz2;clear hz2;replace hF:=qh hF;have Hhr3:=qh hr3;clear hr3;have Hhe:=qh he;clear he;have HhK:=qh hK;clear hK;clear h1 h2 h3 hres hRS hsub hpos
 go_enter Tryz.func147, Tryz.ntmps147
 go_wp2_with fail;refine Hsub.out.mono ?_;rintro e w1 hr;obtain⟨a1,c1,a2,c2,l1,l2,rfl,hl1,hr⟩:=HRS.out e w1 hr;by_cases hle:F.length≤K
 ·rw[if_pos hle] at hr;obtain⟨hlF,vs1,vs2,hS'⟩:=hr;have hS1:=hS0.out.cat hS';have hlm1:((F.map (flc m)).map boolCells).length=F.length:=Zb6 _ _ _;have hlm2:((F.map (Zae (nxSM M n) F)).map intCells).length=F.length:=Zb6 _ _ _;obtain⟨g1,rfl,-⟩:=hS1.rowsform 2 rfl (by rw[hlm1];exact hpos');obtain⟨g2,rfl,hl2⟩:=hS1.rowsform 3 rfl (by rw[hlm2];exact hpos');rw[hlm2] at hl2;have hl40:(l1:Int)≤40:=by have:=HhK.out;omega
  have hS2:=(hS1.alloc _ rfl #[.slice (some ⟨g2,0,none⟩) l2 c2,.slice none 0 0] 32).nilRow 4 1;have HhlF:=qh hlF;clear hlF;have Hhl2:=qh hl2;clear hl2;have Hhlm1:=qh hlm1;clear hlm1;have Hhlm2:=qh hlm2;clear hlm2;have HhS2:=qh hS2;clear hS2;clear hS1 hS';go_wp2
  go_loopw [7] (fun i wr=>∃ (k c:Nat) (a:Option Addr),i = .int .i64 k∧k≤l1∧St w wr [Ent.box w.heap.size #[.int .i64 (m:Int),v1,v2,.slice a3 es.length c3] 91,Ent.box (w.heap.size+1) #[.slice none 0 0,.slice none 0 0] 32,
    Ent.rows 30 4 (.slice (some ⟨g1,0,none⟩) l1 c1) vs1 ((F.map (flc m)).map boolCells),Ent.rows 59 3 (.slice (some ⟨g2,0,none⟩) l2 c2) vs2 ((F.map (Zae (nxSM M n) F)).map intCells),
    Ent.box w1.heap.size #[.slice (some ⟨g2,0,none⟩) l2 c2,.slice a k c] 32,Ent.row 4 1 (.slice a k c) k (boolCells ((F.take k).map (enS n)))])
   (fun i _=>l1-(intOf i).toNat)
  case atStart=>exact⟨0,0,none,rfl,Nat.zero_le _,HhS2.out⟩
  case round =>
   obtain⟨k,c,a,rfl,hk,hS⟩:=hrel;obtain⟨wo,hwo⟩:∃ wo:World,wo=wr:=⟨_,rfl⟩;subst hwo;have HhS:=qh hS;clear hS;by_cases hlt:k<l1
   ·have hkF:k<F.length:=by have:=HhlF.out;omega
    obtain⟨x,hx⟩:=eI (F.getD k ((0,0):Int × Int));have hcs:((F.map (flc m)).map boolCells).getD k []=boolCells (flc m x):=by rw[hx];simp[hkF]
    have hlt2:(k:Int)<l1:=by omega
    have Hhx:=qh hx;clear hx;have Hhcs:=qh hcs;clear hcs;go_wp2
    go_loopw [8,9] (fun ev i wi=>∃ (j:Nat) (b:Bool),i = .int .i64 j∧ev = .bool b∧j≤es.length∧b=(es.take j).any (fun s=>x.1.toNat.testBit s.toNat)∧St w wi [Ent.box w.heap.size #[.int .i64 (m:Int),v1,v2,.slice a3 es.length c3] 91,Ent.box (w.heap.size+1) #[.slice none 0 0,.slice none 0 0] 32,
      Ent.rows 30 4 (.slice (some ⟨g1,0,none⟩) l1 c1) vs1 ((F.map (flc m)).map boolCells),Ent.rows 59 3 (.slice (some ⟨g2,0,none⟩) l2 c2) vs2 ((F.map (Zae (nxSM M n) F)).map intCells),
      Ent.box w1.heap.size #[.slice (some ⟨g2,0,none⟩) l2 c2,.slice a k c] 32,Ent.row 4 1 (.slice a k c) k (boolCells ((F.take k).map (enS n)))])
     (fun _ i _=>es.length-(intOf i).toNat)
    case atStart=>exact⟨0,false,rfl,rfl,Nat.zero_le _,by simp,HhS.out⟩
    case round =>
     obtain⟨j,b,rfl,rfl,hj,hb,hSi⟩:=hrel;have e3:=hSi.cell (v:=.slice a3 es.length c3) 0 3 rfl rfl;by_cases hjl:j<es.length
     ·obtain⟨b3,o3,rfl,-,hbl3,hcs3⟩:=Hhr3.out (by omega);have hce:=(bcell hSi.bel b3 (o3+j) hbl3).trans (hcs3 j hjl);obtain⟨s0,s1⟩:=Hhe.out _ (memD (d:=0) hjl);have hany:=Zh8 (p:=fun s=>x.1.toNat.testBit s.toNat) hjl;obtain⟨s,hs⟩:=Int.eq_ofNat_of_zero_le s0;rw[hs] at hce s1 hany;have hsm:s<m:=by omega
      obtain⟨ax,cx,hcell,hxr,hcx1,hcx2,hcp1,hcp2,hb1l⟩:=hSi.rowAt 2 rfl (Hhlm1.out.trans HhlF.out.symm) hlt;rw[Hhcs.out] at hcell hxr hcx1;have hxl:(boolCells (flc m x)).length=m:=by simp[ZhR]
      rw[hxl] at hcell hxr hcx1;obtain⟨gx,cx',hvx,-,-⟩:=hxr.form (by omega);simp only[Value.slice.injEq] at hvx;obtain⟨rfl,-,rfl⟩:=hvx;have hbit:=(hxr.cellAt s (by omega)).trans (Zdj hsm);have hjl2:(j:Int)<es.length:=by omega
      have hsm2:(s:Int)<m:=by omega
      have Hhs:=qh hs;clear hs;have Hhb:=qh hb;clear hb;have Hhany:=qh hany;clear hany;have HhSi:=qh hSi;clear hSi;clear hcs3 hxr hxl s0;cases b
      ·cases ht:x.1.toNat.testBit s
       all_goals
        rw[ht] at hbit;have Hht:=qh ht;clear ht;go_wp2
        go_quiet (fail)
        go_wp2;go_roundw
        case rel =>refine⟨j+1,_,by go_num,rfl,by omega,?_,HhSi.out.drewN _⟩;rw[Hhany.out,← Hhb.out,Int.toNat_natCast,Hht.out];rfl
        case measure=>simp[intOf];omega
      go_wp2
      go_quiet (fail)
      go_wp2;go_roundw
      case rel =>refine⟨j+1,_,by go_num,rfl,by omega,?_,HhSi.out.drewN _⟩;rw[Hhany.out,← Hhb.out];rfl
      case measure=>simp[intOf];omega
     obtain rfl:j=es.length:=by omega
     rw[List.take_length] at hb;have hen:enS n x=b:=by rw[hb,← Hhne.out];rfl
     have d1:=hSi.cell (v:=.slice a k c) 4 1 rfl rfl;have hSa:=hSi.alloc_ (.cells #[.bool b] 4);have hR:=hSa.row 5 rfl;have htk:(F.take (k+1)).map (enS n)=(F.take k).map (enS n)++[b]:=by rw[List.take_succ_eq_append_getElem hkF,List.map_append,← hen,Hhx.out];simp[hkF]
     have Hhen:=qh hen;clear hen;have Hhb:=qh hb;clear hb;have Hhtk:=qh htk;clear htk;have HhSi:=qh hSi;clear hSi;have HhSa:=qh hSa;clear hSa;have HhR:=qh hR;clear hR;go_wp2_with (at_builtin;refine wpList_append_lies _ rfl _ _ _ rfl _ 4 i0 (.bool false) 1 1 Tryz.underlying30 Hhi.out Hhz0.out Hhz1.out Hhz2.out rfl (by omega) _ k _ rfl HhR.out ⟨wr.heap.size,0,none⟩ 1 1 [.bool b] rfl rfl (World.news_of_block (heap_alloc_new wr _)) ZaZ (by omega) (by unfold maxLen;omega) (by omega) HhSa.out.size _ rfl ?_;intro g6 c6 w6 hown6 hgrow6 hat6 hlt6;have HS6:=qh (HhSa.out.app 5 rfl hown6 hgrow6 hat6);have y1:=HS6.out.cell (v:=.slice a k c) 4 1 rfl rfl;have y2:=HS6.out.fr 4 1 rfl;clear hown6 hgrow6 hat6 hlt6);go_roundw
     case rel =>refine⟨k+1,c6,some ⟨g6,0,none⟩,by go_num,by omega,?_⟩;rw[Hhtk.out,Za3];exact HS6.out.set 4 rfl 1 (.slice (some ⟨g6,0,none⟩) (k+1) c6)
     case measure=>simp[intOf];omega
   obtain rfl:k=l1:=by omega
   have d0:=HhS.out.cell (v:=.slice (some ⟨g2,0,none⟩) l2 c2) 4 0 rfl rfl;have d1:=HhS.out.cell (v:=.slice a k c) 4 1 rfl rfl;have f0:=HhS.out.fr 1 0 rfl;have f1:=HhS.out.fr 1 1 rfl;have k0:=HhS.out.cell (v:=.slice none 0 0) 1 0 rfl rfl;have k1:=HhS.out.cell (v:=.slice none 0 0) 1 1 rfl rfl;go_wp2;have hq:=(HhS.out.set 1 rfl 0 (.slice (some ⟨g2,0,none⟩) l2 c2)).set 1 rfl 1 (.slice a k c);have q0:=hq.cell (v:=.slice (some ⟨g2,0,none⟩) l2 c2) 1 0 rfl rfl;have q1:=hq.cell (v:=.slice a k c) 1 1 rfl rfl;refine bodyPost_ret (v:=.tuple #[.agg #[.slice (some ⟨g2,0,none⟩) l2 c2,.slice a k c],.bool true]) (by simp[results,Tryz.results147,go_sem,q0,q1]) rfl ⟨?_,hq.bel⟩;rw[HRes.out,if_pos hle];refine⟨_,_,_,_,_,_,rfl,_,_,rfl,(hq.intSS 3 rfl).intSS,?_⟩;have hb:=ZaR (hq.row 5 rfl);rw[List.take_of_length_le (by have:=HhlF.out;omega)] at hb;exact hb
 rw[if_neg hle] at hr;have hl40:(l1:Int)>40:=by have:=HhK.out;omega
 have hS1:=hS0.out.call hr.2;have f0:=hS1.fr 1 0 rfl;have f1:=hS1.fr 1 1 rfl;have k0:=hS1.cell (v:=.slice none 0 0) 1 0 rfl rfl;have k1:=hS1.cell (v:=.slice none 0 0) 1 1 rfl rfl;have HhS1:=qh hS1;clear hS1;go_wp2;have hq:=(HhS1.out.set 1 rfl 0 (.slice none 0 0)).set 1 rfl 1 (.slice none 0 0);have q0:=hq.cell (v:=.slice none 0 0) 1 0 rfl rfl;have q1:=hq.cell (v:=.slice none 0 0) 1 1 rfl rfl;refine bodyPost_ret (v:=.tuple #[.agg #[.slice none 0 0,.slice none 0 0],.bool false]) (by simp[results,Tryz.results147,go_sem,q0,q1]) rfl ⟨?_,hq.bel⟩;rw[HRes.out,if_neg hle]
end Go.Proofs.YtehmjmjedopkkaaGreat
namespace Go.Proofs.YtehmjmjedopkkaaGreat
open Go.RowKit Go.Maps
def detK (K:Nat) (n:NfaD):Option DfaD:=if Zhy n=true∧(metS n K).length≤K then some (Zat (nxS n) (enS n) (metS n K)) else none
def Za8:DfaD:=⟨[],[]⟩
theorem ZfH (w:World) (B e size:Nat):w.ownsRow B e size (.slice none 0 0) 0 []:=⟨by simp,Or.inl ⟨rfl,rfl⟩⟩
theorem Zia (w:World) (B tS tI tB:Nat):DfaO tS tI tB B w.heap.size w (.agg #[.slice none 0 0,.slice none 0 0]) Za8 :=
 ⟨_,_,rfl,⟨[],Zaa (ZfH w B tS 1),fun i hi=>absurd hi (by simp[Za8]),fun i j k _ hj=>absurd hj (by simp[Za8])⟩,Zaa (ZfH w B tB 1)⟩
end Go.Proofs.YtehmjmjedopkkaaGreat
namespace Go.Proofs.YtehmjmjedopkkaaGreat
open Go.RowKit
def Zay (a b:DfaD) (p:Int × Int) (c:Nat):Int × Int:=((a.next.getD p.1.toNat []).getD c 0,(b.next.getD p.2.toNat []).getD c 0)
def Zb4 (a b:DfaD) (p:Int × Int):Bool:=inB p.1 0 ((a.next.length:Int)-1)&&inB p.2 0 ((b.next.length:Int)-1)
theorem Zd4 {x lo hi:Int} (h:inB x lo hi=true):lo≤x∧x≤hi:=by simpa [inB] using h
theorem ZaG {next:List (List Int)} {ends:List Bool} (h:Zaf next ends=true) {i:Nat} (hi:i<next.length) :
  (next.getD i []).length=3∧∀ c,c<3→0≤(next.getD i []).getD c 0∧(next.getD i []).getD c 0<next.length:=by
 simp only[Zaf,Bool.and_eq_true,List.all_eq_true] at h;have hr:=h.1.1 _ (Zcs (d:=[]) hi);simp only[Zc7,Bool.and_eq_true,decide_eq_true_eq,List.all_eq_true] at hr;refine⟨hr.1,fun c hc => ?_⟩;have:=Zd4 (hr.2 _ (Zcs (d:=0) (show c<(next.getD i []).length by omega)));omega
theorem Zad {next:List (List Int)} {ends:List Bool} (h:Zaf next ends=true):1≤next.length∧next.length≤40∧ends.length=next.length:=by simp only[Zaf,Bool.and_eq_true,decide_eq_true_eq] at h;have:=Zd4 h.1.2;omega
end Go.Proofs.YtehmjmjedopkkaaGreat
