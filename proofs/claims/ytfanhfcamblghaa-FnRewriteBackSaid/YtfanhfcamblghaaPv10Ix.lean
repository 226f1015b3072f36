/-
  The walk over the reference's l11Pair: two automata side by side.
  Conditions: the automata are valid and read as such; the mode is 0 or 1.
-/
import Derived.Test.YtfanhfcamblghaaPv09Jx
set_option maxHeartbeats 16000000
set_option maxRecDepth 100000
namespace Go.Proofs.Ytfanhfcamblghaa
open Go.RowKit
def pfM (mode:Int) (x y:Bool):Bool:=(decide (mode=0)&&x&&y)||(decide (mode=1)&&(x||y))||(decide (mode=2)&&x && !y)||(decide (mode=3)&&(x != y))
def prw (p:Int × Int):List Int:=[p.1,p.2]
theorem Zfp {xm ym x y:Int} (h:¬ (xm=x∧ym=y)):((xm,ym):Int × Int)≠(x,y):=fun e=>h (by simpa using e)
theorem Zbf {S:List (Int × Int)} {x:Int × Int} {g:Int × Int→List Int}:((S++[x]).map g).map intCells=(S.map g).map intCells++[intCells (g x)]:=by simp
theorem Zbe {S:List (Int × Int)} {x:Int × Int} {g:Int × Int→Bool}:boolCells ((S++[x]).map g)=boolCells (S.map g)++[.bool (g x)]:=by simp[boolCells]
def atP (S:List (Int × Int)) (x:Int × Int) (m:Nat):Int:=if x∈S.take m then(Zad S x:Int) else -1
theorem ZjP {S:List (Int × Int)} {x:Int × Int} {m:Nat} (hn:S.Nodup) (hm:m<S.length) (hx:S.getD m (0,0)=x):atP S x (m+1)=(m:Int):=by
 have h1:Zad S x=m:=by rw[← hx];exact Zkp hm hn _
 have h2:x∈S.take (m+1):=by rw[List.take_succ_eq_append_getElem hm,← ZaW (d:=(0,0)) hm,hx];simp
 unfold atP;rw[if_pos h2,h1]
theorem ZdW {S:List (Int × Int)} {x:Int × Int} {m:Nat} (hm:m<S.length) (hx:S.getD m (0,0)≠x):atP S x (m+1)=atP S x m:=by
 unfold atP;have e:x∈S.take (m+1)↔x∈S.take m:=by rw[List.take_succ_eq_append_getElem hm,← ZaW (d:=(0,0)) hm];simp only[List.mem_append,List.mem_singleton];exact⟨fun h=>h.resolve_right fun h=>hx h.symm,.inl⟩
 simp only[e]
theorem Zee (K:Nat) (hK:K=40) (a b:DfaD) (mode:Int) (f:Bool→Bool→Bool) (hf:∀ x y,pfM mode x y=f x y) (hmode:mode=0∨mode=1) (v u:Value) (w:World) (hda:Zaf a.next a.ends=true) (hdb:Zaf b.next b.ends=true) (h1:DfaR 0 w v a) (h2:DfaR 0 w u b) :
  Calls Try.prog 157 #[v,u,.int .i64 mode] w fun e w'=>RO (Zfq K f a b) w e w':=by
 obtain⟨b1,o1,cv,b2,o2,cw,rfl,hCa⟩:=Zbh hda h1;obtain⟨b3,o3,cx,b4,o4,cy,rfl,hCb⟩:=Zbh hdb h2;have hKa:K≤40:=by omega
 have hKb:40≤K:=by omega
 clear hK;obtain⟨i0,hi,hz0,hz1,hz2⟩:=info_parts Try.infoInt;obtain⟨j0,hj,hy0,hy1,hy2⟩:=info_parts Try.infoInts;obtain⟨k0,hk,hx0,hx1,hx2⟩:=info_parts Try.infoBool;have Hin:=qh (fun k=>Zbu (nx:=Zat a b) (a:=(0,0)) (Q:=fun x=>Zc7 a b x=true) (Zha hda hdb) (fun x c hc hx=>Zhb hda hdb hc hx) k);have HCa:=qh hCa;have HCb:=qh hCb;obtain⟨LA,hLA⟩:∃ L,a.next.length=L:=⟨_,rfl⟩;obtain⟨LB,hLB⟩:∃ L,b.next.length=L:=⟨_,rfl⟩;obtain⟨hl1,hl2,-⟩:=Zag hda;obtain⟨hl3,hl4,-⟩:=Zag hdb;rw[hLA] at hl1 hl2;rw[hLB] at hl3 hl4;rw[hLA,hLB];have hS0:=((St.start w).alloc _ rfl #[.slice (some ⟨b1,o1,none⟩) LA cv,.slice (some ⟨b2,o2,none⟩) LA cw] 45).alloc (w.heap.size+1) (by simp) #[.slice (some ⟨b3,o3,none⟩) LB cx,.slice (some ⟨b4,o4,none⟩) LB cy] 45;have hS1:=(((((hS0.alloc (w.heap.size+1+1) (by simp) #[.slice none 0 0,.slice none 0 0] 45).alloc (w.heap.size+1+1+1) (by simp) #[.int .i64 0,.int .i64 0] 3).boxrow 3 2 1 [.int .i64 0,.int .i64 0] rfl rfl (by unfold maxLen;omega)).alloc (w.heap.size+1+1+1+1) (by simp) #[.slice (some ⟨w.heap.size+1+1+1,0,none⟩) 2 2] 26).boxrow 4 1 1 [.slice (some ⟨w.heap.size+1+1+1,0,none⟩) 2 2] rfl rfl (by unfold maxLen;omega)).onerow 4 3 (by decide) rfl rfl;have hS2:=((((hS1.pick [0,1,2,4] (by decide)).alloc (w.heap.size+1+1+1+1+1) (by simp) #[.slice none 0 0,.slice none 0 0] 45).nilRow 26 1).norows 5 rfl 3).nilRow 4 1;have HS2:=qh hS2;replace hLA:=qh hLA;have HhLB:=qh hLB;clear hLB
 have Hhi:=qh hi;clear hi;have Hhz0:=qh hz0;clear hz0;have Hhz1:=qh hz1;clear hz1;have Hhz2:=qh hz2;clear hz2;have Hhj:=qh hj;clear hj;have Hhy0:=qh hy0;clear hy0;have Hhy1:=qh hy1;clear hy1;have Hhy2:=qh hy2;clear hy2;have Hhk:=qh hk;clear hk;have Hhx0:=qh hx0;clear hx0;have Hhx1:=qh hx1;clear hx1;have Hhx2:=qh hx2;clear hx2;have Hhf:=qh hf;clear hf;have Hhmode:=qh hmode;clear hmode;clear hS0 hS1 hS2 h1 h2 hCa hCb;obtain⟨F,hF⟩:=eI (metP a b K);replace hF:=qh hF
 go_enter Try.func157, Try.ntmps157
 go_wp2
 go_loopw [7,8,10] (fun rb vl i wr=>∃ (k n1 cap1 c2 c3:Nat) (a2 a3:Option Addr) (vs1 vs2:List Value),i = .int .i64 k∧rb = .bool false∧vl = .slice (some ⟨n1,0,none⟩) (bat (Zat a b) (0,0) k).met.length cap1∧k≤(bat (Zat a b) (0,0) k).met.length∧k≤K∧(bat (Zat a b) (0,0) k).met.length≤K+3 ∧
   St w wr [Ent.box w.heap.size #[.slice (some ⟨b1,o1,none⟩) LA cv,.slice (some ⟨b2,o2,none⟩) LA cw] 45,Ent.box (w.heap.size+1) #[.slice (some ⟨b3,o3,none⟩) LB cx,.slice (some ⟨b4,o4,none⟩) LB cy] 45,Ent.box (w.heap.size+1+1) #[.slice none 0 0,.slice none 0 0] 45,
    Ent.rows 26 3 (.slice (some ⟨n1,0,none⟩) (bat (Zat a b) (0,0) k).met.length cap1) vs1 (((bat (Zat a b) (0,0) k).met.map prw).map intCells),
    Ent.box (w.heap.size+1+1+1+1+1) #[.slice a2 k c2,.slice a3 k c3] 45,
    Ent.rows 26 3 (.slice a2 k c2) vs2 ((((bat (Zat a b) (0,0) k).met.take k).map (Zab (Zat a b) F)).map intCells),
    Ent.row 4 1 (.slice a3 k c3) k (boolCells (((bat (Zat a b) (0,0) k).met.take k).map (ZcM f a b)))])
  (fun _ _ i _=>K-(intOf i).toNat)
 case atStart=>exact⟨0,_,_,0,0,none,none,[.slice (some ⟨w.heap.size+1+1+1,0,none⟩) 2 2],[],rfl,rfl,rfl,by simp,by omega,by simp[bat],HS2.out⟩
 case round =>
  obtain⟨k,n1,cap1,c2,c3,a2,a3,vs1,vs2,rfl,rfl,rfl,hk,hkK,hML,hS⟩:=hrel;obtain⟨S,hSS⟩:=eI (bat (Zat a b) (0,0) k);have hR:=Hin.out k;rw[← hSS] at hk hML hS hR;rw[← hSS];obtain⟨wo,hwo⟩:∃ wo:World,wo=wr:=⟨_,rfl⟩;subst hwo;have HhS:=qh hS;clear hS;have HhSS:=qh hSS;clear hSS;have HhR:=qh hR;clear hR;by_cases hlt:k<S.met.length
  ·by_cases hle:S.met.length≤K
   ·have hlt2:(k:Int)<S.met.length:=by omega
    have hle2:¬ ((S.met.length:Int)>40):=by omega
    have hSe:=(HhS.out.alloc _ rfl #[] 3).boxrow 7 0 1 [] rfl rfl (Nat.zero_le _);obtain⟨x,hx⟩:=eI (S.met.getD k (0,0));have hxM:Zc7 a b x=true:=by rw[hx];exact HhR.out _ (memD hlt)
    have hkS:k<(bat (Zat a b) (0,0) k).met.length:=by rw[← HhSS.out];exact hlt
    have hxb:(bat (Zat a b) (0,0) k).met.getD k (0,0)=x:=by rw[← HhSS.out];exact hx.symm
    obtain⟨i,j,hxij,hiA,hjB⟩:=Ze5 hxM;rw[hLA.out] at hiA;rw[HhLB.out] at hjB;have hiA2:(i:Int)<LA:=by omega
    have hjB2:(j:Int)<LB:=by omega
    have HhSe:=qh hSe;clear hSe;have Hhx:=qh hx;clear hx;have HhkS:=qh hkS;clear hkS;have Hhxb:=qh hxb;clear hxb;have Hhxij:=qh hxij;clear hxij;clear hxM;go_wp2
    go_loopw [8,11,12] (fun vl rv i' wi=>∃ (c n1 cap1 b5 cap3:Nat) (vs1:List Value),i' = .int .i64 c∧vl = .slice (some ⟨n1,0,none⟩) (bpart (Zat a b) (0,0) k c).met.length cap1∧rv = .slice (some ⟨b5,0,none⟩) c cap3∧c≤3 ∧
      St w wi [Ent.box w.heap.size #[.slice (some ⟨b1,o1,none⟩) LA cv,.slice (some ⟨b2,o2,none⟩) LA cw] 45,Ent.box (w.heap.size+1) #[.slice (some ⟨b3,o3,none⟩) LB cx,.slice (some ⟨b4,o4,none⟩) LB cy] 45,Ent.box (w.heap.size+1+1) #[.slice none 0 0,.slice none 0 0] 45,
       Ent.rows 26 3 (.slice (some ⟨n1,0,none⟩) (bpart (Zat a b) (0,0) k c).met.length cap1) vs1 (((bpart (Zat a b) (0,0) k c).met.map prw).map intCells),
       Ent.box (w.heap.size+1+1+1+1+1) #[.slice a2 k c2,.slice a3 k c3] 45,
       Ent.rows 26 3 (.slice a2 k c2) vs2 (((S.met.take k).map (Zab (Zat a b) F)).map intCells),
       Ent.row 4 1 (.slice a3 k c3) k (boolCells ((S.met.take k).map (ZcM f a b))),
       Ent.row 3 1 (.slice (some ⟨b5,0,none⟩) c cap3) c (intCells ((Zab (Zat a b) F x).take c))])
     (fun _ _ i' _=>3-(intOf i').toNat)
    case atStart =>refine⟨0,n1,cap1,_,_,vs1,rfl,by rw[Zao,← HhSS.out],rfl,by omega,?_⟩;rw[Zao,← HhSS.out];exact HhSe.out
    case round =>
     obtain⟨c,n1,cap1,b5,cap3,vs1,rfl,rfl,rfl,hc3,hSi⟩:=hrel;obtain⟨wp,hwp⟩:∃ wp:World,wp=wr:=⟨_,rfl⟩;subst hwp;by_cases hc:c<3
     ·have hTl:=Zb3 (Zat a b) (0,0) k c;have hTn:=(ZcJ (nx:=Zat a b) (a:=(0,0)) HhkS.out (show c≤3 by omega)).1;have hold:=ZbG (nx:=Zat a b) (a:=(0,0)) (k:=k) (n:=c);have hnew:=ZbH (nx:=Zat a b) (a:=(0,0)) (k:=k) (n:=c);have hTS:=Za1 (nx:=Zat a b) (a:=(0,0)) (k:=k) (Nat.zero_le c);have hTF:=Zax (nx:=Zat a b) (a:=(0,0)) (m:=K) HhkS.out (show c≤3 by omega) (show k<K by omega);have hTF2:=Zax (nx:=Zat a b) (a:=(0,0)) (m:=K) HhkS.out (show c+1≤3 by omega) (show k<K by omega);rw[Zao,← HhSS.out] at hTS;rw[Hhxb.out] at hold hnew;rw[← HhSS.out] at hTl;replace hTF:=hTF.1;replace hTF2:=hTF2.1;replace hTS:=hTS.1;rw[show(bat (Zat a b) (0,0) K).met=F from hF.out.symm] at hTF hTF2;have hys:Zat a b x c=(((nxD a i c:Nat):Int),((nxD b j c:Nat):Int)):=by rw[Hhxij.out,← HCa.out.dx i c (by have:=hLA.out;omega) hc,← HCb.out.dx j c (by have:=HhLB.out;omega) hc];rfl
      have hq1:=HCa.out.lt i c (by have:=hLA.out;omega) hc;have hq2:=HCb.out.lt j c (by have:=HhLB.out;omega) hc;rw[hLA.out] at hq1;rw[HhLB.out] at hq2;obtain⟨ya,hya⟩:∃ y,y=nxD a i c:=⟨_,rfl⟩;obtain⟨yb,hyb⟩:∃ y,y=nxD b j c:=⟨_,rfl⟩;rw[← hya,← hyb] at hys;rw[← hya] at hq1;rw[← hyb] at hq2;rw[hys] at hold hnew;have hold':((ya:Int),(yb:Int))∈(bpart (Zat a b) (0,0) k c).met→(bpart (Zat a b) (0,0) k (c+1)).met=(bpart (Zat a b) (0,0) k c).met:=fun h=>by rw[hold h]
      have hnew':((ya:Int),(yb:Int)) ∉ (bpart (Zat a b) (0,0) k c).met→(bpart (Zat a b) (0,0) k (c+1)).met=(bpart (Zat a b) (0,0) k c).met++[((ya:Int),(yb:Int))]:=fun h=>by rw[hnew h]
      clear hold hnew;obtain⟨T1,hT1⟩:=eI ((bpart (Zat a b) (0,0) k (c+1)).met);obtain⟨T,hT⟩:=eI ((bpart (Zat a b) (0,0) k c).met);rw[← hT] at hSi hTl hTn hTF hTS hold' hnew';rw[← hT1] at hTF2 hold' hnew';rw[← hT];have hkT:k<T.length:=Nat.lt_of_lt_of_le hlt hTS.length_le;have hxT:T.getD k (0,0)=((i:Int),(j:Int)):=((Zau hTS hlt _).trans Hhx.out.symm).trans Hhxij.out;have hrow:=ZcT (nx:=Zat a b) (F:=F) (x:=x) hc;rw[hys] at hrow;have hlm:((T.map prw).map intCells).length=T.length:=ZaZ _ _ _
      have hcs:((T.map prw).map intCells).getD k []=[.int .i64 (i:Int),.int .i64 (j:Int)]:=by
       have:((T.map prw).map intCells).getD k []=intCells (prw (T.getD k (0,0))):=by simp[hkT]
       rw[this,hxT];rfl
      obtain⟨ax,cxx,hcell,hxr,hcx1,hcx2,hcp1,hcp2,hb1l⟩:=hSi.rowAt 3 rfl hlm hkT;rw[hcs] at hcell hxr hcx1;obtain⟨gx,cx',hvx,hgx1,hgx2⟩:=hxr.form (by simp);simp only[Value.slice.injEq,List.length_cons,List.length_nil] at hvx;obtain⟨rfl,-,rfl⟩:=hvx;have p0:=hxr.cellAt 0 (by simp);have p1:=hxr.cellAt 1 (by simp);simp only[w_6,w_7] at p0 p1;simp only[List.length_cons,List.length_nil] at hcell hcx1;have hDa:=HCa.out.below hSi.bel;have hDb:=HCb.out.below hSi.bel;obtain⟨g5,o5,c5,hg5,hc5,hc5',hr5,hv5⟩:=hDa.row i (by have:=hLA.out;omega);obtain⟨g6,o6,c6,hg6,hc6,hc6',hr6,hv6⟩:=hDb.row j (by have:=HhLB.out;omega);replace hv5:=hv5 c hc;replace hv6:=hv6 c hc;rw[← hya] at hv5;rw[← hyb] at hv6;have e0:=hSi.cell (v:=.slice (some ⟨b1,o1,none⟩) LA cv) 0 0 rfl rfl;have e1:=hSi.cell (v:=.slice (some ⟨b3,o3,none⟩) LB cx) 1 0 rfl rfl;have hkT2:(k:Int)<T.length:=by omega
      have hc4:(c:Int)<3:=by omega
      have Hhys:=qh hys;clear hys;have Hhya:=qh hya;clear hya;have Hhyb:=qh hyb;clear hyb;have Hhold':=qh hold';clear hold';have Hhnew':=qh hnew';clear hnew';have HhT1:=qh hT1;clear hT1;have HhT:=qh hT;clear hT;have HhTl:=qh hTl;clear hTl;have HhTn:=qh hTn;clear hTn;have HhTF:=qh hTF;clear hTF;have HhTF2:=qh hTF2;clear hTF2;have HhTS:=qh hTS;clear hTS;have HhxT:=qh hxT;clear hxT;have Hhrow:=qh hrow;clear hrow;have Hhlm:=qh hlm;clear hlm;have HhSi:=qh hSi;clear hSi;clear hcs hxr hDa hDb;go_wp2
      go_quiet (fail)
      obtain⟨m1,hm1⟩:∃ n,n=nq:=⟨_,rfl⟩;subst hm1;go_wp2
      go_quiet (fail)
      obtain⟨m2,hm2⟩:∃ n,n=nq:=⟨_,rfl⟩;subst hm2;obtain⟨w3,hw3⟩:=eI ((wp.drewN m1).drewN m2);have hS3:=(HhSi.out.drewN m1).drewN m2;rw[← hw3] at hS3;rw[← hw3];have HhS3:=qh hS3;clear hS3;clear e0 e1 hr5 hr6 hv5 hv6 hcell p0 p1 hw3;go_wp2
      go_loopw [15,16] (fun av jj wj=>∃ m:Nat,jj = .int .i64 m∧m≤T.length∧av = .int .i64 (atP T ((ya:Int),(yb:Int)) m)∧Below w3.heap.size w3 wj) (fun _ jj _=>T.length-(intOf jj).toNat)
      case atStart=>exact⟨0,rfl,Nat.zero_le _,by simp[atP],Below.refl _ _⟩
      case round =>
       obtain⟨m,rfl,hm,rfl,hbj⟩:=hrel;by_cases hmT:m<T.length
       ·obtain⟨p,hp⟩:=eI (T.getD m (0,0))
        have hcs:((T.map prw).map intCells).getD m []=[.int .i64 p.1,.int .i64 p.2]:=by
         have:((T.map prw).map intCells).getD m []=intCells (prw (T.getD m (0,0))):=by simp[hmT]
         rw[this,← hp];rfl
        obtain⟨ax,cm,hcell,hxr,hcx3,hcx4,hcp3,hcp4,hb1l⟩:=HhS3.out.rowAt 3 rfl Hhlm.out hmT;rw[hcs] at hcell hxr hcx3;obtain⟨gm,cx',hvx,hgx1,hgx2⟩:=hxr.form (by simp);simp only[Value.slice.injEq,List.length_cons,List.length_nil] at hvx;obtain⟨rfl,-,rfl⟩:=hvx;have p0:=hxr.cellAt 0 (by simp);have p1:=hxr.cellAt 1 (by simp);simp only[w_6,w_7] at p0 p1;simp only[List.length_cons,List.length_nil] at hcell hcx3;replace hcell:=(bcell hbj n1 m hb1l).trans hcell;replace p0:=(bcell hbj gm 0 hgx2).trans p0;replace p1:=(bcell hbj gm 1 hgx2).trans p1;obtain⟨xm,ym⟩:=p;simp only at p0 p1;have hmT2:(m:Int)<T.length:=by omega
        have Hend:=qh (fun (v':Int) (h:v'=atP T ((ya:Int),(yb:Int)) (m+1))=>(show ∃ m':Nat,Value.int .i64 ((m:Int)+1) = .int .i64 (m':Int)∧m'≤T.length∧Value.int .i64 v' = .int .i64 (atP T ((ya:Int),(yb:Int)) m')∧Below w3.heap.size w3 wr from⟨m+1,by go_num,by omega,by rw[h],hbj⟩));have Hhp:=qh hp;clear hp;have Hhbj:=qh hbj;clear hbj;clear hcs hxr;by_cases hxe:xm=(ya:Int)
        ·subst hxe;by_cases hye:ym=(yb:Int)
         ·subst hye;go_wp2;go_roundw
          case rel=>exact Hend.out _ (ZjP HhTn.out hmT Hhp.out.symm).symm
          case measure=>simp[intOf];omega
         have hg1:(ym==(yb:Int))=false:=by simpa using hye
         have Hhye:=qh hye;clear hye;go_wp2;go_roundw
         case rel=>exact Hend.out _ (ZdW hmT (by rw[← Hhp.out];exact Zfp (fun h=>Hhye.out h.2))).symm
         case measure=>simp[intOf];omega
        have hg1:(xm==(ya:Int))=false:=by simpa using hxe
        have Hhxe:=qh hxe;clear hxe;go_wp2;go_roundw
        case rel=>exact Hend.out _ (ZdW hmT (by rw[← Hhp.out];exact Zfp (fun h=>Hhxe.out h.1))).symm
        case measure=>simp[intOf];omega
       obtain rfl:m=T.length:=by omega
       have hSj:=HhS3.out.call hbj;have hat:atP T ((ya:Int),(yb:Int)) T.length=if ((ya:Int),(yb:Int))∈T then(Zad T ((ya:Int),(yb:Int)):Int) else -1:=by unfold atP;rw[List.take_length]
       by_cases hmem:((ya:Int),(yb:Int))∈T
       ·rw[if_pos hmem] at hat;obtain⟨p,hp⟩:=eI (Zad T ((ya:Int),(yb:Int)));have hpl:p<T.length:=by rw[hp];exact ZaP hmem
        have hpF:Zad F ((ya:Int),(yb:Int))=p:=(ZaU HhTF.out hmem).trans hp.symm;rw[← hp] at hat;rw[hat];have hT1o:=Hhold'.out hmem;have hp0:¬ ((p:Int)<0):=by omega
        have hSa:=hSj.alloc_ (.cells #[.int .i64 (p:Int)] 3);have HR:=qh (hSa.row 7 rfl);have Hhp:=qh hp;clear hp;have HhpF:=qh hpF;clear hpF;have HhT1o:=qh hT1o;clear hT1o;have HhSa:=qh hSa;clear hSa;clear hSj hbj hat;go_wp2_with (at_builtin;refine wpList_append_lies _ rfl _ _ _ rfl _ 3 i0 (.int .i64 0) 1 8 Try.underlying26 Hhi.out Hhz0.out Hhz1.out Hhz2.out rfl (by omega) _ c _ rfl HR.out ⟨wr.heap.size,0,none⟩ 1 1 [.int .i64 (p:Int)] rfl rfl (World.news_of_block (heap_alloc_new wr _)) ZaV (by omega) (by unfold maxLen;omega) (by omega) HhSa.out.size _ rfl ?_;intro g6 c6 w6 hown6 hgrow6 hat6 hlt6;have HS6:=qh (HhSa.out.app 7 rfl hown6 hgrow6 hat6);clear hown6 hgrow6 hat6 hlt6);go_roundw
        case rel =>refine⟨c+1,n1,cap1,_,_,vs1,by go_num,by rw[← HhT1.out,HhT1o.out],rfl,by omega,?_⟩;rw[← HhT1.out,HhT1o.out,Hhrow.out,HhpF.out,Zan];exact HS6.out.pick [0,1,2,3,4,5,6,7] (by decide)
        case measure=>simp[intOf];omega
       rw[if_neg hmem] at hat;rw[hat];have hT1n:=Hhnew'.out hmem;have hpF:Zad F ((ya:Int),(yb:Int))=T.length:=ZdT (by rw[← hT1n];exact HhTF2.out) hmem;have hTlt:=HhTl.out;have hSa:=((hSj.alloc _ rfl #[.int .i64 (ya:Int),.int .i64 (yb:Int)] 3).boxrow 8 2 1 [.int .i64 (ya:Int),.int .i64 (yb:Int)] rfl rfl (by unfold maxLen;omega)).alloc (wr.heap.size+1) (by simp) #[.slice (some ⟨wr.heap.size,0,none⟩) 2 2] 26;have hR:=(hSa.rows 3 rfl).1;rw[Hhlm.out] at hR;have HhpF:=qh hpF;clear hpF;have HhT1n:=qh hT1n;clear hT1n;have HhSa:=qh hSa;clear hSa;have HhR:=qh hR;clear hR;clear hSj hbj hat
       go_wp2_with (first
        | (at_builtin;refine wpList_append_lies _ rfl _ _ _ rfl _ 26 j0 (.slice none 0 0) 1 24 Try.underlying42 Hhj.out Hhy0.out Hhy1.out Hhy2.out rfl (by omega) _ T.length _ rfl HhR.out ⟨wr.heap.size+1,0,none⟩ 1 1 [.slice (some ⟨wr.heap.size,0,none⟩) 2 2] rfl rfl (World.news_of_block (HhSa.out.box 9 rfl)) ZaM (by omega) (by unfold maxLen;omega) (by omega) HhSa.out.size _ rfl ?_;intro g6 c6 w6 hown6 hgrow6 hat6 hlt6;have HS6:=qh ((HhSa.out.snoc 3 8 (by decide) rfl rfl (by decide) hgrow6 (by rw[Hhlm.out];exact hown6) (Zcq hat6)).alloc_ (.cells #[.int .i64 (T.length:Int)] 3));have HR6:=qh (HS6.out.row 7 rfl);clear hown6 hgrow6 hat6 hlt6)
        | (at_builtin;refine wpList_append_lies _ rfl _ _ _ rfl _ 3 i0 (.int .i64 0) 1 8 Try.underlying26 Hhi.out Hhz0.out Hhz1.out Hhz2.out rfl (by omega) _ c _ rfl HR6.out ⟨w6.heap.size,0,none⟩ 1 1 [.int .i64 (T.length:Int)] rfl rfl (World.news_of_block (heap_alloc_new w6 _)) ZaV (by omega) (by unfold maxLen;omega) (by omega) HS6.out.size _ rfl ?_;intro g7 c7 w7 hown7 hgrow7 hat7 hlt7;have HS7:=qh (HS6.out.app 7 rfl hown7 hgrow7 hat7);clear hown7 hgrow7 hat7 hlt7))
       go_roundw
       case rel =>refine⟨c+1,g6,c6,g7,c7,vs1++[.slice (some ⟨wr.heap.size,0,none⟩) 2 2],by go_num,by rw[← HhT1.out,HhT1n.out,List.length_append];rfl,rfl,by omega,?_⟩;rw[← HhT1.out,HhT1n.out,Hhrow.out,HhpF.out,Zan,List.map_append,List.map_append,List.length_append];exact HS7.out.pick [0,1,2,3,4,5,6,7] (by decide)
       case measure=>simp[intOf];omega
     obtain rfl:c=3:=by omega
     have hbs:bat (Zat a b) (0,0) (k+1)=bpart (Zat a b) (0,0) k 3:=Za2 HhkS.out;have hle3:=Zb3 (Zat a b) (0,0) k 3;have hTS:=(Za1 (nx:=Zat a b) (a:=(0,0)) (k:=k) (Nat.zero_le 3)).1;rw[Zao] at hTS;rw[← HhSS.out] at hle3 hTS;obtain⟨T,hT⟩:=eI ((bpart (Zat a b) (0,0) k 3).met);rw[← hT] at hle3 hTS hSi;rw[← hT];have hkl:k+1≤T.length:=Nat.le_trans hlt hTS.length_le;have htk:T.take (k+1)=S.met.take k++[x]:=by obtain⟨t,ht⟩:=hTS;rw[← ht,List.take_append_of_le_length (by omega),List.take_succ_eq_append_getElem hlt,Hhx.out];simp[hlt]
     have hn3:(Zab (Zat a b) F x).take 3=Zab (Zat a b) F x:=List.take_of_length_le (by simp[Zab]);have hlm2:(((S.met.take k).map (Zab (Zat a b) F)).map intCells).length=k:=by rw[ZaZ,List.length_take];omega
     rw[hn3] at hSi;have e4:=hSi.cell (v:=.slice a2 k c2) 4 0 rfl rfl;have hSa:=hSi.alloc_ (.cells #[.slice (some ⟨b5,0,none⟩) 3 cap3] 26);have hR:=(hSa.rows 5 rfl).1;rw[hlm2] at hR;have Hhbs:=qh hbs;clear hbs;have Hhle3:=qh hle3;clear hle3;have HhTS:=qh hTS;clear hTS;have Hhtk:=qh htk;clear htk;have Hhn3:=qh hn3;clear hn3;have Hhlm2:=qh hlm2;clear hlm2;have HhT:=qh hT;clear hT;have HhSi:=qh hSi;clear hSi;have HhSa:=qh hSa;clear hSa;have HhR:=qh hR;clear hR;go_wp2_with (at_builtin;refine wpList_append_lies _ rfl _ _ _ rfl _ 26 j0 (.slice none 0 0) 1 24 Try.underlying42 Hhj.out Hhy0.out Hhy1.out Hhy2.out rfl (by omega) _ k _ rfl HhR.out ⟨wp.heap.size,0,none⟩ 1 1 [.slice (some ⟨b5,0,none⟩) 3 cap3] rfl rfl (World.news_of_block (heap_alloc_new wp _)) ZaM (by omega) (by unfold maxLen;omega) (by omega) HhSa.out.size _ rfl ?_;intro g6 c6 w6 hown6 hgrow6 hat6 hlt6;have HS6:=qh (HhSa.out.snoc 5 7 (by decide) rfl rfl (by decide) hgrow6 (by rw[Hhlm2.out];exact hown6) (Zcq hat6));have f4:=HS6.out.fr 4 0 rfl;have k4:=HS6.out.cell (v:=.slice a2 k c2) 4 0 rfl rfl;clear hown6 hgrow6 hat6 hlt6);have hS7:=(HS6.out.set 4 rfl 0 (.slice (some ⟨g6,0,none⟩) (k+1) c6)).pick [0,1,2,3,4,5,6] (by decide);obtain⟨w7,hw7⟩:=eI (w6.setCell ⟨w.heap.size+1+1+1+1+1,0,none⟩ (.slice (some ⟨g6,0,none⟩) (k+1) c6));rw[← hw7] at hS7;rw[← hw7];have hlm:((T.map prw).map intCells).length=T.length:=ZaZ _ _ _
     have hxT:T.getD k (0,0)=((i:Int),(j:Int)):=((Zau HhTS.out hlt _).trans Hhx.out.symm).trans Hhxij.out;have hkT:k<T.length:=by omega
     have hkT2:(k:Int)<T.length:=by omega
     have hcs:((T.map prw).map intCells).getD k []=[.int .i64 (i:Int),.int .i64 (j:Int)]:=by
      have:((T.map prw).map intCells).getD k []=intCells (prw (T.getD k (0,0))):=by simp[hkT]
      rw[this,hxT];rfl
     obtain⟨ax,cxx,hcell,hxr,hcx1,hcx2,hcp1,hcp2,hb1l⟩:=hS7.rowAt 3 rfl hlm hkT;rw[hcs] at hcell hxr hcx1;obtain⟨gx,cx',hvx,hgx1,hgx2⟩:=hxr.form (by simp);simp only[Value.slice.injEq,List.length_cons,List.length_nil] at hvx;obtain⟨rfl,-,rfl⟩:=hvx;have p0:=hxr.cellAt 0 (by simp);have p1:=hxr.cellAt 1 (by simp);simp only[w_6,w_7] at p0 p1;simp only[List.length_cons,List.length_nil] at hcell hcx1;have v5:=(HCa.out.below hS7.bel).en i (by have:=hLA.out;omega);have v6:=(HCb.out.below hS7.bel).en j (by have:=HhLB.out;omega);have e0:=hS7.cell (v:=.slice (some ⟨b2,o2,none⟩) LA cw) 0 1 rfl rfl;have e1:=hS7.cell (v:=.slice (some ⟨b4,o4,none⟩) LB cy) 1 1 rfl rfl;obtain⟨ea,hea⟩:∃ e,e=enD a i:=⟨_,rfl⟩;obtain⟨eb,heb⟩:∃ e,e=enD b j:=⟨_,rfl⟩;have hEx:ZcM f a b x=f ea eb:=by rw[Hhxij.out,hea,heb];rfl
     rw[← hea] at v5;rw[← heb] at v6;have HhS7:=qh hS7;clear hS7;have Hhw7:=qh hw7;clear hw7;have Hhlm:=qh hlm;clear hlm;have HhxT:=qh hxT;clear hxT;have Hhea:=qh hea;clear hea;have Hheb:=qh heb;clear heb;replace hEx:=qh hEx;clear hcs hxr e4 f4 k4
     go_quiet (fail)
     obtain⟨m1,hm1⟩:∃ n,n=nq:=⟨_,rfl⟩;subst hm1;go_wp2
     go_quiet (fail)
     obtain⟨m2,hm2⟩:∃ n,n=nq:=⟨_,rfl⟩;subst hm2;obtain⟨w8,hw8⟩:=eI ((w7.drewN m1).drewN m2);have hS8:=(HhS7.out.drewN m1).drewN m2;rw[← hw8] at hS8;rw[← hw8];have d5:=hS8.cell (v:=.slice a3 k c3) 4 1 rfl rfl;have HhS8:=qh hS8;clear hS8;clear e0 e1 v5 v6 hcell p0 p1 hw8;rcases Hhmode.out with rfl|rfl
     ·cases ea<;>cases eb
      ·have hR:ZcM f a b x=false:=hEx.out.trans ((Hhf.out false false).symm.trans (by decide));have hSb:=HhS8.out.alloc_ (.cells #[.bool false] 4);have HRb:=qh (hSb.row 6 rfl);have HR9:=qh hR;clear hR;have HhSb:=qh hSb;clear hSb;go_wp2_with (at_builtin;refine wpList_append_lies _ rfl _ _ _ rfl _ 4 k0 (.bool false) 1 1 Try.underlying43 Hhk.out Hhx0.out Hhx1.out Hhx2.out rfl (by omega) _ k _ rfl HRb.out ⟨w8.heap.size,0,none⟩ 1 1 [.bool false] rfl rfl (World.news_of_block (heap_alloc_new w8 _)) ZaL (by omega) (by unfold maxLen;omega) (by omega) HhSb.out.size _ rfl ?_;intro g9 c9 w9 hown9 hgrow9 hat9 hlt9;have HS9:=qh (HhSb.out.app 6 rfl hown9 hgrow9 hat9);have z1:=HS9.out.cell (v:=.slice a3 k c3) 4 1 rfl rfl;have z2:=HS9.out.fr 4 1 rfl;clear hown9 hgrow9 hat9 hlt9);go_roundw
       case rel =>refine⟨k+1,n1,cap1,c6,c9,some ⟨g6,0,none⟩,some ⟨g9,0,none⟩,vs1,vs2++[.slice (some ⟨b5,0,none⟩) 3 cap3],by go_num,rfl,by rw[Hhbs.out,HhT.out],by rw[Hhbs.out,← HhT.out];exact hkl,by omega,by rw[Hhbs.out,← HhT.out];have:=Hhle3.out;omega,?_⟩;rw[Hhbs.out,← HhT.out,Hhtk.out,Zbf,Zbe,HR9.out];exact(HS9.out.set 4 rfl 1 (.slice (some ⟨g9,0,none⟩) (k+1) c9)).pick [0,1,2,3,4,5,6] (by decide)
       case measure=>simp[intOf];omega
      ·have hR:ZcM f a b x=false:=hEx.out.trans ((Hhf.out false true).symm.trans (by decide));have hSb:=HhS8.out.alloc_ (.cells #[.bool false] 4);have HRb:=qh (hSb.row 6 rfl);have HR9:=qh hR;clear hR;have HhSb:=qh hSb;clear hSb;go_wp2_with (at_builtin;refine wpList_append_lies _ rfl _ _ _ rfl _ 4 k0 (.bool false) 1 1 Try.underlying43 Hhk.out Hhx0.out Hhx1.out Hhx2.out rfl (by omega) _ k _ rfl HRb.out ⟨w8.heap.size,0,none⟩ 1 1 [.bool false] rfl rfl (World.news_of_block (heap_alloc_new w8 _)) ZaL (by omega) (by unfold maxLen;omega) (by omega) HhSb.out.size _ rfl ?_;intro g9 c9 w9 hown9 hgrow9 hat9 hlt9;have HS9:=qh (HhSb.out.app 6 rfl hown9 hgrow9 hat9);have z1:=HS9.out.cell (v:=.slice a3 k c3) 4 1 rfl rfl;have z2:=HS9.out.fr 4 1 rfl;clear hown9 hgrow9 hat9 hlt9);go_roundw
       case rel =>refine⟨k+1,n1,cap1,c6,c9,some ⟨g6,0,none⟩,some ⟨g9,0,none⟩,vs1,vs2++[.slice (some ⟨b5,0,none⟩) 3 cap3],by go_num,rfl,by rw[Hhbs.out,HhT.out],by rw[Hhbs.out,← HhT.out];exact hkl,by omega,by rw[Hhbs.out,← HhT.out];have:=Hhle3.out;omega,?_⟩;rw[Hhbs.out,← HhT.out,Hhtk.out,Zbf,Zbe,HR9.out];exact(HS9.out.set 4 rfl 1 (.slice (some ⟨g9,0,none⟩) (k+1) c9)).pick [0,1,2,3,4,5,6] (by decide)
       case measure=>simp[intOf];omega
      ·have hR:ZcM f a b x=false:=hEx.out.trans ((Hhf.out true false).symm.trans (by decide));have hSb:=HhS8.out.alloc_ (.cells #[.bool false] 4);have HRb:=qh (hSb.row 6 rfl);have HR9:=qh hR;clear hR;have HhSb:=qh hSb;clear hSb;go_wp2_with (at_builtin;refine wpList_append_lies _ rfl _ _ _ rfl _ 4 k0 (.bool false) 1 1 Try.underlying43 Hhk.out Hhx0.out Hhx1.out Hhx2.out rfl (by omega) _ k _ rfl HRb.out ⟨w8.heap.size,0,none⟩ 1 1 [.bool false] rfl rfl (World.news_of_block (heap_alloc_new w8 _)) ZaL (by omega) (by unfold maxLen;omega) (by omega) HhSb.out.size _ rfl ?_;intro g9 c9 w9 hown9 hgrow9 hat9 hlt9;have HS9:=qh (HhSb.out.app 6 rfl hown9 hgrow9 hat9);have z1:=HS9.out.cell (v:=.slice a3 k c3) 4 1 rfl rfl;have z2:=HS9.out.fr 4 1 rfl;clear hown9 hgrow9 hat9 hlt9);go_roundw
       case rel =>refine⟨k+1,n1,cap1,c6,c9,some ⟨g6,0,none⟩,some ⟨g9,0,none⟩,vs1,vs2++[.slice (some ⟨b5,0,none⟩) 3 cap3],by go_num,rfl,by rw[Hhbs.out,HhT.out],by rw[Hhbs.out,← HhT.out];exact hkl,by omega,by rw[Hhbs.out,← HhT.out];have:=Hhle3.out;omega,?_⟩;rw[Hhbs.out,← HhT.out,Hhtk.out,Zbf,Zbe,HR9.out];exact(HS9.out.set 4 rfl 1 (.slice (some ⟨g9,0,none⟩) (k+1) c9)).pick [0,1,2,3,4,5,6] (by decide)
       case measure=>simp[intOf];omega
      have hR:ZcM f a b x=true:=hEx.out.trans ((Hhf.out true true).symm.trans (by decide));have hSb:=HhS8.out.alloc_ (.cells #[.bool true] 4);have HRb:=qh (hSb.row 6 rfl);have HR9:=qh hR;clear hR;have HhSb:=qh hSb;clear hSb;go_wp2_with (at_builtin;refine wpList_append_lies _ rfl _ _ _ rfl _ 4 k0 (.bool false) 1 1 Try.underlying43 Hhk.out Hhx0.out Hhx1.out Hhx2.out rfl (by omega) _ k _ rfl HRb.out ⟨w8.heap.size,0,none⟩ 1 1 [.bool true] rfl rfl (World.news_of_block (heap_alloc_new w8 _)) ZaL (by omega) (by unfold maxLen;omega) (by omega) HhSb.out.size _ rfl ?_;intro g9 c9 w9 hown9 hgrow9 hat9 hlt9;have HS9:=qh (HhSb.out.app 6 rfl hown9 hgrow9 hat9);have z1:=HS9.out.cell (v:=.slice a3 k c3) 4 1 rfl rfl;have z2:=HS9.out.fr 4 1 rfl;clear hown9 hgrow9 hat9 hlt9);go_roundw
      case rel =>refine⟨k+1,n1,cap1,c6,c9,some ⟨g6,0,none⟩,some ⟨g9,0,none⟩,vs1,vs2++[.slice (some ⟨b5,0,none⟩) 3 cap3],by go_num,rfl,by rw[Hhbs.out,HhT.out],by rw[Hhbs.out,← HhT.out];exact hkl,by omega,by rw[Hhbs.out,← HhT.out];have:=Hhle3.out;omega,?_⟩;rw[Hhbs.out,← HhT.out,Hhtk.out,Zbf,Zbe,HR9.out];exact(HS9.out.set 4 rfl 1 (.slice (some ⟨g9,0,none⟩) (k+1) c9)).pick [0,1,2,3,4,5,6] (by decide)
      case measure=>simp[intOf];omega
     cases ea<;>cases eb
     ·have hR:ZcM f a b x=false:=hEx.out.trans ((Hhf.out false false).symm.trans (by decide));have hSb:=HhS8.out.alloc_ (.cells #[.bool false] 4);have HRb:=qh (hSb.row 6 rfl);have HR9:=qh hR;clear hR;have HhSb:=qh hSb;clear hSb;go_wp2_with (at_builtin;refine wpList_append_lies _ rfl _ _ _ rfl _ 4 k0 (.bool false) 1 1 Try.underlying43 Hhk.out Hhx0.out Hhx1.out Hhx2.out rfl (by omega) _ k _ rfl HRb.out ⟨w8.heap.size,0,none⟩ 1 1 [.bool false] rfl rfl (World.news_of_block (heap_alloc_new w8 _)) ZaL (by omega) (by unfold maxLen;omega) (by omega) HhSb.out.size _ rfl ?_;intro g9 c9 w9 hown9 hgrow9 hat9 hlt9;have HS9:=qh (HhSb.out.app 6 rfl hown9 hgrow9 hat9);have z1:=HS9.out.cell (v:=.slice a3 k c3) 4 1 rfl rfl;have z2:=HS9.out.fr 4 1 rfl;clear hown9 hgrow9 hat9 hlt9);go_roundw
      case rel =>refine⟨k+1,n1,cap1,c6,c9,some ⟨g6,0,none⟩,some ⟨g9,0,none⟩,vs1,vs2++[.slice (some ⟨b5,0,none⟩) 3 cap3],by go_num,rfl,by rw[Hhbs.out,HhT.out],by rw[Hhbs.out,← HhT.out];exact hkl,by omega,by rw[Hhbs.out,← HhT.out];have:=Hhle3.out;omega,?_⟩;rw[Hhbs.out,← HhT.out,Hhtk.out,Zbf,Zbe,HR9.out];exact(HS9.out.set 4 rfl 1 (.slice (some ⟨g9,0,none⟩) (k+1) c9)).pick [0,1,2,3,4,5,6] (by decide)
      case measure=>simp[intOf];omega
     ·have hR:ZcM f a b x=true:=hEx.out.trans ((Hhf.out false true).symm.trans (by decide));have hSb:=HhS8.out.alloc_ (.cells #[.bool true] 4);have HRb:=qh (hSb.row 6 rfl);have HR9:=qh hR;clear hR;have HhSb:=qh hSb;clear hSb;go_wp2_with (at_builtin;refine wpList_append_lies _ rfl _ _ _ rfl _ 4 k0 (.bool false) 1 1 Try.underlying43 Hhk.out Hhx0.out Hhx1.out Hhx2.out rfl (by omega) _ k _ rfl HRb.out ⟨w8.heap.size,0,none⟩ 1 1 [.bool true] rfl rfl (World.news_of_block (heap_alloc_new w8 _)) ZaL (by omega) (by unfold maxLen;omega) (by omega) HhSb.out.size _ rfl ?_;intro g9 c9 w9 hown9 hgrow9 hat9 hlt9;have HS9:=qh (HhSb.out.app 6 rfl hown9 hgrow9 hat9);have z1:=HS9.out.cell (v:=.slice a3 k c3) 4 1 rfl rfl;have z2:=HS9.out.fr 4 1 rfl;clear hown9 hgrow9 hat9 hlt9);go_roundw
      case rel =>refine⟨k+1,n1,cap1,c6,c9,some ⟨g6,0,none⟩,some ⟨g9,0,none⟩,vs1,vs2++[.slice (some ⟨b5,0,none⟩) 3 cap3],by go_num,rfl,by rw[Hhbs.out,HhT.out],by rw[Hhbs.out,← HhT.out];exact hkl,by omega,by rw[Hhbs.out,← HhT.out];have:=Hhle3.out;omega,?_⟩;rw[Hhbs.out,← HhT.out,Hhtk.out,Zbf,Zbe,HR9.out];exact(HS9.out.set 4 rfl 1 (.slice (some ⟨g9,0,none⟩) (k+1) c9)).pick [0,1,2,3,4,5,6] (by decide)
      case measure=>simp[intOf];omega
     ·have hR:ZcM f a b x=true:=hEx.out.trans ((Hhf.out true false).symm.trans (by decide));have hSb:=HhS8.out.alloc_ (.cells #[.bool true] 4);have HRb:=qh (hSb.row 6 rfl);have HR9:=qh hR;clear hR;have HhSb:=qh hSb;clear hSb;go_wp2_with (at_builtin;refine wpList_append_lies _ rfl _ _ _ rfl _ 4 k0 (.bool false) 1 1 Try.underlying43 Hhk.out Hhx0.out Hhx1.out Hhx2.out rfl (by omega) _ k _ rfl HRb.out ⟨w8.heap.size,0,none⟩ 1 1 [.bool true] rfl rfl (World.news_of_block (heap_alloc_new w8 _)) ZaL (by omega) (by unfold maxLen;omega) (by omega) HhSb.out.size _ rfl ?_;intro g9 c9 w9 hown9 hgrow9 hat9 hlt9;have HS9:=qh (HhSb.out.app 6 rfl hown9 hgrow9 hat9);have z1:=HS9.out.cell (v:=.slice a3 k c3) 4 1 rfl rfl;have z2:=HS9.out.fr 4 1 rfl;clear hown9 hgrow9 hat9 hlt9);go_roundw
      case rel =>refine⟨k+1,n1,cap1,c6,c9,some ⟨g6,0,none⟩,some ⟨g9,0,none⟩,vs1,vs2++[.slice (some ⟨b5,0,none⟩) 3 cap3],by go_num,rfl,by rw[Hhbs.out,HhT.out],by rw[Hhbs.out,← HhT.out];exact hkl,by omega,by rw[Hhbs.out,← HhT.out];have:=Hhle3.out;omega,?_⟩;rw[Hhbs.out,← HhT.out,Hhtk.out,Zbf,Zbe,HR9.out];exact(HS9.out.set 4 rfl 1 (.slice (some ⟨g9,0,none⟩) (k+1) c9)).pick [0,1,2,3,4,5,6] (by decide)
      case measure=>simp[intOf];omega
     have hR:ZcM f a b x=true:=hEx.out.trans ((Hhf.out true true).symm.trans (by decide));have hSb:=HhS8.out.alloc_ (.cells #[.bool true] 4);have HRb:=qh (hSb.row 6 rfl);have HR9:=qh hR;clear hR;have HhSb:=qh hSb;clear hSb;go_wp2_with (at_builtin;refine wpList_append_lies _ rfl _ _ _ rfl _ 4 k0 (.bool false) 1 1 Try.underlying43 Hhk.out Hhx0.out Hhx1.out Hhx2.out rfl (by omega) _ k _ rfl HRb.out ⟨w8.heap.size,0,none⟩ 1 1 [.bool true] rfl rfl (World.news_of_block (heap_alloc_new w8 _)) ZaL (by omega) (by unfold maxLen;omega) (by omega) HhSb.out.size _ rfl ?_;intro g9 c9 w9 hown9 hgrow9 hat9 hlt9;have HS9:=qh (HhSb.out.app 6 rfl hown9 hgrow9 hat9);have z1:=HS9.out.cell (v:=.slice a3 k c3) 4 1 rfl rfl;have z2:=HS9.out.fr 4 1 rfl;clear hown9 hgrow9 hat9 hlt9);go_roundw
     case rel =>refine⟨k+1,n1,cap1,c6,c9,some ⟨g6,0,none⟩,some ⟨g9,0,none⟩,vs1,vs2++[.slice (some ⟨b5,0,none⟩) 3 cap3],by go_num,rfl,by rw[Hhbs.out,HhT.out],by rw[Hhbs.out,← HhT.out];exact hkl,by omega,by rw[Hhbs.out,← HhT.out];have:=Hhle3.out;omega,?_⟩;rw[Hhbs.out,← HhT.out,Hhtk.out,Zbf,Zbe,HR9.out];exact(HS9.out.set 4 rfl 1 (.slice (some ⟨g9,0,none⟩) (k+1) c9)).pick [0,1,2,3,4,5,6] (by decide)
     case measure=>simp[intOf];omega
   have hle2:((S.met.length:Int)>40):=by omega
   have hlt2:(k:Int)<S.met.length:=by omega
   have hbig:¬ ((metP a b K).length≤K):=by have h:=(Zez (nx:=Zat a b) (a:=(0,0)) hkK).1.length_le;rw[← HhSS.out] at h;unfold metP;omega
   have f0:=HhS.out.fr 2 0 rfl;have f1:=HhS.out.fr 2 1 rfl;have q0:=HhS.out.cell (v:=.slice none 0 0) 2 0 rfl rfl;have q1:=HhS.out.cell (v:=.slice none 0 0) 2 1 rfl rfl;have Hhbig:=qh hbig;clear hbig;go_wp2;have hq:=(HhS.out.set 2 rfl 0 (.slice none 0 0)).set 2 rfl 1 (.slice none 0 0);have q0:=hq.cell (v:=.slice none 0 0) 2 0 rfl rfl;have q1:=hq.cell (v:=.slice none 0 0) 2 1 rfl rfl;refine bodyPost_ret (v:=.tuple #[.agg #[.slice none 0 0,.slice none 0 0],.bool false]) (by simp[results,Try.results157,go_sem,q0,q1]) rfl ?_;unfold Zfq;rw[if_neg Hhbig.out];exact⟨none,0,none,0,rfl,Za3 _ _,hq.bel⟩
  have hkl:k=S.met.length:=by omega
  have hfin:metP a b K=S.met:=by have h:=Zbn (nx:=Zat a b) (a:=(0,0)) (k:=k) (m:=K) (by rw[← HhSS.out];omega) hkK;unfold metP;rw[h,← HhSS.out]
  have hk40:(S.met.length:Int)≤40:=by omega
  have d0:=HhS.out.cell (v:=.slice a2 k c2) 4 0 rfl rfl;have d1:=HhS.out.cell (v:=.slice a3 k c3) 4 1 rfl rfl;have f0:=HhS.out.fr 2 0 rfl;have f1:=HhS.out.fr 2 1 rfl;have q0:=HhS.out.cell (v:=.slice none 0 0) 2 0 rfl rfl;have q1:=HhS.out.cell (v:=.slice none 0 0) 2 1 rfl rfl;have hge:¬ ((k:Int)<S.met.length):=by omega
  have Hhkl:=qh hkl;clear hkl;have Hhfin:=qh hfin;clear hfin;go_wp2;have hq:=(HhS.out.set 2 rfl 0 (.slice a2 k c2)).set 2 rfl 1 (.slice a3 k c3);have q0:=hq.cell (v:=.slice a2 k c2) 2 0 rfl rfl;have q1:=hq.cell (v:=.slice a3 k c3) 2 1 rfl rfl;refine bodyPost_ret (v:=.tuple #[.agg #[.slice a2 k c2,.slice a3 k c3],.bool true]) (by simp[results,Try.results157,go_sem,q0,q1]) rfl ?_;unfold Zfq;rw[Hhfin.out,if_pos (by have:=Hhkl.out;omega)];have hN:(Zaz (Zat a b) (ZcM f a b) S.met).next.length=k∧(Zaz (Zat a b) (ZcM f a b) S.met).ends.length=k:=by rw[Zbj,Hhkl.out];exact⟨rfl,by simp[Zaz]⟩
  refine⟨a2,c2,a3,c3,?_,?_,hq.bel⟩
  ·rw[w_8,hN.1,hN.2];rfl
  rw[w_8,hN.1,hN.2];have ht:S.met.take k=S.met:=List.take_of_length_le (by have:=Hhkl.out;omega);rw[ht,show F=S.met from hF.out.trans Hhfin.out] at hq;exact⟨_,_,rfl,(hq.intSS 5 rfl).intSS,ZaB (hq.row 6 rfl)⟩
def ZbW (l:List Int) (x:Int):Int:=if x∈l then((l.idxOf x:Nat):Int) else -1
theorem Zgg {l:List Int} {x:Int} {k:Nat} (hk:k<l.length) (hn:x ∉ l.take k) (h:l.getD k 0=x):ZbW l x=(k:Int):=by
 have hx:l[k]=x:=by simpa [hk] using h
 have hm:x∈l:=by rw[← hx];exact List.getElem_mem hk
 unfold ZbW;rw[if_pos hm];have e:l=l.take k++(x::l.drop (k+1)):=by rw[← hx,List.getElem_cons_drop,List.take_append_drop]
 have:l.idxOf x=k:=by rw[e,List.idxOf_append,if_neg hn];simp;omega
 rw[this]
theorem Ze0 (l:List Int) (x:Int) (v:Value) (w:World) (hl:l.length≤1000000) (h:Ints 0 w v l) :
  Calls Try.prog 44 #[v,.int .i64 x] w fun e w'=>e = .returned (.int .i64 (ZbW l x))∧Below w.heap.size w w':=by
 obtain⟨a,c,rfl,hc1,hc2,hr⟩:=h.form;have Hr:=qh hr;clear hr h
 go_enter Try.func44, Try.ntmps44
 go_wp2
 go_loopw [5] (fun i wr=>∃ k:Nat,i = .int .i64 k∧k≤l.length∧x ∉ l.take k∧Below w.heap.size w wr) (fun i _=>l.length-(intOf i).toNat)
 case atStart=>exact⟨0,rfl,Nat.zero_le _,by simp,Below.refl _ _⟩
 case round =>
  obtain⟨k,rfl,hk,hn,hb⟩:=hrel;by_cases hlt:k<l.length
  ·have hlt2:(k:Int)<l.length:=by omega
   obtain⟨b,o,rfl,-,hbl,hcs⟩:=Hr.out (by omega);have k1:=(bcell hb b _ hbl).trans (hcs k hlt);have htk:l.take (k+1)=l.take k++[l.getD k 0]:=by rw[List.take_succ_eq_append_getElem hlt];simp[hlt]
   obtain⟨y,hy⟩:=eI (l.getD k 0);rw[← hy] at k1 htk;replace hy:=qh hy;replace hb:=qh hb;have Hhtk:=qh htk;clear htk;clear hcs;by_cases he:y=x
   ·subst he;have hnm:ZbW l y=(k:Int):=Zgg hlt hn hy.out.symm;have Hhn:=qh hn;clear hn;have Hhnm:=qh hnm;clear hnm;go_wp2;go_ret;refine⟨?_,hb.out⟩;rw[Hhnm.out];rfl
   have he2:(y=x)=False:=by simp[he]
   have he3:(y==x)=false:=by simpa using he
   have Hhn:=qh hn;clear hn;have Hhe:=qh he;clear he;go_wp2;go_roundw
   case rel=>exact⟨k+1,by go_num,by omega,by rw[Hhtk.out];simp only[List.mem_append,List.mem_singleton,not_or];exact⟨Hhn.out,fun e=>Hhe.out e.symm⟩,hb.out⟩
   case measure=>simp[intOf];omega
  obtain rfl:k=l.length:=by omega
  rw[List.take_length] at hn;have hnm:ZbW l x = -1:=by unfold ZbW;rw[if_neg hn]
  have Hhn:=qh hn;clear hn;replace hb:=qh hb;have Hhnm:=qh hnm;clear hnm;go_wp2;go_ret;refine⟨?_,hb.out⟩;rw[Hhnm.out];rfl
section
variable {n:Nat} {nx:Nat→Nat→Nat}
def clR (n:Nat) (nx:Nat→Nat→Nat) (en:Nat→Bool):Nat→Nat→Nat
 | 0=>fun s=>if en s=true then 1 else 0
 | i+1=>Zam n nx (clR n nx en i)
theorem ZgT (hnx:∀ s c,s<n→c<3→nx s c<n) {cl cl':Nat→Nat} (h:∀ s t,s<n→t<n→(cl s=cl t↔cl' s=cl' t)) {s:Nat} (hs:s<n):Zam n nx cl s=Zam n nx cl' s:=by
 unfold Zam;refine Zcp fun t ht => ?_
 rw[Bool.eq_iff_iff,Zap,Zap,h t s ht hs];constructor
 ·rintro⟨a,b⟩;exact⟨a,fun c hc=>(h _ _ (hnx t c ht hc) (hnx s c hs hc)).1 (b c hc)⟩
 rintro⟨a,b⟩;exact⟨a,fun c hc=>(h _ _ (hnx t c ht hc) (hnx s c hs hc)).2 (b c hc)⟩
theorem ZhP (hnx:∀ s c,s<n→c<3→nx s c<n) (en:Nat→Bool):∀ i,(∀ s t,s<n→t<n→(clR n nx en i s=clR n nx en i t↔clAt n nx en i s=clAt n nx en i t))∧(0<i→∀ s,s<n→clR n nx en i s=clAt n nx en i s)
 | 0=>⟨fun s t hs ht=>by rw[Zfa hs ht];unfold clR;cases en s<;>cases en t<;>simp,fun h=>absurd h (by omega)⟩
 | i+1=>by
  have ih:=(ZhP hnx en i).1;have h2:∀ s,s<n→clR n nx en (i+1) s=clAt n nx en (i+1) s:=fun s hs=>ZgT hnx ih hs
  exact⟨fun s t hs ht=>by rw[h2 s hs,h2 t ht],fun _=>h2⟩
theorem ZeM (hnx:∀ s c,s<n→c<3→nx s c<n) (en:Nat→Bool) (i:Nat):stays n nx en i↔∀ k j,k<n→j<k→(clR n nx en i j=clR n nx en i k↔clR n nx en (i+1) j=clR n nx en (i+1) k):=by
 have h0:=(ZhP hnx en i).1;have h1:=(ZhP hnx en (i+1)).1;constructor
 ·intro h k j hk hj;rw[h0 j k (by omega) hk,h1 j k (by omega) hk,h j (by omega),h k hk]
 intro h
 have key:∀ k j,k<n→j≤k→(clAt n nx en i j=clAt n nx en i k↔clAt n nx en (i+1) j=clAt n nx en (i+1) k):=fun k j hk hj=>by
  by_cases e:j=k
  ·rw[e];exact⟨fun _=>rfl,fun _=>rfl⟩
  have:=h k j hk (by omega)
  rwa [h0 j k (by omega) hk,h1 j k (by omega) hk] at this
 intro s hs;have g0:=Zcy (n:=n) (nx:=nx) en i;have g1:=Zcy (n:=n) (nx:=nx) en (i+1);have a1:=g1.le s hs;have b1:=g0.le s hs;have a2:=(key s _ hs a1).2 (g1.id s hs);have b2:=(key s _ hs b1).1 (g0.id s hs);have a3:=g0.le (clAt n nx en (i+1) s) (by omega);have b3:=g1.le (clAt n nx en i s) (by omega);omega
theorem Zi7 {cl:Nat→Nat} (hg:GoodC n cl) {k:Nat} (hk:k<n):ZbW (clsL n cl) (cl k:Int)=(cl k:Int):=by have h1:=hg.le k hk;have h2:=hg.id k hk;refine Zgg (by rw[Za0];omega) (fun hm => ?_) (by rw[ZfJ cl (by omega),h2]);obtain⟨i,hi,e⟩:=List.getElem_of_mem hm;simp only[List.length_take,Za0] at hi;rw[List.getElem_take] at e;simp only[clsL,List.getElem_map,List.getElem_range] at e;have:=hg.le i (by omega);omega
def lowK (n:Nat) (nx:Nat→Nat→Nat) (cl:Nat→Nat) (k m x:Nat):Prop:=x=Zam n nx cl k∨(x=k∧∀ t,m≤t→t<k→Za8 nx cl t k=false)
theorem Zii (cl:Nat→Nat) (k:Nat):lowK n nx cl k k k:=Or.inr ⟨rfl,fun t h1 h2=>by omega⟩
theorem Zkf {cl:Nat→Nat} {k m:Nat} (hk:k<n) (hm:m<n) (h:Za8 nx cl m k=true):lowK n nx cl k m (Zam n nx cl m):=Or.inl ((Zbb hm hk).2 h)
theorem Zk9 {cl:Nat→Nat} {k m x:Nat} (h:Za8 nx cl m k=false) (hl:lowK n nx cl k (m+1) x):lowK n nx cl k m x:=by
 rcases hl with h1|⟨h1,h2⟩
 ·exact Or.inl h1
 refine Or.inr ⟨h1,fun t a b => ?_⟩;by_cases e:t=m
 ·rw[e];exact h
 exact h2 t (by omega) b
theorem Zkg {cl:Nat→Nat} {k x:Nat} (hk:k<n) (hl:lowK n nx cl k 0 x):x=Zam n nx cl k:=by
 rcases hl with h1|⟨h1,h2⟩
 ·exact h1
 obtain⟨a1,a2,a3⟩:=ZaH (nx:=nx) (cl:=cl) hk;by_cases e:Zam n nx cl k<k
 ·have:=h2 _ (Nat.zero_le _) e;rw[this] at a2;exact absurd a2 (by simp)
 omega
end
theorem Zdu {n:Nat} {cl cl':Nat→Nat} (h:∀ s,s<n→cl s=cl' s):clsL n cl=clsL n cl':=List.map_congr_left fun s hs=>by rw[h s (List.mem_range.1 hs)]
theorem Zdd (k:Nat) (cl:Nat→Nat):clsL (k+1) cl=clsL k cl++[(cl k:Int)]:=by unfold clsL;rw[List.range_succ,List.map_append];rfl
theorem Zhl (d:DfaD) (cl:Nat→Nat) (t s:Nat):Za8 (nxD d) cl t s=(decide (cl t=cl s)&&ZcQ d cl t s 3):=rfl
def inL (M:List Int) (n:Nat):List Bool:=(List.range n).map fun (s:Nat)=>decide ((s:Int)∈M)
theorem Zko (M:List Int) (n x:Nat):inL (M++[(x:Int)]) n=(inL M n).set x true:=by
 apply List.ext_getElem?;intro i;rw[List.getElem?_set];by_cases hin:i<n
 ·by_cases hx:x=i
  ·subst hx;simp[inL,hin]
  have:¬ (i:Int)=(x:Int):=by omega
  simp[inL,hin,hx,this]
 by_cases hx:x=i
 ·subst hx;simp[inL,hin]
 simp[inL,hin,hx]
theorem Zlc (n:Nat):inL [] n=List.replicate n false:=by apply List.ext_getElem?;intro i;by_cases hin:i<n<;>simp[inL,hin]
theorem ZhF {M:List Int} {n s:Nat} (h:s<n):(boolCells (inL M n))[s]? = some (.bool (decide ((s:Int)∈M))):=by simp[inL,h]
theorem Zjo {M:List Int} {n x:Nat}:(boolCells (inL M n)).set x (.bool true)=boolCells (inL (M++[(x:Int)]) n):=by rw[Zko];simp[boolCells,List.map_set]
theorem Zke {w:World} {B n:Nat} {v:Value} (h:w.ownsRow B 4 1 v n (madeCells (Value.bool false).cells (n*1)).toList):w.ownsRow B 4 1 v n (boolCells (inL [] n)):=by
 have e:(madeCells (Value.bool false).cells (n*1)).toList=boolCells (inL [] n):=by rw[Zlc];simp[madeCells,Value.cells,boolCells,Nat.mod_one,List.map_const']
 rwa [e] at h
theorem Zg3 (d:DfaD) (v:Value) (w:World) (hd:Zaf d.next d.ends=true) (h:DfaR 0 w v d) (F:List Int) (hF:(bat (dnx d) 0 d.next.length).met=F) :
  Calls Try.prog 150 #[v] w fun e w'=>∃ a c,e = .returned (.slice a F.length c)∧St w w' [Ent.row 3 1 (.slice a F.length c) F.length (intCells F)]:=by
 obtain⟨v1,v2,rfl,q1,q2⟩:=h;have hf:=ZaE hd;obtain⟨L,hL⟩:=eI (d.next.length);obtain⟨hl1,hl2,-⟩:=Zag hd;have hrow:=fun (i:Nat) (hi:i<d.next.length)=>(ZaI hd hi).1
 have hnx:=fun (i c:Nat) (hi:i<d.next.length) (h3:c<3)=>(Zbp hf hi h3)
 have hmet:=fun (K:Nat)=>ZbX hf K
 obtain⟨av,cvv,rfl,hc1,hc2,hr1⟩:=q1.formI;obtain⟨b1,o1,rfl,-,hb1,hcs1⟩:=hr1 (by omega);obtain⟨i0,hi,hz0,hz1,hz2⟩:=info_parts Try.infoBool;obtain⟨j0,hj,hy0,hy1,hy2⟩:=info_parts Try.infoInt;have hS0:=(((St.start w).alloc _ rfl #[.slice (some ⟨b1,o1,none⟩) d.next.length cvv,v2] 45).alloc (w.heap.size+1) (by simp) #[.int .i64 0] 3).boxrow 1 1 1 [.int .i64 0] rfl rfl (by unfold maxLen;omega);rw[← hL] at hl1 hl2 hS0 hF;rw[← hL];have hL0:(0:Int)<L:=by omega
 have hL00:0<L:=by omega
 have Hrow:=qh hrow;have Hnx:=qh hnx;have Hmet:=qh hmet;have Hcs1:=qh hcs1;replace hS0:=qh hS0;replace hL:=qh hL;replace hF:=qh hF;have Hhi:=qh hi;clear hi;have Hhz0:=qh hz0;clear hz0;have Hhz1:=qh hz1;clear hz1;have Hhz2:=qh hz2;clear hz2;have Hhj:=qh hj;clear hj;have Hhy0:=qh hy0;clear hy0;have Hhy1:=qh hy1;clear hy1;have Hhy2:=qh hy2;clear hy2;clear hrow hnx hmet hcs1 hr1 q1 q2 hf hd
 go_enter Try.func150, Try.ntmps150
 have HD:=qh (show ∀ w1:World,w1.ownsRow ((w.alloc (.cells #[.slice (some ⟨b1,o1,none⟩) L cvv,v2] 45)).alloc (.cells #[.int .i64 0] 3)).heap.size 4 1 (.slice (some ⟨w.heap.size+1+1,0,none⟩) L L) L (boolCells (inL [] L))→Below ((w.alloc (.cells #[.slice (some ⟨b1,o1,none⟩) L cvv,v2] 45)).alloc (.cells #[.int .i64 0] 3)).heap.size ((w.alloc (.cells #[.slice (some ⟨b1,o1,none⟩) L cvv,v2] 45)).alloc (.cells #[.int .i64 0] 3)) w1 →
   St w w1 [Ent.box w.heap.size #[.slice (some ⟨b1,o1,none⟩) L cvv,v2] 45,Ent.row 3 1 (.slice (some ⟨w.heap.size+1,0,none⟩) 1 1) 1 [.int .i64 0],Ent.row 4 1 (.slice (some ⟨w.heap.size+1+1,0,none⟩) L L) L (boolCells (inL [] L))] from fun w1 h1 h2=>hS0.out.made h2 h1)
 go_wp2_with (at_make;refine wpList_make_full _ rfl _ _ 43 rfl _ 4 i0 (.bool false) 1 Try.underlying43 Hhi.out Hhz0.out Hhz1.out .i64 .i64 _ _ L rfl rfl rfl rfl (by rw[Hhz2.out];omega) (by unfold maxLen;omega) (Nat.le_refl _) ?_;intro w1 hown hgrow;have hm:=Zke hown;simp only[World.size_alloc] at hm;have HS1:=qh (HD.out w1 (by simpa only [World.size_alloc] using hm) ((Below.refl _ _).grown hgrow (Nat.le_refl _) (fun _ h=>by cases h)));have f0:=HS1.out.rfr 2 0 rfl;have k0:=HS1.out.rcell (v:=.bool false) 2 0 rfl (by omega) (by rw[ZhF (by omega)];simp);clear hown hgrow hm);clear f0 k0
 go_loopw [3,5] (fun vo i wr=>∃ (k:Nat) (g cap:Nat),i = .int .i64 k∧vo = .slice (some ⟨g,0,none⟩) (bat (dnx d) 0 k).met.length cap∧k≤(bat (dnx d) 0 k).met.length ∧
   St w wr [Ent.box w.heap.size #[.slice (some ⟨b1,o1,none⟩) L cvv,v2] 45,Ent.row 3 1 (.slice (some ⟨g,0,none⟩) (bat (dnx d) 0 k).met.length cap) (bat (dnx d) 0 k).met.length (intCells (bat (dnx d) 0 k).met),Ent.row 4 1 (.slice (some ⟨w.heap.size+1+1,0,none⟩) L L) L (boolCells (inL (bat (dnx d) 0 k).met L))])
  (fun _ i _=>L+1-(intOf i).toNat)
 case atStart =>refine⟨0,_,_,rfl,rfl,Nat.zero_le _,?_⟩;have h:=HS1.out.store 2 rfl 0 (.bool true);have e:=Zjo (M:=[]) (n:=L) (x:=0);rw[e] at h;exact h
 case round =>
  obtain⟨k,g,cap,rfl,rfl,hk,hS⟩:=hrel;obtain⟨S,hSS⟩:=eI (bat (dnx d) 0 k);have hML:=(Hmet.out k).2;have hMi:=(Hmet.out k).1;rw[← hSS] at hk hS hML hMi;rw[← hSS];rw[← hL.out] at hML hMi;by_cases hlt:k<S.met.length
  ·have hlt2:(k:Int)<S.met.length:=by omega
   have hkS:k<(bat (dnx d) 0 k).met.length:=by rw[← hSS];exact hlt
   obtain⟨x,hx⟩:∃ x:Nat,S.met.getD k 0=(x:Int):=⟨(S.met.getD k 0).toNat,by have:=(hMi _ (Zcb hlt (d:=0))).1;omega⟩;have hxL:x<L:=by have:=(hMi _ (Zcb hlt (d:=0))).2;omega
   have hxb:(bat (dnx d) 0 k).met.getD k 0=(x:Int):=by rw[← hSS];exact hx
   obtain⟨ax,cx,hks,-,-,hIs⟩:=Hcs1.out x (by rw[← hL.out];exact hxL);have hr3:=Hrow.out x (by rw[← hL.out];exact hxL);rw[hr3] at hks hIs;obtain⟨_,_,hform,-,-,hrs⟩:=hIs.form;rw[hr3] at hform hrs;simp only[Value.slice.injEq,true_and] at hform;obtain⟨rfl,rfl⟩:=hform;obtain⟨b3,o3,rfl,-,hb3,hcs3⟩:=hrs (by omega);have Hcs3:=qh hcs3;have hxI:(x:Int)<L:=by omega
   have HhS:=qh hS;clear hS;have HhSS:=qh hSS;clear hSS;have HhMi:=qh hMi;clear hMi;have HhkS:=qh hkS;clear hkS;have Hhx:=qh hx;clear hx;have Hhxb:=qh hxb;clear hxb;have Hhr3:=qh hr3;clear hr3;have Hhks:=qh hks;clear hks;clear hIs hrs hcs3;go_wp2
   go_loopw [3,6] (fun vo i wi=>∃ (c:Nat) (g cap:Nat),i = .int .i64 c∧vo = .slice (some ⟨g,0,none⟩) (bpart (dnx d) 0 k c).met.length cap∧c≤3 ∧
     St w wi [Ent.box w.heap.size #[.slice (some ⟨b1,o1,none⟩) L cvv,v2] 45,Ent.row 3 1 (.slice (some ⟨g,0,none⟩) (bpart (dnx d) 0 k c).met.length cap) (bpart (dnx d) 0 k c).met.length (intCells (bpart (dnx d) 0 k c).met),Ent.row 4 1 (.slice (some ⟨w.heap.size+1+1,0,none⟩) L L) L (boolCells (inL (bpart (dnx d) 0 k c).met L))])
    (fun _ i _=>3-(intOf i).toNat)
   case atStart =>refine⟨0,g,cap,rfl,by rw[Zao,← HhSS.out],by omega,?_⟩;rw[Zao,← HhSS.out];exact HhS.out
   case round =>
    obtain⟨c,g,cap,rfl,rfl,hc3,hSi⟩:=hrel;obtain⟨wp,hwp⟩:∃ wp:World,wp=wr:=⟨_,rfl⟩;subst hwp;by_cases hc:c<3
    ·have hTS:=(Za1 (nx:=dnx d) (a:=0) (k:=k) (Nat.zero_le c)).1;rw[Zao,← HhSS.out] at hTS;have hold:=ZbG (nx:=dnx d) (a:=0) (k:=k) (n:=c);have hnew:=ZbH (nx:=dnx d) (a:=0) (k:=k) (n:=c);rw[Hhxb.out] at hold hnew;obtain⟨hyL,hyx⟩:=Hnx.out x c (by rw[← hL.out];exact hxL) hc
     have hval:(d.next.getD x []).getD c 0=((nxD d x c:Nat):Int):=by
      unfold dnx at hyx
      rwa [Int.toNat_natCast] at hyx
     rw[hyx] at hold hnew;rw[← hL.out] at hyL;obtain⟨y,hy⟩:=eI (nxD d x c);rw[← hy] at hold hnew hval hyL;have hold':(y:Int)∈(bpart (dnx d) 0 k c).met→(bpart (dnx d) 0 k (c+1)).met=(bpart (dnx d) 0 k c).met:=fun h=>by rw[hold h]
     have hnew':(y:Int) ∉ (bpart (dnx d) 0 k c).met→(bpart (dnx d) 0 k (c+1)).met=(bpart (dnx d) 0 k c).met++[(y:Int)]:=fun h=>by rw[hnew h]
     clear hold hnew;have hle:=(Zax (nx:=dnx d) (a:=0) (m:=k+1) HhkS.out (show c≤3 by omega) (by omega)).1.length_le;have hML2:=(Hmet.out (k+1)).2;rw[← hL.out] at hML2;obtain⟨T1,hT1⟩:=eI ((bpart (dnx d) 0 k (c+1)).met);obtain⟨T,hT⟩:=eI ((bpart (dnx d) 0 k c).met);rw[← hT] at hSi hTS hold' hnew' hle;rw[← hT1] at hold' hnew';rw[← hT];have hTL:T.length≤L:=by omega
     have hkT:k<T.length:=Nat.lt_of_lt_of_le hlt hTS.length_le;have hxT:T.getD k 0=(x:Int):=(Zau hTS hlt _).trans Hhx.out;have e0:=hSi.cell (v:=.slice (some ⟨b1,o1,none⟩) L cvv) 0 0 rfl rfl;have e1:=hSi.rcell (v:=.int .i64 (x:Int)) 1 k rfl (by omega) (by rw[← hxT];simp[intCells,hkT]);have e2:=(bcell hSi.bel b1 _ hb1).trans Hhks.out;have e3:=(bcell hSi.bel b3 _ hb3).trans (Hcs3.out c hc);rw[hval] at e3;have e4:=hSi.rcell (v:=.bool (decide ((y:Int)∈T))) 2 y rfl (by omega) (ZhF hyL);have e5:=hSi.rfr 2 y rfl;have hc4:(c:Int)<3:=by omega
     have hyI:(y:Int)<L:=by omega
     have hkT2:(k:Int)<T.length:=by omega
     have hset:=Zjo (M:=T) (n:=L) (x:=y);clear hle hML2;have HhSi:=qh hSi;clear hSi;have Hhy:=qh hy;clear hy;have Hhold':=qh hold';clear hold';have Hhnew':=qh hnew';clear hnew';have HhT1:=qh hT1;clear hT1;have HhT:=qh hT;clear hT;have HhTS:=qh hTS;clear hTS;have HhxT:=qh hxT;clear hxT;have Hhval:=qh hval;clear hval;have Hhyx:=qh hyx;clear hyx;have Hhset:=qh hset;clear hset;by_cases hmem:(y:Int)∈T
     ·have hdm:decide ((y:Int)∈T)=true:=by simpa using hmem
      rw[hdm] at e4;have hT1o:=Hhold'.out hmem;have HhT1o:=qh hT1o;clear hT1o;have Hhdm:=qh hdm;clear hdm;have Hhmem:=qh hmem;clear hmem;go_wp2
      go_quiet (fail)
      go_wp2;go_roundw
      case rel =>refine⟨c+1,g,cap,by go_num,by rw[← HhT1.out,HhT1o.out],by omega,?_⟩;rw[← HhT1.out,HhT1o.out];exact HhSi.out.drewN _
      case measure=>simp[intOf];omega
     have hdm:decide ((y:Int)∈T)=false:=by simpa using hmem
     rw[hdm] at e4;have hT1n:=Hhnew'.out hmem;have HhT1n:=qh hT1n;clear hT1n;have Hhdm:=qh hdm;clear hdm;have Hhmem:=qh hmem;clear hmem;go_wp2
     go_quiet (fail)
     have hSs:=((HhSi.out.drewN nq).store 2 rfl y (.bool true)).alloc_ (.cells #[.int .i64 (y:Int)] 3);rw[Hhset.out] at hSs;have hR:=hSs.row 1 rfl;have hal:=heap_alloc_new ((wp.drewN nq).setCell ⟨w.heap.size+1+1,y,none⟩ (.bool true)) (.cells #[.int .i64 (y:Int)] 3);rw[Za7,show(wp.drewN nq).heap.size=wp.heap.size from rfl] at hal;have Hhal:=qh hal;clear hal;have HhSs:=qh hSs;clear hSs;have HhR:=qh hR;clear hR;go_wp2_with (at_builtin;refine wpList_append_lies _ rfl _ _ _ rfl _ 3 j0 (.int .i64 0) 1 8 Try.underlying26 Hhj.out Hhy0.out Hhy1.out Hhy2.out rfl (by omega) _ T.length _ rfl HhR.out ⟨wp.heap.size,0,none⟩ 1 1 [.int .i64 (y:Int)] rfl rfl (World.news_of_block Hhal.out) ZaV (by omega) (by unfold maxLen;omega) (by omega) HhSs.out.size _ rfl ?_;intro g6 c6 w6 hown6 hgrow6 hat6 hlt6;have HS6:=qh (HhSs.out.app 1 rfl hown6 hgrow6 hat6);clear hown6 hgrow6 hat6 hlt6);go_roundw
     case rel =>refine⟨c+1,g6,c6,by go_num,by rw[← HhT1.out,HhT1n.out,List.length_append];rfl,by omega,?_⟩;rw[← HhT1.out,HhT1n.out,List.length_append,Zan];exact HS6.out
     case measure=>simp[intOf];omega
    obtain rfl:c=3:=by omega
    have hbs:bat (dnx d) 0 (k+1)=bpart (dnx d) 0 k 3:=Za2 HhkS.out;have hTS:=(Za1 (nx:=dnx d) (a:=0) (k:=k) (Nat.zero_le 3)).1.length_le;rw[Zao,← HhSS.out] at hTS;have Hhbs:=qh hbs;clear hbs;have HhSi:=qh hSi;clear hSi;go_wp2;go_roundw
    case rel=>exact⟨k+1,g,cap,by go_num,by rw[Hhbs.out],by rw[Hhbs.out];omega,by rw[Hhbs.out];exact HhSi.out⟩
    case measure=>simp[intOf];omega
  obtain rfl:k=S.met.length:=by omega
  have hfin:F=S.met:=by have h:=Zbn (nx:=dnx d) (a:=0) (k:=S.met.length) (m:=L) (by rw[← hSS];omega) hML;rw[← hF.out,h,← hSS]
  subst hfin;have HhS:=qh hS;clear hS;have HhSS:=qh hSS;clear hSS;go_wp2;go_ret;exact⟨_,_,rfl,HhS.out.pick [1] (by decide)⟩
theorem Zih {d:DfaD} (hd:Zaf d.next d.ends=true) {k c:Nat} (hk:k<(bat (dnx d) 0 d.next.length).met.length) (hc:c<3):dnx d ((bat (dnx d) 0 d.next.length).met.getD k 0) c∈(bat (dnx d) 0 d.next.length).met:=by
 have hm:=(ZbX (ZaE hd) d.next.length).2;have hkl:k<d.next.length:=by omega
 have hkk:k<(bat (dnx d) 0 k).met.length:=by
  by_cases h:k<(bat (dnx d) 0 k).met.length
  ·exact h
  have:=Zbn (nx:=dnx d) (a:=0) (k:=k) (m:=d.next.length) (by omega) (by omega);rw[this] at hk;omega
 have hp:=(Zez (nx:=dnx d) (a:=(0:Int)) (k:=k) (m:=d.next.length) (by omega)).1;rw[Zau hp hkk];have h1:=ZgE (nx:=dnx d) (a:=(0:Int)) (k:=k) (n:=3) hc;have h2:=(Zax (nx:=dnx d) (a:=(0:Int)) (m:=d.next.length) hkk (Nat.le_refl 3) hkl).1;exact h2.subset h1
theorem Zk8 {d:DfaD} (hd:Zaf d.next d.ends=true) {k:Nat} (hk:k<(bat (dnx d) 0 d.next.length).met.length):∃ x:Nat,(bat (dnx d) 0 d.next.length).met.getD k 0=(x:Int)∧x<d.next.length∧∀ c,c<3→((nxD d x c:Nat):Int)∈(bat (dnx d) 0 d.next.length).met:=by
 have h:=(ZbX (ZaE hd) d.next.length).1 _ (Zcb hk (d:=0));refine⟨((bat (dnx d) 0 d.next.length).met.getD k 0).toNat,by omega,by omega,fun c hc => ?_⟩;have h1:=Zih hd hk hc;have e:(bat (dnx d) 0 d.next.length).met.getD k 0=((((bat (dnx d) 0 d.next.length).met.getD k 0).toNat:Nat):Int):=by omega
 rw[e,(Zbp (ZaE hd) (by omega) hc).2] at h1;exact h1
theorem Zif {l:List Int} {x:Int} (h:x∈l):ZbW l x=(Zad l x:Int):=by unfold ZbW Zad;rw[if_pos h]
def padL (n s:Nat) (cl:Nat→Nat):List Int:=clsL s cl++List.replicate (n-s) 0
def padT (n s:Nat) (cl:Nat→Nat) (t:Nat):List Int:=clsL s cl++((t:Nat):Int)::List.replicate (n-s-1) 0
theorem ZiY (n:Nat) (cl:Nat→Nat):padL n 0 cl=List.replicate n 0:=by simp[padL,clsL]
theorem Zhx (n:Nat) (cl:Nat→Nat):padL n n cl=clsL n cl:=by simp[padL]
theorem ZkO {n s:Nat} (cl:Nat→Nat) (h:s<n):padL n s cl=padT n s cl 0:=by unfold padL padT;rw[show n-s=(n-s-1)+1 by omega,List.replicate_succ];rfl
theorem Zhw {n s:Nat} (cl:Nat→Nat):padT n s cl (cl s)=padL n (s+1) cl:=by unfold padL padT;rw[Zdd,List.append_assoc,show n-(s+1)=n-s-1 by omega];rfl
theorem Zhv {n s:Nat} (cl:Nat→Nat) (t t':Nat):(intCells (padT n s cl t)).set s (.int .i64 ((t':Nat):Int))=intCells (padT n s cl t'):=by unfold intCells;rw[← List.map_set (f:=fun x=>Value.int .i64 x)];congr 1;unfold padT;rw[List.set_append_right _ _ (by rw[Za0];exact Nat.le_refl _),Za0,Nat.sub_self];rfl
theorem Zd5 {n s:Nat} (cl:Nat→Nat) (t:Nat):(intCells (padT n s cl t))[s]? = some (.int .i64 ((t:Nat):Int)):=by simp[intCells,padT,Za0]
theorem ZaK {n s:Nat} (cl:Nat→Nat) (h:s<n):(intCells (clsL n cl))[s]? = some (.int .i64 ((cl s:Nat):Int)):=by simp[intCells,clsL,h]
theorem Zgk {w:World} {B n:Nat} {v:Value} (cl:Nat→Nat) (h:w.ownsRow B 3 1 v n (madeCells (Value.int .i64 0).cells (n*1)).toList):w.ownsRow B 3 1 v n (intCells (padL n 0 cl)):=by
 have e:(madeCells (Value.int .i64 0).cells (n*1)).toList=intCells (padL n 0 cl):=by rw[ZiY];simp[madeCells,Value.cells,intCells,Nat.mod_one,List.map_const']
 rwa [e] at h
theorem Zkz {n:Nat} {a b:Nat→Nat}:clsL n a=clsL n b↔∀ s,s<n→a s=b s:=by
 constructor
 ·intro h s hs;have:=congrArg (fun l=>l.getD s 0) h;simp only[ZfJ a hs,ZfJ b hs] at this;omega
 exact Zdu
theorem St.intsC {w0 w:World} {L:List Ent} (h:St w0 w L) (i:Nat) {v:Value} {n:Nat} {cl:Nat→Nat} (hx:L[i]? = some (Ent.row 3 1 v n (intCells (clsL n cl)))):Ints 0 w v (clsL n cl) :=
 Zgq (B:=w0.heap.size) (e:=3) (by rw[Za0];exact h.row i hx)
theorem Zit (xs:List Bool) (y:Bool) (p:Nat) (v:Value) (w:World) (h1:Bools 0 w v xs) (hp:p<xs.length) (hy:xs.getD p false=y) (hno:∀ j,j<p→xs.getD j false≠y) :
  Calls Try.prog 145 #[v,.bool y] w fun e w'=>e = .returned (.int .i64 (p:Nat))∧Below w.heap.size w w':=by
 obtain⟨a1,c1,rfl,hc1,hm1,hr1⟩:=h1.form;obtain⟨b1,o1,rfl,-,hbl1,hcs1⟩:=hr1 (by omega);have Hcs:=qh hcs1;have Hno:=qh hno;replace hy:=qh hy;clear hr1 hcs1 hno h1
 go_enter Try.func145, Try.ntmps145
 go_wp2
 go_loopw [4,8] (fun r i wr=>∃ k:Nat,k≤p∧i = .int .i64 k∧Below w.heap.size w wr) (fun _ i _=>p+1-(intOf i).toNat)
 case atStart=>exact⟨0,Nat.zero_le _,rfl,Below.refl _ _⟩
 case round =>
  obtain⟨k,hk,rfl,hb⟩:=hrel;have hkl:(k:Int)<xs.length:=by omega
  have k1:=(bcell hb b1 (o1+k) hbl1).trans (Hcs.out k (by omega));obtain⟨z,hz⟩:=eI (xs.getD k false);rw[← hz] at k1;replace hb:=qh hb;by_cases he:k=p
  ·subst he;have hzy:z=y:=by rw[hz];exact hy.out
   subst hzy;have Hhz:=qh hz;clear hz;go_wp2;go_ret;exact⟨rfl,hb.out⟩
  have hne:z≠y:=by rw[hz];exact Hno.out k (by omega)
  have g1:(y==z)=false:=by simpa using hne.symm
  have g2:(z==y)=false:=by simpa using hne
  have Hhz:=qh hz;clear hz;have Hhne:=qh hne;clear hne;go_wp2;go_roundw
  case rel=>exact⟨k+1,by omega,by go_num,hb.out⟩
  case measure=>simp[intOf];omega
theorem Ziv (xs ys:List Int) (n:Nat) (v1 v2:Value) (w:World) (hx:xs.length=n) (hy:ys.length=n) (h1:Ints 0 w v1 xs) (h2:Ints 0 w v2 ys) (r:Bool) (hr:decide (xs=ys)=r) :
  Calls Try.prog 147 #[v1,v2] w fun e w'=>e = .returned (.bool r)∧Below w.heap.size w w':=by
 obtain⟨a1,c1,rfl,hc1,hm1,hr1⟩:=h1.form;obtain⟨a2,c2,rfl,hc2,hm2,hr2⟩:=h2.form;rw[hx] at hc1 hr1;rw[hy] at hc2 hr2;rw[hx,hy];have hnn:((n:Int) != n)=false:=by simp
 replace hx:=qh hx;have Hhy:=qh hy;clear hy;replace hr:=qh hr;clear h1 h2
 go_enter Try.func147, Try.ntmps147
 go_wp2
 go_loopw [4,13] (fun r i wr=>∃ k:Nat,k≤n∧i = .int .i64 k∧xs.take k=ys.take k∧Below w.heap.size w wr) (fun _ i _=>n-(intOf i).toNat)
 case atStart=>exact⟨0,Nat.zero_le _,rfl,rfl,Below.refl _ _⟩
 case round =>
  obtain⟨k,hk,rfl,htk,hb⟩:=hrel;have Hhtk:=qh htk;clear htk;by_cases hlt:k<n
  ·obtain⟨b1,o1,rfl,-,hbl1,hcs1⟩:=hr1 (by omega);obtain⟨b2,o2,rfl,-,hbl2,hcs2⟩:=hr2 (by omega);have k1:=(bcell hb b1 (o1+k) hbl1).trans (hcs1 k hlt);have k2:=(bcell hb b2 (o2+k) hbl2).trans (hcs2 k hlt);obtain⟨p,hp⟩:=eI (xs.getD k 0);obtain⟨q,hq⟩:=eI (ys.getD k 0);rw[← hp] at k1;rw[← hq] at k2;replace hp:=qh hp;have Hhq:=qh hq;clear hq;replace hb:=qh hb;clear hcs1 hcs2 hr1 hr2;by_cases hpq:p=q
   ·have g1:(p != q)=false:=by simpa using hpq
    have g2:(!(p==q))=false:=by simpa using hpq
    have g3:(p=q)=True:=by simpa using hpq
    have Hhpq:=qh hpq;clear hpq;go_wp2
    go_quiet (fail)
    go_wp2;go_roundw
    case rel=>exact⟨k+1,by omega,by go_num,ZdC (d:=0) (by rw[hx.out];exact hlt) (by rw[Hhy.out];exact hlt) Hhtk.out (by rw[← hp.out,← Hhq.out];exact Hhpq.out),below_drewN hb.out _⟩
    case measure=>simp[intOf];omega
   have g1:(p != q)=true:=by simpa using hpq
   have g2:(!(p==q))=true:=by simpa using hpq
   have g3:(p=q)=False:=by simpa using hpq
   have Hhpq:=qh hpq;clear hpq;go_wp2
   go_quiet (fail)
   go_wp2;go_ret;exact⟨by rw[← hr.out,decide_eq_false (ZeV (k:=k) (d:=0) (by rw[← hp.out,← Hhq.out];exact Hhpq.out))];rfl,below_drewN hb.out _⟩
  obtain rfl:k=n:=by omega
  replace hb:=qh hb;clear hr1 hr2;go_wp2;go_ret;refine⟨?_,hb.out⟩;have h:=Hhtk.out;rw[List.take_of_length_le (by rw[hx.out];exact Nat.le_refl _),List.take_of_length_le (by rw[Hhy.out];exact Nat.le_refl _)] at h;rw[← hr.out,decide_eq_true h];rfl
end Go.Proofs.Ytfanhfcamblghaa
