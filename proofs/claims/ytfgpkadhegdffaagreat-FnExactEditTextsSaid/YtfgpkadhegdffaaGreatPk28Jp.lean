/-
  The walk over the reference's l11Pair: two automata side by side.
  Conditions: the automata are valid and read as such; the mode is 0 or 1.
-/
import Derived.Test.YtfgpkadhegdffaaGreatPk27Jx
set_option maxHeartbeats 16000000
set_option maxRecDepth 100000
namespace Go.Proofs.YtfgpkadhegdffaaGreat
open Go.RowKit
def pfM (mode:Int) (x y:Bool):Bool:=(decide (mode = 0) && x && y) || (decide (mode = 1) && (x || y)) || (decide (mode = 2) && x && !y) || (decide (mode = 3) && (x != y))
def prw (p:Int × Int):List Int:=[p.1,p.2]
theorem pair_eq {xm ym x y:Int} (h:¬ (xm = x ∧ ym = y)):((xm,ym):Int × Int) ≠ (x,y):=fun e => h (by simpa using e)
theorem map_snoc2 {S:List (Int × Int)} {x:Int × Int} {g:Int × Int → List Int}:((S ++ [x]).map g).map intCells = (S.map g).map intCells ++ [intCells (g x)]:=by simp
theorem map_snocB {S:List (Int × Int)} {x:Int × Int} {g:Int × Int → Bool}:boolCells ((S ++ [x]).map g) = boolCells (S.map g) ++ [.bool (g x)]:=by simp [boolCells]
def atP (S:List (Int × Int)) (x:Int × Int) (m:Nat):Int:=if x ∈ S.take m then (placeOf S x:Int) else -1
theorem atP_hit {S:List (Int × Int)} {x:Int × Int} {m:Nat} (hn:S.Nodup) (hm:m < S.length) (hx:S.getD m (0,0) = x):atP S x (m+1) = (m:Int):=by
 have h1:placeOf S x = m:=by rw [← hx];exact idx_getD hm hn _
 have h2:x ∈ S.take (m+1):=by
  rw [List.take_succ_eq_append_getElem hm,← getD_at (d:=(0,0)) hm,hx]
  simp
 unfold atP
 rw [if_pos h2,h1]
theorem atP_miss {S:List (Int × Int)} {x:Int × Int} {m:Nat} (hm:m < S.length) (hx:S.getD m (0,0) ≠ x):atP S x (m+1) = atP S x m:=by
 unfold atP
 have e:x ∈ S.take (m+1) ↔ x ∈ S.take m:=by
  rw [List.take_succ_eq_append_getElem hm,← getD_at (d:=(0,0)) hm]
  simp only [List.mem_append,List.mem_singleton]
  exact ⟨fun h => h.resolve_right fun h => hx h.symm,.inl⟩
 simp only [e]
theorem l11Pair_any (K:Nat) (hK:K = 40) (a b:DfaD) (mode:Int) (f:Bool → Bool → Bool) (hf:∀ x y,pfM mode x y = f x y) (hmode:mode = 0 ∨ mode = 1) (v u:Value) (w:World) (hda:dfaOk a.next a.ends = true) (hdb:dfaOk b.next b.ends = true) (h1:DfaR 0 w v a) (h2:DfaR 0 w u b) :
  Calls Tryz.prog 99 #[v,u,.int .i64 mode] w fun e w' => RO (pairK K f a b) w e w':=by
 obtain ⟨b1,o1,cv,b2,o2,cw,rfl,hCa⟩:=dfa_open hda h1
 obtain ⟨b3,o3,cx,b4,o4,cy,rfl,hCb⟩:=dfa_open hdb h2
 have hKa:K ≤ 40:=by omega
 have hKb:40 ≤ K:=by omega
 clear hK
 obtain ⟨i0,hi,hz0,hz1,hz2⟩:=info_parts Tryz.infoInt
 obtain ⟨j0,hj,hy0,hy1,hy2⟩:=info_parts Tryz.infoInts
 obtain ⟨k0,hk,hx0,hx1,hx2⟩:=info_parts Tryz.infoBool
 have Hin:=qh (fun k => bat_all (nx:=stepP a b) (a:=(0,0)) (Q:=fun x => inPair a b x = true) (inPair_zero hda hdb) (fun x c hc hx => inPair_step hda hdb hc hx) k)
 have HCa:=qh hCa
 have HCb:=qh hCb
 obtain ⟨LA,hLA⟩:∃ L,a.next.length = L:=⟨_,rfl⟩
 obtain ⟨LB,hLB⟩:∃ L,b.next.length = L:=⟨_,rfl⟩
 obtain ⟨hl1,hl2,-⟩:=dfaOk_len hda
 obtain ⟨hl3,hl4,-⟩:=dfaOk_len hdb
 rw [hLA] at hl1 hl2
 rw [hLB] at hl3 hl4
 rw [hLA,hLB]
 have hS0:=((St.start w).alloc _ rfl #[.slice (some ⟨b1,o1,none⟩) LA cv,.slice (some ⟨b2,o2,none⟩) LA cw] 25).alloc (w.heap.size+1) (by simp) #[.slice (some ⟨b3,o3,none⟩) LB cx,.slice (some ⟨b4,o4,none⟩) LB cy] 25
 have hS1:=(((((hS0.alloc (w.heap.size+1+1) (by simp) #[.slice none 0 0,.slice none 0 0] 25).alloc (w.heap.size+1+1+1) (by simp) #[.int .i64 0,.int .i64 0] 3).boxrow 3 2 1 [.int .i64 0,.int .i64 0] rfl rfl (by unfold maxLen;omega)).alloc (w.heap.size+1+1+1+1) (by simp) #[.slice (some ⟨w.heap.size+1+1+1,0,none⟩) 2 2] 67).boxrow 4 1 1 [.slice (some ⟨w.heap.size+1+1+1,0,none⟩) 2 2] rfl rfl (by unfold maxLen;omega)).onerow 4 3 (by decide) rfl rfl
 have hS2:=((((hS1.pick [0,1,2,4] (by decide)).alloc (w.heap.size+1+1+1+1+1) (by simp) #[.slice none 0 0,.slice none 0 0] 25).nilRow 67 1).norows 5 rfl 3).nilRow 4 1
 have HS2:=qh hS2
 have HhLA:=qh hLA;clear hLA
 have HhLB:=qh hLB;clear hLB
 have Hhi:=qh hi;clear hi
 have Hhz0:=qh hz0;clear hz0
 have Hhz1:=qh hz1;clear hz1
 have Hhz2:=qh hz2;clear hz2
 have Hhj:=qh hj;clear hj
 have Hhy0:=qh hy0;clear hy0
 have Hhy1:=qh hy1;clear hy1
 have Hhy2:=qh hy2;clear hy2
 have Hhk:=qh hk;clear hk
 have Hhx0:=qh hx0;clear hx0
 have Hhx1:=qh hx1;clear hx1
 have Hhx2:=qh hx2;clear hx2
 have Hhf:=qh hf;clear hf
 have Hhmode:=qh hmode;clear hmode
 clear hS0 hS1 hS2 h1 h2 hCa hCb
 obtain ⟨F,hF⟩:∃ F,F = metP a b K:=⟨_,rfl⟩
 have HhF:=qh hF;clear hF
 go_enter Tryz.func99, Tryz.ntmps99
 go_wp2
 go_loopw [7,8,10] (fun rb vl i wr => ∃ (k n1 cap1 c2 c3:Nat) (a2 a3:Option Addr) (vs1 vs2:List Value),i = .int .i64 k ∧ rb = .bool false ∧ vl = .slice (some ⟨n1,0,none⟩) (bat (stepP a b) (0,0) k).met.length cap1 ∧ k ≤ (bat (stepP a b) (0,0) k).met.length ∧ k ≤ K ∧ (bat (stepP a b) (0,0) k).met.length ≤ K+3 ∧
   St w wr [Ent.box w.heap.size #[.slice (some ⟨b1,o1,none⟩) LA cv,.slice (some ⟨b2,o2,none⟩) LA cw] 25,Ent.box (w.heap.size+1) #[.slice (some ⟨b3,o3,none⟩) LB cx,.slice (some ⟨b4,o4,none⟩) LB cy] 25,Ent.box (w.heap.size+1+1) #[.slice none 0 0,.slice none 0 0] 25,
    Ent.rows 67 3 (.slice (some ⟨n1,0,none⟩) (bat (stepP a b) (0,0) k).met.length cap1) vs1 (((bat (stepP a b) (0,0) k).met.map prw).map intCells),
    Ent.box (w.heap.size+1+1+1+1+1) #[.slice a2 k c2,.slice a3 k c3] 25,
    Ent.rows 67 3 (.slice a2 k c2) vs2 ((((bat (stepP a b) (0,0) k).met.take k).map (numRow (stepP a b) F)).map intCells),
    Ent.row 4 1 (.slice a3 k c3) k (boolCells (((bat (stepP a b) (0,0) k).met.take k).map (endsF f a b)))])
  (fun _ _ i _ => K - (intOf i).toNat)
 case atStart => exact ⟨0,_,_,0,0,none,none,[.slice (some ⟨w.heap.size+1+1+1,0,none⟩) 2 2],[],rfl,rfl,rfl,by simp,by omega,by simp [bat],HS2.out⟩
 case round =>
  obtain ⟨k,n1,cap1,c2,c3,a2,a3,vs1,vs2,rfl,rfl,rfl,hk,hkK,hML,hS⟩:=hrel
  obtain ⟨S,hSS⟩:∃ S,S = bat (stepP a b) (0,0) k:=⟨_,rfl⟩
  have hR:=Hin.out k
  rw [← hSS] at hk hML hS hR
  rw [← hSS]
  obtain ⟨wo,hwo⟩:∃ wo:World,wo = wr:=⟨_,rfl⟩
  subst hwo
  have HhS:=qh hS;clear hS
  have HhSS:=qh hSS;clear hSS
  have HhR:=qh hR;clear hR
  by_cases hlt:k < S.met.length
  ·by_cases hle:S.met.length ≤ K
   ·have hlt2:(k:Int) < S.met.length:=by omega
    have hle2:¬ ((S.met.length:Int) > 40):=by omega
    have hSe:=(HhS.out.alloc _ rfl #[] 3).boxrow 7 0 1 [] rfl rfl (Nat.zero_le _)
    obtain ⟨x,hx⟩:∃ x,x = S.met.getD k (0,0):=⟨_,rfl⟩
    have hxM:inPair a b x = true:=by rw [hx];exact HhR.out _ (memD hlt)
    have hkS:k < (bat (stepP a b) (0,0) k).met.length:=by rw [← HhSS.out];exact hlt
    have hxb:(bat (stepP a b) (0,0) k).met.getD k (0,0) = x:=by rw [← HhSS.out];exact hx.symm
    obtain ⟨i,j,hxij,hiA,hjB⟩:=inPair_nat hxM
    rw [HhLA.out] at hiA
    rw [HhLB.out] at hjB
    have hiA2:(i:Int) < LA:=by omega
    have hjB2:(j:Int) < LB:=by omega
    have HhSe:=qh hSe;clear hSe
    have Hhx:=qh hx;clear hx
    have HhkS:=qh hkS;clear hkS
    have Hhxb:=qh hxb;clear hxb
    have Hhxij:=qh hxij;clear hxij
    clear hxM
    go_wp2
    go_loopw [8,11,12] (fun vl rv i' wi => ∃ (c n1 cap1 b5 cap3:Nat) (vs1:List Value),i' = .int .i64 c ∧ vl = .slice (some ⟨n1,0,none⟩) (bpart (stepP a b) (0,0) k c).met.length cap1 ∧ rv = .slice (some ⟨b5,0,none⟩) c cap3 ∧ c ≤ 3 ∧
      St w wi [Ent.box w.heap.size #[.slice (some ⟨b1,o1,none⟩) LA cv,.slice (some ⟨b2,o2,none⟩) LA cw] 25,Ent.box (w.heap.size+1) #[.slice (some ⟨b3,o3,none⟩) LB cx,.slice (some ⟨b4,o4,none⟩) LB cy] 25,Ent.box (w.heap.size+1+1) #[.slice none 0 0,.slice none 0 0] 25,
       Ent.rows 67 3 (.slice (some ⟨n1,0,none⟩) (bpart (stepP a b) (0,0) k c).met.length cap1) vs1 (((bpart (stepP a b) (0,0) k c).met.map prw).map intCells),
       Ent.box (w.heap.size+1+1+1+1+1) #[.slice a2 k c2,.slice a3 k c3] 25,
       Ent.rows 67 3 (.slice a2 k c2) vs2 (((S.met.take k).map (numRow (stepP a b) F)).map intCells),
       Ent.row 4 1 (.slice a3 k c3) k (boolCells ((S.met.take k).map (endsF f a b))),
       Ent.row 3 1 (.slice (some ⟨b5,0,none⟩) c cap3) c (intCells ((numRow (stepP a b) F x).take c))])
     (fun _ _ i' _ => 3 - (intOf i').toNat)
    case atStart =>
     refine ⟨0,n1,cap1,_,_,vs1,rfl,by rw [bpart_zero,← HhSS.out],rfl,by omega,?_⟩
     rw [bpart_zero,← HhSS.out]
     exact HhSe.out
    case round =>
     obtain ⟨c,n1,cap1,b5,cap3,vs1,rfl,rfl,rfl,hc3,hSi⟩:=hrel
     obtain ⟨wp,hwp⟩:∃ wp:World,wp = wr:=⟨_,rfl⟩
     subst hwp
     by_cases hc:c < 3
     ·have hTl:=bpart_len (stepP a b) (0,0) k c
      have hTn:=(bpart_good (nx:=stepP a b) (a:=(0,0)) HhkS.out (show c ≤ 3 by omega)).1
      have hold:=bpart_old (nx:=stepP a b) (a:=(0,0)) (k:=k) (n:=c)
      have hnew:=bpart_new (nx:=stepP a b) (a:=(0,0)) (k:=k) (n:=c)
      have hTS:=bpart_le (nx:=stepP a b) (a:=(0,0)) (k:=k) (Nat.zero_le c)
      have hTF:=bpart_le_bat (nx:=stepP a b) (a:=(0,0)) (m:=K) HhkS.out (show c ≤ 3 by omega) (show k < K by omega)
      have hTF2:=bpart_le_bat (nx:=stepP a b) (a:=(0,0)) (m:=K) HhkS.out (show c+1 ≤ 3 by omega) (show k < K by omega)
      rw [bpart_zero,← HhSS.out] at hTS
      rw [Hhxb.out] at hold hnew
      rw [← HhSS.out] at hTl
      replace hTF:=hTF.1
      replace hTF2:=hTF2.1
      replace hTS:=hTS.1
      rw [show (bat (stepP a b) (0,0) K).met = F from HhF.out.symm] at hTF hTF2
      have hys:stepP a b x c = (((nxD a i c:Nat):Int),((nxD b j c:Nat):Int)):=by
       rw [Hhxij.out,← HCa.out.dx i c (by have:=HhLA.out;omega) hc,← HCb.out.dx j c (by have:=HhLB.out;omega) hc]
       rfl
      have hq1:=HCa.out.lt i c (by have:=HhLA.out;omega) hc
      have hq2:=HCb.out.lt j c (by have:=HhLB.out;omega) hc
      rw [HhLA.out] at hq1
      rw [HhLB.out] at hq2
      obtain ⟨ya,hya⟩:∃ y,y = nxD a i c:=⟨_,rfl⟩
      obtain ⟨yb,hyb⟩:∃ y,y = nxD b j c:=⟨_,rfl⟩
      rw [← hya,← hyb] at hys
      rw [← hya] at hq1
      rw [← hyb] at hq2
      rw [hys] at hold hnew
      have hold':((ya:Int),(yb:Int)) ∈ (bpart (stepP a b) (0,0) k c).met → (bpart (stepP a b) (0,0) k (c+1)).met = (bpart (stepP a b) (0,0) k c).met:=fun h => by rw [hold h]
      have hnew':((ya:Int),(yb:Int)) ∉ (bpart (stepP a b) (0,0) k c).met → (bpart (stepP a b) (0,0) k (c+1)).met = (bpart (stepP a b) (0,0) k c).met ++ [((ya:Int),(yb:Int))]:=fun h => by rw [hnew h]
      clear hold hnew
      obtain ⟨T1,hT1⟩:∃ T1,T1 = (bpart (stepP a b) (0,0) k (c+1)).met:=⟨_,rfl⟩
      obtain ⟨T,hT⟩:∃ T,T = (bpart (stepP a b) (0,0) k c).met:=⟨_,rfl⟩
      rw [← hT] at hSi hTl hTn hTF hTS hold' hnew'
      rw [← hT1] at hTF2 hold' hnew'
      rw [← hT]
      have hkT:k < T.length:=Nat.lt_of_lt_of_le hlt hTS.length_le
      have hxT:T.getD k (0,0) = ((i:Int),(j:Int)):=((prefix_getD hTS hlt _).trans Hhx.out.symm).trans Hhxij.out
      have hrow:=numRow_snoc (nx:=stepP a b) (F:=F) (x:=x) hc
      rw [hys] at hrow
      have hlm:((T.map prw).map intCells).length = T.length:=map2_len _ _ _
      have hcs:((T.map prw).map intCells).getD k [] = [.int .i64 (i:Int),.int .i64 (j:Int)]:=by
       have:((T.map prw).map intCells).getD k [] = intCells (prw (T.getD k (0,0))):=by simp [hkT]
       rw [this,hxT]
       rfl
      obtain ⟨ax,cxx,hcell,hxr,hcx1,hcx2,hcp1,hcp2,hb1l⟩:=hSi.rowAt 3 rfl hlm hkT
      rw [hcs] at hcell hxr hcx1
      obtain ⟨gx,cx',hvx,hgx1,hgx2⟩:=hxr.form (by simp)
      simp only [Value.slice.injEq,List.length_cons,List.length_nil] at hvx
      obtain ⟨rfl,-,rfl⟩:=hvx
      have p0:=hxr.cellAt 0 (by simp)
      have p1:=hxr.cellAt 1 (by simp)
      simp only [List.getElem?_cons_zero,List.getElem?_cons_succ] at p0 p1
      simp only [List.length_cons,List.length_nil] at hcell hcx1
      have hDa:=HCa.out.below hSi.bel
      have hDb:=HCb.out.below hSi.bel
      obtain ⟨g5,o5,c5,hg5,hc5,hc5',hr5,hv5⟩:=hDa.row i (by have:=HhLA.out;omega)
      obtain ⟨g6,o6,c6,hg6,hc6,hc6',hr6,hv6⟩:=hDb.row j (by have:=HhLB.out;omega)
      replace hv5:=hv5 c hc
      replace hv6:=hv6 c hc
      rw [← hya] at hv5
      rw [← hyb] at hv6
      have e0:=hSi.cell (v:=.slice (some ⟨b1,o1,none⟩) LA cv) 0 0 rfl rfl
      have e1:=hSi.cell (v:=.slice (some ⟨b3,o3,none⟩) LB cx) 1 0 rfl rfl
      have hkT2:(k:Int) < T.length:=by omega
      have hc4:(c:Int) < 3:=by omega
      have Hhys:=qh hys;clear hys
      have Hhya:=qh hya;clear hya
      have Hhyb:=qh hyb;clear hyb
      have Hhold':=qh hold';clear hold'
      have Hhnew':=qh hnew';clear hnew'
      have HhT1:=qh hT1;clear hT1
      have HhT:=qh hT;clear hT
      have HhTl:=qh hTl;clear hTl
      have HhTn:=qh hTn;clear hTn
      have HhTF:=qh hTF;clear hTF
      have HhTF2:=qh hTF2;clear hTF2
      have HhTS:=qh hTS;clear hTS
      have HhxT:=qh hxT;clear hxT
      have Hhrow:=qh hrow;clear hrow
      have Hhlm:=qh hlm;clear hlm
      have HhSi:=qh hSi;clear hSi
      clear hcs hxr hDa hDb
      go_wp2
      go_quiet (fail)
      obtain ⟨m1,hm1⟩:∃ n,n = nq:=⟨_,rfl⟩
      subst hm1
      go_wp2
      go_quiet (fail)
      obtain ⟨m2,hm2⟩:∃ n,n = nq:=⟨_,rfl⟩
      subst hm2
      obtain ⟨w3,hw3⟩:∃ w3,w3 = (wp.drewN m1).drewN m2:=⟨_,rfl⟩
      have hS3:=(HhSi.out.drewN m1).drewN m2
      rw [← hw3] at hS3
      rw [← hw3]
      have HhS3:=qh hS3;clear hS3
      clear e0 e1 hr5 hr6 hv5 hv6 hcell p0 p1 hw3
      go_wp2
      go_loopw [15,16] (fun av jj wj => ∃ m:Nat,jj = .int .i64 m ∧ m ≤ T.length ∧ av = .int .i64 (atP T ((ya:Int),(yb:Int)) m) ∧ Below w3.heap.size w3 wj) (fun _ jj _ => T.length - (intOf jj).toNat)
      case atStart => exact ⟨0,rfl,Nat.zero_le _,by simp [atP],Below.refl _ _⟩
      case round =>
       obtain ⟨m,rfl,hm,rfl,hbj⟩:=hrel
       by_cases hmT:m < T.length
       ·obtain ⟨p,hp⟩:∃ p,p = T.getD m (0,0):=⟨_,rfl⟩
        have hcs:((T.map prw).map intCells).getD m [] = [.int .i64 p.1,.int .i64 p.2]:=by
         have:((T.map prw).map intCells).getD m [] = intCells (prw (T.getD m (0,0))):=by simp [hmT]
         rw [this,← hp]
         rfl
        obtain ⟨ax,cm,hcell,hxr,hcx3,hcx4,hcp3,hcp4,hb1l⟩:=HhS3.out.rowAt 3 rfl Hhlm.out hmT
        rw [hcs] at hcell hxr hcx3
        obtain ⟨gm,cx',hvx,hgx1,hgx2⟩:=hxr.form (by simp)
        simp only [Value.slice.injEq,List.length_cons,List.length_nil] at hvx
        obtain ⟨rfl,-,rfl⟩:=hvx
        have p0:=hxr.cellAt 0 (by simp)
        have p1:=hxr.cellAt 1 (by simp)
        simp only [List.getElem?_cons_zero,List.getElem?_cons_succ] at p0 p1
        simp only [List.length_cons,List.length_nil] at hcell hcx3
        replace hcell:=(bcell hbj n1 m hb1l).trans hcell
        replace p0:=(bcell hbj gm 0 hgx2).trans p0
        replace p1:=(bcell hbj gm 1 hgx2).trans p1
        obtain ⟨xm,ym⟩:=p
        simp only at p0 p1
        have hmT2:(m:Int) < T.length:=by omega
        have Hend:=qh (fun (v':Int) (h:v' = atP T ((ya:Int),(yb:Int)) (m+1)) => (show ∃ m':Nat,Value.int .i64 ((m:Int)+1) = .int .i64 (m':Int) ∧ m' ≤ T.length ∧ Value.int .i64 v' = .int .i64 (atP T ((ya:Int),(yb:Int)) m') ∧ Below w3.heap.size w3 wr from ⟨m+1,by go_num,by omega,by rw [h],hbj⟩))
        have Hhp:=qh hp;clear hp
        have Hhbj:=qh hbj;clear hbj
        clear hcs hxr
        by_cases hxe:xm = (ya:Int)
        ·subst hxe
         by_cases hye:ym = (yb:Int)
         ·subst hye
          go_wp2
          go_roundw
          case rel => exact Hend.out _ (atP_hit HhTn.out hmT Hhp.out.symm).symm
          case measure => simp [intOf];omega
         ·have hg1:(ym == (yb:Int)) = false:=by simpa using hye
          have Hhye:=qh hye;clear hye
          go_wp2
          go_roundw
          case rel => exact Hend.out _ (atP_miss hmT (by rw [← Hhp.out];exact pair_eq (fun h => Hhye.out h.2))).symm
          case measure => simp [intOf];omega
        ·have hg1:(xm == (ya:Int)) = false:=by simpa using hxe
         have Hhxe:=qh hxe;clear hxe
         go_wp2
         go_roundw
         case rel => exact Hend.out _ (atP_miss hmT (by rw [← Hhp.out];exact pair_eq (fun h => Hhxe.out h.1))).symm
         case measure => simp [intOf];omega
       ·obtain rfl:m = T.length:=by omega
        have hSj:=HhS3.out.call hbj
        have hat:atP T ((ya:Int),(yb:Int)) T.length = if ((ya:Int),(yb:Int)) ∈ T then (placeOf T ((ya:Int),(yb:Int)):Int) else -1:=by unfold atP;rw [List.take_length]
        by_cases hmem:((ya:Int),(yb:Int)) ∈ T
        ·rw [if_pos hmem] at hat
         obtain ⟨p,hp⟩:∃ p,p = placeOf T ((ya:Int),(yb:Int)):=⟨_,rfl⟩
         have hpl:p < T.length:=by rw [hp];exact placeOf_lt hmem
         have hpF:placeOf F ((ya:Int),(yb:Int)) = p:=(prefix_idx HhTF.out hmem).trans hp.symm
         rw [← hp] at hat
         rw [hat]
         have hT1o:=Hhold'.out hmem
         have hp0:¬ ((p:Int) < 0):=by omega
         have hSa:=hSj.alloc_ (.cells #[.int .i64 (p:Int)] 3)
         have HR:=qh (hSa.row 7 rfl)
         have Hhp:=qh hp;clear hp
         have HhpF:=qh hpF;clear hpF
         have HhT1o:=qh hT1o;clear hT1o
         have HhSa:=qh hSa;clear hSa
         clear hSj hbj hat
         go_wp2_with (at_builtin;refine wpList_append_lies _ rfl _ _ _ rfl _ 3 i0 (.int .i64 0) 1 8 Tryz.underlying67 Hhi.out Hhz0.out Hhz1.out Hhz2.out rfl (by omega) _ c _ rfl HR.out ⟨wr.heap.size,0,none⟩ 1 1 [.int .i64 (p:Int)] rfl rfl (World.news_of_block (heap_alloc_new wr _)) one_int (by omega) (by unfold maxLen;omega) (by omega) HhSa.out.size _ rfl ?_;intro g6 c6 w6 hown6 hgrow6 hat6 hlt6;have HS6:=qh (HhSa.out.app 7 rfl hown6 hgrow6 hat6);clear hown6 hgrow6 hat6 hlt6)
         go_roundw
         case rel =>
          refine ⟨c+1,n1,cap1,_,_,vs1,by go_num,by rw [← HhT1.out,HhT1o.out],rfl,by omega,?_⟩
          rw [← HhT1.out,HhT1o.out,Hhrow.out,HhpF.out,intCells_snoc]
          exact HS6.out.pick [0,1,2,3,4,5,6,7] (by decide)
         case measure => simp [intOf];omega
        ·rw [if_neg hmem] at hat
         rw [hat]
         have hT1n:=Hhnew'.out hmem
         have hpF:placeOf F ((ya:Int),(yb:Int)) = T.length:=idx_snoc (by rw [← hT1n];exact HhTF2.out) hmem
         have hTlt:=HhTl.out
         have hSa:=((hSj.alloc _ rfl #[.int .i64 (ya:Int),.int .i64 (yb:Int)] 3).boxrow 8 2 1 [.int .i64 (ya:Int),.int .i64 (yb:Int)] rfl rfl (by unfold maxLen;omega)).alloc (wr.heap.size+1) (by simp) #[.slice (some ⟨wr.heap.size,0,none⟩) 2 2] 67
         have hR:=(hSa.rows 3 rfl).1
         rw [Hhlm.out] at hR
         have HhpF:=qh hpF;clear hpF
         have HhT1n:=qh hT1n;clear hT1n
         have HhSa:=qh hSa;clear hSa
         have HhR:=qh hR;clear hR
         clear hSj hbj hat
         go_wp2_with (first
          | (at_builtin;refine wpList_append_lies _ rfl _ _ _ rfl _ 67 j0 (.slice none 0 0) 1 24 Tryz.underlying22 Hhj.out Hhy0.out Hhy1.out Hhy2.out rfl (by omega) _ T.length _ rfl HhR.out ⟨wr.heap.size+1,0,none⟩ 1 1 [.slice (some ⟨wr.heap.size,0,none⟩) 2 2] rfl rfl (World.news_of_block (HhSa.out.box 9 rfl)) one_slice (by omega) (by unfold maxLen;omega) (by omega) HhSa.out.size _ rfl ?_;intro g6 c6 w6 hown6 hgrow6 hat6 hlt6;have HS6:=qh ((HhSa.out.snoc 3 8 (by decide) rfl rfl (by decide) hgrow6 (by rw [Hhlm.out];exact hown6) (hat_of hat6)).alloc_ (.cells #[.int .i64 (T.length:Int)] 3));have HR6:=qh (HS6.out.row 7 rfl);clear hown6 hgrow6 hat6 hlt6)
          | (at_builtin;refine wpList_append_lies _ rfl _ _ _ rfl _ 3 i0 (.int .i64 0) 1 8 Tryz.underlying67 Hhi.out Hhz0.out Hhz1.out Hhz2.out rfl (by omega) _ c _ rfl HR6.out ⟨w6.heap.size,0,none⟩ 1 1 [.int .i64 (T.length:Int)] rfl rfl (World.news_of_block (heap_alloc_new w6 _)) one_int (by omega) (by unfold maxLen;omega) (by omega) HS6.out.size _ rfl ?_;intro g7 c7 w7 hown7 hgrow7 hat7 hlt7;have HS7:=qh (HS6.out.app 7 rfl hown7 hgrow7 hat7);clear hown7 hgrow7 hat7 hlt7))
         go_roundw
         case rel =>
          refine ⟨c+1,g6,c6,g7,c7,vs1 ++ [.slice (some ⟨wr.heap.size,0,none⟩) 2 2],by go_num,by rw [← HhT1.out,HhT1n.out,List.length_append];rfl,rfl,by omega,?_⟩
          rw [← HhT1.out,HhT1n.out,Hhrow.out,HhpF.out,intCells_snoc,List.map_append,List.map_append,List.length_append]
          exact HS7.out.pick [0,1,2,3,4,5,6,7] (by decide)
         case measure => simp [intOf];omega
     ·obtain rfl:c = 3:=by omega
      have hbs:bat (stepP a b) (0,0) (k+1) = bpart (stepP a b) (0,0) k 3:=bat_succ HhkS.out
      have hle3:=bpart_len (stepP a b) (0,0) k 3
      have hTS:=(bpart_le (nx:=stepP a b) (a:=(0,0)) (k:=k) (Nat.zero_le 3)).1
      rw [bpart_zero] at hTS
      rw [← HhSS.out] at hle3 hTS
      obtain ⟨T,hT⟩:∃ T,T = (bpart (stepP a b) (0,0) k 3).met:=⟨_,rfl⟩
      rw [← hT] at hle3 hTS hSi
      rw [← hT]
      have hkl:k+1 ≤ T.length:=Nat.le_trans hlt hTS.length_le
      have htk:T.take (k+1) = S.met.take k ++ [x]:=by
       obtain ⟨t,ht⟩:=hTS
       rw [← ht,List.take_append_of_le_length (by omega),List.take_succ_eq_append_getElem hlt,Hhx.out]
       simp [hlt]
      have hn3:(numRow (stepP a b) F x).take 3 = numRow (stepP a b) F x:=List.take_of_length_le (by simp [numRow])
      have hlm2:(((S.met.take k).map (numRow (stepP a b) F)).map intCells).length = k:=by rw [map2_len,List.length_take];omega
      rw [hn3] at hSi
      have e4:=hSi.cell (v:=.slice a2 k c2) 4 0 rfl rfl
      have hSa:=hSi.alloc_ (.cells #[.slice (some ⟨b5,0,none⟩) 3 cap3] 67)
      have hR:=(hSa.rows 5 rfl).1
      rw [hlm2] at hR
      have Hhbs:=qh hbs;clear hbs
      have Hhle3:=qh hle3;clear hle3
      have HhTS:=qh hTS;clear hTS
      have Hhtk:=qh htk;clear htk
      have Hhn3:=qh hn3;clear hn3
      have Hhlm2:=qh hlm2;clear hlm2
      have HhT:=qh hT;clear hT
      have HhSi:=qh hSi;clear hSi
      have HhSa:=qh hSa;clear hSa
      have HhR:=qh hR;clear hR
      go_wp2_with (at_builtin;refine wpList_append_lies _ rfl _ _ _ rfl _ 67 j0 (.slice none 0 0) 1 24 Tryz.underlying22 Hhj.out Hhy0.out Hhy1.out Hhy2.out rfl (by omega) _ k _ rfl HhR.out ⟨wp.heap.size,0,none⟩ 1 1 [.slice (some ⟨b5,0,none⟩) 3 cap3] rfl rfl (World.news_of_block (heap_alloc_new wp _)) one_slice (by omega) (by unfold maxLen;omega) (by omega) HhSa.out.size _ rfl ?_;intro g6 c6 w6 hown6 hgrow6 hat6 hlt6;have HS6:=qh (HhSa.out.snoc 5 7 (by decide) rfl rfl (by decide) hgrow6 (by rw [Hhlm2.out];exact hown6) (hat_of hat6));have f4:=HS6.out.fr 4 0 rfl;have k4:=HS6.out.cell (v:=.slice a2 k c2) 4 0 rfl rfl;clear hown6 hgrow6 hat6 hlt6)
      have hS7:=(HS6.out.set 4 rfl 0 (.slice (some ⟨g6,0,none⟩) (k+1) c6)).pick [0,1,2,3,4,5,6] (by decide)
      obtain ⟨w7,hw7⟩:∃ w7,w7 = w6.setCell ⟨w.heap.size+1+1+1+1+1,0,none⟩ (.slice (some ⟨g6,0,none⟩) (k+1) c6):=⟨_,rfl⟩
      rw [← hw7] at hS7
      rw [← hw7]
      have hlm:((T.map prw).map intCells).length = T.length:=map2_len _ _ _
      have hxT:T.getD k (0,0) = ((i:Int),(j:Int)):=((prefix_getD HhTS.out hlt _).trans Hhx.out.symm).trans Hhxij.out
      have hkT:k < T.length:=by omega
      have hkT2:(k:Int) < T.length:=by omega
      have hcs:((T.map prw).map intCells).getD k [] = [.int .i64 (i:Int),.int .i64 (j:Int)]:=by
       have:((T.map prw).map intCells).getD k [] = intCells (prw (T.getD k (0,0))):=by simp [hkT]
       rw [this,hxT]
       rfl
      obtain ⟨ax,cxx,hcell,hxr,hcx1,hcx2,hcp1,hcp2,hb1l⟩:=hS7.rowAt 3 rfl hlm hkT
      rw [hcs] at hcell hxr hcx1
      obtain ⟨gx,cx',hvx,hgx1,hgx2⟩:=hxr.form (by simp)
      simp only [Value.slice.injEq,List.length_cons,List.length_nil] at hvx
      obtain ⟨rfl,-,rfl⟩:=hvx
      have p0:=hxr.cellAt 0 (by simp)
      have p1:=hxr.cellAt 1 (by simp)
      simp only [List.getElem?_cons_zero,List.getElem?_cons_succ] at p0 p1
      simp only [List.length_cons,List.length_nil] at hcell hcx1
      have v5:=(HCa.out.below hS7.bel).en i (by have:=HhLA.out;omega)
      have v6:=(HCb.out.below hS7.bel).en j (by have:=HhLB.out;omega)
      have e0:=hS7.cell (v:=.slice (some ⟨b2,o2,none⟩) LA cw) 0 1 rfl rfl
      have e1:=hS7.cell (v:=.slice (some ⟨b4,o4,none⟩) LB cy) 1 1 rfl rfl
      obtain ⟨ea,hea⟩:∃ e,e = enD a i:=⟨_,rfl⟩
      obtain ⟨eb,heb⟩:∃ e,e = enD b j:=⟨_,rfl⟩
      have hEx:endsF f a b x = f ea eb:=by rw [Hhxij.out,hea,heb];rfl
      rw [← hea] at v5
      rw [← heb] at v6
      have HhS7:=qh hS7;clear hS7
      have Hhw7:=qh hw7;clear hw7
      have Hhlm:=qh hlm;clear hlm
      have HhxT:=qh hxT;clear hxT
      have Hhea:=qh hea;clear hea
      have Hheb:=qh heb;clear heb
      have HhEx:=qh hEx;clear hEx
      clear hcs hxr e4 f4 k4
      go_quiet (fail)
      obtain ⟨m1,hm1⟩:∃ n,n = nq:=⟨_,rfl⟩
      subst hm1
      go_wp2
      go_quiet (fail)
      obtain ⟨m2,hm2⟩:∃ n,n = nq:=⟨_,rfl⟩
      subst hm2
      obtain ⟨w8,hw8⟩:∃ w8,w8 = (w7.drewN m1).drewN m2:=⟨_,rfl⟩
      have hS8:=(HhS7.out.drewN m1).drewN m2
      rw [← hw8] at hS8
      rw [← hw8]
      have d5:=hS8.cell (v:=.slice a3 k c3) 4 1 rfl rfl
      have HhS8:=qh hS8;clear hS8
      clear e0 e1 v5 v6 hcell p0 p1 hw8
      rcases Hhmode.out with rfl | rfl
      ·cases ea <;> cases eb
       ·have hR:endsF f a b x = false:=HhEx.out.trans ((Hhf.out false false).symm.trans (by decide))
        have hSb:=HhS8.out.alloc_ (.cells #[.bool false] 4)
        have HRb:=qh (hSb.row 6 rfl)
        have HR9:=qh hR;clear hR
        have HhSb:=qh hSb;clear hSb
        go_wp2_with (at_builtin;refine wpList_append_lies _ rfl _ _ _ rfl _ 4 k0 (.bool false) 1 1 Tryz.underlying23 Hhk.out Hhx0.out Hhx1.out Hhx2.out rfl (by omega) _ k _ rfl HRb.out ⟨w8.heap.size,0,none⟩ 1 1 [.bool false] rfl rfl (World.news_of_block (heap_alloc_new w8 _)) one_bool (by omega) (by unfold maxLen;omega) (by omega) HhSb.out.size _ rfl ?_;intro g9 c9 w9 hown9 hgrow9 hat9 hlt9;have HS9:=qh (HhSb.out.app 6 rfl hown9 hgrow9 hat9);have z1:=HS9.out.cell (v:=.slice a3 k c3) 4 1 rfl rfl;have z2:=HS9.out.fr 4 1 rfl;clear hown9 hgrow9 hat9 hlt9)
        go_roundw
        case rel =>
         refine ⟨k+1,n1,cap1,c6,c9,some ⟨g6,0,none⟩,some ⟨g9,0,none⟩,vs1,vs2 ++ [.slice (some ⟨b5,0,none⟩) 3 cap3],by go_num,rfl,by rw [Hhbs.out,HhT.out],by rw [Hhbs.out,← HhT.out];exact hkl,by omega,by rw [Hhbs.out,← HhT.out];have:=Hhle3.out;omega,?_⟩
         rw [Hhbs.out,← HhT.out,Hhtk.out,map_snoc2,map_snocB,HR9.out]
         exact (HS9.out.set 4 rfl 1 (.slice (some ⟨g9,0,none⟩) (k+1) c9)).pick [0,1,2,3,4,5,6] (by decide)
        case measure => simp [intOf];omega
       ·have hR:endsF f a b x = false:=HhEx.out.trans ((Hhf.out false true).symm.trans (by decide))
        have hSb:=HhS8.out.alloc_ (.cells #[.bool false] 4)
        have HRb:=qh (hSb.row 6 rfl)
        have HR9:=qh hR;clear hR
        have HhSb:=qh hSb;clear hSb
        go_wp2_with (at_builtin;refine wpList_append_lies _ rfl _ _ _ rfl _ 4 k0 (.bool false) 1 1 Tryz.underlying23 Hhk.out Hhx0.out Hhx1.out Hhx2.out rfl (by omega) _ k _ rfl HRb.out ⟨w8.heap.size,0,none⟩ 1 1 [.bool false] rfl rfl (World.news_of_block (heap_alloc_new w8 _)) one_bool (by omega) (by unfold maxLen;omega) (by omega) HhSb.out.size _ rfl ?_;intro g9 c9 w9 hown9 hgrow9 hat9 hlt9;have HS9:=qh (HhSb.out.app 6 rfl hown9 hgrow9 hat9);have z1:=HS9.out.cell (v:=.slice a3 k c3) 4 1 rfl rfl;have z2:=HS9.out.fr 4 1 rfl;clear hown9 hgrow9 hat9 hlt9)
        go_roundw
        case rel =>
         refine ⟨k+1,n1,cap1,c6,c9,some ⟨g6,0,none⟩,some ⟨g9,0,none⟩,vs1,vs2 ++ [.slice (some ⟨b5,0,none⟩) 3 cap3],by go_num,rfl,by rw [Hhbs.out,HhT.out],by rw [Hhbs.out,← HhT.out];exact hkl,by omega,by rw [Hhbs.out,← HhT.out];have:=Hhle3.out;omega,?_⟩
         rw [Hhbs.out,← HhT.out,Hhtk.out,map_snoc2,map_snocB,HR9.out]
         exact (HS9.out.set 4 rfl 1 (.slice (some ⟨g9,0,none⟩) (k+1) c9)).pick [0,1,2,3,4,5,6] (by decide)
        case measure => simp [intOf];omega
       ·have hR:endsF f a b x = false:=HhEx.out.trans ((Hhf.out true false).symm.trans (by decide))
        have hSb:=HhS8.out.alloc_ (.cells #[.bool false] 4)
        have HRb:=qh (hSb.row 6 rfl)
        have HR9:=qh hR;clear hR
        have HhSb:=qh hSb;clear hSb
        go_wp2_with (at_builtin;refine wpList_append_lies _ rfl _ _ _ rfl _ 4 k0 (.bool false) 1 1 Tryz.underlying23 Hhk.out Hhx0.out Hhx1.out Hhx2.out rfl (by omega) _ k _ rfl HRb.out ⟨w8.heap.size,0,none⟩ 1 1 [.bool false] rfl rfl (World.news_of_block (heap_alloc_new w8 _)) one_bool (by omega) (by unfold maxLen;omega) (by omega) HhSb.out.size _ rfl ?_;intro g9 c9 w9 hown9 hgrow9 hat9 hlt9;have HS9:=qh (HhSb.out.app 6 rfl hown9 hgrow9 hat9);have z1:=HS9.out.cell (v:=.slice a3 k c3) 4 1 rfl rfl;have z2:=HS9.out.fr 4 1 rfl;clear hown9 hgrow9 hat9 hlt9)
        go_roundw
        case rel =>
         refine ⟨k+1,n1,cap1,c6,c9,some ⟨g6,0,none⟩,some ⟨g9,0,none⟩,vs1,vs2 ++ [.slice (some ⟨b5,0,none⟩) 3 cap3],by go_num,rfl,by rw [Hhbs.out,HhT.out],by rw [Hhbs.out,← HhT.out];exact hkl,by omega,by rw [Hhbs.out,← HhT.out];have:=Hhle3.out;omega,?_⟩
         rw [Hhbs.out,← HhT.out,Hhtk.out,map_snoc2,map_snocB,HR9.out]
         exact (HS9.out.set 4 rfl 1 (.slice (some ⟨g9,0,none⟩) (k+1) c9)).pick [0,1,2,3,4,5,6] (by decide)
        case measure => simp [intOf];omega
       ·have hR:endsF f a b x = true:=HhEx.out.trans ((Hhf.out true true).symm.trans (by decide))
        have hSb:=HhS8.out.alloc_ (.cells #[.bool true] 4)
        have HRb:=qh (hSb.row 6 rfl)
        have HR9:=qh hR;clear hR
        have HhSb:=qh hSb;clear hSb
        go_wp2_with (at_builtin;refine wpList_append_lies _ rfl _ _ _ rfl _ 4 k0 (.bool false) 1 1 Tryz.underlying23 Hhk.out Hhx0.out Hhx1.out Hhx2.out rfl (by omega) _ k _ rfl HRb.out ⟨w8.heap.size,0,none⟩ 1 1 [.bool true] rfl rfl (World.news_of_block (heap_alloc_new w8 _)) one_bool (by omega) (by unfold maxLen;omega) (by omega) HhSb.out.size _ rfl ?_;intro g9 c9 w9 hown9 hgrow9 hat9 hlt9;have HS9:=qh (HhSb.out.app 6 rfl hown9 hgrow9 hat9);have z1:=HS9.out.cell (v:=.slice a3 k c3) 4 1 rfl rfl;have z2:=HS9.out.fr 4 1 rfl;clear hown9 hgrow9 hat9 hlt9)
        go_roundw
        case rel =>
         refine ⟨k+1,n1,cap1,c6,c9,some ⟨g6,0,none⟩,some ⟨g9,0,none⟩,vs1,vs2 ++ [.slice (some ⟨b5,0,none⟩) 3 cap3],by go_num,rfl,by rw [Hhbs.out,HhT.out],by rw [Hhbs.out,← HhT.out];exact hkl,by omega,by rw [Hhbs.out,← HhT.out];have:=Hhle3.out;omega,?_⟩
         rw [Hhbs.out,← HhT.out,Hhtk.out,map_snoc2,map_snocB,HR9.out]
         exact (HS9.out.set 4 rfl 1 (.slice (some ⟨g9,0,none⟩) (k+1) c9)).pick [0,1,2,3,4,5,6] (by decide)
        case measure => simp [intOf];omega
      ·cases ea <;> cases eb
       ·have hR:endsF f a b x = false:=HhEx.out.trans ((Hhf.out false false).symm.trans (by decide))
        have hSb:=HhS8.out.alloc_ (.cells #[.bool false] 4)
        have HRb:=qh (hSb.row 6 rfl)
        have HR9:=qh hR;clear hR
        have HhSb:=qh hSb;clear hSb
        go_wp2_with (at_builtin;refine wpList_append_lies _ rfl _ _ _ rfl _ 4 k0 (.bool false) 1 1 Tryz.underlying23 Hhk.out Hhx0.out Hhx1.out Hhx2.out rfl (by omega) _ k _ rfl HRb.out ⟨w8.heap.size,0,none⟩ 1 1 [.bool false] rfl rfl (World.news_of_block (heap_alloc_new w8 _)) one_bool (by omega) (by unfold maxLen;omega) (by omega) HhSb.out.size _ rfl ?_;intro g9 c9 w9 hown9 hgrow9 hat9 hlt9;have HS9:=qh (HhSb.out.app 6 rfl hown9 hgrow9 hat9);have z1:=HS9.out.cell (v:=.slice a3 k c3) 4 1 rfl rfl;have z2:=HS9.out.fr 4 1 rfl;clear hown9 hgrow9 hat9 hlt9)
        go_roundw
        case rel =>
         refine ⟨k+1,n1,cap1,c6,c9,some ⟨g6,0,none⟩,some ⟨g9,0,none⟩,vs1,vs2 ++ [.slice (some ⟨b5,0,none⟩) 3 cap3],by go_num,rfl,by rw [Hhbs.out,HhT.out],by rw [Hhbs.out,← HhT.out];exact hkl,by omega,by rw [Hhbs.out,← HhT.out];have:=Hhle3.out;omega,?_⟩
         rw [Hhbs.out,← HhT.out,Hhtk.out,map_snoc2,map_snocB,HR9.out]
         exact (HS9.out.set 4 rfl 1 (.slice (some ⟨g9,0,none⟩) (k+1) c9)).pick [0,1,2,3,4,5,6] (by decide)
        case measure => simp [intOf];omega
       ·have hR:endsF f a b x = true:=HhEx.out.trans ((Hhf.out false true).symm.trans (by decide))
        have hSb:=HhS8.out.alloc_ (.cells #[.bool true] 4)
        have HRb:=qh (hSb.row 6 rfl)
        have HR9:=qh hR;clear hR
        have HhSb:=qh hSb;clear hSb
        go_wp2_with (at_builtin;refine wpList_append_lies _ rfl _ _ _ rfl _ 4 k0 (.bool false) 1 1 Tryz.underlying23 Hhk.out Hhx0.out Hhx1.out Hhx2.out rfl (by omega) _ k _ rfl HRb.out ⟨w8.heap.size,0,none⟩ 1 1 [.bool true] rfl rfl (World.news_of_block (heap_alloc_new w8 _)) one_bool (by omega) (by unfold maxLen;omega) (by omega) HhSb.out.size _ rfl ?_;intro g9 c9 w9 hown9 hgrow9 hat9 hlt9;have HS9:=qh (HhSb.out.app 6 rfl hown9 hgrow9 hat9);have z1:=HS9.out.cell (v:=.slice a3 k c3) 4 1 rfl rfl;have z2:=HS9.out.fr 4 1 rfl;clear hown9 hgrow9 hat9 hlt9)
        go_roundw
        case rel =>
         refine ⟨k+1,n1,cap1,c6,c9,some ⟨g6,0,none⟩,some ⟨g9,0,none⟩,vs1,vs2 ++ [.slice (some ⟨b5,0,none⟩) 3 cap3],by go_num,rfl,by rw [Hhbs.out,HhT.out],by rw [Hhbs.out,← HhT.out];exact hkl,by omega,by rw [Hhbs.out,← HhT.out];have:=Hhle3.out;omega,?_⟩
         rw [Hhbs.out,← HhT.out,Hhtk.out,map_snoc2,map_snocB,HR9.out]
         exact (HS9.out.set 4 rfl 1 (.slice (some ⟨g9,0,none⟩) (k+1) c9)).pick [0,1,2,3,4,5,6] (by decide)
        case measure => simp [intOf];omega
       ·have hR:endsF f a b x = true:=HhEx.out.trans ((Hhf.out true false).symm.trans (by decide))
        have hSb:=HhS8.out.alloc_ (.cells #[.bool true] 4)
        have HRb:=qh (hSb.row 6 rfl)
        have HR9:=qh hR;clear hR
        have HhSb:=qh hSb;clear hSb
        go_wp2_with (at_builtin;refine wpList_append_lies _ rfl _ _ _ rfl _ 4 k0 (.bool false) 1 1 Tryz.underlying23 Hhk.out Hhx0.out Hhx1.out Hhx2.out rfl (by omega) _ k _ rfl HRb.out ⟨w8.heap.size,0,none⟩ 1 1 [.bool true] rfl rfl (World.news_of_block (heap_alloc_new w8 _)) one_bool (by omega) (by unfold maxLen;omega) (by omega) HhSb.out.size _ rfl ?_;intro g9 c9 w9 hown9 hgrow9 hat9 hlt9;have HS9:=qh (HhSb.out.app 6 rfl hown9 hgrow9 hat9);have z1:=HS9.out.cell (v:=.slice a3 k c3) 4 1 rfl rfl;have z2:=HS9.out.fr 4 1 rfl;clear hown9 hgrow9 hat9 hlt9)
        go_roundw
        case rel =>
         refine ⟨k+1,n1,cap1,c6,c9,some ⟨g6,0,none⟩,some ⟨g9,0,none⟩,vs1,vs2 ++ [.slice (some ⟨b5,0,none⟩) 3 cap3],by go_num,rfl,by rw [Hhbs.out,HhT.out],by rw [Hhbs.out,← HhT.out];exact hkl,by omega,by rw [Hhbs.out,← HhT.out];have:=Hhle3.out;omega,?_⟩
         rw [Hhbs.out,← HhT.out,Hhtk.out,map_snoc2,map_snocB,HR9.out]
         exact (HS9.out.set 4 rfl 1 (.slice (some ⟨g9,0,none⟩) (k+1) c9)).pick [0,1,2,3,4,5,6] (by decide)
        case measure => simp [intOf];omega
       ·have hR:endsF f a b x = true:=HhEx.out.trans ((Hhf.out true true).symm.trans (by decide))
        have hSb:=HhS8.out.alloc_ (.cells #[.bool true] 4)
        have HRb:=qh (hSb.row 6 rfl)
        have HR9:=qh hR;clear hR
        have HhSb:=qh hSb;clear hSb
        go_wp2_with (at_builtin;refine wpList_append_lies _ rfl _ _ _ rfl _ 4 k0 (.bool false) 1 1 Tryz.underlying23 Hhk.out Hhx0.out Hhx1.out Hhx2.out rfl (by omega) _ k _ rfl HRb.out ⟨w8.heap.size,0,none⟩ 1 1 [.bool true] rfl rfl (World.news_of_block (heap_alloc_new w8 _)) one_bool (by omega) (by unfold maxLen;omega) (by omega) HhSb.out.size _ rfl ?_;intro g9 c9 w9 hown9 hgrow9 hat9 hlt9;have HS9:=qh (HhSb.out.app 6 rfl hown9 hgrow9 hat9);have z1:=HS9.out.cell (v:=.slice a3 k c3) 4 1 rfl rfl;have z2:=HS9.out.fr 4 1 rfl;clear hown9 hgrow9 hat9 hlt9)
        go_roundw
        case rel =>
         refine ⟨k+1,n1,cap1,c6,c9,some ⟨g6,0,none⟩,some ⟨g9,0,none⟩,vs1,vs2 ++ [.slice (some ⟨b5,0,none⟩) 3 cap3],by go_num,rfl,by rw [Hhbs.out,HhT.out],by rw [Hhbs.out,← HhT.out];exact hkl,by omega,by rw [Hhbs.out,← HhT.out];have:=Hhle3.out;omega,?_⟩
         rw [Hhbs.out,← HhT.out,Hhtk.out,map_snoc2,map_snocB,HR9.out]
         exact (HS9.out.set 4 rfl 1 (.slice (some ⟨g9,0,none⟩) (k+1) c9)).pick [0,1,2,3,4,5,6] (by decide)
        case measure => simp [intOf];omega
   ·have hle2:((S.met.length:Int) > 40):=by omega
    have hlt2:(k:Int) < S.met.length:=by omega
    have hbig:¬ ((metP a b K).length ≤ K):=by
     have h:=(bat_le (nx:=stepP a b) (a:=(0,0)) hkK).1.length_le
     rw [← HhSS.out] at h
     unfold metP
     omega
    have f0:=HhS.out.fr 2 0 rfl
    have f1:=HhS.out.fr 2 1 rfl
    have q0:=HhS.out.cell (v:=.slice none 0 0) 2 0 rfl rfl
    have q1:=HhS.out.cell (v:=.slice none 0 0) 2 1 rfl rfl
    have Hhbig:=qh hbig;clear hbig
    go_wp2
    have hq:=(HhS.out.set 2 rfl 0 (.slice none 0 0)).set 2 rfl 1 (.slice none 0 0)
    have q0:=hq.cell (v:=.slice none 0 0) 2 0 rfl rfl
    have q1:=hq.cell (v:=.slice none 0 0) 2 1 rfl rfl
    refine bodyPost_ret (v:=.tuple #[.agg #[.slice none 0 0,.slice none 0 0],.bool false]) (by simp [results,Tryz.results99,go_sem,q0,q1]) rfl ?_
    unfold pairK
    rw [if_neg Hhbig.out]
    exact ⟨none,0,none,0,rfl,zeroD_r _ _,hq.bel⟩
  ·have hkl:k = S.met.length:=by omega
   have hfin:metP a b K = S.met:=by
    have h:=bat_done (nx:=stepP a b) (a:=(0,0)) (k:=k) (m:=K) (by rw [← HhSS.out];omega) hkK
    unfold metP
    rw [h,← HhSS.out]
   have hk40:(S.met.length:Int) ≤ 40:=by omega
   have d0:=HhS.out.cell (v:=.slice a2 k c2) 4 0 rfl rfl
   have d1:=HhS.out.cell (v:=.slice a3 k c3) 4 1 rfl rfl
   have f0:=HhS.out.fr 2 0 rfl
   have f1:=HhS.out.fr 2 1 rfl
   have q0:=HhS.out.cell (v:=.slice none 0 0) 2 0 rfl rfl
   have q1:=HhS.out.cell (v:=.slice none 0 0) 2 1 rfl rfl
   have hge:¬ ((k:Int) < S.met.length):=by omega
   have Hhkl:=qh hkl;clear hkl
   have Hhfin:=qh hfin;clear hfin
   go_wp2
   have hq:=(HhS.out.set 2 rfl 0 (.slice a2 k c2)).set 2 rfl 1 (.slice a3 k c3)
   have q0:=hq.cell (v:=.slice a2 k c2) 2 0 rfl rfl
   have q1:=hq.cell (v:=.slice a3 k c3) 2 1 rfl rfl
   refine bodyPost_ret (v:=.tuple #[.agg #[.slice a2 k c2,.slice a3 k c3],.bool true]) (by simp [results,Tryz.results99,go_sem,q0,q1]) rfl ?_
   unfold pairK
   rw [Hhfin.out,if_pos (by have:=Hhkl.out;omega)]
   have hN:(numDfa (stepP a b) (endsF f a b) S.met).next.length = k ∧ (numDfa (stepP a b) (endsF f a b) S.met).ends.length = k:=by
    rw [numDfa_len,Hhkl.out]
    exact ⟨rfl,by simp [numDfa]⟩
   refine ⟨a2,c2,a3,c3,?_,?_,hq.bel⟩
   ·rw [Option.getD_some,hN.1,hN.2]
    rfl
   ·rw [Option.getD_some,hN.1,hN.2]
    have ht:S.met.take k = S.met:=List.take_of_length_le (by have:=Hhkl.out;omega)
    rw [ht,show F = S.met from HhF.out.trans Hhfin.out] at hq
    exact ⟨_,_,rfl,(hq.intSS 5 rfl).intSS,boolsB_of_row (hq.row 6 rfl)⟩
end Go.Proofs.YtfgpkadhegdffaaGreat
