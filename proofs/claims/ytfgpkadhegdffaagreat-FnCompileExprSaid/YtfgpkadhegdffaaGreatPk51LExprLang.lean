/-
  The walk over the program's counts: an array of 31 rows, by value.
  Condition: the automaton is valid and reads as such.
-/
import Derived.Test.YtfgpkadhegdffaaGreatPk40De
import Derived.Test.YtfgpkadhegdffaaGreatPk49Cmx
import Derived.Test.YtfgpkadhegdffaaGreatPk50Led
set_option maxHeartbeats 16000000
set_option maxRecDepth 100000
namespace Go.Proofs.YtfgpkadhegdffaaGreat
open Go.RowKit
def cwN (d:DfaD) (l s:Nat):Nat:=cntD d l (s:Int)
def psN (d:DfaD) (l s:Nat):Nat→Nat
 | 0=>0
 | c+1=>psN d l s c+cwN d l (nxD d s c)
theorem Zq1 {d:DfaD} {l s:Nat} (h:l≤30):cwN d l s≤205891132094649:=Zm9 h
theorem ZqT {d:DfaD} {l s:Nat} (h:l≤30):∀ c,psN d l s c≤c*205891132094649
 | 0=>by simp[psN]
 | c+1=>by have:=ZqT (d:=d) (s:=s) h c;have:=Zq1 (d:=d) (s:=nxD d s c) h;show psN d l s c+cwN d l (nxD d s c)≤_;omega
theorem ZqA (d:DfaD) (s:Nat):cwN d 0 s=if enD d s=true then 1 else 0:=by show cntD d 0 (s:Int)=_;rw[Zo8,Za7]
theorem ZqB {d:DfaD} {l s:Nat} (h:∀ c,c<3→dnx d (s:Int) c=(nxD d s c:Nat)):cwN d (l+1) s=psN d l s 3:=by show cntD d (l+1) (s:Int)=0+cwN d l (nxD d s 0)+cwN d l (nxD d s 1)+cwN d l (nxD d s 2);rw[Zo9,h 0 (by omega),h 1 (by omega),h 2 (by omega),Nat.zero_add];rfl
def arrC (vs:List Value):Array Value:=(vs++List.replicate (31-vs.length) (Value.slice none 0 0)).toArray
theorem Zlr {vs:List Value} {l:Nat} (h:l<vs.length):(arrC vs)[l]? = some (vs.getD l undef):=by unfold arrC;rw[List.getElem?_toArray,List.getElem?_append_left h];simp[h]
theorem ZqJ {vs:List Value} (h:vs.length<31):(arrC vs)[vs.length]? = some (.slice none 0 0):=by unfold arrC;rw[List.getElem?_toArray,List.getElem?_append_right (Nat.le_refl _),Nat.sub_self,List.getElem?_replicate,if_pos (by omega)]
theorem ZqI {vs:List Value} (h:vs.length<31) (v:Value):(arrC vs).setIfInBounds vs.length v=arrC (vs++[v]):=by unfold arrC;rw[List.setIfInBounds_toArray,List.set_append_right _ _ (Nat.le_refl _),Nat.sub_self,show 31-vs.length=(31-(vs++[v]).length)+1 by rw[List.length_append,List.length_singleton];omega,List.replicate_succ,List.set_cons_zero,List.append_assoc];rfl
theorem ZqK {vs:List Value} (h:vs.length=31):arrC vs=vs.toArray:=by unfold arrC;rw[h];simp
def CMem (d:DfaD) (X:Ent) (vs:List Value) (k:Nat):Prop:=vs.length=k∧∀ l,l<k→∃ b,vs.getD l undef = .slice (some ⟨b,0,none⟩) d.next.length d.next.length ∧
 X.inn (Ent.row 3 1 (.slice (some ⟨b,0,none⟩) d.next.length d.next.length) d.next.length (intCells (clsL d.next.length (cwN d l))))
theorem CMem.snoc {d:DfaD} {X:Ent} {vs:List Value} {k b:Nat} (h:CMem d X vs k):CMem d (Ent.all [X,Ent.row 3 1 (.slice (some ⟨b,0,none⟩) d.next.length d.next.length) d.next.length (intCells (clsL d.next.length (cwN d k)))]) (vs++[.slice (some ⟨b,0,none⟩) d.next.length d.next.length]) (k+1):=by
 obtain⟨hl,hc⟩:=h;subst hl;refine⟨by simp,fun l hlt => ?_⟩;by_cases hin:l<vs.length
 ·obtain⟨b',e,hi⟩:=hc l hin;refine⟨b',?_,Ent.inn_all (x:=X) (by simp) hi⟩;rw[← e];simp only[List.getD_eq_getElem?_getD];rw[List.getElem?_append_left hin]
 obtain rfl:l=vs.length:=by omega
 exact⟨b,by simp,Ent.inn_all (x:=Ent.row _ _ _ _ _) (by simp) (Ent.inn_refl _)⟩
theorem CMem.one {d:DfaD} {X:Ent} {vs:List Value} {k:Nat} (h:CMem d X vs k):∀ v∈vs,v.oneCell'=true:=fun v hv=>by
 obtain⟨i,hi,rfl⟩:=List.mem_iff_getElem.1 hv;obtain⟨b,e,-⟩:=h.2 i (by rw[← h.1];exact hi);have e2:vs.getD i undef=vs[i]:=by simp[hi]
 rw[← e2,e];rfl
def RCnt (d:DfaD) (w:World) (e:Ending) (w':World):Prop:=∃ vs X,e = .returned (.agg vs.toArray)∧CMem d X vs 31∧St w w' [X]
theorem Zm8 (d:DfaD) (v:Value) (w:World) (hd:Zag d.next d.ends=true) (h:DfaR 0 w v d) :
  Calls Tryz.prog 66 #[v] w fun e w'=>RCnt d w e w':=by
 obtain⟨b1,o1,cv,b2,o2,cw,rfl,hC⟩:=ZbK hd h;obtain⟨L,hL⟩:=eI (d.next.length);obtain⟨i0,hi,hz0,hz1,hz2⟩:=info_parts Tryz.infoInt;have hl2:=hC.l2;have hl1:=hC.l1;have hc1:=hC.c1;have hc2:=hC.c2;rw[← hL] at hl1 hl2 hc1 hc2;rw[← hL];have hS0:=(((St.start w).alloc _ rfl #[.slice (some ⟨b1,o1,none⟩) L cv,.slice (some ⟨b2,o2,none⟩) L cw] 25).alloc (w.heap.size+1) (by simp) (arrC []) 73).alloc (w.heap.size+1+1) (by simp) (arrC []) 73;have HS0:=qh ((hS0.add (Below.refl _ _) Ent.nil trivial (fun k hk=>hk.elim)).pick [0,2,3,1] (by decide));have HC:=qh hC;replace hd:=qh hd;replace hL:=qh hL;have Hhi:=qh hi;clear hi;have Hhz0:=qh hz0;clear hz0;have Hhz1:=qh hz1;clear hz1;have Hhz2:=qh hz2;clear hz2;clear hS0 h hC
 go_enter Tryz.func66, Tryz.ntmps66
 go_wp2
 go_loopw [9] (fun i wr=>∃ (k:Nat) (vs:List Value) (X:Ent),i = .int .i64 (k:Int)∧k≤31∧CMem d X vs k∧St w wr [Ent.box w.heap.size #[.slice (some ⟨b1,o1,none⟩) L cv,.slice (some ⟨b2,o2,none⟩) L cw] 25,Ent.box (w.heap.size+1+1) (arrC vs) 73,X,Ent.box (w.heap.size+1) (arrC []) 73]) (fun i _=>31-(intOf i).toNat)
 case atStart=>exact⟨0,[],Ent.nil,rfl,Nat.zero_le _,⟨rfl,fun l hl=>absurd hl (by omega)⟩,HS0.out⟩
 case round =>
  obtain⟨k,vs,X,rfl,hk,hM,hS⟩:=hrel;have hvl:=hM.1;by_cases hlt:k<31
  ·have hlt2:(k:Int)<31:=by omega
   have e0:=hS.cell (v:=.slice (some ⟨b1,o1,none⟩) L cv) 0 0 rfl rfl;have HS1:=qh hS;have HM:=qh hM;clear hS hM;obtain⟨wo,hwo⟩:∃ wo:World,wo=wr:=⟨_,rfl⟩;subst hwo;have hsa:=ZqI (vs:=vs) (by omega) (.slice (some ⟨wo.heap.size,0,none⟩) L L);rw[hvl] at hsa;have hnil:=ZqJ (vs:=vs) (by omega);rw[hvl] at hnil;have Hnil:=qh hnil;have Hsa:=qh hsa;have Hhvl:=qh hvl;clear hvl;clear hsa hnil;go_wp2_with (at_make;go_loud (refine wpList_make_full _ rfl _ _ 67 rfl _ 3 i0 (.int .i64 0) 1 Tryz.underlying67 Hhi.out Hhz0.out Hhz1.out .i64 .i64 _ _ L rfl rfl rfl rfl (by rw[Hhz2.out];omega) (by unfold maxLen;omega) (Nat.le_refl _) ?_;intro w1 hown hgrow;have HS2:=qh (HS1.out.made ((Below.refl _ _).grown hgrow (Nat.le_refl _) (fun _ h=>by cases h)) (Ze7 (cwN d k) hown));have k0:=HS2.out.cell (v:=.slice none 0 0) 1 k rfl Hnil.out;have f0:=HS2.out.fr 1 k rfl;have hS3:=HS2.out.set 1 rfl k (.slice (some ⟨wo.heap.size,0,none⟩) L L);rw[Hsa.out] at hS3;have HS3:=qh (show St w _ [Ent.box w.heap.size #[.slice (some ⟨b1,o1,none⟩) L cv,.slice (some ⟨b2,o2,none⟩) L cw] 25,Ent.box (w.heap.size+1+1) (arrC (vs++[.slice (some ⟨wo.heap.size,0,none⟩) L L])) 73,X,Ent.box (w.heap.size+1) (arrC []) 73,Ent.row 3 1 (.slice (some ⟨wo.heap.size,0,none⟩) L L) L (intCells (padL L 0 (cwN d k)))] from hS3);have e1:=HS3.out.cell (v:=.slice (some ⟨b1,o1,none⟩) L cv) 0 0 rfl rfl;clear hown hgrow hS3));clear e0;obtain⟨g,hg⟩:=eI (wo.heap.size);rw[← hg] at HS3 ⊢
   have Hhg:=qh hg;clear hg
   go_loopw [21] (fun i wr=>∃ s:Nat,i = .int .i64 (s:Int)∧s≤L∧St w wr [Ent.box w.heap.size #[.slice (some ⟨b1,o1,none⟩) L cv,.slice (some ⟨b2,o2,none⟩) L cw] 25,Ent.box (w.heap.size+1+1) (arrC (vs++[.slice (some ⟨g,0,none⟩) L L])) 73,X,Ent.box (w.heap.size+1) (arrC []) 73,Ent.row 3 1 (.slice (some ⟨g,0,none⟩) L L) L (intCells (padL L s (cwN d k)))]) (fun i _=>L-(intOf i).toNat)
   case atStart=>exact⟨0,rfl,Nat.zero_le _,HS3.out⟩
   case round =>
    obtain⟨s,rfl,hs,hS⟩:=hrel;by_cases hslt:s<L
    ·have hslt2:(s:Int)<L:=by omega
     have hsL:s<d.next.length:=by rw[← hL.out];exact hslt
     obtain⟨b3,o3,c3,hc31,hc32,k3,k4⟩:=Zrd HC.out hS.bel hsL;have K4:=qh k4;clear k4;obtain⟨wm,hwm⟩:∃ wm:World,wm=wr:=⟨_,rfl⟩;by_cases hk0:k=0
     ·have hk1:((k:Int)==0)=true:=by simp;omega
      have k5:=(bcell hS.bel b2 (o2+s) HC.out.hb2).trans (HC.out.en s hsL);have e2:=hS.cell (v:=.slice (some ⟨b2,o2,none⟩) L cw) 0 1 rfl rfl;have e4:=hS.cell (v:=.slice (some ⟨g,0,none⟩) L L) 1 0 rfl (by rw[Zlr (by simp)];have:=Hhvl.out;have:vs=[]:=List.eq_nil_of_length_eq_zero (by omega);subst this;rfl);rw[Zh8 _ hslt] at hS;have hz:cwN d k s=if enD d s=true then 1 else 0:=by rw[hk0];exact ZqA d s
      obtain⟨x,hx⟩:=eJ (enD d s);rw[hx] at k5 hz;have Hhx:=qh hx;clear hx;cases x
      ·have hend:=Zdu (n:=L) (s:=s) (cwN d k);rw[hz,if_neg (by simp)] at hend;rw[hend] at hS;have HS:=qh hS;have Hhz:=qh hz;clear hz;have Hhk0:=qh hk0;clear hk0;clear hS hend;go_wp2;go_roundw
       case rel=>exact⟨s+1,by go_num,by omega,HS.out⟩
       case measure=>simp[intOf];omega
      have f0:=hS.rfr 4 s rfl;have k0:=hS.rcell (v:=.int .i64 0) 4 s rfl (by omega) (ZcJ (n:=L) (cwN d k) 0);have hS3:=hS.store 4 rfl s (.int .i64 1);have hset:=Zei (n:=L) (s:=s) (cwN d k) 0 1;have hend:=Zdu (n:=L) (s:=s) (cwN d k);rw[hz,if_pos rfl] at hend;rw[show(.int .i64 1:Value) = .int .i64 ((1:Nat):Int) from rfl] at hS3;simp only[List.set_cons_succ,List.set_cons_zero] at hS3;rw[hset,hend] at hS3;have HS:=qh hS3;have Hhz:=qh hz;clear hz;have Hhk0:=qh hk0;clear hk0;clear hS hend hS3 hset;go_wp2;go_roundw
      case rel=>exact⟨s+1,by go_num,by omega,HS.out⟩
      case measure=>simp[intOf];omega
     obtain⟨l,hkl⟩:∃ l,k=l+1:=⟨k-1,by omega⟩;have hk1:((k:Int)==0)=false:=by simp;omega
     rw[Zh8 _ hslt] at hS;have HS5:=qh hS;have hsub:IntKind.i64.wrap ((k:Int)-1)=((l:Nat):Int):=by rw[IntWalk.i64_in _ (by omega)];omega
     have hll:l<31:=by omega
     have hll2:(l:Int)<31:=by omega
     have hl30:l≤30:=by omega
     have hps3:psN d l s 3=cwN d k s:=by rw[hkl];exact(ZqB (fun c hc=>HC.out.dx s c hsL hc)).symm
     obtain⟨gl,hgl,hin⟩:=HM.out.2 l (by omega);rw[← hL.out] at hgl hin;have hal:(arrC (vs++[.slice (some ⟨g,0,none⟩) L L]))[l]? = some (.slice (some ⟨gl,0,none⟩) L L):=by rw[Zlr (by rw[List.length_append,Hhvl.out];omega),← hgl];simp only[List.getD_eq_getElem?_getD];rw[List.getElem?_append_left (by rw[Hhvl.out];omega)]
     have hak:(arrC (vs++[.slice (some ⟨g,0,none⟩) L L]))[k]? = some (.slice (some ⟨g,0,none⟩) L L):=by rw[Zlr (by rw[List.length_append,Hhvl.out];simp)];have hv:=Hhvl.out;subst hv;simp
     have Hal:=qh hal;have Hak:=qh hak;have Hin:=qh hin;have Hps3:=qh hps3;have Hhkl:=qh hkl;clear hkl;clear hS hgl hin hal hak hps3 hk0 hlt;subst hwm;go_wp2
     go_loopw [39] (fun i wr=>∃ c:Nat,i = .int .i64 (c:Int)∧c≤3∧St w wr [Ent.box w.heap.size #[.slice (some ⟨b1,o1,none⟩) L cv,.slice (some ⟨b2,o2,none⟩) L cw] 25,Ent.box (w.heap.size+1+1) (arrC (vs++[.slice (some ⟨g,0,none⟩) L L])) 73,X,Ent.box (w.heap.size+1) (arrC []) 73,Ent.row 3 1 (.slice (some ⟨g,0,none⟩) L L) L (intCells (padT L s (cwN d k) (psN d l s c)))]) (fun i _=>3-(intOf i).toNat)
     case atStart=>exact⟨0,rfl,Nat.zero_le _,HS5.out⟩
     case round =>
      obtain⟨c,rfl,hc,hS⟩:=hrel;by_cases hc3:c<3
      ·have hc3I:(c:Int)<3:=by omega
       have k5:=K4.out wr hS.bel c hc3;have htL:=HC.out.lt s c hsL hc3;have hps:psN d l s (c+1)=psN d l s c+cwN d l (nxD d s c):=rfl;have hb1:=Zq1 (d:=d) (l:=l) (s:=nxD d s c) hl30;have hb2:=ZqT (d:=d) (l:=l) (s:=s) hl30 c;have hset:=Zei (n:=L) (s:=s) (cwN d k) (psN d l s c) (psN d l s (c+1));have r1:=hS.innRcell 2 (nxD d s c) rfl Hin.out (by rw[hL.out];omega) (ZaQ (cwN d l) (by rw[hL.out];exact htL));have r2:=hS.rcell (v:=.int .i64 ((psN d l s c:Nat):Int)) 4 s rfl (by omega) (ZcJ (cwN d k) (psN d l s c));rw[hps] at hset;obtain⟨t,ht⟩:=eJ (nxD d s c);rw[ht,← hL.out] at htL;rw[ht] at k5 hps hb1 hset r1;have htLI:(t:Int)<L:=by omega
       have a1:=hS.cell (v:=.slice (some ⟨gl,0,none⟩) L L) 1 l rfl Hal.out;have a2:=hS.cell (v:=.slice (some ⟨g,0,none⟩) L L) 1 k rfl Hak.out;have f2:=hS.rfr 4 s rfl;obtain⟨x,hx⟩:=eJ (cwN d l t);obtain⟨y,hy⟩:=eJ (psN d l s c);rw[hx] at r1 hps hb1 hset;rw[hy] at r2 hps hb2 hset hS;have hS6:=hS.store 4 rfl s (.int .i64 ((y:Int)+(x:Int)));rw[show((y+x:Nat):Int)=(y:Int)+(x:Int) by omega,← hps] at hset;simp only[List.set_cons_succ,List.set_cons_zero] at hS6;rw[hset] at hS6;have hw9:IntKind.i64.wrap ((y:Int)+(x:Int))=(y:Int)+(x:Int):=IntWalk.i64_in _ (by omega);have HS6:=qh hS6;have Hhps:=qh hps;clear hps;have Hhx:=qh hx;clear hx;have Hhy:=qh hy;clear hy;have Hht:=qh ht;clear ht;clear hS hS6 hset hslt hk1;go_wp2
       go_region
       go_wp2;go_roundw
       case rel=>exact⟨c+1,by go_num,by omega,HS6.out.drewN _⟩
       case measure=>simp[intOf];omega
      obtain rfl:c=3:=by omega
      rw[Hps3.out,Zdu] at hS;have HS6:=qh hS;clear hS;go_wp2;go_roundw
      case rel=>exact⟨s+1,by go_num,by omega,HS6.out⟩
      case measure=>simp[intOf];omega
    obtain rfl:s=L:=by omega
    rw[Zgy] at hS;have HS6:=qh ((hS.pick [0,1,3,2,4] (by decide)).pack (A:=[Ent.box w.heap.size #[.slice (some ⟨b1,o1,none⟩) s cv,.slice (some ⟨b2,o2,none⟩) s cw] 25,Ent.box (w.heap.size+1+1) (arrC (vs++[.slice (some ⟨g,0,none⟩) s s])) 73,Ent.box (w.heap.size+1) (arrC []) 73]) (R:=[X,Ent.row 3 1 (.slice (some ⟨g,0,none⟩) s s) s (intCells (clsL s (cwN d k)))]));clear hS;go_wp2;go_roundw
    case rel =>
     have hM2:CMem d (Ent.all [X,Ent.row 3 1 (.slice (some ⟨g,0,none⟩) s s) s (intCells (clsL s (cwN d k)))]) (vs++[.slice (some ⟨g,0,none⟩) s s]) (k+1):=by have:=HM.out.snoc (b:=g);rw[← hL.out] at this;exact this
     exact⟨k+1,vs++[Value.slice (some ⟨g,0,none⟩) s s],Ent.all [X,Ent.row 3 1 (.slice (some ⟨g,0,none⟩) s s) s (intCells (clsL s (cwN d k)))],by go_num,by omega,hM2,HS6.out.pick [0,1,3,2] (by decide)⟩
    case measure=>simp[intOf];omega
  obtain rfl:k=31:=by omega
  rw[ZqK hvl] at hS;have HS7:=qh hS;clear hS;rename_i hK0;have HK:=qh hK0;clear hK0;go_wp2;refine HK.out _ _ ?_;have hI:(Tryz.prog.info? 73).map (·.size)=some 31:=by kernel_rfl
  refine wp_seq ?_;refine wp_region_list ?_;refine Zeq rfl 73 _ rfl (w.heap.size+1+1) rfl 73 vs.toArray _ (HS7.out.box 1 rfl) Tryz.underlying73 rfl (by rw[hI];simp[hvl]) ?_;refine ZdL rfl 73 _ _ rfl (w.heap.size+1) 73 (arrC []) vs.toArray rfl rfl (HS7.out.box 3 rfl) (by rw[hI];simp[hvl]) (by simp[hvl,arrC]) (fun v hv=>hM.one v (by simpa using hv)) ?_;refine wpList_nil ?_;have HS8:=qh (HS7.out.setAll 3 rfl vs.toArray);show Code.wp Tryz.prog Code.ret _ _ _;go_wp2;refine bodyPost_ret (v:=.agg vs.toArray) (Zbp Tryz.results66 _ _ _ (w.heap.size+1) 73 vs.toArray _ rfl (HS8.out.box 3 rfl) Tryz.underlying73 rfl (by rw[hI];simp[hvl])) rfl ?_;exact⟨vs,X,rfl,hM,HS8.out.pick [2] (by decide)⟩
def cwA (d:DfaD) (n:Int):Int:=if Zag d.next d.ends=true∧0≤n∧n≤30 then((cntD d n.toNat 0:Nat):Int) else -1
theorem Zq2 {d:DfaD} {n:Int} (h:Zag d.next d.ends=false∨inB n 0 30=false):cwA d n = -1:=by
 unfold cwA;rw[if_neg];rintro⟨h1,h2,h3⟩;rcases h with h|h
 ·rw[h] at h1;cases h1
 unfold inB at h;simp at h;omega
theorem Zst (w:World) {cs:Array Value} {m:Nat} (hm:m<31) {x:Value} (hx:cs[m]? = some x):(Instr.index 73 (.agg cs) (.int .i64 (m:Int))).run Tryz.prog w = .ok x w:=by
 have h1:(0:Int)≤(m:Int)∧(m:Int)<((31:Nat):Int):=by omega
 simp[Instr.index,run_underlying Tryz.underlying73,asIntOf,go_sem,part,isAgg,run_underlying Tryz.underlying67,hx];omega
theorem Zfe (d:DfaD) (n:Int) (v:Value) (w:World) (h:DfaR 0 w v d) (r:Int) (hr:cwA d n=r) :
  Calls Tryz.prog 29 #[v,.int .i64 n] w fun e w'=>e = .returned (.int .i64 r)∧Below w.heap.size w w':=by
 have H:=qh h;obtain⟨v1,v2,rfl,g1,g2⟩:=h;have HS0:=qh ((St.start w).alloc _ rfl #[v1,v2] 25);have e0:=HS0.out.cell (v:=v1) 0 0 rfl rfl;have e1:=HS0.out.cell (v:=v2) 0 1 rfl rfl;clear g1 g2;cases hd:Zag d.next d.ends
 ·rw[Zq2 (Or.inl hd)] at hr;subst hr;replace hd:=qh hd
  go_enter Tryz.func29, Tryz.ntmps29
  go_wp2_with fail;refine(ZaK d _ _ (H.out.below HS0.out.bel) _ hd.out).mono ?_;rintro e w1 ⟨rfl,hb1⟩;have HS1:=qh (HS0.out.call hb1);clear hb1 e0 e1;go_wp2;go_ret;exact⟨rfl,HS1.out.bel⟩
 cases hin:inB n 0 30
 ·rw[Zq2 (Or.inr hin)] at hr;subst hr;replace hd:=qh hd;have Hhin:=qh hin;clear hin
  go_enter Tryz.func29, Tryz.ntmps29
  go_wp2_with fail;refine(ZaK d _ _ (H.out.below HS0.out.bel) _ hd.out).mono ?_;rintro e w1 ⟨rfl,hb1⟩;have HS1:=qh (HS0.out.call hb1);clear hb1 e0 e1;go_wp2_with (go_at_call 62;refine(ZaN _ _ _ _ _ Hhin.out).mono ?_;rintro e w' ⟨rfl,rfl⟩);go_ret;exact⟨rfl,HS1.out.bel⟩
 have hb:0≤n∧n≤30:=by have h2:=hin;unfold inB at h2;simp at h2;exact h2
 obtain⟨m,rfl⟩:=Int.eq_ofNat_of_zero_le hb.1;have hr2:((cwN d m 0:Nat):Int)=r:=by rw[← hr];unfold cwA;rw[if_pos ⟨hd,hb⟩];rfl
 have hm:m≤30:=by omega
 have hm2:m<31:=by omega
 have hl:=(Zaf hd).1;replace hd:=qh hd;have Hhin:=qh hin;clear hin;have Hhr2:=qh hr2;clear hr2;clear hr hb
 go_enter Tryz.func29, Tryz.ntmps29
 go_wp2_with fail;refine(ZaK d _ _ (H.out.below HS0.out.bel) _ hd.out).mono ?_;rintro e w1 ⟨rfl,hb1⟩;have HS1:=qh (HS0.out.call hb1);clear hb1 e0 e1;have e0:=HS1.out.cell (v:=v1) 0 0 rfl rfl;have e1:=HS1.out.cell (v:=v2) 0 1 rfl rfl;go_wp2_with (go_at_call 62;refine(ZaN _ _ _ _ _ Hhin.out).mono ?_;rintro e w' ⟨rfl,rfl⟩);refine(Zm8 d _ _ hd.out (H.out.below HS1.out.bel)).mono ?_;rintro e w2 ⟨vs,X,rfl,hM,hS⟩;obtain⟨b,hv,hi⟩:=hM.2 m hm2;have k0:=hS.innRcell 0 0 rfl hi (by omega) (ZaQ (cwN d m) (by omega));rw[Hhr2.out] at k0;have HS2:=qh (HS1.out.call hS.bel);have hvl:=hM.1;have hix:vs.toArray[m]? = some (.slice (some ⟨b,0,none⟩) d.next.length d.next.length):=by rw[List.getElem?_toArray,← hv];simp[hvl,hm2]
 have hrx:=Zst w2 hm2 hix;clear e0 e1 hS hM hi hv hix;go_wp2;go_ret;exact⟨rfl,HS2.out.bel⟩
def cntG (f:Nat→Bool):Nat→Nat
 | 0=>0
 | m+1=>cntG f m+(if f m=true then 1 else 0)
theorem Zo7 (f:Nat→Bool):∀ m,cntG f m≤m
 | 0=>Nat.le_refl _
 | m+1=>by
  have:=Zo7 f m;unfold cntG
  split<;>omega
theorem ZqE {f:Nat→Bool} {p:List Nat→Bool} (h:∀ m,m<27→f m=p [m / 9,m / 3 % 3,m % 3]):cntG f 27=cntP 3 p:=by
 have e:∀ m:Nat,m<27→(if f m=true then 1 else 0)=if p [m / 9,m / 3 % 3,m % 3]=true then 1 else 0:=fun m hm=>by rw[h m hm]
 simp only[cntG,cntP];rw[e 0 (by omega),e 1 (by omega),e 2 (by omega),e 3 (by omega),e 4 (by omega),e 5 (by omega),e 6 (by omega),e 7 (by omega),e 8 (by omega),e 9 (by omega),e 10 (by omega),e 11 (by omega),e 12 (by omega),e 13 (by omega),e 14 (by omega),e 15 (by omega),e 16 (by omega),e 17 (by omega),e 18 (by omega),e 19 (by omega),e 20 (by omega),e 21 (by omega),e 22 (by omega),e 23 (by omega),e 24 (by omega),e 25 (by omega),e 26 (by omega)];simp only[Nat.add_assoc,Nat.zero_add]
theorem Zrp (m:Nat):lets (w3 m)=[m / 9,m / 3 % 3,m % 3]:=by simp[lets,w3]
theorem cnt3 {K:Nat} (hK:K=40) {t:Ex} {D:DfaD} (hc:Zal K t=some D):cwA D 3=((cntG (fun m=>accX (w3 m) t) 27:Nat):Int):=by have hok:=Zbe hK t hc;unfold cwA;rw[if_pos ⟨hok,by omega,by omega⟩];congr 1;refine(ZqE fun m hm => ?_).symm;rw[Bool.eq_iff_iff,Zmr (ZrO hm),Zrp];refine(Zfn hK t hc _ (fun c hc => ?_)).symm;simp at hc;omega
theorem ZhO {K:Nat} (hK:K=40) {es:List (Int × Int)} {D:DfaD} (hc:Zjx K es (some D)) {z:Int} (hz:cwA D 3=z) (v:Value) (w:World) (h:Pairs 0 w v es) :
  Calls Tryz.prog 30 #[v,.int .i64 3] w fun e w'=>e = .returned (.int .i64 z)∧Below w.heap.size w w':=by
 obtain⟨hok,t,ht,hcc⟩:exOk es=true∧∃ t:Ex,t.post=es∧Zal K t=some D:=by
  rcases hc with h|⟨-,h⟩
  ·exact h
  cases h
 obtain⟨s0,s1,s2,s3,s4,s9⟩:=ZlD;obtain⟨f,hf⟩:∃ f:Nat→Bool,f=fun m=>accX (w3 m) t:=⟨_,rfl⟩
 have hzf:z=((cntG f 27:Nat):Int):=by rw[← hz,cnt3 hK hcc,hf]
 have hk3:∀ u:World,Calls Tryz.prog 67 #[.int .i64 3] u fun e w'=>e = .returned (.int .i64 13)∧u=w':=fun u=>by
  have:=ZcH 3 u (by omega)
  rwa [s3] at this
 have hk4:∀ u:World,Calls Tryz.prog 67 #[.int .i64 4] u fun e w'=>e = .returned (.int .i64 40)∧u=w':=fun u=>by
  have:=ZcH 4 u (by omega)
  rwa [s4] at this
 have hacc:∀ (m:Nat) (u:World),m<27→Below w.heap.size w u→Calls Tryz.prog 65 #[v,.string (txB (w3 m))] u fun e w'=>e = .returned (.bool (f m))∧Below u.heap.size u w':=fun m u hm hb =>
  Zex t es (w3 m) v u (f m) (by rw[hf]) ht hok (h.below hb) (ZrP hm) (ZrO hm)
 have hin:inB 3 0 5=true:=by decide
 have H3:=qh hk3;have H4:=qh hk4;have HA:=qh hacc;have HP:=qh h;have Hzf:=qh hzf;have hle:=Zo7 f;have Hle:=qh hle;replace hok:=qh hok;replace hin:=qh hin;clear hk3 hk4 hacc h hzf hz hcc ht hf hle s0 s1 s2 s3 s4 s9 hK
 go_enter Tryz.func30, Tryz.ntmps30
 go_wp2_with fail;refine(ZaW es v _ HP.out true hok.out).mono ?_;rintro e w1 ⟨rfl,hb1⟩;have HB:=qh hb1;clear hb1
 go_wp2_with (first
  | (go_at_call 62;refine(ZaN _ _ _ _ _ hin.out).mono ?_;rintro e w' ⟨rfl,rfl⟩)
  | (go_at_call 67;refine(H3.out _).mono ?_;rintro e w' ⟨rfl,rfl⟩))
 go_loopw [5,6] (fun cv nv wr=>∃ m:Nat,nv = .int .i64 (13+(m:Int))∧cv = .int .i64 ((cntG f m:Nat):Int)∧m≤27∧Below w.heap.size w wr) (fun _ nv _=>40-(intOf nv).toNat)
 case atStart=>exact⟨0,rfl,rfl,by omega,HB.out⟩
 case round =>
  obtain⟨m,rfl,rfl,hm,hb⟩:=hrel;have HB1:=qh hb;have hcm:=Hle.out m;obtain⟨c,hc⟩:=eI (cntG f m);rw[← hc] at hcm ⊢;clear hb;by_cases hlt:m<27
  ·have hlI:13+(m:Int)<40:=by omega
   have hwm:IntKind.i64.wrap (13+(m:Int)+1)=13+(m:Int)+1:=IntWalk.i64_in _ (by omega);have hwc:IntKind.i64.wrap ((c:Int)+1)=(c:Int)+1:=IntWalk.i64_in _ (by omega);obtain⟨r,hr⟩:=eJ (f m);have ha:=fun u hb=>HA.out m u hlt hb
   rw[hr] at ha;have Ha:=qh ha;have hstep:cntG f (m+1)=c+(if r=true then 1 else 0):=by rw[cntG,hr,hc]
   have Hhstep:=qh hstep;clear hstep;have Hhr:=qh hr;clear hr;replace hc:=qh hc;clear ha
   go_wp2_with (first
    | (go_at_call 67;refine(H4.out _).mono ?_;rintro e w' ⟨rfl,rfl⟩)
    | (go_at_call 68;refine(ZkC m hlt _).mono ?_;rintro e w' ⟨rfl,rfl⟩)
    | (go_at_call 65;refine(Ha.out _ HB1.out).mono ?_;rintro e w2 ⟨rfl,hb2⟩;have HB2:=qh (HB1.out.trans (hb2.mono HB1.out.size));clear hb2))
   all_goals
    rename_i hr';have hst:=Hhstep.out;rw[hr'] at hst;refine⟨⟨m+1,by go_num,?_,by omega,HB2.out⟩,by simp[intOf];omega⟩;rw[hst];simp
  obtain rfl:m=27:=by omega
  have hlI:¬ 13+((27:Nat):Int)<40:=by decide
  have hzc:z=(c:Int):=by rw[Hzf.out,hc]
  replace hc:=qh hc;subst hzc;clear hlt hm;go_wp2_with (go_at_call 67;refine(H4.out _).mono ?_;rintro e w' ⟨rfl,rfl⟩);go_ret;exact⟨rfl,HB1.out⟩
theorem ZeM (bs:List Nat) (v:Value) (w:World) (hb:Bytes 0 w v bs) (hlen:bs.length≤100000000) :
  Calls Tryz.prog 22 #[v] w fun e w'=>∃ (es:List (Int × Int)) (v:Value),es.length≤100∧e = .returned v∧Pairs 0 w' v es∧Below w.heap.size w w':=by
 have Hb:=qh hb;clear hb
 go_enter Tryz.func22, Tryz.ntmps22
 go_wp2_with fail;refine(Zn1 bs v _ Hb.out hlen).mono ?_;rintro e w1 ⟨vb,bs',hl',hB,rfl,hS'⟩;have hB1:=hB w Hb.out;have HB:=qh hB1;have HS1:=qh (hS'.add (Below.refl _ _) Ent.nil trivial fun k hk=>hk.elim);clear hS' hB hB1;go_wp2_with fail;refine(Zqy bs' vb w.heap.size 0 12 w w1 _ HB.out hl' (by omega) (by omega) HS1.out).mono ?_;rintro e w2 ⟨v2,es,E,pn,hel,hpn,hh,rfl,hS2⟩;have HS:=qh hS2;have HH:=qh hh;clear hS2 hh;go_wp2;go_ret;exact⟨es,v2,hel,rfl,HH.out.r HS.out 2 rfl,HS.out.bel⟩
theorem Zje (bs cs:List Nat) (v u:Value) (w:World) (hb:Bytes 0 w v bs) (hc:Bytes 0 w u cs) :
  Calls Tryz.prog 7 #[v,u] w fun e w'=>e = .returned (.bool true)∧Below w.heap.size w w':=by
 have HB:=qh hb;have HC:=qh hc;obtain⟨av,cv,rfl,hcv1,hcv2,-⟩:=hb.form;obtain⟨au,cu,rfl,hcu1,hcu2,-⟩:=hc.form;clear hb hc;by_cases hlen:1048576<bs.length
 ·have hl2:(1048576:Int)<bs.length:=by omega
  go_enter Tryz.func7, Tryz.ntmps7
  go_wp2;go_ret;exact⟨rfl,Below.refl _ _⟩
 have hl2:¬ (1048576:Int)<bs.length:=by omega
 by_cases hlen2:1048576<cs.length
 ·have hl3:(1048576:Int)<cs.length:=by omega
  go_enter Tryz.func7, Tryz.ntmps7
  go_wp2;go_ret;exact⟨rfl,Below.refl _ _⟩
 have hl3:¬ (1048576:Int)<cs.length:=by omega
 go_enter Tryz.func7, Tryz.ntmps7
 go_wp2_with fail;refine(ZeM bs _ _ HB.out (by omega)).mono ?_;rintro e w1 ⟨es,ve,hel,rfl,hp,hb1⟩;obtain⟨ae,ce,rfl,hc1,hc2,-⟩:=hp.form;have HP:=qh hp;clear hp;obtain⟨n,hn⟩:=eI (es.length);rw[← hn] at hc1 HP hel;rw[← hn];obtain⟨K,hK⟩:∃ K:Nat,K=40:=⟨_,rfl⟩;obtain⟨o,ho⟩:=Zjl K es;have him:=fun (u:World) (h:Below w1.heap.size w1 u)=>Zbd K hK es o ho (.slice ae n ce) u (HP.out.below h)
 have hsp:=fun (u:World) (h:Below w1.heap.size w1 u)=>ZdP K hK es o ho (.slice ae n ce) u (by omega) (HP.out.below h)
 obtain⟨D,hD⟩:=eJ (o.getD Zbj);have hD2:o.getD zeD=D:=hD;obtain⟨fb,hfb⟩:=eJ (o.isSome);unfold RO at hsp;rw[hD,hfb] at hsp;rw[hD2,hfb] at him;obtain⟨hno,hyes⟩:=Zkm hK ho hD hfb;replace hn:=qh hn;have Hho:=qh ho;clear ho;replace hK:=qh hK;have Hsp:=qh hsp;have Him:=qh him;have Hhno:=qh hno;clear hno;have Hhyes:=qh hyes;clear hyes;clear hsp him hD hD2 hfb;have HS1:=qh ((St.start w).call hb1);clear hb1;go_wp2_with fail;refine(Him.out _ (Below.refl _ _)).mono ?_;rintro e w2 ⟨⟨g1,c1,g2,c2,rfl,hx⟩,hb⟩;have HS2:=qh ((HS1.out.call hb).alloc _ rfl #[.slice g1 D.next.length c1,.slice g2 D.ends.length c2] 25);have HX2:=qh (((hx.r).mono (Nat.zero_le _)).below ((Below.refl w2.heap.size w2).alloc (Nat.le_refl _) (.cells #[.slice g1 D.next.length c1,.slice g2 D.ends.length c2] 25)));have HB2:=qh (hb.trans (((Below.refl w2.heap.size w2).alloc (Nat.le_refl _) (.cells #[.slice g1 D.next.length c1,.slice g2 D.ends.length c2] 25)).mono hb.size));clear hb hx;go_wp2_with fail;refine(Hsp.out _ HB2.out).mono ?_;rintro e w3 ⟨x1,y1,x2,y2,rfl,hr,hb⟩;have HS3:=qh ((HS2.out.call hb).alloc _ rfl #[.slice x1 D.next.length y1,.slice x2 D.ends.length y2] 25);have HX3:=qh ((HX2.out.below hb).below ((Below.refl w3.heap.size w3).alloc (Nat.le_refl _) (.cells #[.slice x1 D.next.length y1,.slice x2 D.ends.length y2] 25)))
 have HY3:=qh ((hr.mono (Nat.zero_le _)).below ((Below.refl w3.heap.size w3).alloc (Nat.le_refl _) (.cells #[.slice x1 D.next.length y1,.slice x2 D.ends.length y2] 25)));have HB3:=qh (hb.trans (((Below.refl w3.heap.size w3).alloc (Nat.le_refl _) (.cells #[.slice x1 D.next.length y1,.slice x2 D.ends.length y2] 25)).mono hb.size));clear hb hr HX2;have e0:=HS3.out.cell (v:=.slice g1 D.next.length c1) 0 0 rfl rfl;have e1:=HS3.out.cell (v:=.slice g2 D.ends.length c2) 0 1 rfl rfl;have f0:=HS3.out.cell (v:=.slice x1 D.next.length y1) 1 0 rfl rfl;have f1:=HS3.out.cell (v:=.slice x2 D.ends.length y2) 1 1 rfl rfl;go_wp2_with fail;refine(ZbO D _ _ _ HX3.out HY3.out).mono ?_;rintro e w4 ⟨rfl,hb⟩;have HS4:=qh (HS3.out.call hb);have HX4:=qh (HX3.out.below hb);have hff:(fb != fb)=false:=by simp
 have HP4:=qh (((HP.out.below HB2.out).below HB3.out).below hb);clear hb HX3 HY3 HS2 HS3 e0 e1 f0 f1 HB2 HB3;cases fb
 ·have hz0:((D.next.length:Int)==0)=true:=by rw[Hhno.out rfl];rfl
  have e0:=HS4.out.cell (v:=.slice g1 D.next.length c1) 0 0 rfl rfl;have e1:=HS4.out.cell (v:=.slice g2 D.ends.length c2) 0 1 rfl rfl;go_wp2_with (go_at_call 21;refine(Zfu _).mono ?_;rintro e w' ⟨rfl,rfl⟩);go_ret;exact⟨rfl,HS4.out.bel⟩
 obtain⟨ho1,hok,hmin⟩:=Hhyes.out rfl;have hacc:∀ l r,AccO es l r→(wdOk l&&accD D (lets l))=r:=fun l r h=>Zms hK.out (ho1 ▸ Hho.out) h
 obtain⟨z,hz⟩:=eJ (cwA D 3);have hcnt:=fun (v:Value) (u:World) (h:Pairs 0 u v es)=>ZhO hK.out (ho1 ▸ Hho.out) hz v u h
 have Hcnt:=qh hcnt;have Hhok:=qh hok;clear hok;have Hhmin:=qh hmin;clear hmin;have Hhacc:=qh hacc;clear hacc;have Hhz:=qh hz;clear hz;clear ho1 hcnt;go_wp2_with fail;refine(Zgc cs _ _ (HC.out.below HS4.out.bel) (by omega)).mono ?_;rintro e w5 ⟨l,ht,hl,rfl,hb⟩;have HS5:=qh (HS4.out.call hb);have HX5:=qh (HX4.out.below hb);have HP5:=qh (HP4.out.below hb);have Hht:=qh ht;clear ht;clear hb;obtain⟨q,hr⟩:=Zpv es l;have hq:=Hhacc.out l q hr;have hqq:(q==q)=true:=beq_self_eq_true q;have hzz:(z==z)=true:=beq_self_eq_true z;have Hhr:=qh hr;clear hr;have Hhq:=qh hq;clear hq;have D0:=qh (HS5.out.cell (v:=.slice g1 D.next.length c1) 0 0 rfl rfl);have D1:=qh (HS5.out.cell (v:=.slice g2 D.ends.length c2) 0 1 rfl rfl);have HltD:=qh (HS5.out.boxlt 0 rfl).2;clear HS4 HX4 HP4;go_wp2;refine wp_region_any (by kernel_rfl) ?_
 refine Zau (fun A listed a w'=>∃ (l0 l1 l2 l3 l4 l5 l6 l7 l8 l9 l10 l11 l12 l13 l14 l15 l16 l17 l18 l19 l20 l21 l22 l23 l24:Bool) (ax1:Option Addr) (cx1:Nat) (ax2:Option Addr) (cx2:Nat) (vb:Nat) (vh:Nat),listed=#[l0,l1,l2,l3,l4,l5,l6,l7,l8,l9,l10,l11,l12,l13,l14,l15,l16,l17,l18,l19,l20,l21,l22,l23,l24] ∧
   a=⟨(((((((((((((((((((((((((A.tmps.setIfInBounds 51 (if l0=true then .agg #[.slice g1 D.next.length c1,.slice g2 D.ends.length c2] else A.tmps.getD 51 undef)).setIfInBounds 52 (if l1=true then .bool true else A.tmps.getD 52 undef)).setIfInBounds 53 (if l2=true then .bool true else A.tmps.getD 53 undef)).setIfInBounds 54 (if l3=true then .agg #[.slice g1 D.next.length c1,.slice g2 D.ends.length c2] else A.tmps.getD 54 undef)).setIfInBounds 55 (if l4=true then .string (txB l) else A.tmps.getD 55 undef)).setIfInBounds 56 (if l5=true then .bool q else A.tmps.getD 56 undef)).setIfInBounds 57 (if l6=true then .slice ae n ce else A.tmps.getD 57 undef)).setIfInBounds 58 (if l7=true then .string (txB l) else A.tmps.getD 58 undef)).setIfInBounds 59 (if l8=true then .bool q else A.tmps.getD 59 undef)).setIfInBounds 60 (if l9=true then .bool true else A.tmps.getD 60 undef)).setIfInBounds 61 (if l10=true then .bool true else A.tmps.getD 61 undef)).setIfInBounds 62 (if l11=true then .bool true else A.tmps.getD 62 undef)).setIfInBounds 63 (if l12=true then .agg #[.slice g1 D.next.length c1,.slice g2 D.ends.length c2] else A.tmps.getD 63 undef)).setIfInBounds 64 (if l13=true then .int .i64 z else A.tmps.getD 64 undef)).setIfInBounds 65 (if l14=true then .slice ae n ce else A.tmps.getD 65 undef)).setIfInBounds 66 (if l15=true then .int .i64 z else A.tmps.getD 66 undef)).setIfInBounds 67 (if l16=true then .bool true else A.tmps.getD 67 undef)).setIfInBounds 68 (if l17=true then .bool true else A.tmps.getD 68 undef)).setIfInBounds 69 (if l18=true then .bool true else A.tmps.getD 69 undef)).setIfInBounds 70 (if l19=true then .agg #[.slice g1 D.next.length c1,.slice g2 D.ends.length c2] else A.tmps.getD 70 undef)).setIfInBounds 71 (if l20=true then .agg #[.slice ax1 D.next.length cx1,.slice ax2 D.ends.length cx2] else A.tmps.getD 71 undef)).setIfInBounds 72 (if l21=true then .agg #[.slice g1 D.next.length c1,.slice g2 D.ends.length c2] else A.tmps.getD 72 undef)).setIfInBounds 73 (if l22=true then .bool true else A.tmps.getD 73 undef)).setIfInBounds 74 (if l23=true then .bool true else A.tmps.getD 74 undef)).setIfInBounds 4 (.bool l24)),A.defers⟩ ∧
   St w5 w' [(if l20=true then DfaV vb vh (.slice ax1 D.next.length cx1) (.slice ax2 D.ends.length cx2) D else Ent.nil)]) ?_ ?_ ?_
 ·rintro listed a w' ⟨l0,l1,l2,l3,l4,l5,l6,l7,l8,l9,l10,l11,l12,l13,l14,l15,l16,l17,l18,l19,l20,l21,l22,l23,l24,ax1,cx1,ax2,cx2,vb,vh,rfl,rfl,hS⟩ i hi;obtain⟨hun,o,ho,hall⟩:=mem_ready.1 hi;have hlt:=(Array.getElem?_eq_some_iff.1 ho).1;refine wpOp_step ho (fun K hK => ?_);clear hi;have HS:=qh hS;clear hS;simp only[List.setIfInBounds_toArray,List.set_cons_zero,List.set_cons_succ,Array.getD_eq_getD_getElem?,List.getElem?_toArray,List.getElem?_cons_zero,List.getElem?_cons_succ,Option.getD_some];obtain h|h|h|h|h|h|h|h|h|h|h|h|h|h|h|h|h|h|h|h|h|h|h|h|h:i=0∨i=1∨i=2∨i=3∨i=4∨i=5∨i=6∨i=7∨i=8∨i=9∨i=10∨i=11∨i=12∨i=13∨i=14∨i=15∨i=16∨i=17∨i=18∨i=19∨i=20∨i=21∨i=22∨i=23∨i=24:=by simp at hlt;omega
  all_goals subst h
  all_goals simp only[List.getElem?_toArray,List.getElem?_cons_zero,List.getElem?_cons_succ,Option.some.injEq] at ho
  all_goals subst ho
  all_goals simp[Region.binds] at hun hall
  ·subst hun;have e0:=(bcell HS.out.bel (w2.heap.size) (0) HltD.out).trans D0.out;have e1:=(bcell HS.out.bel (w2.heap.size) (1) HltD.out).trans D1.out;go_simp;exact hK _ _ ⟨true,l1,l2,l3,l4,l5,l6,l7,l8,l9,l10,l11,l12,l13,l14,l15,l16,l17,l18,l19,l20,l21,l22,l23,l24,ax1,cx1,ax2,cx2,vb,vh,rfl,(by simp),HS.out⟩
  ·obtain rfl:=hall;subst hun;go_simp
   go_at_call 26
   refine(ZaK D _ _ (HX5.out.below HS.out.bel) _ Hhok.out).mono ?_;rintro e u1 ⟨rfl,hb⟩;have hS2:=HS.out.call hb;have HhS2:=qh hS2;clear hS2;go_simp;exact hK _ _ ⟨true,true,l2,l3,l4,l5,l6,l7,l8,l9,l10,l11,l12,l13,l14,l15,l16,l17,l18,l19,l20,l21,l22,l23,l24,ax1,cx1,ax2,cx2,vb,vh,rfl,(by simp),HhS2.out⟩
  ·obtain rfl:=hall;subst hun;go_simp;exact hK _ _ ⟨l0,true,true,l3,l4,l5,l6,l7,l8,l9,l10,l11,l12,l13,l14,l15,l16,l17,l18,l19,l20,l21,l22,l23,l24,ax1,cx1,ax2,cx2,vb,vh,rfl,(by simp),HS.out⟩
  ·obtain rfl:=hall;subst hun;have e0:=(bcell HS.out.bel (w2.heap.size) (0) HltD.out).trans D0.out;have e1:=(bcell HS.out.bel (w2.heap.size) (1) HltD.out).trans D1.out;go_simp;exact hK _ _ ⟨l0,l1,true,true,l4,l5,l6,l7,l8,l9,l10,l11,l12,l13,l14,l15,l16,l17,l18,l19,l20,l21,l22,l23,l24,ax1,cx1,ax2,cx2,vb,vh,rfl,(by simp),HS.out⟩
  ·obtain rfl:=hall;subst hun;go_simp;exact hK _ _ ⟨l0,l1,true,l3,true,l5,l6,l7,l8,l9,l10,l11,l12,l13,l14,l15,l16,l17,l18,l19,l20,l21,l22,l23,l24,ax1,cx1,ax2,cx2,vb,vh,rfl,(by simp),HS.out⟩
  ·obtain⟨rfl,rfl,rfl⟩:=hall;subst hun;go_simp
   go_at_call 27
   refine(Zhq D l _ _ Hht.out (by omega) (HX5.out.below HS.out.bel) Hhok.out _ Hhq.out).mono ?_;rintro e u1 ⟨rfl,hb⟩;have hS2:=HS.out.call hb;have HhS2:=qh hS2;clear hS2;go_simp;exact hK _ _ ⟨l0,l1,true,true,true,true,l6,l7,l8,l9,l10,l11,l12,l13,l14,l15,l16,l17,l18,l19,l20,l21,l22,l23,l24,ax1,cx1,ax2,cx2,vb,vh,rfl,(by simp),HhS2.out⟩
  ·obtain rfl:=hall;subst hun;go_simp;exact hK _ _ ⟨l0,l1,true,l3,l4,l5,true,l7,l8,l9,l10,l11,l12,l13,l14,l15,l16,l17,l18,l19,l20,l21,l22,l23,l24,ax1,cx1,ax2,cx2,vb,vh,rfl,(by simp),HS.out⟩
  ·obtain rfl:=hall;subst hun;go_simp;exact hK _ _ ⟨l0,l1,true,l3,l4,l5,l6,true,l8,l9,l10,l11,l12,l13,l14,l15,l16,l17,l18,l19,l20,l21,l22,l23,l24,ax1,cx1,ax2,cx2,vb,vh,rfl,(by simp),HS.out⟩
  ·obtain⟨rfl,rfl,rfl,rfl⟩:=hall;subst hun;go_simp
   go_at_call 28
   refine(ZcP es l _ _ _ Hhr.out (HP5.out.below HS.out.bel) Hht.out (by omega)).mono ?_;rintro e u1 ⟨rfl,hb⟩;have hS2:=HS.out.call hb;have HhS2:=qh hS2;clear hS2;go_simp;exact hK _ _ ⟨l0,l1,true,l3,l4,true,true,true,true,l9,l10,l11,l12,l13,l14,l15,l16,l17,l18,l19,l20,l21,l22,l23,l24,ax1,cx1,ax2,cx2,vb,vh,rfl,(by simp),HhS2.out⟩
  ·obtain⟨rfl,rfl,rfl⟩:=hall;subst hun;go_simp;exact hK _ _ ⟨l0,l1,true,l3,l4,true,l6,l7,true,true,l10,l11,l12,l13,l14,l15,l16,l17,l18,l19,l20,l21,l22,l23,l24,ax1,cx1,ax2,cx2,vb,vh,rfl,(by simp),HS.out⟩
  ·obtain⟨rfl,rfl⟩:=hall;subst hun;go_simp;exact hK _ _ ⟨l0,l1,true,l3,l4,l5,l6,l7,l8,true,true,l11,l12,l13,l14,l15,l16,l17,l18,l19,l20,l21,l22,l23,l24,ax1,cx1,ax2,cx2,vb,vh,rfl,(by simp),HS.out⟩
  ·obtain⟨rfl,rfl⟩:=hall;subst hun;go_simp;exact hK _ _ ⟨l0,l1,l2,l3,l4,l5,l6,l7,true,l9,true,true,l12,l13,l14,l15,l16,l17,l18,l19,l20,l21,l22,l23,l24,ax1,cx1,ax2,cx2,vb,vh,rfl,(by simp),HS.out⟩
  ·obtain rfl:=hall;subst hun;have e0:=(bcell HS.out.bel (w2.heap.size) (0) HltD.out).trans D0.out;have e1:=(bcell HS.out.bel (w2.heap.size) (1) HltD.out).trans D1.out;go_simp;exact hK _ _ ⟨l0,l1,l2,l3,l4,l5,l6,l7,l8,l9,l10,true,true,l13,l14,l15,l16,l17,l18,l19,l20,l21,l22,l23,l24,ax1,cx1,ax2,cx2,vb,vh,rfl,(by simp),HS.out⟩
  ·obtain⟨rfl,rfl⟩:=hall;subst hun;go_simp
   go_at_call 29
   refine(Zfe D 3 _ _ (HX5.out.below HS.out.bel) _ Hhz.out).mono ?_;rintro e u1 ⟨rfl,hb⟩;have hS2:=HS.out.call hb;have HhS2:=qh hS2;clear hS2;go_simp;exact hK _ _ ⟨l0,l1,l2,l3,l4,l5,l6,l7,l8,l9,l10,true,true,true,l14,l15,l16,l17,l18,l19,l20,l21,l22,l23,l24,ax1,cx1,ax2,cx2,vb,vh,rfl,(by simp),HhS2.out⟩
  ·obtain rfl:=hall;subst hun;go_simp;exact hK _ _ ⟨l0,l1,l2,l3,l4,l5,l6,l7,l8,l9,l10,true,l12,l13,true,l15,l16,l17,l18,l19,l20,l21,l22,l23,l24,ax1,cx1,ax2,cx2,vb,vh,rfl,(by simp),HS.out⟩
  ·obtain⟨rfl,rfl,rfl⟩:=hall;subst hun;go_simp
   go_at_call 30
   refine(Hcnt.out _ _ (HP5.out.below HS.out.bel)).mono ?_;rintro e u1 ⟨rfl,hb⟩;have hS2:=HS.out.call hb;have HhS2:=qh hS2;clear hS2;go_simp;exact hK _ _ ⟨l0,l1,l2,l3,l4,l5,l6,l7,l8,l9,l10,true,l12,true,true,true,l16,l17,l18,l19,l20,l21,l22,l23,l24,ax1,cx1,ax2,cx2,vb,vh,rfl,(by simp),HhS2.out⟩
  ·obtain⟨rfl,rfl,rfl⟩:=hall;subst hun;go_simp;exact hK _ _ ⟨l0,l1,l2,l3,l4,l5,l6,l7,l8,l9,l10,true,l12,true,l14,true,true,l17,l18,l19,l20,l21,l22,l23,l24,ax1,cx1,ax2,cx2,vb,vh,rfl,(by simp),HS.out⟩
  ·obtain⟨rfl,rfl⟩:=hall;subst hun;go_simp;exact hK _ _ ⟨l0,l1,l2,l3,l4,l5,l6,l7,l8,l9,l10,true,l12,l13,l14,l15,true,true,l18,l19,l20,l21,l22,l23,l24,ax1,cx1,ax2,cx2,vb,vh,rfl,(by simp),HS.out⟩
  ·obtain⟨rfl,rfl⟩:=hall;subst hun;go_simp;exact hK _ _ ⟨l0,l1,l2,l3,l4,l5,l6,l7,l8,l9,l10,l11,l12,l13,l14,true,l16,true,true,l19,l20,l21,l22,l23,l24,ax1,cx1,ax2,cx2,vb,vh,rfl,(by simp),HS.out⟩
  ·obtain rfl:=hall;subst hun;have e0:=(bcell HS.out.bel (w2.heap.size) (0) HltD.out).trans D0.out;have e1:=(bcell HS.out.bel (w2.heap.size) (1) HltD.out).trans D1.out;go_simp;exact hK _ _ ⟨l0,l1,l2,l3,l4,l5,l6,l7,l8,l9,l10,l11,l12,l13,l14,l15,l16,l17,true,true,l20,l21,l22,l23,l24,ax1,cx1,ax2,cx2,vb,vh,rfl,(by simp),HS.out⟩
  ·obtain⟨rfl,rfl⟩:=hall;subst hun;go_simp
   go_at_call 31
   refine(ZdF D D Hhmin.out _ _ (HX5.out.below HS.out.bel)).mono ?_;rintro e u1 ⟨z1,z2,z3,z4,rfl,hr,hb⟩;have hS2:=(HS.out.dfaV hb hr).pick [1] (by decide);have HhS2:=qh hS2;clear hS2;go_simp;exact hK _ _ ⟨l0,l1,l2,l3,l4,l5,l6,l7,l8,l9,l10,l11,l12,l13,l14,l15,l16,l17,true,true,true,l21,l22,l23,l24,z1,z2,z3,z4,w'.heap.size,u1.heap.size,rfl,(by simp),HhS2.out⟩
  ·obtain rfl:=hall;subst hun;have e0:=(bcell HS.out.bel (w2.heap.size) (0) HltD.out).trans D0.out;have e1:=(bcell HS.out.bel (w2.heap.size) (1) HltD.out).trans D1.out;go_simp;exact hK _ _ ⟨l0,l1,l2,l3,l4,l5,l6,l7,l8,l9,l10,l11,l12,l13,l14,l15,l16,l17,true,l19,l20,true,l22,l23,l24,ax1,cx1,ax2,cx2,vb,vh,rfl,(by simp),HS.out⟩
  ·obtain⟨rfl,rfl,-,rfl⟩:=hall;subst hun;go_simp
   go_at_call 20
   refine(ZbO D _ _ _ (HS.out.dfaVr 0 rfl) (HX5.out.below HS.out.bel)).mono ?_;rintro e u1 ⟨rfl,hb⟩;have hS2:=HS.out.call hb;have HhS2:=qh hS2;clear hS2;go_simp;exact hK _ _ ⟨l0,l1,l2,l3,l4,l5,l6,l7,l8,l9,l10,l11,l12,l13,l14,l15,l16,l17,true,l19,true,true,true,l23,l24,ax1,cx1,ax2,cx2,vb,vh,rfl,(by simp),HhS2.out⟩
  ·obtain⟨rfl,rfl⟩:=hall;subst hun;go_simp;exact hK _ _ ⟨l0,l1,l2,l3,l4,l5,l6,l7,l8,l9,l10,l11,l12,l13,l14,l15,l16,l17,true,l19,l20,l21,true,true,l24,ax1,cx1,ax2,cx2,vb,vh,rfl,(by simp),HS.out⟩
  obtain⟨rfl,rfl,rfl,rfl,rfl,rfl,rfl,rfl,rfl,rfl,rfl,rfl,rfl,rfl,rfl,rfl,rfl,rfl,rfl,rfl,rfl,rfl,rfl,rfl,-⟩:=hall;subst hun;go_simp;exact hK _ _ ⟨true,true,true,true,true,true,true,true,true,true,true,true,true,true,true,true,true,true,true,true,true,true,true,true,true,ax1,cx1,ax2,cx2,vb,vh,rfl,(by simp),HS.out⟩
 ·rintro listed a w' ⟨l0,l1,l2,l3,l4,l5,l6,l7,l8,l9,l10,l11,l12,l13,l14,l15,l16,l17,l18,l19,l20,l21,l22,l23,l24,ax1,cx1,ax2,cx2,vb,vh,rfl,rfl,hS⟩ hr;have hall:=ZaT (by kernel_rfl) rfl hr;obtain rfl:l0=true:=by simpa using hall 0 (by simp)
  obtain rfl:l1=true:=by simpa using hall 1 (by simp)
  obtain rfl:l2=true:=by simpa using hall 2 (by simp)
  obtain rfl:l3=true:=by simpa using hall 3 (by simp)
  obtain rfl:l4=true:=by simpa using hall 4 (by simp)
  obtain rfl:l5=true:=by simpa using hall 5 (by simp)
  obtain rfl:l6=true:=by simpa using hall 6 (by simp)
  obtain rfl:l7=true:=by simpa using hall 7 (by simp)
  obtain rfl:l8=true:=by simpa using hall 8 (by simp)
  obtain rfl:l9=true:=by simpa using hall 9 (by simp)
  obtain rfl:l10=true:=by simpa using hall 10 (by simp)
  obtain rfl:l11=true:=by simpa using hall 11 (by simp)
  obtain rfl:l12=true:=by simpa using hall 12 (by simp)
  obtain rfl:l13=true:=by simpa using hall 13 (by simp)
  obtain rfl:l14=true:=by simpa using hall 14 (by simp)
  obtain rfl:l15=true:=by simpa using hall 15 (by simp)
  obtain rfl:l16=true:=by simpa using hall 16 (by simp)
  obtain rfl:l17=true:=by simpa using hall 17 (by simp)
  obtain rfl:l18=true:=by simpa using hall 18 (by simp)
  obtain rfl:l19=true:=by simpa using hall 19 (by simp)
  obtain rfl:l20=true:=by simpa using hall 20 (by simp)
  obtain rfl:l21=true:=by simpa using hall 21 (by simp)
  obtain rfl:l22=true:=by simpa using hall 22 (by simp)
  obtain rfl:l23=true:=by simpa using hall 23 (by simp)
  obtain rfl:l24=true:=by simpa using hall 24 (by simp)
  clear hall hr ;simp only[↓reduceIte] at hS ⊢;simp only[List.setIfInBounds_toArray,List.set_cons_zero,List.set_cons_succ,Array.getD_eq_getD_getElem?,List.getElem?_toArray,List.getElem?_cons_zero,List.getElem?_cons_succ,Option.getD_some];have HSf:=qh hS;clear hS;go_wp2;go_ret;exact⟨rfl,HS5.out.bel.trans (HSf.out.bel.mono HS5.out.bel.size)⟩
 refine⟨false,false,false,false,false,false,false,false,false,false,false,false,false,false,false,false,false,false,false,false,false,false,false,false,false,none,0,none,0,0,0,rfl,(by simp),?_⟩;exact(St.start w5).drew.pick [0] (by decide)
end Go.Proofs.YtfgpkadhegdffaaGreat
