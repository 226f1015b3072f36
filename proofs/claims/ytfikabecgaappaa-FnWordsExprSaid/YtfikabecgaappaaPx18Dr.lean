/-
  The walks over the program's leading and DfaStarts; what they answer, plain.
  Condition: the automaton reads as such.
-/
import Derived.Test.YtfikabecgaappaaPx17Cmb
set_option maxHeartbeats 8000000
set_option maxRecDepth 100000
namespace Go.Proofs.Ytfikabecgaappaa
open Go.RowKit
def ZmR (d:DfaD) (s:Nat):Prop:=∃ w,isW w∧den d (runD d (s:Int) w)=true
theorem Zhe {α:Type} [DecidableEq α]:∀ {l:List α},¬ l.Nodup→∃ (i j:Nat) (hj:j<l.length) (hi:i<j),l[i]'(Nat.lt_trans hi hj)=l[j]
 | [],h=>absurd List.nodup_nil h
 | x::l,h=>by
  rw[List.nodup_cons] at h;by_cases hx:x∈l
  ·obtain⟨j,hj,e⟩:=List.getElem_of_mem hx;exact⟨0,j+1,by simp only[List.length_cons];omega,by omega,by simpa using e.symm⟩
  obtain⟨i,j,hj,hi,e⟩:=Zhe (l:=l) fun hn=>h ⟨hx,hn⟩
  exact⟨i+1,j+1,by simp only[List.length_cons];omega,by omega,by simpa using e⟩
theorem ZfI {d:DfaD} (hd:fine d) {s:Nat} (hs:s<d.next.length):∀ (n:Nat) (w:List Nat),w.length≤n→isW w→den d (runD d (s:Int) w)=true→∃ w',w'.length<d.next.length∧isW w'∧den d (runD d (s:Int) w')=true
 | n,w,hn,hw,he=>by
  by_cases hl:w.length<d.next.length
  ·exact⟨w,hl,hw,he⟩
  have key:∀ i,∃ t:Nat,t<d.next.length∧runD d (s:Int) (w.take i)=(t:Int):=fun i=>Zdd hd _ (ZgB hw i) hs
  have hnd:¬ ((List.range (w.length+1)).map fun i=>runD d (s:Int) (w.take i)).Nodup:=fun h=>by
   have:=ZcQ (m:=(List.range d.next.length).map fun (i:Nat)=>(i:Int)) h fun x hx=>by obtain⟨i,-,rfl⟩:=List.mem_map.1 hx;obtain⟨t,ht,e⟩:=key i;rw[e];exact List.mem_map.2 ⟨t,List.mem_range.2 ht,rfl⟩
   simp only[List.length_map,List.length_range] at this;omega
  obtain⟨i,j,hj,hij,e⟩:=Zhe hnd;simp only[List.length_map,List.length_range] at hj;simp only[List.getElem_map,List.getElem_range] at e;have hr:runD d (s:Int) (w.take i++w.drop j)=runD d (s:Int) w:=by rw[ZiK,e,← ZiK,List.take_append_drop]
  have hlen:(w.take i++w.drop j).length<w.length:=by rw[List.length_append,List.length_take,List.length_drop];omega
  cases n with
  | zero=>omega
  | succ n=>exact ZfI hd hs n (w.take i++w.drop j) (by omega) (ZcR (ZgB hw i) (ZgC hw j)) (by rw[hr];exact he)
structure LdI (d:DfaD) (F:List Bool) (r s0 c0:Nat):Prop where
 len:F.length=d.next.length
 sound:∀ s,s<d.next.length→F.getD s false=true→ZmR d s
 old:∀ s w,s<d.next.length→isW w→w.length≤r→den d (runD d (s:Int) w)=true→F.getD s false=true
 done:∀ s w,s<s0→s<d.next.length→isW w→w.length≤r+1→den d (runD d (s:Int) w)=true→F.getD s false=true
 now:∀ c w,c<c0→c<3→isW w→w.length≤r→den d (runD d (s0:Int) (c::w))=true→F.getD s0 false=true
theorem LdI.start {d:DfaD} (hd:Zaf d.next d.ends=true):LdI d d.ends 0 0 0:=by have hl:=Zae hd;refine⟨hl.2.2,fun s hs h=>⟨[],Zig,by rw[ZcM,ZaF];exact h⟩,fun s w hs hw hl h => ?_,fun s w hs=>absurd hs (by omega),fun c w hc=>absurd hc (by omega)⟩;have:w=[]:=List.length_eq_zero_iff.1 (by omega);subst this;rw[ZcM,ZaF] at h;exact h
theorem LdI.round {d:DfaD} {F:List Bool} {r:Nat} (h:LdI d F r d.next.length 0):LdI d F (r+1) 0 0 :=
 ⟨h.len,h.sound,fun s w hs hw hl he=>h.done s w hs hs hw hl he,fun s w hs=>absurd hs (by omega),fun c w hc=>absurd hc (by omega)⟩
structure LdE (d:DfaD) (F:List Bool):Prop where
 len:F.length=d.next.length
 iff:∀ s,s<d.next.length→(F.getD s false=true↔ZmR d s)
theorem LdI.all {d:DfaD} (hd:Zaf d.next d.ends=true) {F:List Bool} (h:LdI d F d.next.length 0 0):LdE d F :=
 ⟨h.len,fun s hs=>⟨h.sound s hs,fun ⟨w,hw,he⟩=>by obtain⟨w',h1,h2,h3⟩:=ZfI (ZaB hd) hs w.length w (Nat.le_refl _) hw he;exact h.old s w' hs h2 (by omega) h3⟩⟩
theorem ZmZ {d:DfaD} {w:World} {b1 o1 cv b2 o2 cw:Nat} (h:DfaC w d b1 o1 cv b2 o2 cw) {u:World} (hb:Below w.heap.size w u) {i:Nat} (hi:i<d.next.length):∃ b3 o3 c3,3≤c3∧c3≤9223372036854775807∧u.cell? ⟨b1,o1+i,none⟩=some (.slice (some ⟨b3,o3,none⟩) 3 c3)∧∀ (u':World),Below w.heap.size w u'→∀ c,c<3→u'.cell? ⟨b3,o3+c,none⟩=some (.int .i64 (nxD d i c:Nat)):=by obtain⟨b3,o3,c3,h0,h1,h2,h3,h4⟩:=h.row i hi;exact⟨b3,o3,c3,h1,h2,(bcell hb b1 _ h.hb1).trans h3,fun u' hb' c hc=>(bcell hb' b3 _ h0).trans (h4 c hc)⟩
def cwN (d:DfaD) (l s:Nat):Nat:=cntD d l (s:Int)
def psN (d:DfaD) (l s:Nat):Nat→Nat
 | 0=>0
 | c+1=>psN d l s c+cwN d l (nxD d s c)
theorem ZmO {d:DfaD} {l s:Nat} (h:l≤30):cwN d l s≤205891132094649:=ZjL h
theorem ZmG {d:DfaD} {l s:Nat} (h:l≤30):∀ c,psN d l s c≤c*205891132094649
 | 0=>by simp[psN]
 | c+1=>by have:=ZmG (d:=d) (s:=s) h c;have:=ZmO (d:=d) (s:=nxD d s c) h;show psN d l s c+cwN d l (nxD d s c)≤_;omega
theorem Zmq (d:DfaD) (s:Nat):cwN d 0 s=if enD d s=true then 1 else 0:=by show cntD d 0 (s:Int)=_;rw[Zli,ZaF]
theorem Zmr {d:DfaD} {l s:Nat} (h:∀ c,c<3→dnx d (s:Int) c=(nxD d s c:Nat)):cwN d (l+1) s=psN d l s 3:=by show cntD d (l+1) (s:Int)=0+cwN d l (nxD d s 0)+cwN d l (nxD d s 1)+cwN d l (nxD d s 2);rw[Zlj,h 0 (by omega),h 1 (by omega),h 2 (by omega),Nat.zero_add];rfl
def arrC (vs:List Value):Array Value:=(vs++List.replicate (31-vs.length) (Value.slice none 0 0)).toArray
theorem Ziu {vs:List Value} {l:Nat} (h:l<vs.length):(arrC vs)[l]? = some (vs.getD l undef):=by unfold arrC;rw[List.getElem?_toArray,List.getElem?_append_left h];simp[h]
theorem Zmy {vs:List Value} (h:vs.length<31):(arrC vs)[vs.length]? = some (.slice none 0 0):=by unfold arrC;rw[List.getElem?_toArray,List.getElem?_append_right (Nat.le_refl _),Nat.sub_self,List.getElem?_replicate,if_pos (by omega)]
theorem Zmx {vs:List Value} (h:vs.length<31) (v:Value):(arrC vs).setIfInBounds vs.length v=arrC (vs++[v]):=by unfold arrC;rw[List.setIfInBounds_toArray,List.set_append_right _ _ (Nat.le_refl _),Nat.sub_self,show 31-vs.length=(31-(vs++[v]).length)+1 by rw[List.length_append,List.length_singleton];omega,List.replicate_succ,List.set_cons_zero,List.append_assoc];rfl
theorem Zmz {vs:List Value} (h:vs.length=31):arrC vs=vs.toArray:=by unfold arrC;rw[h];simp
def CMem (d:DfaD) (X:Ent) (vs:List Value) (k:Nat):Prop:=vs.length=k∧∀ l,l<k→∃ b,vs.getD l undef = .slice (some ⟨b,0,none⟩) d.next.length d.next.length ∧
 X.inn (Ent.row 3 1 (.slice (some ⟨b,0,none⟩) d.next.length d.next.length) d.next.length (intCells (clsL d.next.length (cwN d l))))
theorem CMem.snoc {d:DfaD} {X:Ent} {vs:List Value} {k b:Nat} (h:CMem d X vs k):CMem d (Ent.all [X,Ent.row 3 1 (.slice (some ⟨b,0,none⟩) d.next.length d.next.length) d.next.length (intCells (clsL d.next.length (cwN d k)))]) (vs++[.slice (some ⟨b,0,none⟩) d.next.length d.next.length]) (k+1):=by
 obtain⟨hl,hc⟩:=h;subst hl;refine⟨by simp,fun l hlt => ?_⟩;by_cases hin:l<vs.length
 ·obtain⟨b',e,hi⟩:=hc l hin;refine⟨b',?_,Ent.inn_all (x:=X) (by simp) hi⟩;rw[← e];simp only[List.getD_eq_getElem?_getD];rw[List.getElem?_append_left hin]
 obtain rfl:l=vs.length:=by omega
 exact⟨b,by simp,Ent.inn_all (x:=Ent.row _ _ _ _ _) (by simp) (Ent.inn_refl _)⟩
theorem CMem.one {d:DfaD} {X:Ent} {vs:List Value} {k:Nat} (h:CMem d X vs k):∀ v∈vs,v.oneCell'=true:=fun v hv=>by
 obtain⟨i,hi,rfl⟩:=List.mem_iff_getElem.1 hv;obtain⟨b,e,-⟩:=h.2 i (by rw[← h.1];exact hi);have e2:vs.getD i undef=vs[i]:=by simp[hi]
 rw[← e2,e];rfl
def RCnt (d:DfaD) (w:World) (e:Ending) (w':World):Prop:=∃ vs X,e = .returned (.agg vs.toArray)∧CMem d X vs 31∧St w w' [X]
theorem ZjK (d:DfaD) (v:Value) (w:World) (hd:Zaf d.next d.ends=true) (h:DfaR 0 w v d) :
  Calls Try.prog 40 #[v] w fun e w'=>RCnt d w e w':=by
 obtain⟨b1,o1,cv,b2,o2,cw,rfl,hC⟩:=ZgO hd h;obtain⟨L,hL⟩:=eI (d.next.length);obtain⟨i0,hi,hz0,hz1,hz2⟩:=info_parts Try.infoInt;have hl2:=hC.l2;have hl1:=hC.l1;have hc1:=hC.c1;have hc2:=hC.c2;rw[← hL] at hl1 hl2 hc1 hc2;rw[← hL];have hS0:=(((St.start w).alloc _ rfl #[.slice (some ⟨b1,o1,none⟩) L cv,.slice (some ⟨b2,o2,none⟩) L cw] 30).alloc (w.heap.size+1) (by simp) (arrC []) 64).alloc (w.heap.size+1+1) (by simp) (arrC []) 64;have HS0:=qh ((hS0.add (Below.refl _ _) Ent.nil trivial (fun k hk=>hk.elim)).pick [0,2,3,1] (by decide));have HC:=qh hC;replace hd:=qh hd;replace hL:=qh hL;have Hhi:=qh hi;clear hi;have Hhz0:=qh hz0;clear hz0;have Hhz1:=qh hz1;clear hz1;have Hhz2:=qh hz2;clear hz2;clear hS0 h hC
 go_enter Try.func40, Try.ntmps40
 go_wp2
 go_loopw [9] (fun i wr=>∃ (k:Nat) (vs:List Value) (X:Ent),i = .int .i64 (k:Int)∧k≤31∧CMem d X vs k∧St w wr [Ent.box w.heap.size #[.slice (some ⟨b1,o1,none⟩) L cv,.slice (some ⟨b2,o2,none⟩) L cw] 30,Ent.box (w.heap.size+1+1) (arrC vs) 64,X,Ent.box (w.heap.size+1) (arrC []) 64]) (fun i _=>31-(intOf i).toNat)
 case atStart=>exact⟨0,[],Ent.nil,rfl,Nat.zero_le _,⟨rfl,fun l hl=>absurd hl (by omega)⟩,HS0.out⟩
 case round =>
  obtain⟨k,vs,X,rfl,hk,hM,hS⟩:=hrel;have hvl:=hM.1;by_cases hlt:k<31
  ·have hlt2:(k:Int)<31:=by omega
   have e0:=hS.cell (v:=.slice (some ⟨b1,o1,none⟩) L cv) 0 0 rfl rfl;have HS1:=qh hS;have HM:=qh hM;clear hS hM;obtain⟨wo,hwo⟩:∃ wo:World,wo=wr:=⟨_,rfl⟩;subst hwo;have hsa:=Zmx (vs:=vs) (by omega) (.slice (some ⟨wo.heap.size,0,none⟩) L L);rw[hvl] at hsa;have hnil:=Zmy (vs:=vs) (by omega);rw[hvl] at hnil;have Hnil:=qh hnil;have Hsa:=qh hsa;have Hhvl:=qh hvl;clear hvl;clear hsa hnil;go_wp2_with (at_make;go_loud (refine wpList_make_full _ rfl _ _ 52 rfl _ 3 i0 (.int .i64 0) 1 Try.underlying52 Hhi.out Hhz0.out Hhz1.out .i64 .i64 _ _ L rfl rfl rfl rfl (by rw[Hhz2.out];omega) (by unfold maxLen;omega) (Nat.le_refl _) ?_;intro w1 hown hgrow;have HS2:=qh (HS1.out.made ((Below.refl _ _).grown hgrow (Nat.le_refl _) (fun _ h=>by cases h)) (Zdm (cwN d k) hown));have k0:=HS2.out.cell (v:=.slice none 0 0) 1 k rfl Hnil.out;have f0:=HS2.out.fr 1 k rfl;have hS3:=HS2.out.set 1 rfl k (.slice (some ⟨wo.heap.size,0,none⟩) L L);rw[Hsa.out] at hS3;have HS3:=qh (show St w _ [Ent.box w.heap.size #[.slice (some ⟨b1,o1,none⟩) L cv,.slice (some ⟨b2,o2,none⟩) L cw] 30,Ent.box (w.heap.size+1+1) (arrC (vs++[.slice (some ⟨wo.heap.size,0,none⟩) L L])) 64,X,Ent.box (w.heap.size+1) (arrC []) 64,Ent.row 3 1 (.slice (some ⟨wo.heap.size,0,none⟩) L L) L (intCells (padL L 0 (cwN d k)))] from hS3);have e1:=HS3.out.cell (v:=.slice (some ⟨b1,o1,none⟩) L cv) 0 0 rfl rfl;clear hown hgrow hS3));clear e0;obtain⟨g,hg⟩:=eI (wo.heap.size);rw[← hg] at HS3 ⊢
   have Hhg:=qh hg;clear hg
   go_loopw [21] (fun i wr=>∃ s:Nat,i = .int .i64 (s:Int)∧s≤L∧St w wr [Ent.box w.heap.size #[.slice (some ⟨b1,o1,none⟩) L cv,.slice (some ⟨b2,o2,none⟩) L cw] 30,Ent.box (w.heap.size+1+1) (arrC (vs++[.slice (some ⟨g,0,none⟩) L L])) 64,X,Ent.box (w.heap.size+1) (arrC []) 64,Ent.row 3 1 (.slice (some ⟨g,0,none⟩) L L) L (intCells (padL L s (cwN d k)))]) (fun i _=>L-(intOf i).toNat)
   case atStart=>exact⟨0,rfl,Nat.zero_le _,HS3.out⟩
   case round =>
    obtain⟨s,rfl,hs,hS⟩:=hrel;by_cases hslt:s<L
    ·have hslt2:(s:Int)<L:=by omega
     have hsL:s<d.next.length:=by rw[← hL.out];exact hslt
     obtain⟨b3,o3,c3,hc31,hc32,k3,k4⟩:=ZmZ HC.out hS.bel hsL;have K4:=qh k4;clear k4;obtain⟨wm,hwm⟩:∃ wm:World,wm=wr:=⟨_,rfl⟩;by_cases hk0:k=0
     ·have hk1:((k:Int)==0)=true:=by simp;omega
      have k5:=(bcell hS.bel b2 (o2+s) HC.out.hb2).trans (HC.out.en s hsL);have e2:=hS.cell (v:=.slice (some ⟨b2,o2,none⟩) L cw) 0 1 rfl rfl;have e4:=hS.cell (v:=.slice (some ⟨g,0,none⟩) L L) 1 0 rfl (by rw[Ziu (by simp)];have:=Hhvl.out;have:vs=[]:=List.eq_nil_of_length_eq_zero (by omega);subst this;rfl);rw[ZfK _ hslt] at hS;have hz:cwN d k s=if enD d s=true then 1 else 0:=by rw[hk0];exact Zmq d s
      obtain⟨x,hx⟩:=eJ (enD d s);rw[hx] at k5 hz;have Hhx:=qh hx;clear hx;cases x
      ·have hend:=Zcf (n:=L) (s:=s) (cwN d k);rw[hz,if_neg (by simp)] at hend;rw[hend] at hS;have HS:=qh hS;have Hhz:=qh hz;clear hz;have Hhk0:=qh hk0;clear hk0;clear hS hend;go_wp2;go_roundw
       case rel=>exact⟨s+1,by go_num,by omega,HS.out⟩
       case measure=>simp[intOf];omega
      have f0:=hS.rfr 4 s rfl;have k0:=hS.rcell (v:=.int .i64 0) 4 s rfl (by omega) (ZbK (n:=L) (cwN d k) 0);have hS3:=hS.store 4 rfl s (.int .i64 1);have hset:=ZcO (n:=L) (s:=s) (cwN d k) 0 1;have hend:=Zcf (n:=L) (s:=s) (cwN d k);rw[hz,if_pos rfl] at hend;rw[show(.int .i64 1:Value) = .int .i64 ((1:Nat):Int) from rfl] at hS3;simp only[List.set_cons_succ,List.set_cons_zero] at hS3;rw[hset,hend] at hS3;have HS:=qh hS3;have Hhz:=qh hz;clear hz;have Hhk0:=qh hk0;clear hk0;clear hS hend hS3 hset;go_wp2;go_roundw
      case rel=>exact⟨s+1,by go_num,by omega,HS.out⟩
      case measure=>simp[intOf];omega
     obtain⟨l,hkl⟩:∃ l,k=l+1:=⟨k-1,by omega⟩;have hk1:((k:Int)==0)=false:=by simp;omega
     rw[ZfK _ hslt] at hS;have HS5:=qh hS;have hsub:IntKind.i64.wrap ((k:Int)-1)=((l:Nat):Int):=by rw[IntWalk.i64_in _ (by omega)];omega
     have hll:l<31:=by omega
     have hll2:(l:Int)<31:=by omega
     have hl30:l≤30:=by omega
     have hps3:psN d l s 3=cwN d k s:=by rw[hkl];exact(Zmr (fun c hc=>HC.out.dx s c hsL hc)).symm
     obtain⟨gl,hgl,hin⟩:=HM.out.2 l (by omega);rw[← hL.out] at hgl hin;have hal:(arrC (vs++[.slice (some ⟨g,0,none⟩) L L]))[l]? = some (.slice (some ⟨gl,0,none⟩) L L):=by rw[Ziu (by rw[List.length_append,Hhvl.out];omega),← hgl];simp only[List.getD_eq_getElem?_getD];rw[List.getElem?_append_left (by rw[Hhvl.out];omega)]
     have hak:(arrC (vs++[.slice (some ⟨g,0,none⟩) L L]))[k]? = some (.slice (some ⟨g,0,none⟩) L L):=by rw[Ziu (by rw[List.length_append,Hhvl.out];simp)];have hv:=Hhvl.out;subst hv;simp
     have Hal:=qh hal;have Hak:=qh hak;have Hin:=qh hin;have Hps3:=qh hps3;have Hhkl:=qh hkl;clear hkl;clear hS hgl hin hal hak hps3 hk0 hlt;subst hwm;go_wp2
     go_loopw [39] (fun i wr=>∃ c:Nat,i = .int .i64 (c:Int)∧c≤3∧St w wr [Ent.box w.heap.size #[.slice (some ⟨b1,o1,none⟩) L cv,.slice (some ⟨b2,o2,none⟩) L cw] 30,Ent.box (w.heap.size+1+1) (arrC (vs++[.slice (some ⟨g,0,none⟩) L L])) 64,X,Ent.box (w.heap.size+1) (arrC []) 64,Ent.row 3 1 (.slice (some ⟨g,0,none⟩) L L) L (intCells (padT L s (cwN d k) (psN d l s c)))]) (fun i _=>3-(intOf i).toNat)
     case atStart=>exact⟨0,rfl,Nat.zero_le _,HS5.out⟩
     case round =>
      obtain⟨c,rfl,hc,hS⟩:=hrel;by_cases hc3:c<3
      ·have hc3I:(c:Int)<3:=by omega
       have k5:=K4.out wr hS.bel c hc3;have htL:=HC.out.lt s c hsL hc3;have hps:psN d l s (c+1)=psN d l s c+cwN d l (nxD d s c):=rfl;have hb1:=ZmO (d:=d) (l:=l) (s:=nxD d s c) hl30;have hb2:=ZmG (d:=d) (l:=l) (s:=s) hl30 c;have hset:=ZcO (n:=L) (s:=s) (cwN d k) (psN d l s c) (psN d l s (c+1));have r1:=hS.innRcell 2 (nxD d s c) rfl Hin.out (by rw[hL.out];omega) (Zbr (cwN d l) (by rw[hL.out];exact htL));have r2:=hS.rcell (v:=.int .i64 ((psN d l s c:Nat):Int)) 4 s rfl (by omega) (ZbK (cwN d k) (psN d l s c));rw[hps] at hset;obtain⟨t,ht⟩:=eJ (nxD d s c);rw[ht,← hL.out] at htL;rw[ht] at k5 hps hb1 hset r1;have htLI:(t:Int)<L:=by omega
       have a1:=hS.cell (v:=.slice (some ⟨gl,0,none⟩) L L) 1 l rfl Hal.out;have a2:=hS.cell (v:=.slice (some ⟨g,0,none⟩) L L) 1 k rfl Hak.out;have f2:=hS.rfr 4 s rfl;obtain⟨x,hx⟩:=eJ (cwN d l t);obtain⟨y,hy⟩:=eJ (psN d l s c);rw[hx] at r1 hps hb1 hset;rw[hy] at r2 hps hb2 hset hS;have hS6:=hS.store 4 rfl s (.int .i64 ((y:Int)+(x:Int)));rw[show((y+x:Nat):Int)=(y:Int)+(x:Int) by omega,← hps] at hset;simp only[List.set_cons_succ,List.set_cons_zero] at hS6;rw[hset] at hS6;have hw9:IntKind.i64.wrap ((y:Int)+(x:Int))=(y:Int)+(x:Int):=IntWalk.i64_in _ (by omega);have HS6:=qh hS6;have Hhps:=qh hps;clear hps;have Hhx:=qh hx;clear hx;have Hhy:=qh hy;clear hy;have Hht:=qh ht;clear ht;clear hS hS6 hset hslt hk1;go_wp2
       go_region
       go_wp2;go_roundw
       case rel=>exact⟨c+1,by go_num,by omega,HS6.out.drewN _⟩
       case measure=>simp[intOf];omega
      obtain rfl:c=3:=by omega
      rw[Hps3.out,Zcf] at hS;have HS6:=qh hS;clear hS;go_wp2;go_roundw
      case rel=>exact⟨s+1,by go_num,by omega,HS6.out⟩
      case measure=>simp[intOf];omega
    obtain rfl:s=L:=by omega
    rw[Zer] at hS;have HS6:=qh ((hS.pick [0,1,3,2,4] (by decide)).pack (A:=[Ent.box w.heap.size #[.slice (some ⟨b1,o1,none⟩) s cv,.slice (some ⟨b2,o2,none⟩) s cw] 30,Ent.box (w.heap.size+1+1) (arrC (vs++[.slice (some ⟨g,0,none⟩) s s])) 64,Ent.box (w.heap.size+1) (arrC []) 64]) (R:=[X,Ent.row 3 1 (.slice (some ⟨g,0,none⟩) s s) s (intCells (clsL s (cwN d k)))]));clear hS;go_wp2;go_roundw
    case rel =>
     have hM2:CMem d (Ent.all [X,Ent.row 3 1 (.slice (some ⟨g,0,none⟩) s s) s (intCells (clsL s (cwN d k)))]) (vs++[.slice (some ⟨g,0,none⟩) s s]) (k+1):=by have:=HM.out.snoc (b:=g);rw[← hL.out] at this;exact this
     exact⟨k+1,vs++[Value.slice (some ⟨g,0,none⟩) s s],Ent.all [X,Ent.row 3 1 (.slice (some ⟨g,0,none⟩) s s) s (intCells (clsL s (cwN d k)))],by go_num,by omega,hM2,HS6.out.pick [0,1,3,2] (by decide)⟩
    case measure=>simp[intOf];omega
  obtain rfl:k=31:=by omega
  rw[Zmz hvl] at hS;have HS7:=qh hS;clear hS;rename_i hK0;have HK:=qh hK0;clear hK0;go_wp2;refine HK.out _ _ ?_;have hI:(Try.prog.info? 64).map (·.size)=some 31:=by kernel_rfl
  refine wp_seq ?_;refine wp_region_list ?_;refine ZcU rfl 64 _ rfl (w.heap.size+1+1) rfl 64 vs.toArray _ (HS7.out.box 1 rfl) Try.underlying64 rfl (by rw[hI];simp[hvl]) ?_;refine Zco rfl 64 _ _ rfl (w.heap.size+1) 64 (arrC []) vs.toArray rfl rfl (HS7.out.box 3 rfl) (by rw[hI];simp[hvl]) (by simp[hvl,arrC]) (fun v hv=>hM.one v (by simpa using hv)) ?_;refine wpList_nil ?_;have HS8:=qh (HS7.out.setAll 3 rfl vs.toArray);show Code.wp Try.prog Code.ret _ _ _;go_wp2;refine bodyPost_ret (v:=.agg vs.toArray) (ZaT Try.results40 _ _ _ (w.heap.size+1) 64 vs.toArray _ rfl (HS8.out.box 3 rfl) Try.underlying64 rfl (by rw[hI];simp[hvl])) rfl ?_;exact⟨vs,X,rfl,hM,HS8.out.pick [2] (by decide)⟩
end Go.Proofs.Ytfikabecgaappaa
namespace Go.Proofs.Ytfikabecgaappaa
open Go.RowKit Go.Deep Go.ChangeShapes Go.ChangeAt
section
variable {H:Type} {enc:TypeId × Value→H} {P:Program} {w:World} {held:Bool}
theorem ZjP {a:Addr} {v:Value} (h:w.cell? (a.add 0)=some v):∃ b off,a=⟨b,off,none⟩:=by
 obtain⟨b,off,spot⟩:=a;have hspot:spot=none:=by simpa [Addr.add] using World.cell?_spot h
 subst hspot;exact⟨b,off,rfl⟩
theorem ZhW {a:Addr} {len cap:Nat} {cs:List Value} (hl:cs.length=len) (hle:len≤cap) (hm:cap≤maxLen) (hc:∀ i,i<len→w.cell? (a.add i)=cs[i]?):Sl 0 w (.slice (some a) len cap) len 1 cs:=by refine⟨by omega,_,cap,rfl,hle,hm,fun h0 => ?_⟩;obtain⟨u,hu⟩:∃ u,cs[0]? = some u:=⟨cs[0]'(by omega),by simp[show 0<cs.length by omega]⟩;obtain⟨b,off,rfl⟩:=ZjP ((hc 0 h0).trans hu);refine⟨b,off,rfl,Nat.zero_le _,World.block_lt_of_cell? w _ ((hc 0 h0).trans hu),fun j hj => ?_⟩;rw[← hc j (by omega),← Go.WideShapes.add_plain]
end
end Go.Proofs.Ytfikabecgaappaa
namespace Go.Proofs.Ytfikabecgaappaa
open Go.RowKit Go.Deep Go.ChangeShapes Go.ChangeAt
def Bytes (B:Nat) (w:World) (v:Value) (bs:List Nat):Prop:=(∀ b∈bs,b<256)∧Sl B w v bs.length 1 (bs.map fun (b:Nat)=>Value.int .u8 (b:Int))
theorem Bytes.below {B:Nat} {w w':World} {v:Value} {bs:List Nat} (h:Bytes B w v bs) (he:Below w.heap.size w w'):Bytes B w' v bs:=⟨h.1,Sl.below h.2 he⟩
theorem Bytes.form {B:Nat} {w:World} {v:Value} {bs:List Nat} (h:Bytes B w v bs):∃ a cap,v = .slice a bs.length cap∧bs.length≤cap∧cap≤9223372036854775807 ∧
  (0<bs.length→∃ b off,a=some ⟨b,off,none⟩∧B≤b∧b<w.heap.size∧∀ j,j<bs.length→w.cell? ⟨b,off+j,none⟩=some (.int .u8 (bs.getD j 0:Nat))∧bs.getD j 0<256):=by
 obtain⟨h0,hl,a,cap,hv,h1,h2,h3⟩:=h;refine⟨a,cap,hv,h1,h2,fun hn => ?_⟩;obtain⟨b,off,ha,hb,hlt,hc⟩:=h3 hn;refine⟨b,off,ha,hb,hlt,fun j hj=>⟨?_,h0 _ (by rw[show bs.getD j 0=bs[j] by simp[hj]];exact List.getElem_mem hj)⟩⟩;rw[hc j (by omega)];simp[hj]
section
variable {H:Type} {enc:TypeId × Value→H} {P:Program} {w:World} {held:Bool}
theorem Znp {n:Int} (h:(Lit.int .u8 n).wf=true):0≤n∧n≤255:=by have e1:IntKind.u8.min=0:=rfl;have e2:IntKind.u8.max=255:=rfl;simp only[Lit.wf,Bool.and_eq_true,decide_eq_true_eq,e1,e2] at h;exact h
theorem Zhb {t e:TypeId} {fuel:Nat} {cs:List Value} {x:DataW H × List MemPlace} (ht:P.underlying t=some (.slice e)) (he:P.underlying e=some (.int .u8)) (hc:P.cellsOf e=1)
  (h:DataW.trod enc P w 0 (fun _=>true) held fuel t cs=some x):∃ v bs,cs=[v]∧Bytes 0 w v bs:=by
 rcases open_ints ht he hc h with⟨hcs,-⟩|⟨a,len,cap,zs,hcs,-,hl,hm,hz,-,hcell,hwf⟩
 ·exact⟨_,[],hcs,fun b hb=>by simp at hb,by simp,none,0,rfl,Nat.le_refl _,Nat.zero_le _,fun h=>by simp at h⟩
 simp only[if_true] at hz;refine⟨_,(zs.take len).map Int.toNat,hcs,fun b hb => ?_,?_⟩
 ·obtain⟨z,hz1,rfl⟩:=List.mem_map.1 hb;have:=Znp (hwf z (List.mem_of_mem_take hz1));omega
 have hlen:((zs.take len).map Int.toNat).length=len:=by simp;omega
 rw[hlen];refine ZhW (by simp;omega) hl hm fun i hi => ?_
 rw[hcell i (by omega)];have hzi:i<zs.length:=by omega
 have:=Znp (hwf _ (List.getElem_mem hzi));simp[hi,hzi];omega
end
theorem Zhd (a:Nat) (ha:a<1099511627776):(BitVec.ofInt 64 (a:Int)).toNat=a:=by rw[BitVec.ofInt_natCast,BitVec.toNat_ofNat];exact Nat.mod_eq_of_lt (by omega)
theorem Zij (a b:Nat) (ha:a<1099511627776) (hb:b<1099511627776):bits .xor .i64 (a:Int) (b:Int)=((a ^^^ b:Nat):Int):=by have hx:a ^^^ b<2 ^ 40:=Nat.xor_lt_two_pow (by omega) (by omega);show IntKind.i64.wrap ((BitVec.ofInt 64 (a:Int) ^^^ BitVec.ofInt 64 (b:Int)).toNat:Int)=_;rw[BitVec.toNat_xor,Zhd a ha,Zhd b hb];exact IntWalk.i64_in _ (by omega)
end Go.Proofs.Ytfikabecgaappaa
namespace Go.Proofs.Ytfikabecgaappaa
open Go.RowKit
def RdE (b:Nat) (vb:Value) (p:Nat):Ent:=Ent.box b #[vb,.int .i64 ((p:Nat):Int)] 70
theorem Bytes.take {w:World} {a:Option Addr} {len cap:Nat} {bs:List Nat} (h:Bytes 0 w (.slice a len cap) bs) {n:Nat} (hn:n≤bs.length):Bytes 0 w (.slice a n cap) (bs.take n):=by
 obtain⟨h0,hl,a',cap',hv,h1,h2,h3⟩:=h;simp only[Value.slice.injEq] at hv;obtain⟨rfl,rfl,rfl⟩:=hv;have e:(bs.take n).length=n:=by rw[List.length_take];omega
 refine⟨fun b hb=>h0 b (List.mem_of_mem_take hb),?_⟩;rw[e];refine⟨by rw[List.length_map,e];omega,a,cap,rfl,by omega,h2,fun hn0 => ?_⟩;obtain⟨b,off,ha,hb,hlt,hc⟩:=h3 (by omega);refine⟨b,off,ha,hb,hlt,fun j hj => ?_⟩;rw[hc j (by omega),List.map_take,List.getElem?_take_of_lt (by omega)]
theorem Zde (bs:List Nat) (vb:Value) (b p n:Nat) (w0 w:World) (X:Ent) (hb:Bytes 0 w0 vb bs) (hlen:bs.length≤2000) (hp:p≤1000000) (hn0:1≤n) (hn1:n≤10000) (hS:St w0 w [RdE b vb p,X]) :
  Calls Try.prog 33 #[.pointer (some ⟨b,0,none⟩),.int .i64 ((n:Nat):Int)] w fun e w'=>∃ k:Nat,k<n∧e = .returned (.int .i64 ((k:Nat):Int))∧St w0 w' [RdE b vb (p+1),X]:=by
 obtain⟨a,c,rfl,hc1,hc2,hr⟩:=hb.form;have e0:=hS.cell (v:=.slice a bs.length c) 0 0 rfl rfl;have e1:=hS.cell (v:=.int .i64 ((p:Nat):Int)) 0 1 rfl rfl;have f1:=hS.fr 0 1 rfl;have hS1:=hS.set 0 rfl 1 (.int .i64 ((p:Int)+1));have HS1:=qh hS1;have Hr:=qh hr;have hnI:(1:Int)≤n:=by omega
 have hn2:((n:Int)<1)=False:=by simp;omega
 have hp1:(p:Int)+1-1=p:=by omega
 clear hb hS hr hS1;by_cases h0:bs.length=0
 ·have q1:((bs.length:Int)==0)=true:=by rw[h0];rfl
  have q2:((bs.length:Int)=0)=True:=by simp[h0]
  go_enter Try.func33, Try.ntmps33
  go_wp2;go_ret;exact⟨0,by omega,rfl,HS1.out⟩
 have q0:(bs.length:Int)≠0:=by omega
 have q1:((bs.length:Int)==0)=false:=by rw[beq_eq_false_iff_ne];exact q0
 have q2:((bs.length:Int)=0)=False:=eq_false q0;clear q0;obtain⟨b1,o1,rfl,-,hb1,hcs⟩:=Hr.out (by omega);by_cases hlt:p<bs.length
 ·have hlt2:(p:Int)<bs.length:=by omega
  have e3:=(bcell HS1.out.bel b1 _ hb1).trans (hcs p hlt).1;obtain⟨v,hv⟩:=eI (bs.getD p 0);have hv2:=(hcs p hlt).2;rw[← hv] at e3 hv2;replace hv:=qh hv;clear hcs h0
  go_enter Try.func33, Try.ntmps33
  go_wp2;go_ret;have hvn:((v:Int) % (n:Int))=((v % n:Nat):Int):=by omega
  exact⟨v % n,Nat.mod_lt _ (by omega),by rw[← hvn];rfl,HS1.out⟩
 have hlt2:((p:Int)<bs.length)=False:=by simp;omega
 have hm1:p % bs.length<bs.length:=Nat.mod_lt _ (by omega);have hm2:(p*7+3) % bs.length<bs.length:=Nat.mod_lt _ (by omega);have e3:=(bcell HS1.out.bel b1 _ hb1).trans (hcs _ hm1).1;have e4:=(bcell HS1.out.bel b1 _ hb1).trans (hcs _ hm2).1;have hv1:=(hcs _ hm1).2;have hv2:=(hcs _ hm2).2;have i1:(p:Int) % (bs.length:Int)=((p % bs.length:Nat):Int):=by omega
 have i2:((p:Int)*7+3) % (bs.length:Int)=(((p*7+3) % bs.length:Nat):Int):=by rw[Int.natCast_emod];congr 1
 have i3:(p:Int) / (bs.length:Int)=((p / bs.length:Nat):Int):=by rw[Int.natCast_ediv]
 have hdv:p / bs.length≤1000000:=Nat.le_trans (Nat.div_le_self _ _) hp;obtain⟨u1,hu1⟩:∃ u,u=bs.getD (p % bs.length) 0:=⟨_,rfl⟩;obtain⟨u2,hu2⟩:∃ u,u=bs.getD ((p*7+3) % bs.length) 0:=⟨_,rfl⟩;obtain⟨m1,hmm1⟩:∃ m,m=p % bs.length:=⟨_,rfl⟩;obtain⟨m2,hmm2⟩:∃ m,m=(p*7+3) % bs.length:=⟨_,rfl⟩;obtain⟨m3,hmm3⟩:∃ m,m=p / bs.length:=⟨_,rfl⟩;rw[← hu1] at e3 hv1;rw[← hu2] at e4 hv2;rw[← hmm1] at e3 i1 hm1;rw[← hmm2] at e4 i2 hm2;rw[← hmm3] at i3 hdv;have j1:(m1:Int)<bs.length:=by omega
 have j2:(m2:Int)<bs.length:=by omega
 replace hu1:=qh hu1;have Hhu2:=qh hu2;clear hu2;replace hmm1:=qh hmm1;have Hhmm2:=qh hmm2;clear hmm2;have Hhmm3:=qh hmm3;clear hmm3;clear hcs h0 hlt
 go_enter Try.func33, Try.ntmps33
 go_wp2
 go_quiet (fail)
 go_wp2;have ea:((u1:Int)*131+(u2:Int)*1117+(p:Int)*29+(m3:Int)*53)=((u1*131+u2*1117+p*29+m3*53:Nat):Int):=by omega
 obtain⟨A,hA⟩:=eI (u1*131+u2*1117+p*29+m3*53);have hAl:A<1099511627776:=by omega
 rw[← hA] at ea;have hx:(bits BinOp.xor IntKind.i64 ((u1:Int)*131+(u2:Int)*1117+(p:Int)*29+(m3:Int)*53) (((u1:Int)*131+(u2:Int)*1117+(p:Int)*29+(m3:Int)*53) / 64)).tmod (n:Int)=(((A ^^^ (A / 64)) % n:Nat):Int):=by rw[ea,show((A:Nat):Int) / 64=((A / 64:Nat):Int) by omega,Zij A (A / 64) hAl (by omega)];exact(Int.ofNat_tmod _ _).symm
 go_ret;exact⟨(A ^^^ (A / 64)) % n,Nat.mod_lt _ (by omega),by rw[← hx];rfl,HS1.out.drewN _⟩
theorem Zm3 (bs:List Nat) (vb:Value) (b p n:Nat) (w0 w:World) (X:Ent) (hb:Bytes 0 w0 vb bs) (hlen:bs.length≤2000) (hp:p≤1000000) (hn1:n≤10000) (hS:St w0 w [RdE b vb p,X]) :
  Calls Try.prog 42 #[.pointer (some ⟨b,0,none⟩),.int .i64 ((n:Nat):Int)] w fun e w'=>∃ (q:Bool) (p':Nat),p'≤p+1∧e = .returned (.bool q)∧St w0 w' [RdE b vb p',X]:=by
 have HS:=qh hS;have Hb:=qh hb;clear hS hb;by_cases h0:n=0
 ·subst h0
  go_enter Try.func42, Try.ntmps42
  go_wp2;go_ret;exact⟨_,p,by omega,rfl,HS.out⟩
 have hnI:(0:Int)<n:=by omega
 go_enter Try.func42, Try.ntmps42
 go_wp2_with fail;refine(Zde bs vb b p n w0 _ X Hb.out hlen hp (by omega) hn1 HS.out).mono ?_;rintro e w1 ⟨k,hk,rfl,hS1⟩;have HS1:=qh hS1;clear hS1;by_cases hkn:(k:Int)=(n:Int)-1
 ·have g1:((k:Int)==(n:Int)-1)=true:=by rw[hkn];simp
  have g2:((k:Int)=(n:Int)-1)=True:=eq_true hkn;clear hkn;go_wp2;go_ret;exact⟨_,p+1,Nat.le_refl _,rfl,HS1.out⟩
 have g1:((k:Int)==(n:Int)-1)=false:=by rw[beq_eq_false_iff_ne];exact hkn
 have g2:((k:Int)=(n:Int)-1)=False:=eq_false hkn;clear hkn;go_wp2;go_ret;exact⟨_,p+1,Nat.le_refl _,rfl,HS1.out⟩
end Go.Proofs.Ytfikabecgaappaa
