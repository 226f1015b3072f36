/-
  Texts as lists of bytes; the walks over WordValid (both), letter, WordRank "ab", alive.
  Conditions: the text has at most 2000000 bytes.
-/
import Derived.Test.YtehmjmjedopkkaaGreatPd03Nk
set_option maxHeartbeats 8000000
set_option maxRecDepth 100000
namespace Go.Proofs.YtehmjmjedopkkaaGreat
open Go.RowKit
def txB (l:List Nat):ByteArray:=⟨(l.map UInt8.ofNat).toArray⟩
def isT (l:List Nat):Prop:=∀ b∈l,b<256
theorem ZbL (l:List Nat):(txB l).size=l.length:=by simp[txB,ByteArray.size]
theorem Zdn {l:List Nat} {i:Nat} (hi:i<l.length):l.getD i 0∈l:=by rw[List.getD_eq_getElem?_getD,List.getElem?_eq_getElem hi];exact List.getElem_mem hi
theorem Zo7 {l:List Nat} {i:Nat} (hi:i<l.length) (ht:isT l) (h:i<(txB l).size):(((txB l)[i]'h).toNat:Int)=(l.getD i 0:Nat):=by
 have hc:l.getD i 0<256:=ht _ (Zdn hi);have e:(txB l)[i]'h=UInt8.ofNat (l.getD i 0):=by show(txB l).data[i]=_;simp[txB,hi]
 rw[e,UInt8.toNat_ofNat'];omega
theorem Zc9 {l:List Nat} {i:Nat} (hi:i<l.length) (ht:isT l) (w:World):(Instr.index 9 (.string (txB l)) (.int .i64 (i:Int))).run Tryz.prog w = .ok (.int .u8 ((l.getD i 0:Nat):Int)) w:=by have hs:(txB l).size=l.length:=ZbL l;rw[run_index_string w 9 (txB l) .i64 i Tryz.underlying9,dif_pos (by omega)];congr 2;exact Zo7 hi ht _
def okT (l:List Nat) (k:Nat):Bool:=(List.range k).all fun i=>inB ((l.getD i 0:Nat):Int) 97 99
def wdOk (l:List Nat):Bool:=okT l l.length&&decide (l.length≤8)
theorem ZjT {l:List Nat} {k:Nat} (h:okT l k=true) (h1:inB ((l.getD k 0:Nat):Int) 97 99=true):okT l (k+1)=true:=ZkC h h1
theorem ZlF {l:List Nat} {k:Nat} (hk:k<l.length) (h1:inB ((l.getD k 0:Nat):Int) 97 99=false):wdOk l=false:=by
 unfold wdOk okT;have:((List.range l.length).all fun i=>inB ((l.getD i 0:Nat):Int) 97 99)=false:=by rw[List.all_eq_false];exact⟨k,List.mem_range.2 hk,by rw[h1];simp⟩
 rw[this];rfl
theorem ZgB (l:List Nat) (w:World) (ht:isT l) (hl:l.length≤2000000) (r:Bool) (hr:wdOk l=r) :
  Calls Tryz.prog 59 #[.string (txB l),.int .i64 8] w fun e w'=>e = .returned (.bool r)∧w=w':=by
 have hs:(txB l).size=l.length:=ZbL l;replace hr:=qh hr;have Hht:=qh ht;clear ht
 go_enter Tryz.func59, Tryz.ntmps59
 go_wp2
 go_loopw [8] (fun i wr=>∃ k:Nat,i = .int .i64 k∧k≤l.length∧okT l k=true∧w=wr) (fun i _=>l.length-(intOf i).toNat)
 case atStart=>exact⟨0,rfl,Nat.zero_le _,rfl,rfl⟩
 case round =>
  obtain⟨k,rfl,hk,hok,rfl⟩:=hrel;by_cases hlt:k<l.length
  ·have hkl:(k:Int)<l.length:=by omega
   have hrun:=Zc9 hlt Hht.out;have hb:=Hht.out _ (Zdn hlt);obtain⟨c,hcc⟩:=eI (l.getD k 0);rw[← hcc] at hrun hb;have hw9:IntKind.i64.wrap (c:Int)=(c:Int):=IntWalk.i64_in _ (by omega);have Hhok:=qh hok;clear hok;replace hcc:=qh hcc;cases hin:inB (c:Int) 97 99
   ·have Hhin:=qh hin;clear hin;go_wp2_with (go_at_call 73;refine(Zbq _ _ _ _ _ Hhin.out).mono ?_;rintro e w' ⟨rfl,rfl⟩);go_ret;exact⟨by rw[← hr.out,ZlF hlt (by rw[← hcc.out];exact Hhin.out)];rfl,rfl⟩
   have Hhin:=qh hin;clear hin;go_wp2_with (go_at_call 73;refine(Zbq _ _ _ _ _ Hhin.out).mono ?_;rintro e w' ⟨rfl,rfl⟩);go_roundw
   case rel=>exact⟨k+1,by go_num,by omega,ZjT Hhok.out (by rw[← hcc.out];exact Hhin.out),trivial⟩
   case measure=>simp[intOf];omega
  obtain rfl:k=l.length:=by omega
  have hrr:decide ((l.length:Int)≤8)=r:=by rw[← hr.out];unfold wdOk;rw[hok,Bool.true_and];exact decide_eq_decide.2 (by omega)
  have Hhok:=qh hok;clear hok;have Hhrr:=qh hrr;clear hrr;go_wp2;go_ret;exact⟨by rw[← Hhrr.out];rfl,rfl⟩
theorem Zbf (l:List Nat) (w:World) (ht:isT l) (hl:l.length≤2000000) (r:Bool) (hr:wdOk l=r) :
  Calls Tryz.prog 27 #[.string (txB l)] w fun e w'=>e = .returned (.bool r)∧w=w':=by
 replace hr:=qh hr;have Hht:=qh ht;clear ht
 go_enter Tryz.func27, Tryz.ntmps27
 go_wp2_with (go_at_call 59;refine(ZgB l _ Hht.out hl _ hr.out).mono ?_;rintro e w' ⟨rfl,rfl⟩);go_ret;exact⟨rfl,rfl⟩
theorem Zba (l:List Nat) (w:World) (ht:isT l) (hl:l.length≤2000000) (r:Bool) (hr:wdOk l=r) :
  Calls Tryz.prog 32 #[.string (txB l)] w fun e w'=>e = .returned (.bool r)∧w=w':=by
 have hs:(txB l).size=l.length:=ZbL l;replace hr:=qh hr;have Hht:=qh ht;clear ht
 go_enter Tryz.func32, Tryz.ntmps32
 go_wp2
 go_loopw [3] (fun i wr=>∃ k:Nat,i = .int .i64 k∧k≤l.length∧okT l k=true∧w=wr) (fun i _=>l.length-(intOf i).toNat)
 case atStart=>exact⟨0,rfl,Nat.zero_le _,rfl,rfl⟩
 case round =>
  obtain⟨k,rfl,hk,hok,rfl⟩:=hrel;by_cases hlt:k<l.length
  ·have hkl:(k:Int)<l.length:=by omega
   have hrun:=Zc9 hlt Hht.out;have hb:=Hht.out _ (Zdn hlt);obtain⟨c,hcc⟩:=eI (l.getD k 0);rw[← hcc] at hrun hb;have hw9:IntKind.i64.wrap (c:Int)=(c:Int):=IntWalk.i64_in _ (by omega);have Hhok:=qh hok;clear hok;replace hcc:=qh hcc;cases hin:inB (c:Int) 97 99
   ·have Hhin:=qh hin;clear hin;go_wp2_with (go_at_call 63;refine(ZbS _ _ _ _ _ Hhin.out).mono ?_;rintro e w' ⟨rfl,rfl⟩);go_ret;exact⟨by rw[← hr.out,ZlF hlt (by rw[← hcc.out];exact Hhin.out)];rfl,rfl⟩
   have Hhin:=qh hin;clear hin;go_wp2_with (go_at_call 63;refine(ZbS _ _ _ _ _ Hhin.out).mono ?_;rintro e w' ⟨rfl,rfl⟩);go_roundw
   case rel=>exact⟨k+1,by go_num,by omega,ZjT Hhok.out (by rw[← hcc.out];exact Hhin.out),trivial⟩
   case measure=>simp[intOf];omega
  obtain rfl:k=l.length:=by omega
  have hrr:decide ((l.length:Int)≤8)=r:=by rw[← hr.out];unfold wdOk;rw[hok,Bool.true_and];exact decide_eq_decide.2 (by omega)
  have Hhok:=qh hok;clear hok;have Hhrr:=qh hrr;clear hrr;go_wp2;go_ret;exact⟨by rw[← Hhrr.out];rfl,rfl⟩
theorem ZdP (l:List Nat) (i:Nat) (hi:i<l.length) (ht:isT l) (hlo:97≤l.getD i 0) (w:World):Calls Tryz.prog 30 #[.string (txB l),.int .i64 i] w fun e w'=>e = .returned (.int .i64 ((l.getD i 0-97:Nat):Int))∧w=w':=by
 have hb:=ht _ (Zdn hi);have hrun:=Zc9 hi ht;obtain⟨c,hcc⟩:=eI (l.getD i 0-97);have hc2:((l.getD i 0:Nat):Int)=97+(c:Int):=by omega
 rw[hc2] at hrun;rw[← hcc]
 have hw8:IntKind.u8.wrap (97+(c:Int)-97)=(c:Int):=by
  have:97+(c:Int)-97=(c:Int):=by omega
  rw[this];exact IntWalk.u8_in _ (by omega)
 have hw9:IntKind.i64.wrap (c:Int)=(c:Int):=IntWalk.i64_in _ (by omega);replace hcc:=qh hcc;clear hc2 hlo hb
 go_enter Tryz.func30, Tryz.ntmps30
 go_wp2;go_ret;exact⟨rfl,rfl⟩
def shF:Nat→Nat
 | 0=>0
 | k+1=>shF k+3 ^ k
theorem Zlz {k:Nat} (h:k≤9):3 ^ k≤19683:=Nat.pow_le_pow_right (by omega) h
theorem Zn0:∀ k,shF k≤3 ^ k
 | 0=>by decide
 | k+1=>by show shF k+3 ^ k≤3 ^ (k+1);have:=Zn0 k;rw[Nat.pow_succ];omega
theorem ZiQ (n:Nat) (w:World) (hn:n≤9):Calls Tryz.prog 115 #[.int .i64 n] w fun e w'=>e = .returned (.int .i64 ((3 ^ n:Nat):Int))∧w=w':=by
 go_enter Tryz.func115, Tryz.ntmps115
 go_wp2
 go_loopw [3,5] (fun p i wr=>∃ k q:Nat,i = .int .i64 k∧p = .int .i64 q∧k≤n∧3 ^ k=q∧w=wr) (fun _ i _=>n-(intOf i).toNat)
 case atStart=>exact⟨0,1,rfl,rfl,Nat.zero_le _,rfl,rfl⟩
 case round =>
  obtain⟨k,q,rfl,rfl,hk,hq,rfl⟩:=hrel;have hq2:=Zlz (k:=k) (by omega);rw[hq] at hq2;by_cases hlt:k<n
  ·have hkl:(k:Int)<n:=by omega
   replace hq:=qh hq;go_wp2;go_roundw
   case rel=>exact⟨k+1,q*3,by go_num,by go_num,by omega,by rw[Nat.pow_succ,hq.out],trivial⟩
   case measure=>simp[intOf];omega
  obtain rfl:k=n:=by omega
  replace hq:=qh hq;go_wp2;go_ret;exact⟨by rw[hq.out];rfl,rfl⟩
theorem ZiZ (n:Nat) (w:World) (hn:n≤9):Calls Tryz.prog 80 #[.int .i64 n] w fun e w'=>e = .returned (.int .i64 ((shF n:Nat):Int))∧w=w':=by
 go_enter Tryz.func80, Tryz.ntmps80
 go_wp2
 go_loopw [3,6] (fun p i wr=>∃ k q:Nat,i = .int .i64 k∧p = .int .i64 q∧k≤n∧shF k=q∧w=wr) (fun _ i _=>n-(intOf i).toNat)
 case atStart=>exact⟨0,0,rfl,rfl,Nat.zero_le _,rfl,rfl⟩
 case round =>
  obtain⟨k,q,rfl,rfl,hk,hq,rfl⟩:=hrel;have hq2:=Zlz (k:=k) (by omega);have hq3:=Zn0 k;rw[hq] at hq3;obtain⟨t,hT⟩:=eJ (3 ^ k);rw[hT] at hq2 hq3;by_cases hlt:k<n
  ·have hkl:(k:Int)<n:=by omega
   replace hq:=qh hq;replace hT:=qh hT;go_wp2_with (go_at_call 115;refine(ZiQ k _ (by omega)).mono ?_;rintro e w' ⟨rfl,rfl⟩;rw[hT.out]);go_roundw
   case rel=>exact⟨k+1,q+t,by go_num,by go_num,by omega,by rw[← hq.out,← hT.out];rfl,trivial⟩
   case measure=>simp[intOf];omega
  obtain rfl:k=n:=by omega
  replace hq:=qh hq;replace hT:=qh hT;go_wp2;go_ret;exact⟨by rw[hq.out];rfl,rfl⟩
theorem ZkB (w:World):Calls Tryz.prog 41 #[.string { data:=#[97,98] }] w fun e w'=>e = .returned (.int .i64 5)∧w=w':=by
 have hab:({ data:=#[97,98] }:ByteArray)=txB [97,98]:=rfl;have hab2:isT [97,98]:=fun b hb=>by simp at hb;omega
 have hsz:(txB [97,98]).size=2:=rfl;have l0:=fun w=>ZdP [97,98] 0 (by decide) hab2 (by decide) w
 have l1:=fun w=>ZdP [97,98] 1 (by decide) hab2 (by decide) w
 have sh:∀ w,Calls Tryz.prog 80 #[.int .i64 2] w fun e w'=>e = .returned (.int .i64 4)∧w=w':=fun w=>ZiZ 2 w (by omega)
 have hv:=fun w=>Zbf [97,98] w hab2 (by decide) true rfl
 rw[hab];have L0:=qh l0;have L1:=qh l1;have Sh:=qh sh;have Hv:=qh hv;clear l0 l1 sh hab hab2 hv
 go_enter Tryz.func41, Tryz.ntmps41
 go_wp2_with (go_at_call 27;refine(Hv.out _).mono ?_;rintro e w' ⟨rfl,rfl⟩)
 go_loopw [3,10] (fun n i wr=>∃ k q:Nat,i = .int .i64 k∧n = .int .i64 q∧k≤2∧q≤1∧(k<2→q=0)∧(k=2→q=1)∧w=wr) (fun _ i _=>2-(intOf i).toNat)
 case atStart=>exact⟨0,0,rfl,rfl,by omega,by omega,fun _=>rfl,fun h=>by omega,rfl⟩
 case round =>
  obtain⟨k,q,rfl,rfl,hk,hq1,hq2,hq3,rfl⟩:=hrel;obtain rfl|rfl|rfl:k=0∨k=1∨k=2:=by omega
  ·obtain rfl:=hq2 (by omega);clear hq1 hq2 hq3 hk;go_wp2_with (go_at_call 30;refine(L0.out _).mono ?_;rintro e w' ⟨rfl,rfl⟩);go_roundw
   case rel=>exact⟨1,0,rfl,rfl,by omega,by omega,fun _=>rfl,fun h=>by omega,trivial⟩
   case measure=>simp[intOf]
  ·obtain rfl:=hq2 (by omega);clear hq1 hq2 hq3 hk;go_wp2_with (go_at_call 30;refine(L1.out _).mono ?_;rintro e w' ⟨rfl,rfl⟩);go_roundw
   case rel=>exact⟨2,1,rfl,rfl,by omega,by omega,fun h=>by omega,fun _=>rfl,trivial⟩
   case measure=>simp[intOf]
  obtain rfl:=hq3 rfl;clear hq1 hq2 hq3 hk;go_wp2_with (go_at_call 80;refine(Sh.out _).mono ?_;rintro e w' ⟨rfl,rfl⟩);go_ret;exact⟨rfl,rfl⟩
theorem Zes (w:World):Calls Tryz.prog 13 #[] w fun e w'=>e = .returned (.bool true)∧w=w':=by
 go_enter Tryz.func13, Tryz.ntmps13
 go_wp2_with (go_at_call 41;refine(ZkB _).mono ?_;rintro e w' ⟨rfl,rfl⟩);go_ret;exact⟨rfl,rfl⟩
theorem Zeu (u v:List Nat):txB u++txB v=txB (u++v):=by apply ByteArray.ext;simp[txB,ByteArray.data_append]
theorem Zk1 (u:List Nat) {v:ByteArray} {l:List Nat} (hv:v=txB l):txB u++v=txB (u++l):=by rw[hv,Zeu]
theorem Zg7 (c:Nat) (hc:c<3):strOfNums [97+(c:Int)]=txB [97+c]:=by
 obtain rfl|rfl|rfl:c=0∨c=1∨c=2:=by omega
 all_goals rfl
theorem Zkh (c:Nat) (hc:c<3) (w:World) (b cap:Nat) (h:w.cell? ⟨b,0,none⟩=some (.int .u8 (97+(c:Int)))) :
  (convert 22 9 (.slice (some ⟨b,0,none⟩) 1 cap)).run Tryz.prog w = .ok (.string (txB [97+c])) w:=by
 rw[← Zg7 c hc]
 exact run_convert_bytes_arg w 22 5 Tryz.underlying22 Tryz.underlying5 b 0 1 cap [97+(c:Int)] rfl (fun i hi=>by
  obtain rfl:i=0:=by omega
  simpa using h) 9 Tryz.underlying9
theorem ZhY (c:Nat) (hc:c<3):IntKind.u8.wrap (97+(c:Int))=97+(c:Int):=by
 obtain rfl|rfl|rfl:c=0∨c=1∨c=2:=by omega
 all_goals rfl
theorem Zkq (u:List Nat) (v:ByteArray) (hu:u.length≤1000) (hv:v.size≤1000):(∀ w':World,(Op.stringOp .add (txB u) v).run Tryz.prog w' = .ok (.string (txB u++v)) w')∧¬ 9223372036854775807<(txB u).size+v.size:=by have h:=ZbL u;exact⟨fun w'=>run_string_add_sum w' _ _ (by omega),by omega⟩
theorem ZhD {l:List Nat} {c:Nat} (h:isT l) (hc:c<256):isT (l++[c]):=fun b hb=>by
 rcases List.mem_append.1 hb with hb|hb
 ·exact h b hb
 rw[List.mem_singleton.1 hb];exact hc
theorem Zin (bs:List Nat) (vb:Value) (b p n:Nat) (w0 w:World) (X:Ent) (hb:Bytes 0 w0 vb bs) (hlen:bs.length≤2000) (hp:p≤800000) (hn1:n≤10000) (hS:St w0 w [RdE b vb p,X]) :
  Calls Tryz.prog 50 #[.pointer (some ⟨b,0,none⟩),.int .i64 ((n:Nat):Int)] w fun e w'=>∃ (l:List Nat) (p':Nat),isT l∧l.length≤10∧p'≤p+20∧e = .returned (.string (txB l))∧St w0 w' [RdE b vb p',X]:=by
 have Hb:=qh hb;have HS:=qh hS;clear hb hS
 go_enter Tryz.func50, Tryz.ntmps50
 go_wp2_with fail;refine(Zay bs vb b p 9 w0 _ _ Hb.out hlen (by omega) (by omega) (by omega) HS.out).mono ?_;rintro e w1 ⟨k0,hk0,rfl,hS1⟩;have HS1:=qh hS1;clear hS1;go_wp2
 go_loopw [5,6] (fun vs vk wr=>∃ (k pq:Nat) (l:List Nat),vk = .int .i64 k∧vs = .string (txB l)∧l.length+k≤8∧pq+k≤p+9∧isT l∧St w0 wr [RdE b vb pq,X])
  (fun _ vk _=>(intOf vk).toNat)
 case atStart=>exact⟨k0,p+1,[],rfl,rfl,by simp;omega,by omega,(fun b hb=>by cases hb),HS1.out⟩
 case round =>
  obtain⟨k,pq,l,rfl,rfl,hk,hpq,ht,hS⟩:=hrel;have HS2:=qh hS;have Ht:=qh ht;clear hS ht;by_cases hlt:0<k
  ·go_wp2_with fail;refine(Zay bs vb b pq 3 w0 _ _ Hb.out hlen (by omega) (by omega) (by omega) HS2.out).mono ?_;rintro e w2 ⟨c,hc,rfl,hS3⟩;have HS3:=qh (hS3.alloc_ (.cells #[.int .u8 (97+(c:Int))] 5));have hw1:IntKind.i64.wrap (97+(c:Int))=97+(c:Int):=IntWalk.i64_in _ (by omega);have hw2:=ZhY c hc;have hcv:=Zkh c hc (w2.alloc (.cells #[.int .u8 (97+(c:Int))] 5)) w2.heap.size 1 (Zg3 _ _ _ 0);obtain⟨hadd,hnlt⟩:=Zkq l (txB [97+c]) (by omega) (by rw[ZbL];simp);clear hS3;go_wp2;go_roundw
   case rel =>refine⟨k-1,pq+1,l++[97+c],by congr 1;omega,by rw[Zeu],by rw[List.length_append];simp;omega,by omega,ZhD Ht.out (by omega),HS3.out⟩
   case measure=>simp[intOf];omega
  have hz:((0:Int)<(k:Int))=False:=by simp;omega
  have hz2:(0<k)=False:=by simp;omega
  clear hlt;go_wp2_with fail;refine(Zjc bs vb b pq n w0 _ _ Hb.out hlen (by omega) hn1 HS2.out).mono ?_;rintro e w2 ⟨q,p2,hp2,rfl,hS3⟩;have HS3:=qh hS3;clear hS3;cases q
  ·go_wp2;go_ret;exact⟨l,p2,Ht.out,by omega,by omega,rfl,HS3.out⟩
  obtain⟨hadd1,hnlt1⟩:=Zkq l { data:=#[100] } (by omega) (by decide);obtain⟨hadd2,hnlt2⟩:=Zkq l { data:=#[65] } (by omega) (by decide);obtain⟨u1,hu1⟩:∃ u1,u1=txB l++{ data:=#[100] }:=⟨_,rfl⟩;obtain⟨u2,hu2⟩:∃ u2,u2=txB l++{ data:=#[65] }:=⟨_,rfl⟩;rw[← hu1] at hadd1;rw[← hu2] at hadd2;have he1:u1=txB (l++[100]):=by rw[hu1];exact Zk1 l rfl
  have he2:u2=txB (l++[65]):=by rw[hu2];exact Zk1 l rfl
  have HS4:=qh (HS3.out.alloc _ rfl #[.string u1,.string u2,.string { data:=#[97,97,97,97,97,97,97,97,97] }] 9);replace hu1:=qh hu1;have Hhu2:=qh hu2;clear hu2;replace he1:=qh he1;have Hhe2:=qh he2;clear he2;go_wp2_with fail;refine(Zay bs vb b p2 3 w0 _ _ Hb.out hlen (by omega) (by omega) (by omega) (St.pack (A:=[RdE b vb p2]) (R:=[X,Ent.box w2.heap.size #[.string u1,.string u2,.string { data:=#[97,97,97,97,97,97,97,97,97] }] 9]) HS4.out)).mono ?_;rintro e w5 ⟨j,hj,rfl,hSp⟩;have HS5:=qh (St.unpack (A:=[RdE b vb p2]) (A':=[RdE b vb (p2+1)]) (R:=[X,Ent.box w2.heap.size #[.string u1,.string u2,.string { data:=#[97,97,97,97,97,97,97,97,97] }] 9]) HS4.out hSp);have c0:=HS5.out.cell (v:=.string u1) 2 0 rfl rfl;have c1:=HS5.out.cell (v:=.string u2) 2 1 rfl rfl;have c2:=HS5.out.cell (v:=.string { data:=#[97,97,97,97,97,97,97,97,97] }) 2 2 rfl rfl;clear hSp;obtain rfl|rfl|rfl:j=0∨j=1∨j=2:=by omega
  ·go_wp2;go_ret;exact⟨l++[100],p2+1,ZhD Ht.out (by omega),by rw[List.length_append];simp;omega,by omega,by rw[he1.out];rfl,HS5.out.pick [0,1] (by decide)⟩
  ·go_wp2;go_ret;exact⟨l++[65],p2+1,ZhD Ht.out (by omega),by rw[List.length_append];simp;omega,by omega,by rw[Hhe2.out];rfl,HS5.out.pick [0,1] (by decide)⟩
  go_wp2;go_ret;exact⟨[97,97,97,97,97,97,97,97,97],p2+1,(fun b hb=>by simp at hb;omega),by decide,by omega,rfl,HS5.out.pick [0,1] (by decide)⟩
end Go.Proofs.YtehmjmjedopkkaaGreat
