/-
  The walks over the program's letters, runs and answers of automata at words.
  Conditions: the automaton is valid and reads as such; the word has letters below three, at most 1000000.
-/
import Derived.Test.YtfikabecgaappaaPw09Lh
set_option maxHeartbeats 1600000
namespace Go.Proofs.Ytfikabecgaappaa
open Go.RowKit
theorem ZlM {l:List Nat} {i:Nat} (hi:i<l.length) (hw:isW l) (h:i<(wdB l).size):(((wdB l)[i]'h).toNat:Int)=97+(l.getD i 0:Nat):=by
 have hc:l.getD i 0<3:=hw _ (memD hi);have e:(wdB l)[i]'h=UInt8.ofNat (97+l.getD i 0):=by show(wdB l).data[i]=_;simp[wdB,hi]
 rw[e,UInt8.toNat_ofNat'];omega
theorem Ziz (l:List Nat) (i:Nat) (hi:i<l.length) (hw:isW l) (w:World):Calls Try.prog 44 #[.string (wdB l),.int .i64 i] w fun e w'=>e = .returned (.int .i64 (l.getD i 0:Nat))∧w=w':=by
 have hc:l.getD i 0<3:=hw _ (memD hi);have hs:(wdB l).size=l.length:=ZhD l;have hat:=fun h=>ZlM hi hw h
 obtain⟨c,hcc⟩:=eI (l.getD i 0);rw[← hcc] at hc hat;rw[← hcc];have hrun:∀ w':World,(Instr.index 9 (.string (wdB l)) (.int .i64 (i:Int))).run Try.prog w' = .ok (.int .u8 (97+(c:Int))) w':=fun w'=>by rw[run_index_string w' 9 (wdB l) .i64 i Try.underlying9,dif_pos (by omega)];congr 2;exact hat _
 have hw8:IntKind.u8.wrap (97+(c:Int)-97)=(c:Int):=by
  obtain rfl|rfl|rfl:c=0∨c=1∨c=2:=by omega
  all_goals rfl
 have hw9:IntKind.i64.wrap (c:Int)=(c:Int):=IntWalk.i64_in _ (by omega);replace hcc:=qh hcc;clear hat
 go_enter Try.func44, Try.ntmps44
 go_wp2;go_ret;exact⟨rfl,rfl⟩
theorem Zi6 (d:DfaD) (s:Int) {l:List Nat} {k:Nat} (hk:k<l.length):runD d s (l.take (k+1))=dnx d (runD d s (l.take k)) (l.getD k 0):=by rw[List.take_succ_eq_append_getElem hk,ZbD];simp[runD,hk]
theorem Zks (d:DfaD) (q:Nat) (l:List Nat) (v:Value) (w:World) (hd:Zae d.next d.ends=true) (hq:q<d.next.length) (hw:isW l) (hl:l.length≤1000000) (h:DfaR 0 w v d) :
  Calls Try.prog 30 #[v,.int .i64 q,.string (wdB l)] w fun e w'=>e = .returned (.int .i64 (runD d q l))∧Below w.heap.size w w':=by
 obtain⟨v1,v2,rfl,g1,g2⟩:=h;have hlen:=Zac hd;have hS0:=(St.start w).alloc _ rfl #[v1,v2] 30;have hs:(wdB l).size=l.length:=ZhD l;have G1:=qh g1;replace hd:=qh hd;have Hhw:=qh hw;clear hw;replace hS0:=qh hS0;clear g1 g2
 go_enter Try.func30, Try.ntmps30
 go_wp2
 go_loopw [1,10] (fun fr i wr=>∃ k p:Nat,fr = .int .i64 p∧i = .int .i64 k∧k≤l.length∧p<d.next.length∧(p:Int)=runD d q (l.take k)∧St w wr [Ent.box w.heap.size #[v1,v2] 30]) (fun _ i _=>l.length-(intOf i).toNat)
 case atStart=>exact⟨0,q,rfl,rfl,Nat.zero_le _,hq,rfl,hS0.out⟩
 case round =>
  obtain⟨k,p,rfl,rfl,hk,hp,hrun,hS⟩:=hrel;by_cases hlt:k<l.length
  ·have hc:l.getD k 0<3:=Hhw.out _ (memD hlt);obtain⟨b1,o1,cap1,z,t,s,rfl,hc1,hc2,k1,hs1,hs2,k2,hb1,hb2⟩:=Zf5 (G1.out.below hS.bel) hd.out hp hc;have e0:=hS.cell (v:=.slice (some ⟨b1,o1,none⟩) d.next.length cap1) 0 0 rfl rfl;have hnx:=(Zaw hd.out hp).2 _ hc;have hsn:=Zi6 d q hlt;rw[← hrun] at hsn;obtain⟨x,hx⟩:=eI ((d.next.getD p []).getD (l.getD k 0) 0);have hdx:dnx d (p:Int) (l.getD k 0)=x:=by rw[hx];rfl
   rw[hdx] at hsn;rw[← hx] at k2 hnx;obtain⟨x0,x1⟩:=hnx;obtain⟨x,rfl⟩:=Int.eq_ofNat_of_zero_le x0;have hlet:=fun (w:World)=>Ziz l k hlt Hhw.out w
   obtain⟨c,hcc⟩:=eI (l.getD k 0);rw[← hcc] at hc k2 hlet;have hp2:(p:Int)<d.next.length:=by omega
   have hc3:(c:Int)<3:=by omega
   have hkl:(k:Int)<l.length:=by omega
   have Hlet:=qh hlet;replace hS:=qh hS;have Hhx:=qh hx;clear hx;have Hhdx:=qh hdx;clear hdx;have Hhsn:=qh hsn;clear hsn;have Hhcc:=qh hcc;clear hcc;have Hhrun:=qh hrun;clear hrun;clear hlet;go_wp2
   go_quiet (((go_at_call 44;with_reducible exact ZfC (Hlet.out _))))
   go_wp2;go_roundw
   case rel=>exact⟨k+1,x,rfl,by go_num,by omega,by omega,Hhsn.out.symm,hS.out.drewN _⟩
   case measure=>simp[intOf];omega
  obtain rfl:k=l.length:=by omega
  rw[List.take_length] at hrun;replace hS:=qh hS;have Hhrun:=qh hrun;clear hrun;go_wp2;go_ret;exact⟨ZcK Hhrun.out,hS.out.bel⟩
end Go.Proofs.Ytfikabecgaappaa
namespace Go.Proofs.Ytfikabecgaappaa
open Go.RowKit
def subV (v u:Nat):Prop:=∀ s,v.testBit s=true→u.testBit s=true
theorem ZcT (v:Nat):subV v v:=fun _ h=>h
theorem Ze5 {a b c:Nat} (h:subV a b) (h':subV b c):subV a c:=fun s hs=>h' s (h s hs)
theorem ZiW {a b:Nat} (h:subV a b) (h':subV b a):a=b:=by apply Nat.eq_of_testBit_eq;intro i;have h1:=h i;have h2:=h' i;cases ha:a.testBit i<;>cases hb:b.testBit i<;>simp_all
theorem Zko (v s:Nat):subV v (adj v s):=fun t ht=>by rw[ZbR,ht];rfl
theorem Zfk (v:Nat) (m:Int × Int × Int):subV v (Zam v m):=by
 unfold Zam
 split
 ·exact Zko _ _
 exact ZcT _
theorem Zdu:∀ (ms:List (Int × Int × Int)) (v:Nat),subV v (ms.foldl Zam v)
 | [],v=>ZcT v
 | m::ms,v=>Ze5 (Zfk v m) (Zdu ms _)
theorem Zia (ms:List (Int × Int × Int)) (v:Nat):∀ k,subV v (clIt ms v k)
 | 0=>ZcT v
 | k+1=>Ze5 (Zia ms v k) (Zdu ms _)
def Zbe (ms:List (Int × Int × Int)) (u:Nat):Prop:=∀ m∈ms,m.2.1 = -1→u.testBit m.1.toNat=true→u.testBit m.2.2.toNat=true
theorem Zj6 {ms:List (Int × Int × Int)} {u v:Nat} (hu:Zbe ms u) (h:subV v u) {m:Int × Int × Int} (hm:m∈ms):subV (Zam v m) u:=by
 unfold Zam
 split
 ·rename_i hc;simp only[Bool.and_eq_true,decide_eq_true_eq] at hc;intro s hs;rw[ZbR,Bool.or_eq_true] at hs;rcases hs with hs|hs
  ·exact h s hs
  rw[← of_decide_eq_true hs];exact hu m hm hc.1.1 (h _ hc.1.2)
 exact h
theorem ZgU {ms:List (Int × Int × Int)} {u:Nat} (hu:Zbe ms u):∀ (l:List (Int × Int × Int)) (v:Nat),(∀ m∈l,m∈ms)→subV v u→subV (l.foldl Zam v) u
 | [],_,_,h=>h
 | m::l,v,hl,h=>ZgU hu l _ (fun x hx=>hl x (by simp[hx])) (Zj6 hu h (hl m (by simp)))
theorem Zj7 {ms:List (Int × Int × Int)} {u v:Nat} (hu:Zbe ms u) (h:subV v u):∀ k,subV (clIt ms v k) u
 | 0=>h
 | k+1=>ZgU hu ms _ (fun _ hx=>hx) (Zj7 hu h k)
theorem ZlI {n:Nat} {ms:List (Int × Int × Int)} (h:mvIn n ms) (v:Nat):ZgS ms (clV n ms v)=clV n ms v:=by
 rcases Zda h v n with h1|h1
 ·exact h1
 have:=Zj0 n v;omega
theorem Zh3:∀ {l:List (Int × Int × Int)} {v:Nat},l.foldl Zam v=v→∀ m∈l,Zam v m=v
 | [],_,_,_,hm=>by cases hm
 | m::l,v,h,x,hx=>by
  have h1:Zam v m=v:=ZiW (by have:=Zdu l (Zam v m);rw[List.foldl_cons] at h;rw[h] at this;exact this) (Zfk v m);rw[List.foldl_cons,h1] at h;rcases List.mem_cons.1 hx with rfl|hx
  ·exact h1
  exact Zh3 h x hx
theorem ZbA {n:Nat} {ms:List (Int × Int × Int)} (h:mvIn n ms) (v:Nat):Zbe ms (clV n ms v):=by
 intro m hm hl hf;have h1:=Zh3 (ZlI h v) m hm;cases ht:(clV n ms v).testBit m.2.2.toNat with
 | true=>rfl
 | false =>exfalso;unfold Zam at h1;rw[if_pos (by simp[hl,hf,ht])] at h1;have:=ZbR (clV n ms v) m.2.2.toNat m.2.2.toNat;rw[h1,ht] at this;simp at this
theorem ZeJ (n:Nat) (ms:List (Int × Int × Int)) (v:Nat):subV v (clV n ms v):=Zia ms v n
theorem Zj3 {n:Nat} {ms:List (Int × Int × Int)} {u v:Nat} (hu:Zbe ms u) (h:subV v u):subV (clV n ms v) u:=Zj7 hu h n
theorem Zd4 {n:Nat} {ms:List (Int × Int × Int)} {u:Nat} (hu:Zbe ms u):clV n ms u=u:=ZiW (Zj3 hu (ZcT u)) (ZeJ n ms u)
theorem ZhL:∀ (l:List Int) (v t:Nat),(l.foldl (fun v s=>adj v s.toNat) v).testBit t=(v.testBit t||l.any fun s=>decide (s.toNat=t))
 | [],v,t=>by simp
 | s::l,v,t=>by rw[List.foldl_cons,ZhL l,ZbR,List.any_cons,Bool.or_assoc]
theorem Zfu (l:List Int) (t:Nat):(setV l).testBit t=l.any fun s=>decide (s.toNat=t):=by unfold setV;rw[ZhL];simp
theorem ZhK {l:List Int} {x:Int} (hx:x∈l):(setV l).testBit x.toNat=true:=by rw[Zfu,List.any_eq_true];exact⟨x,hx,by simp⟩
section
variable {α:Type} [DecidableEq α] {nx:α→Nat→α} {a:α} {en:α→Bool} {K:Nat}
theorem Zit {F:List α} {x:α} (h:x∈F) (d:α):F.getD (Zaf F x) d=x:=by have h1:=Za3 h;rw[Za8 h1];exact List.getElem_idxOf h1
theorem Zhc (hK:(bat nx a K).met.length≤K):∀ (w:List Nat),isW w→∀ x∈(bat nx a K).met,w.foldl nx x∈(bat nx a K).met∧runD (Zak nx en (bat nx a K).met) (Zaf (bat nx a K).met x:Nat) w=(Zaf (bat nx a K).met (w.foldl nx x):Nat)
 | [],_,x,hx=>⟨hx,rfl⟩
 | c::w,hw,x,hx=>by have hc:c<3:=hw c (by simp);have hx2:=ZcB hK hx hc;have h1:=Za3 hx;obtain⟨h2,h3⟩:=Zhc hK w (fun b hb=>hw b (by simp[hb])) (nx x c) hx2;refine⟨h2,?_⟩;unfold runD at *;rw[List.foldl_cons,List.foldl_cons,← h3,Zhu (a:=a) (by omega) (by omega) hc];unfold Za6;rw[Int.toNat_natCast,Zit hx]
theorem ZcC (hK:(bat nx a K).met.length≤K) {w:List Nat} (hw:isW w):accD (Zak nx en (bat nx a K).met) w=en (w.foldl nx a):=by
 have h0:=Zgb (nx:=nx) (a:=a) K;obtain⟨h1,h2⟩:=Zhc (en:=en) hK w hw a h0;have h3:Zaf (bat nx a K).met a=0:=by have hp:=Zdv (nx:=nx) (a:=a) K;have hf:=ZeO (nx:=nx) (a:=a) K;have hn:=(ZaN (nx:=nx) (a:=a) K).1;rw[Za8 hp] at hf;have:=List.Nodup.idxOf_getElem hn 0 hp;rw[hf] at this;exact this
 rw[h3] at h2;unfold accD;rw[show((0:Nat):Int)=0 from rfl] at h2;rw[h2,Zhv (Za3 h1)];congr 1;exact List.getElem_idxOf _
end
def txB (l:List Nat):ByteArray:=⟨(l.map UInt8.ofNat).toArray⟩
def isT (l:List Nat):Prop:=∀ b∈l,b<256
theorem ZbJ (l:List Nat):(txB l).size=l.length:=by simp[txB,ByteArray.size]
theorem Zco {l:List Nat} {i:Nat} (hi:i<l.length):l.getD i 0∈l:=by rw[List.getD_eq_getElem?_getD,List.getElem?_eq_getElem hi];exact List.getElem_mem hi
theorem ZlO {l:List Nat} {i:Nat} (hi:i<l.length) (ht:isT l) (h:i<(txB l).size):(((txB l)[i]'h).toNat:Int)=(l.getD i 0:Nat):=by
 have hc:l.getD i 0<256:=ht _ (Zco hi);have e:(txB l)[i]'h=UInt8.ofNat (l.getD i 0):=by show(txB l).data[i]=_;simp[txB,hi]
 rw[e,UInt8.toNat_ofNat'];omega
theorem ZcR {l:List Nat} {i:Nat} (hi:i<l.length) (ht:isT l) (w:World):(Instr.index 9 (.string (txB l)) (.int .i64 (i:Int))).run Try.prog w = .ok (.int .u8 ((l.getD i 0:Nat):Int)) w:=by have hs:(txB l).size=l.length:=ZbJ l;rw[run_index_string w 9 (txB l) .i64 i Try.underlying9,dif_pos (by omega)];congr 2;exact ZlO hi ht _
def okT (l:List Nat) (k:Nat):Bool:=(List.range k).all fun i=>inB ((l.getD i 0:Nat):Int) 97 99
def wdOk (l:List Nat):Bool:=okT l l.length&&decide (l.length≤8)
theorem ZhV {l:List Nat} {k:Nat} (h:okT l k=true) (h1:inB ((l.getD k 0:Nat):Int) 97 99=true):okT l (k+1)=true:=Zir h h1
theorem Zjl {l:List Nat} {k:Nat} (hk:k<l.length) (h1:inB ((l.getD k 0:Nat):Int) 97 99=false):wdOk l=false:=by
 unfold wdOk okT;have:((List.range l.length).all fun i=>inB ((l.getD i 0:Nat):Int) 97 99)=false:=by rw[List.all_eq_false];exact⟨k,List.mem_range.2 hk,by rw[h1];simp⟩
 rw[this];rfl
theorem Ze0 (l:List Nat) (w:World) (ht:isT l) (hl:l.length≤2000000) (r:Bool) (hr:wdOk l=r) :
  Calls Try.prog 43 #[.string (txB l),.int .i64 8] w fun e w'=>e = .returned (.bool r)∧w=w':=by
 have hs:(txB l).size=l.length:=ZbJ l;replace hr:=qh hr;have Hht:=qh ht;clear ht
 go_enter Try.func43, Try.ntmps43
 go_wp2
 go_loopw [8] (fun i wr=>∃ k:Nat,i = .int .i64 k∧k≤l.length∧okT l k=true∧w=wr) (fun i _=>l.length-(intOf i).toNat)
 case atStart=>exact⟨0,rfl,Nat.zero_le _,rfl,rfl⟩
 case round =>
  obtain⟨k,rfl,hk,hok,rfl⟩:=hrel;by_cases hlt:k<l.length
  ·have hkl:(k:Int)<l.length:=by omega
   have hrun:=ZcR hlt Hht.out;have hb:=Hht.out _ (Zco hlt);obtain⟨c,hcc⟩:=eI (l.getD k 0);rw[← hcc] at hrun hb;have hw9:IntKind.i64.wrap (c:Int)=(c:Int):=IntWalk.i64_in _ (by omega);have Hhok:=qh hok;clear hok;replace hcc:=qh hcc;cases hin:inB (c:Int) 97 99
   ·have Hhin:=qh hin;clear hin;go_wp2_with (go_at_call 39;refine(Za2 _ _ _ _ _ Hhin.out).mono ?_;rintro e w' ⟨rfl,rfl⟩);go_ret;exact⟨by rw[← hr.out,Zjl hlt (by rw[← hcc.out];exact Hhin.out)];rfl,rfl⟩
   have Hhin:=qh hin;clear hin;go_wp2_with (go_at_call 39;refine(Za2 _ _ _ _ _ Hhin.out).mono ?_;rintro e w' ⟨rfl,rfl⟩);go_roundw
   case rel=>exact⟨k+1,by go_num,by omega,ZhV Hhok.out (by rw[← hcc.out];exact Hhin.out),trivial⟩
   case measure=>simp[intOf];omega
  obtain rfl:k=l.length:=by omega
  have hrr:decide ((l.length:Int)≤8)=r:=by rw[← hr.out];unfold wdOk;rw[hok,Bool.true_and];exact decide_eq_decide.2 (by omega)
  have Hhok:=qh hok;clear hok;have Hhrr:=qh hrr;clear hrr;go_wp2;go_ret;exact⟨by rw[← Hhrr.out];rfl,rfl⟩
theorem Zbd (l:List Nat) (w:World) (ht:isT l) (hl:l.length≤2000000) (r:Bool) (hr:wdOk l=r) :
  Calls Try.prog 22 #[.string (txB l)] w fun e w'=>e = .returned (.bool r)∧w=w':=by
 replace hr:=qh hr;have Hht:=qh ht;clear ht
 go_enter Try.func22, Try.ntmps22
 go_wp2_with (go_at_call 43;refine(Ze0 l _ Hht.out hl _ hr.out).mono ?_;rintro e w' ⟨rfl,rfl⟩);go_ret;exact⟨rfl,rfl⟩
theorem Zdf (l:List Nat) (w:World) (ht:isT l) (hl:l.length≤2000000) (r:Bool) (hr:wdOk l=r) :
  Calls Try.prog 24 #[.string (txB l)] w fun e w'=>e = .returned (.bool r)∧w=w':=by
 have hs:(txB l).size=l.length:=ZbJ l;replace hr:=qh hr;have Hht:=qh ht;clear ht
 go_enter Try.func24, Try.ntmps24
 go_wp2
 go_loopw [3] (fun i wr=>∃ k:Nat,i = .int .i64 k∧k≤l.length∧okT l k=true∧w=wr) (fun i _=>l.length-(intOf i).toNat)
 case atStart=>exact⟨0,rfl,Nat.zero_le _,rfl,rfl⟩
 case round =>
  obtain⟨k,rfl,hk,hok,rfl⟩:=hrel;by_cases hlt:k<l.length
  ·have hkl:(k:Int)<l.length:=by omega
   have hrun:=ZcR hlt Hht.out;have hb:=Hht.out _ (Zco hlt);obtain⟨c,hcc⟩:=eI (l.getD k 0);rw[← hcc] at hrun hb;have hw9:IntKind.i64.wrap (c:Int)=(c:Int):=IntWalk.i64_in _ (by omega);have Hhok:=qh hok;clear hok;replace hcc:=qh hcc;cases hin:inB (c:Int) 97 99
   ·have Hhin:=qh hin;clear hin;go_wp2_with (go_at_call 45;refine(Zh0 _ _ _ _ _ Hhin.out).mono ?_;rintro e w' ⟨rfl,rfl⟩);go_ret;exact⟨by rw[← hr.out,Zjl hlt (by rw[← hcc.out];exact Hhin.out)];rfl,rfl⟩
   have Hhin:=qh hin;clear hin;go_wp2_with (go_at_call 45;refine(Zh0 _ _ _ _ _ Hhin.out).mono ?_;rintro e w' ⟨rfl,rfl⟩);go_roundw
   case rel=>exact⟨k+1,by go_num,by omega,ZhV Hhok.out (by rw[← hcc.out];exact Hhin.out),trivial⟩
   case measure=>simp[intOf];omega
  obtain rfl:k=l.length:=by omega
  have hrr:decide ((l.length:Int)≤8)=r:=by rw[← hr.out];unfold wdOk;rw[hok,Bool.true_and];exact decide_eq_decide.2 (by omega)
  have Hhok:=qh hok;clear hok;have Hhrr:=qh hrr;clear hrr;go_wp2;go_ret;exact⟨by rw[← Hhrr.out];rfl,rfl⟩
theorem ZcN (l:List Nat) (i:Nat) (hi:i<l.length) (ht:isT l) (hlo:97≤l.getD i 0) (w:World):Calls Try.prog 44 #[.string (txB l),.int .i64 i] w fun e w'=>e = .returned (.int .i64 ((l.getD i 0-97:Nat):Int))∧w=w':=by
 have hb:=ht _ (Zco hi);have hrun:=ZcR hi ht;obtain⟨c,hcc⟩:=eI (l.getD i 0-97);have hc2:((l.getD i 0:Nat):Int)=97+(c:Int):=by omega
 rw[hc2] at hrun;rw[← hcc]
 have hw8:IntKind.u8.wrap (97+(c:Int)-97)=(c:Int):=by
  have:97+(c:Int)-97=(c:Int):=by omega
  rw[this];exact IntWalk.u8_in _ (by omega)
 have hw9:IntKind.i64.wrap (c:Int)=(c:Int):=IntWalk.i64_in _ (by omega);replace hcc:=qh hcc;clear hc2 hlo hb
 go_enter Try.func44, Try.ntmps44
 go_wp2;go_ret;exact⟨rfl,rfl⟩
def shF:Nat→Nat
 | 0=>0
 | k+1=>shF k+3 ^ k
theorem Zji {k:Nat} (h:k≤9):3 ^ k≤19683:=Nat.pow_le_pow_right (by omega) h
theorem Zla:∀ k,shF k≤3 ^ k
 | 0=>by decide
 | k+1=>by show shF k+3 ^ k≤3 ^ (k+1);have:=Zla k;rw[Nat.pow_succ];omega
theorem Zg1 (n:Nat) (w:World) (hn:n≤9):Calls Try.prog 77 #[.int .i64 n] w fun e w'=>e = .returned (.int .i64 ((3 ^ n:Nat):Int))∧w=w':=by
 go_enter Try.func77, Try.ntmps77
 go_wp2
 go_loopw [3,5] (fun p i wr=>∃ k q:Nat,i = .int .i64 k∧p = .int .i64 q∧k≤n∧3 ^ k=q∧w=wr) (fun _ i _=>n-(intOf i).toNat)
 case atStart=>exact⟨0,1,rfl,rfl,Nat.zero_le _,rfl,rfl⟩
 case round =>
  obtain⟨k,q,rfl,rfl,hk,hq,rfl⟩:=hrel;have hq2:=Zji (k:=k) (by omega);rw[hq] at hq2;by_cases hlt:k<n
  ·have hkl:(k:Int)<n:=by omega
   replace hq:=qh hq;go_wp2;go_roundw
   case rel=>exact⟨k+1,q*3,by go_num,by go_num,by omega,by rw[Nat.pow_succ,hq.out],trivial⟩
   case measure=>simp[intOf];omega
  obtain rfl:k=n:=by omega
  replace hq:=qh hq;go_wp2;go_ret;exact⟨by rw[hq.out];rfl,rfl⟩
theorem Zg7 (n:Nat) (w:World) (hn:n≤9):Calls Try.prog 61 #[.int .i64 n] w fun e w'=>e = .returned (.int .i64 ((shF n:Nat):Int))∧w=w':=by
 go_enter Try.func61, Try.ntmps61
 go_wp2
 go_loopw [3,6] (fun p i wr=>∃ k q:Nat,i = .int .i64 k∧p = .int .i64 q∧k≤n∧shF k=q∧w=wr) (fun _ i _=>n-(intOf i).toNat)
 case atStart=>exact⟨0,0,rfl,rfl,Nat.zero_le _,rfl,rfl⟩
 case round =>
  obtain⟨k,q,rfl,rfl,hk,hq,rfl⟩:=hrel;have hq2:=Zji (k:=k) (by omega);have hq3:=Zla k;rw[hq] at hq3;obtain⟨t,hT⟩:=eJ (3 ^ k);rw[hT] at hq2 hq3;by_cases hlt:k<n
  ·have hkl:(k:Int)<n:=by omega
   replace hq:=qh hq;replace hT:=qh hT;go_wp2_with (go_at_call 77;refine(Zg1 k _ (by omega)).mono ?_;rintro e w' ⟨rfl,rfl⟩;rw[hT.out]);go_roundw
   case rel=>exact⟨k+1,q+t,by go_num,by go_num,by omega,by rw[← hq.out,← hT.out];rfl,trivial⟩
   case measure=>simp[intOf];omega
  obtain rfl:k=n:=by omega
  replace hq:=qh hq;replace hT:=qh hT;go_wp2;go_ret;exact⟨by rw[hq.out];rfl,rfl⟩
theorem Ziq (w:World):Calls Try.prog 32 #[.string { data:=#[97,98] }] w fun e w'=>e = .returned (.int .i64 5)∧w=w':=by
 have hab:({ data:=#[97,98] }:ByteArray)=txB [97,98]:=rfl;have hab2:isT [97,98]:=fun b hb=>by simp at hb;omega
 have hsz:(txB [97,98]).size=2:=rfl;have l0:=fun w=>ZcN [97,98] 0 (by decide) hab2 (by decide) w
 have l1:=fun w=>ZcN [97,98] 1 (by decide) hab2 (by decide) w
 have sh:∀ w,Calls Try.prog 61 #[.int .i64 2] w fun e w'=>e = .returned (.int .i64 4)∧w=w':=fun w=>Zg7 2 w (by omega)
 have hv:=fun w=>Zbd [97,98] w hab2 (by decide) true rfl
 rw[hab];have L0:=qh l0;have L1:=qh l1;have Sh:=qh sh;have Hv:=qh hv;clear l0 l1 sh hab hab2 hv
 go_enter Try.func32, Try.ntmps32
 go_wp2_with (go_at_call 22;refine(Hv.out _).mono ?_;rintro e w' ⟨rfl,rfl⟩)
 go_loopw [3,10] (fun n i wr=>∃ k q:Nat,i = .int .i64 k∧n = .int .i64 q∧k≤2∧q≤1∧(k<2→q=0)∧(k=2→q=1)∧w=wr) (fun _ i _=>2-(intOf i).toNat)
 case atStart=>exact⟨0,0,rfl,rfl,by omega,by omega,fun _=>rfl,fun h=>by omega,rfl⟩
 case round =>
  obtain⟨k,q,rfl,rfl,hk,hq1,hq2,hq3,rfl⟩:=hrel;obtain rfl|rfl|rfl:k=0∨k=1∨k=2:=by omega
  ·obtain rfl:=hq2 (by omega);clear hq1 hq2 hq3 hk;go_wp2_with (go_at_call 44;refine(L0.out _).mono ?_;rintro e w' ⟨rfl,rfl⟩);go_roundw
   case rel=>exact⟨1,0,rfl,rfl,by omega,by omega,fun _=>rfl,fun h=>by omega,trivial⟩
   case measure=>simp[intOf]
  ·obtain rfl:=hq2 (by omega);clear hq1 hq2 hq3 hk;go_wp2_with (go_at_call 44;refine(L1.out _).mono ?_;rintro e w' ⟨rfl,rfl⟩);go_roundw
   case rel=>exact⟨2,1,rfl,rfl,by omega,by omega,fun h=>by omega,fun _=>rfl,trivial⟩
   case measure=>simp[intOf]
  obtain rfl:=hq3 rfl;clear hq1 hq2 hq3 hk;go_wp2_with (go_at_call 61;refine(Sh.out _).mono ?_;rintro e w' ⟨rfl,rfl⟩);go_ret;exact⟨rfl,rfl⟩
theorem ZgZ (w:World):Calls Try.prog 13 #[] w fun e w'=>e = .returned (.bool true)∧w=w':=by
 go_enter Try.func13, Try.ntmps13
 go_wp2_with (go_at_call 32;refine(Ziq _).mono ?_;rintro e w' ⟨rfl,rfl⟩);go_ret;exact⟨rfl,rfl⟩
def shM (d:Int) (m:Int × Int × Int):Int × Int × Int:=(m.1+d,m.2.1,m.2.2+d)
def shN (n:NfaD) (d:Int):NfaD:=⟨n.states+d,n.moves.map (shM d),n.firsts.map (·+d),n.ends.map (·+d)⟩
theorem Za4 {α β:Type} (f:α→β) {l:List α} {k:Nat} {d x:α} (hk:k<l.length) (hx:x=l.getD k d):(l.take (k+1)).map f=(l.take k).map f++[f x]:=by rw[List.take_succ_eq_append_getElem hk,List.map_append,hx];simp[hk]
def ZbH (n:NfaD):NfaD:=⟨n.states+1,n.moves++(n.firsts.map fun t=>(n.states,-1,t))++(n.ends.map fun s=>(s,-1,n.states)),[n.states],[n.states]⟩
def Zcm (p q:NfaD):NfaD:=⟨(shN q p.states).states,p.moves++(shN q p.states).moves++(p.ends.flatMap fun s=>(shN q p.states).firsts.map fun t=>(s,-1,t)),p.firsts,(shN q p.states).ends⟩
inductive Pth (ms:List (Int × Int × Int)):Int→List Nat→Int→Prop
 | here (s:Int):Pth ms s [] s
 | eps {s t u:Int} {w:List Nat}:(s,-1,t)∈ms→Pth ms t w u→Pth ms s w u
 | step {s t u:Int} {c:Nat} {w:List Nat}:(s,(c:Int),t)∈ms→Pth ms t w u→Pth ms s (c::w) u
theorem Pth.append {ms:List (Int × Int × Int)} {s t u:Int} {x y:List Nat} (h:Pth ms s x t) (h':Pth ms t y u):Pth ms s (x++y) u:=by
 induction h with
 | here s=>exact h'
 | eps hm _ ih=>exact .eps hm (ih h')
 | step hm _ ih=>exact .step hm (ih h')
theorem Pth.mono {ms ns:List (Int × Int × Int)} (hs:∀ m∈ms,m∈ns) {s t:Int} {x:List Nat} (h:Pth ms s x t):Pth ns s x t:=by
 induction h with
 | here s=>exact .here s
 | eps hm _ ih=>exact .eps (hs _ hm) ih
 | step hm _ ih=>exact .step (hs _ hm) ih
theorem Pth.map {ms ns:List (Int × Int × Int)} (f:Int→Int) (hs:∀ m∈ms,(f m.1,m.2.1,f m.2.2)∈ns∨(m.2.1 = -1∧f m.1=f m.2.2)) {s t:Int} {x:List Nat} (h:Pth ms s x t):Pth ns (f s) x (f t):=by
 induction h with
 | here s=>exact .here _
 | eps hm _ ih =>
  rcases hs _ hm with h|⟨_,h⟩
  ·exact .eps h ih
  exact h ▸ ih
 | step hm _ ih =>
  rcases hs _ hm with h|⟨h,_⟩
  ·exact .step h ih
  simp only at h;omega
theorem Pth.in {ms:List (Int × Int × Int)} {n:Nat} (hm:mvIn n ms) {s t:Int} {x:List Nat} (h:Pth ms s x t) (hs:0≤s∧s<(n:Int)):0≤t∧t<(n:Int):=by
 induction h with
 | here s=>exact hs
 | eps h _ ih=>exact ih (hm _ h).2
 | step h _ ih=>exact ih (hm _ h).2
def runS (n:NfaD) (cs:List Nat):Nat:=cs.foldl (fun v (c:Nat)=>stV 40 n.moves v (c:Int)) (clV 40 n.moves (setV n.firsts))
def accS (n:NfaD) (cs:List Nat):Bool:=n.ends.any fun s=>(runS n cs).testBit s.toNat
theorem Zjs (P:Nat→Prop):∀ n:Nat,∃ u:Nat,∀ t,u.testBit t=true↔t<n∧P t
 | 0=>⟨0,fun t=>by simp⟩
 | n+1=>by
  obtain⟨u,hu⟩:=Zjs P n;by_cases hp:P n
  ·refine⟨adj u n,fun t => ?_⟩;rw[ZbR,Bool.or_eq_true,hu,decide_eq_true_eq];constructor
   ·rintro(⟨h1,h2⟩|rfl)
    ·exact⟨by omega,h2⟩
    exact⟨by omega,hp⟩
   rintro⟨h1,h2⟩;by_cases h:n=t
   ·exact .inr h
   exact .inl ⟨by omega,h2⟩
  refine⟨u,fun t => ?_⟩;rw[hu];constructor
  ·rintro⟨h1,h2⟩;exact⟨by omega,h2⟩
  rintro⟨h1,h2⟩;by_cases h:t=n
  ·subst h;exact absurd h2 hp
  exact⟨by omega,h2⟩
theorem Pth.closed {ms:List (Int × Int × Int)} {u:Nat} (hu:Zbe ms u) {s t:Int} {x:List Nat} (h:Pth ms s x t) (hx:x=[]) (hs:u.testBit s.toNat=true):u.testBit t.toNat=true:=by
 induction h with
 | here s=>exact hs
 | eps hm _ ih=>exact ih hx (hu _ hm rfl hs)
 | step hm _ ih=>cases hx
theorem Zj2 {ms:List (Int × Int × Int)} (hm:mvIn 40 ms) {v t:Nat} (hv:v<2 ^ 40):(clV 40 ms v).testBit t=true↔∃ s:Nat,s<40∧v.testBit s=true∧Pth ms s [] t:=by
 constructor
 ·intro h;obtain⟨u,hu⟩:=Zjs (fun t=>∃ s:Nat,s<40∧v.testBit s=true∧Pth ms s [] t) 40
  have hc:Zbe ms u:=by
   intro m hmm he hf;obtain⟨h1,s,hs,hvs,hp⟩:=(hu _).1 hf;have h2:=hm m hmm;refine(hu _).2 ⟨by omega,s,hs,hvs,?_⟩;have e1:((m.1.toNat:Nat):Int)=m.1:=by omega
   have e2:((m.2.2.toNat:Nat):Int)=m.2.2:=by omega
   rw[e1] at hp;rw[e2];refine hp.append (y:=[]) (.eps ?_ (.here _));rw[← he];exact hmm
  have hsub:subV v u:=by
   intro s hs
   have:s<40:=by
    by_cases h:s<40
    ·exact h
    rw[Nat.testBit_lt_two_pow (Nat.lt_of_lt_of_le hv (Nat.pow_le_pow_right (by omega) (by omega)))] at hs;cases hs
   exact(hu s).2 ⟨this,s,this,hs,.here _⟩
  exact((hu t).1 (Zj3 hc hsub t h)).2
 rintro⟨s,hs,hvs,hp⟩;have:=hp.closed (ZbA hm v) rfl (by rw[Int.toNat_natCast];exact ZeJ 40 ms v s hvs)
 rwa [Int.toNat_natCast] at this
theorem Zbb {c:Int} {v:Nat}:∀ (l:List (Int × Int × Int)) (u t:Nat),(l.foldl (Za5 v c) u).testBit t=true↔u.testBit t=true∨∃ m∈l,m.2.1=c∧v.testBit m.1.toNat=true∧m.2.2.toNat=t
 | [],u,t=>by simp
 | m::l,u,t=>by
  rw[List.foldl_cons,Zbb l,Za5]
  split
  ·rename_i h;rw[Bool.and_eq_true,decide_eq_true_eq] at h;rw[ZbR,Bool.or_eq_true,decide_eq_true_eq];constructor
   ·rintro((h1|h1)|⟨x,hx,h1⟩)
    ·exact .inl h1
    ·exact .inr ⟨m,by simp,h.1,h.2,h1⟩
    exact .inr ⟨x,by simp[hx],h1⟩
   rintro(h1|⟨x,hx,h1⟩)
   ·exact .inl (.inl h1)
   rcases List.mem_cons.1 hx with rfl|hx
   ·exact .inl (.inr h1.2.2)
   exact .inr ⟨x,hx,h1⟩
  rename_i h;rw[Bool.and_eq_true,decide_eq_true_eq] at h;constructor
  ·rintro(h1|⟨x,hx,h1⟩)
   ·exact .inl h1
   exact .inr ⟨x,by simp[hx],h1⟩
  rintro(h1|⟨x,hx,h1⟩)
  ·exact .inl h1
  rcases List.mem_cons.1 hx with rfl|hx
  ·exact absurd ⟨h1.1,h1.2.1⟩ h
  exact .inr ⟨x,hx,h1⟩
theorem Zeq {v s n:Nat} (hv:v<2 ^ n) (hs:v.testBit s=true):s<n:=by
 by_cases h:s<n
 ·exact h
 rw[Nat.testBit_lt_two_pow (Nat.lt_of_lt_of_le hv (Nat.pow_le_pow_right (by omega) (by omega)))] at hs;cases hs
theorem Zi0 {ms:List (Int × Int × Int)} (hm:mvIn 40 ms) {v t:Nat} (c:Nat):(stV 40 ms v (c:Int)).testBit t=true↔∃ x,x∈ms∧x.2.1=(c:Int)∧v.testBit x.1.toNat=true∧Pth ms x.2.2 [] t:=by
 have hlt:ms.foldl (Za5 v c) 0<2 ^ 40:=ZbF _ (fun u=>u<2 ^ 40) (fun _ _ hx hu=>Zce hm hx hu) (by decide);unfold stV;rw[Zj2 hm hlt];constructor
 ·rintro⟨s,hs,hb,hp⟩;rw[Zbb] at hb;rcases hb with hb|⟨m,hmm,h1,h2,h3⟩
  ·simp at hb
  refine⟨m,hmm,h1,h2,?_⟩;have e:m.2.2=(s:Int):=by have:=(hm m hmm).2;omega
  rw[e];exact hp
 rintro⟨x,hx,h1,h2,hp⟩;have h4:=(hm x hx).2;refine⟨x.2.2.toNat,by omega,?_,?_⟩
 ·rw[Zbb];exact .inr ⟨x,hx,h1,h2,rfl⟩
 have e:((x.2.2.toNat:Nat):Int)=x.2.2:=by omega
 rw[e];exact hp
theorem Pth.split {ms:List (Int × Int × Int)} {s u:Int} {x:List Nat} (h:Pth ms s x u):∀ {c:Nat} {w:List Nat},x=c::w→∃ m,m∈ms∧m.2.1=(c:Int)∧Pth ms s [] m.1∧Pth ms m.2.2 w u:=by
 induction h with
 | here s=>intro c w h;cases h
 | eps hm _ ih =>intro c w h;obtain⟨m,h1,h2,h3,h4⟩:=ih h;exact⟨m,h1,h2,.eps hm h3,h4⟩
 | step hm hp ih =>
  intro c w h
  injection h with h1 h2
  subst h1;subst h2;exact⟨_,hm,rfl,.here _,hp⟩
theorem Zik {ms:List (Int × Int × Int)} (hm:mvIn 40 ms) (v:Nat) (c:Int):Zbe ms (stV 40 ms v c):=ZbA hm _
theorem ZgI {ms:List (Int × Int × Int)} (hm:mvIn 40 ms):∀ (cs:List Nat) (V:Nat),V<2 ^ 40→Zbe ms V→∀ t,(cs.foldl (fun v (c:Nat)=>stV 40 ms v (c:Int)) V).testBit t=true↔∃ s:Nat,s<40∧V.testBit s=true∧Pth ms s cs t
 | [],V,hV,hc,t=>by
  rw[List.foldl_nil];constructor
  ·intro h;exact⟨t,Zeq hV h,h,.here _⟩
  rintro⟨s,hs,h1,h2⟩;have:=h2.closed hc rfl (by rwa [Int.toNat_natCast])
  rwa [Int.toNat_natCast] at this
 | c::cs,V,hV,hc,t=>by
  rw[List.foldl_cons,ZgI hm cs _ (Zi1 hm V c) (Zik hm V c)];constructor
  ·rintro⟨s,hs,h1,h2⟩;rw[Zi0 hm] at h1;obtain⟨x,hx,h3,h4,h5⟩:=h1;have h6:=(hm x hx).1;refine⟨x.1.toNat,by omega,h4,?_⟩;have e:((x.1.toNat:Nat):Int)=x.1:=by omega
   rw[e];refine .step (t:=x.2.2) ?_ (h5.append h2);rw[← h3];exact hx
  rintro⟨s,hs,h1,h2⟩;obtain⟨m,h3,h4,h5,h6⟩:=h2.split rfl;have h7:=(hm m h3).2;refine⟨m.2.2.toNat,by omega,?_,?_⟩
  ·rw[Zi0 hm];have:=h5.closed hc rfl (by rwa [Int.toNat_natCast]);refine⟨m,h3,h4,this,?_⟩;have e:((m.2.2.toNat:Nat):Int)=m.2.2:=by omega
   rw[e];exact .here _
  have e:((m.2.2.toNat:Nat):Int)=m.2.2:=by omega
  rw[e];exact h6
theorem Zk6 {n:NfaD} (hn:ZfL n=true) (cs:List Nat):accS n cs=true↔∃ f∈n.firsts,∃ e∈n.ends,Pth n.moves f cs e:=by
 obtain⟨m,hm,hm40,hmv,-,hf,-,he,-⟩:=Zb8 hn;have hm4:=Zju hmv hm40;have hfi:inN 40 n.firsts:=fun s hs=>by have:=hf s hs;omega
 have hlt:clV 40 n.moves (setV n.firsts)<2 ^ 40:=Zdt hm4 (ZcJ hfi) 40;have hrun:=ZgI hm4 cs _ hlt (ZbA hm4 (setV n.firsts));unfold accS runS;rw[List.any_eq_true];constructor
 ·rintro⟨e,hee,hb⟩;obtain⟨s,hs,h1,h2⟩:=(hrun _).1 hb;rw[Zj2 hm4 (ZcJ hfi)] at h1;obtain⟨r,hr,h3,h4⟩:=h1;rw[Zfu,List.any_eq_true] at h3;obtain⟨f,hff,h5⟩:=h3;have h5:=of_decide_eq_true h5;have h6:=hf f hff;have h7:=he e hee;refine⟨f,hff,e,hee,?_⟩;have e1:(r:Int)=f:=by omega
  have e2:((e.toNat:Nat):Int)=e:=by omega
  rw[e1] at h4;rw[e2] at h2;exact h4.append h2
 rintro⟨f,hff,e,hee,hp⟩;have h6:=hf f hff;have h7:=he e hee;refine⟨e,hee,(hrun _).2 ⟨f.toNat,by omega,?_,?_⟩⟩
 ·exact ZeJ 40 n.moves _ _ (ZhK hff)
 have e1:((f.toNat:Nat):Int)=f:=by omega
 have e2:((e.toNat:Nat):Int)=e:=by omega
 rw[e1,e2];exact hp
theorem Pth.up {ms:List (Int × Int × Int)} (d:Int) {s t:Int} {x:List Nat} (h:Pth ms s x t):Pth (ms.map (shM d)) (s+d) x (t+d) :=
 h.map (·+d) fun m hm => .inl (List.mem_map.2 ⟨m,hm,rfl⟩)
theorem Pth.cross {p q:NfaD} {a b:Nat} (ha:p.states=(a:Int)) (hpm:mvIn a p.moves) (hqm:mvIn b q.moves) (hpe:inN a p.ends) (hqf:inN b q.firsts) {s t:Int} {x:List Nat} (h:Pth (Zcm p q).moves s x t) (ht:p.states≤t):(s<p.states→∃ k,k≤x.length∧∃ e∈p.ends,∃ f∈q.firsts,Pth p.moves s (x.take k) e∧Pth q.moves f (x.drop k) (t-p.states))∧(p.states≤s→Pth q.moves (s-p.states) x (t-p.states)):=by
 induction h with
 | here s=>exact⟨fun h=>by omega,fun _ => .here _⟩
 | @eps s' t' u w hm _ ih =>
  obtain⟨i1,i2⟩:=ih ht;rcases List.mem_append.1 hm with hm|hm
  ·rcases List.mem_append.1 hm with hm|hm
   ·have h1:=hpm _ hm;simp only at h1;refine⟨fun h => ?_,fun h=>by omega⟩;obtain⟨k,hk,e,he,f,hf,h2,h3⟩:=i1 (by omega);exact⟨k,hk,e,he,f,hf,.eps hm h2,h3⟩
   obtain⟨y,hy,e⟩:=List.mem_map.1 (show _∈q.moves.map (shM p.states) from hm);have h1:=hqm _ hy
   injection e with e1 e2
   injection e2 with e2 e3
   refine⟨fun h=>by omega,fun h => .eps (t:=t'-p.states) ?_ (i2 (by omega))⟩;rw[← e1,← e3,show y.1+p.states-p.states=y.1 by omega,show y.2.2+p.states-p.states=y.2.2 by omega,← e2];exact hy
  obtain⟨y,hy,e⟩:=List.mem_flatMap.1 hm;obtain⟨z,hz,e⟩:=List.mem_map.1 e;obtain⟨z,hz',rfl⟩:=List.mem_map.1 (show z∈q.firsts.map (·+p.states) from hz)
  injection e with e1 e2
  injection e2 with e2 e3
  have h1:=hpe y hy;have h2:=hqf z hz';refine⟨fun h=>⟨0,Nat.zero_le _,y,hy,z,hz',?_,?_⟩,fun h=>by omega⟩
  ·rw[e1];exact .here _
  have:=i2 (by omega);rw[← e3,show z+p.states-p.states=z by omega] at this;exact this
 | @step s' t' u c w hm _ ih =>
  obtain⟨i1,i2⟩:=ih ht;rcases List.mem_append.1 hm with hm|hm
  ·rcases List.mem_append.1 hm with hm|hm
   ·have h1:=hpm _ hm;simp only at h1;refine⟨fun h => ?_,fun h=>by omega⟩;obtain⟨k,hk,e,he,f,hf,h2,h3⟩:=i1 (by omega);exact⟨k+1,by simp only[List.length_cons];omega,e,he,f,hf,.step hm h2,h3⟩
   obtain⟨y,hy,e⟩:=List.mem_map.1 (show _∈q.moves.map (shM p.states) from hm);have h1:=hqm _ hy
   injection e with e1 e2
   injection e2 with e2 e3
   refine⟨fun h=>by omega,fun h => .step (t:=t'-p.states) ?_ (i2 (by omega))⟩;rw[← e1,← e3,show y.1+p.states-p.states=y.1 by omega,show y.2.2+p.states-p.states=y.2.2 by omega,← e2];exact hy
  obtain⟨y,hy,e⟩:=List.mem_flatMap.1 hm;obtain⟨z,hz,e⟩:=List.mem_map.1 e
  injection e with e1 e2
  injection e2 with e2 e3
  omega
def lets (l:List Nat):List Nat:=l.map (·-97)
theorem ZlW {l:List Nat} {k:Nat} (h:okT l l.length=true) (hk:k<l.length):97≤l.getD k 0∧l.getD k 0≤99:=by unfold okT at h;have:=List.all_eq_true.1 h k (List.mem_range.2 hk);simp only[inB,Bool.and_eq_true,decide_eq_true_eq] at this;omega
theorem Zij {l:List Nat} (h:wdOk l=true):okT l l.length=true∧l.length≤8:=by unfold wdOk at h;simp only[Bool.and_eq_true,decide_eq_true_eq] at h;exact h
end Go.Proofs.Ytfikabecgaappaa
namespace Go.Proofs.Ytfikabecgaappaa
open Go.RowKit
theorem ZhC {l:List Nat}:wdOk l=true↔(∀ b∈l,97≤b∧b≤99)∧l.length≤8:=by
 constructor
 ·intro h;obtain⟨h1,h2⟩:=Zij h;refine⟨fun b hb => ?_,h2⟩;obtain⟨k,hk,e⟩:=List.getElem_of_mem hb;have:=ZlW h1 hk;rw[Za8 hk,e] at this;exact this
 rintro⟨h1,h2⟩;unfold wdOk okT;rw[Bool.and_eq_true,List.all_eq_true,decide_eq_true_eq];refine⟨fun k hk => ?_,h2⟩;have hk:=List.mem_range.1 hk;have:=h1 _ (Zco hk);simp only[inB,Bool.and_eq_true,decide_eq_true_eq];omega
theorem Zgf (l:List Nat):(txB l).toList.isEmpty=l.isEmpty:=by rw[ByteArray.toList_eq];cases l<;>rfl
end Go.Proofs.Ytfikabecgaappaa
namespace Go.Proofs.Ytfikabecgaappaa
open Go.RowKit
theorem ZdY {l:List Nat} (h:wdOk l=true):isW (lets l):=fun c hc=>by obtain⟨b,hb,rfl⟩:=List.mem_map.1 hc;have:=(ZhC.1 h).1 b hb;omega
theorem Zkk {l:List Nat} (h:wdOk l=true):txB l=wdB (lets l):=by unfold txB wdB lets;rw[List.map_map];congr 2;apply List.map_congr_left;intro b hb;have:=(ZhC.1 h).1 b hb;show UInt8.ofNat b=UInt8.ofNat (97+(b-97));congr 1;omega
theorem ZlG {K:Nat} {n:NfaD} {D:DfaD} (h:detK K n=some D):ZfL n=true∧(metS n K).length≤K∧D=Zak (nxS n) (enS n) (metS n K):=by
 unfold detK at h
 split at h
 ·rename_i h1;exact⟨h1.1,h1.2,(Option.some.inj h).symm⟩
 cases h
theorem ZgJ {n:NfaD}:∀ (w:List Nat) (v:Nat),w.foldl (nxS n) (((v:Nat):Int),0)=(((w.foldl (fun v (c:Nat)=>stV 40 n.moves v (c:Int)) v:Nat):Int),0)
 | [],_=>rfl
 | c::w,v=>by rw[List.foldl_cons,List.foldl_cons,← ZgJ w];rfl
theorem ZkZ {K:Nat} {n:NfaD} {D:DfaD} (h:detK K n=some D) {w:List Nat} (hw:isW w):accD D w=accS n w:=by obtain⟨-,h2,rfl⟩:=ZlG h;rw[ZcC h2 hw,ZgJ];rfl
end Go.Proofs.Ytfikabecgaappaa
namespace Go.Proofs.Ytfikabecgaappaa
open Go.RowKit
def pOk (p:Int × Int):Bool:=inB p.1 1 8&&(decide (p.1=3)&&inB p.2 0 2||(!decide (p.1=3)&&decide (p.2=0)))
def Zaj (p:Int × Int):Int:=if pOk p=true then(if p.1=1∨p.1=2∨p.1=3 then 0 else if p.1=7∨p.1=8 then 1 else 2) else -1
theorem ZcV (p:Int × Int):-1≤Zaj p∧Zaj p≤2:=by
 unfold Zaj
 split<;>(try split)<;>(try split)<;>omega
theorem Zej {p:Int × Int} (h:0≤Zaj p):pOk p=true:=by
 unfold Zaj at h
 split at h
 ·assumption
 omega
def dep (es:List (Int × Int)):Nat→Int
 | 0=>0
 | k+1=>dep es k-Zaj (es.getD k (0,0))+1
theorem ZjW (es:List (Int × Int)):∀ k:Nat,-(2*k:Int)≤dep es k∧dep es k≤2*k
 | 0=>by simp[dep]
 | k+1=>by have ih:=ZjW es k;have:=ZcV (es.getD k (0,0));unfold dep;omega
def exAt (es:List (Int × Int)) (k:Nat):Bool:=decide (0≤Zaj (es.getD k (0,0)))&&decide (Zaj (es.getD k (0,0))≤dep es k)
def exOk (es:List (Int × Int)):Bool:=(List.range es.length).all (exAt es)&&decide (dep es es.length=1)&&decide (es.length≤60)
theorem Zdq {es:List (Int × Int)} (h:exOk es=true):(∀ k,k<es.length→0≤Zaj (es.getD k (0,0))∧Zaj (es.getD k (0,0))≤dep es k)∧dep es es.length=1∧1≤es.length∧es.length≤60:=by
 simp only[exOk,exAt,Bool.and_eq_true,List.all_eq_true,List.mem_range,decide_eq_true_eq] at h;refine⟨h.1.1,h.1.2,?_,h.2⟩;cases es with
 | nil=>have:=h.1.2;simp[dep] at this
 | cons=>simp
end Go.Proofs.Ytfikabecgaappaa
namespace Go.Proofs.Ytfikabecgaappaa
open Go.RowKit
theorem ZfK {a b:Int} (h:a≠b):(a==b)=false∧(a=b)=False∧(a != b)=true∧(!(a==b))=true:=by simp[h]
theorem ZgM (xs:List (Int × Int)):∀ n:Nat,(xs.take n).flatMap Zah=(xs.flatMap Zah).take (n*2):=by
 induction xs with
 | nil=>intro n;simp
 | cons x l ih =>
  intro n;cases n with
  | zero=>simp
  | succ n =>rw[List.take_succ_cons,List.flatMap_cons,List.flatMap_cons,ih n,show(n+1)*2=n*2+2 by omega];rfl
theorem ZgN (xs:List (Int × Int)):∀ n:Nat,(xs.drop n).flatMap Zah=(xs.flatMap Zah).drop (n*2):=by
 induction xs with
 | nil=>intro n;simp
 | cons x l ih =>
  intro n;cases n with
  | zero=>simp
  | succ n =>rw[List.drop_succ_cons,List.flatMap_cons,ih n,show(n+1)*2=n*2+2 by omega];rfl
theorem Pairs.take {w:World} {a:Option Addr} {len cap:Nat} {xs:List (Int × Int)} (h:Pairs 0 w (.slice a len cap) xs) {n:Nat} (hn:n≤xs.length):Pairs 0 w (.slice a n cap) (xs.take n):=by
 obtain⟨hl,a',cap',hv,h1,h2,h3⟩:=h;simp only[Value.slice.injEq] at hv;obtain⟨rfl,rfl,rfl⟩:=hv;have e:(xs.take n).length=n:=by rw[List.length_take];omega
 unfold Pairs;rw[e];refine⟨by rw[ZgM,List.length_take];omega,a,cap,rfl,by omega,h2,fun hn0 => ?_⟩;obtain⟨b,off,ha,hb,hlt,hc⟩:=h3 (by omega);refine⟨b,off,ha,hb,hlt,fun j hj => ?_⟩;rw[hc j (by omega),ZgM,List.getElem?_take_of_lt hj]
theorem Pairs.drop {w:World} {b off len cap:Nat} {xs:List (Int × Int)} (h:Pairs 0 w (.slice (some ⟨b,off,none⟩) len cap) xs) {n:Nat} (hn:n<xs.length):Pairs 0 w (.slice (some ⟨b,off+n*2,none⟩) (xs.length-n) (cap-n)) (xs.drop n):=by obtain⟨hl,a',cap',hv,h1,h2,h3⟩:=h;simp only[Value.slice.injEq] at hv;obtain⟨rfl,rfl,rfl⟩:=hv;unfold Pairs;rw[List.length_drop];refine⟨by rw[ZgN,List.length_drop];omega,_,_,rfl,by omega,by omega,fun hn0 => ?_⟩;obtain⟨b',off',ha,hb,hlt,hc⟩:=h3 (by omega);simp only[Option.some.injEq,Addr.mk.injEq,and_true] at ha;obtain⟨rfl,rfl⟩:=ha;refine⟨b,off+n*2,rfl,hb,hlt,fun j hj => ?_⟩;rw[show off+n*2+j=off+(n*2+j) by omega,hc _ (by omega),ZgN,List.getElem?_drop]
end Go.Proofs.Ytfikabecgaappaa
namespace Go.Proofs.Ytfikabecgaappaa
inductive Ex where
 | zero|one|ltr (c:Fin 3)|join (a b:Ex)|alt (a b:Ex)|both (a b:Ex)|neg (a:Ex)|star (a:Ex)
 deriving DecidableEq
def Ex.post:Ex→List (Int × Int)
 | .zero=>[(1,0)]
 | .one=>[(2,0)]
 | .ltr c=>[(3,(c.val:Int))]
 | .join a b=>a.post++b.post++[(4,0)]
 | .alt a b=>a.post++b.post++[(5,0)]
 | .both a b=>a.post++b.post++[(6,0)]
 | .neg a=>a.post++[(7,0)]
 | .star a=>a.post++[(8,0)]
theorem Zku:Zaj (1,0)=0:=by decide
theorem Zkt:Zaj (2,0)=0:=by decide
theorem ZhR (c:Fin 3):Zaj (3,(c.val:Int))=0:=by
 have:c=0∨c=1∨c=2:=by omega
 rcases this with rfl|rfl|rfl<;>decide
theorem Zlm:Zaj (4,0)=2:=by decide
theorem ZlT:Zaj (5,0)=2:=by decide
theorem Zln:Zaj (6,0)=2:=by decide
theorem ZlS:Zaj (7,0)=1:=by decide
theorem Zll:Zaj (8,0)=1:=by decide
def ZlX (m:Int) (es:List (Int × Int)):Prop:=∀ k,k<es.length→0≤Zaj (es.getD k (0,0))∧Zaj (es.getD k (0,0))≤m+dep es k
theorem Zeb {α:Type}:∀ (l:List α),1≤l.length→∃ L b,l=L++[b]
 | [],h=>by simp at h
 | [a],_=>⟨[],a,rfl⟩
 | a::b::l,_=>by obtain⟨L,c,h⟩:=Zeb (b::l) (by simp);exact⟨a::L,c,by rw[h];rfl⟩
def cat (st:List Ex):List (Int × Int):=st.flatMap Ex.post
theorem Zf9 (a b:List Ex):cat (a++b)=cat a++cat b:=by simp[cat]
theorem ZeM (a:Ex):cat [a]=a.post:=by simp[cat]
theorem ZhS {es:List (Int × Int)} (h:ZlX 0 es):∀ k,k≤es.length→∃ st:List Ex,cat st=es.take k∧(st.length:Int)=dep es k
 | 0,_=>⟨[],rfl,rfl⟩
 | k+1,hk=>by
  obtain⟨st,h1,h2⟩:=ZhS h k (by omega);obtain⟨h3,h4⟩:=h k (by omega);have ht:es.take (k+1)=es.take k++[es.getD k (0,0)]:=by rw[List.take_succ_eq_append_getElem (by omega)];simp[show k<es.length by omega]
  have hd:dep es (k+1)=dep es k-Zaj (es.getD k (0,0))+1:=rfl;obtain⟨p,hp⟩:=eI (es.getD k (0,0));rw[← hp] at h3 h4 ht hd;have hok:=Zej h3;obtain⟨p1,p2⟩:=p;rw[ht,hd,← h1];have leaf:∀ t:Ex,t.post=[(p1,p2)]→Zaj (p1,p2)=0→∃ st':List Ex,cat st'=cat st++[(p1,p2)]∧(st'.length:Int)=dep es k-Zaj (p1,p2)+1:=fun t e0 e1=>⟨st++[t],by rw[Zf9,ZeM,e0],by simp;omega⟩
  have one:∀ f:Ex→Ex,(∀ a,(f a).post=a.post++[(p1,p2)])→Zaj (p1,p2)=1→∃ st':List Ex,cat st'=cat st++[(p1,p2)]∧(st'.length:Int)=dep es k-Zaj (p1,p2)+1:=fun f e0 e1=>by obtain⟨L,a,rfl⟩:=Zeb st (by omega);refine⟨L++[f a],by rw[Zf9,Zf9,ZeM,ZeM,e0];simp,?_⟩;simp at h2 ⊢;omega
  have two:∀ f:Ex→Ex→Ex,(∀ a b,(f a b).post=a.post++b.post++[(p1,p2)])→Zaj (p1,p2)=2→∃ st':List Ex,cat st'=cat st++[(p1,p2)]∧(st'.length:Int)=dep es k-Zaj (p1,p2)+1:=fun f e0 e1=>by obtain⟨L,b,rfl⟩:=Zeb st (by omega);obtain⟨L,a,rfl⟩:=Zeb L (by simp at h2;omega);refine⟨L++[f a b],by simp only[Zf9,ZeM,e0,List.append_assoc],?_⟩;simp at h2 ⊢;omega
  simp only[pOk,inB,Bool.and_eq_true,Bool.or_eq_true,decide_eq_true_eq,Bool.not_eq_true',decide_eq_false_iff_not] at hok;obtain⟨⟨q1,q2⟩,q3⟩:=hok;have hc:(p1=1∧p2=0)∨(p1=2∧p2=0)∨(p1=3∧0≤p2∧p2≤2)∨(p1=4∧p2=0)∨(p1=5∧p2=0)∨(p1=6∧p2=0)∨(p1=7∧p2=0)∨(p1=8∧p2=0):=by omega
  rcases hc with⟨rfl,rfl⟩|⟨rfl,rfl⟩|⟨rfl,g1,g2⟩|⟨rfl,rfl⟩|⟨rfl,rfl⟩|⟨rfl,rfl⟩|⟨rfl,rfl⟩|⟨rfl,rfl⟩
  ·exact leaf .zero rfl Zku
  ·exact leaf .one rfl Zkt
  ·obtain⟨c,rfl⟩:=Int.eq_ofNat_of_zero_le g1;exact leaf (.ltr ⟨c,by omega⟩) rfl (ZhR ⟨c,by omega⟩)
  ·exact two .join (fun _ _=>rfl) Zlm
  ·exact two .alt (fun _ _=>rfl) ZlT
  ·exact two .both (fun _ _=>rfl) Zln
  ·exact one .neg (fun _=>rfl) ZlS
  exact one .star (fun _=>rfl) Zll
theorem parse {es:List (Int × Int)} (h:exOk es=true):∃ t:Ex,t.post=es:=by
 obtain⟨h1,h2,h3,h4⟩:=Zdq h;obtain⟨st,e1,e2⟩:=ZhS (es:=es) (fun k hk=>by have:=h1 k hk;omega) es.length (Nat.le_refl _);rw[h2] at e2;rw[List.take_length] at e1;obtain⟨L,t,rfl⟩:=Zeb st (by omega)
 have hL:L=[]:=by
  cases L with
  | nil=>rfl
  | cons=>simp at e2;omega
 subst hL;exact⟨t,by simpa [ZeM] using e1⟩
end Go.Proofs.Ytfikabecgaappaa
