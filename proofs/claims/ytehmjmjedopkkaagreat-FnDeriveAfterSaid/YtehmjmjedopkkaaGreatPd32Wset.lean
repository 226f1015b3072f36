/-
  The walks over impl's firstPair, differ, SameLanguage and MakePairs.
  Conditions: the automata read as such; for the first two they are valid.
-/
import Derived.Test.YtehmjmjedopkkaaGreatPd10Jh
import Derived.Test.YtehmjmjedopkkaaGreatPd29Frm
import Derived.Test.YtehmjmjedopkkaaGreatPd31Mn
set_option maxHeartbeats 8000000
set_option maxRecDepth 100000
namespace Go.Proofs.YtehmjmjedopkkaaGreat
open Go.RowKit Go.Maps
def hitK (K:Nat) (a b:DfaD):Option (List Nat):=ZhK (ZeK (fun x y=>x != y) a b) (bat (ZcB a b) (0,0) K)
def Zop:Nat:=1600
def hitP (a b:DfaD):Option (List Nat):=hitK Zop a b
end Go.Proofs.YtehmjmjedopkkaaGreat
namespace Go.Proofs.YtehmjmjedopkkaaGreat
open Go.RowKit
section
variable {α β:Type} [DecidableEq α] [DecidableEq β] {nx:α→Nat→α} {nx':β→Nat→β} {a:α} {f:α→β}
theorem ZkW (hf:∀ x y,f x=f y→x=y) (hn:∀ x c,f (nx x c)=nx' (f x) c) (x:α) (wd:List Nat) (s:Bs α) (c:Nat):bvisit nx' (f x) wd ⟨s.met.map f,s.words⟩ c=⟨(bvisit nx x wd s c).met.map f,(bvisit nx x wd s c).words⟩:=by
 have hm:nx' (f x) c∈s.met.map f↔nx x c∈s.met:=by
  rw[← hn];constructor
  ·intro h;obtain⟨y,hy,e⟩:=List.mem_map.1 h;rw[← hf _ _ e];exact hy
  exact fun h=>List.mem_map.2 ⟨_,h,rfl⟩
 unfold bvisit;by_cases h:nx x c∈s.met
 ·rw[if_pos h,if_pos (hm.2 h)]
 rw[if_neg h,if_neg (fun h2=>h (hm.1 h2))];simp[hn]
theorem Zkl (hf:∀ x y,f x=f y→x=y) (hn:∀ x c,f (nx x c)=nx' (f x) c) (x:α) (wd:List Nat) (s:Bs α):∀ n,brow nx' (f x) wd ⟨s.met.map f,s.words⟩ n=⟨(brow nx x wd s n).met.map f,(brow nx x wd s n).words⟩
 | 0=>rfl
 | n+1=>by show bvisit nx' (f x) wd (brow nx' (f x) wd ⟨s.met.map f,s.words⟩ n) n=_;rw[Zkl hf hn x wd s n,ZkW hf hn];rfl
theorem Zjv (hf:∀ x y,f x=f y→x=y) (hn:∀ x c,f (nx x c)=nx' (f x) c):∀ k,bat nx' (f a) k=⟨(bat nx a k).met.map f,(bat nx a k).words⟩
 | 0=>rfl
 | k+1=>by
  have ih:=Zjv hf hn k;have hl:(bat nx' (f a) k).met.length=(bat nx a k).met.length:=by rw[ih];simp
  by_cases h:k<(bat nx a k).met.length
  ·rw[ZaV h,ZaV (by rw[hl];exact h)];unfold bpart;rw[ih];have hx:((bat nx a k).met.map f).getD k (f a)=f ((bat nx a k).met.getD k a):=by simp[h]
   simp only[hx];exact Zkl hf hn _ _ _ 3
  rw[Zbm (by omega),Zbm (by omega),ih]
theorem ZmG (k:Nat):∀ i,i<(bat nx a k).met.length→((bat nx a k).words.getD i []).foldl nx a=(bat nx a k).met.getD i a∧isW ((bat nx a k).words.getD i []):=by
 have h:=ZeR (nx:=nx) (a:=a) (fun s=>s.words.length=s.met.length∧∀ i,i<s.met.length→(s.words.getD i []).foldl nx a=s.met.getD i a∧isW (s.words.getD i [])) ⟨rfl,fun i hi=>by
  obtain rfl:i=0:=by simpa using hi
  exact⟨rfl,fun c hc=>by simp at hc⟩⟩ (fun s k hk t c hc hs ht=>by
   unfold bvisit
   split
   ·exact ht
   refine⟨by simp[ht.1],fun i hi => ?_⟩;simp only[List.length_append,List.length_singleton] at hi;by_cases hit:i<t.met.length
   ·have h1:=ht.2 i hit;have e1:(t.words++[s.words.getD k []++[c]]).getD i []=t.words.getD i []:=by simp only[List.getD_eq_getElem?_getD];rw[List.getElem?_append_left (by rw[ht.1];exact hit)]
    have e2:(t.met++[nx (s.met.getD k a) c]).getD i a=t.met.getD i a:=by simp only[List.getD_eq_getElem?_getD];rw[List.getElem?_append_left hit]
    show((t.words++[s.words.getD k []++[c]]).getD i []).foldl nx a=(t.met++[nx (s.met.getD k a) c]).getD i a∧isW ((t.words++[s.words.getD k []++[c]]).getD i []);rw[e1,e2];exact h1
   obtain rfl:i=t.met.length:=by omega
   have h2:=hs.2 k hk;have e1:(t.words++[s.words.getD k []++[c]]).getD t.met.length []=s.words.getD k []++[c]:=by simp[← ht.1]
   have e2:(t.met++[nx (s.met.getD k a) c]).getD t.met.length a=nx (s.met.getD k a) c:=by simp
   show((t.words++[s.words.getD k []++[c]]).getD t.met.length []).foldl nx a=(t.met++[nx (s.met.getD k a) c]).getD t.met.length a∧isW ((t.words++[s.words.getD k []++[c]]).getD t.met.length []);rw[e1,e2,List.foldl_append,h2.1];exact⟨rfl,ZeG h2.2 (Zjj hc)⟩) k
 exact h.2
end
theorem Zei {α:Type} {en:α→Bool} {s:Bs α} {w:List Nat} {d:α} (hl:s.words.length=s.met.length) (h:ZhK en s=some w):∃ i,i<s.met.length∧s.words.getD i []=w∧en (s.met.getD i d)=true:=by
 unfold ZhK at h;rw[Option.map_eq_some_iff] at h;obtain⟨p,hp,rfl⟩:=h;obtain⟨h1,i,hi,hpi,-⟩:=List.find?_eq_some_iff_getElem.1 hp;rw[List.length_zip] at hi;have him:i<s.met.length:=by omega
 have hiw:i<s.words.length:=by omega
 rw[List.getElem_zip] at hpi;refine⟨i,him,?_,?_⟩
 ·rw[ZbA hiw,← hpi]
 rw[ZbA him];rw[← hpi] at h1;exact h1
theorem ZgF (a b:DfaD):∀ (w:List Nat) (s t:Int),w.foldl (ZcB a b) (s,t)=(runD a s w,runD b t w)
 | [],_,_=>rfl
 | c::w,s,t=>ZgF a b w (dnx a s c) (dnx b t c)
theorem Znr {K:Nat} {a b:DfaD} {w:List Nat} (h:hitK K a b=some w):isW w∧accD a w≠accD b w:=by have hg:=(Za5 (nx:=ZcB a b) (a:=((0,0):Int × Int)) K).2.1;obtain⟨i,hi,hw,he⟩:=Zei (d:=((0,0):Int × Int)) hg h;obtain⟨h1,h2⟩:=ZmG (nx:=ZcB a b) (a:=((0,0):Int × Int)) K i hi;rw[hw] at h1 h2;rw[ZgF] at h1;refine⟨h2,fun e => ?_⟩;unfold ZeK at he;rw[← h1] at he;unfold accD den at e;simp only at he;rw[e] at he;simp at he
theorem Zo5 {l:List Nat} {i:Nat} (hi:i<l.length) (hw:isW l) (h:i<(wdB l).size):(((wdB l)[i]'h).toNat:Int)=97+(l.getD i 0:Nat):=by
 have hc:l.getD i 0<3:=hw _ (memD hi);have e:(wdB l)[i]'h=UInt8.ofNat (97+l.getD i 0):=by show(wdB l).data[i]=_;simp[wdB,hi]
 rw[e,UInt8.toNat_ofNat'];omega
theorem ZkK (l:List Nat) (i:Nat) (hi:i<l.length) (hw:isW l) (w:World):Calls Tryz.prog 30 #[.string (wdB l),.int .i64 i] w fun e w'=>e = .returned (.int .i64 (l.getD i 0:Nat))∧w=w':=by
 have hc:l.getD i 0<3:=hw _ (memD hi);have hs:(wdB l).size=l.length:=Zjy l;have hat:=fun h=>Zo5 hi hw h
 obtain⟨c,hcc⟩:=eI (l.getD i 0);rw[← hcc] at hc hat;rw[← hcc];have hrun:∀ w':World,(Instr.index 9 (.string (wdB l)) (.int .i64 (i:Int))).run Tryz.prog w' = .ok (.int .u8 (97+(c:Int))) w':=fun w'=>by rw[run_index_string w' 9 (wdB l) .i64 i Tryz.underlying9,dif_pos (by omega)];congr 2;exact hat _
 have hw8:IntKind.u8.wrap (97+(c:Int)-97)=(c:Int):=by
  obtain rfl|rfl|rfl:c=0∨c=1∨c=2:=by omega
  all_goals rfl
 have hw9:IntKind.i64.wrap (c:Int)=(c:Int):=IntWalk.i64_in _ (by omega);replace hcc:=qh hcc;clear hat
 go_enter Tryz.func30, Tryz.ntmps30
 go_wp2;go_ret;exact⟨rfl,rfl⟩
theorem Zlm (d:DfaD) (s:Int) {l:List Nat} {k:Nat} (hk:k<l.length):runD d s (l.take (k+1))=dnx d (runD d s (l.take k)) (l.getD k 0):=by rw[List.take_succ_eq_append_getElem hk,ZdM];simp[runD,hk]
theorem Zm1 (d:DfaD) (q:Nat) (l:List Nat) (v:Value) (w:World) (hd:Zai d.next d.ends=true) (hq:q<d.next.length) (hw:isW l) (hl:l.length≤1000000) (h:DfaR 0 w v d) :
  Calls Tryz.prog 39 #[v,.int .i64 q,.string (wdB l)] w fun e w'=>e = .returned (.int .i64 (runD d q l))∧Below w.heap.size w w':=by
 obtain⟨v1,v2,rfl,g1,g2⟩:=h;have hlen:=Zag hd;have hS0:=(St.start w).alloc _ rfl #[v1,v2] 32;have hs:(wdB l).size=l.length:=Zjy l;have G1:=qh g1;replace hd:=qh hd;have Hhw:=qh hw;clear hw;replace hS0:=qh hS0;clear g1 g2
 go_enter Tryz.func39, Tryz.ntmps39
 go_wp2
 go_loopw [1,10] (fun fr i wr=>∃ k p:Nat,fr = .int .i64 p∧i = .int .i64 k∧k≤l.length∧p<d.next.length∧(p:Int)=runD d q (l.take k)∧St w wr [Ent.box w.heap.size #[v1,v2] 32]) (fun _ i _=>l.length-(intOf i).toNat)
 case atStart=>exact⟨0,q,rfl,rfl,Nat.zero_le _,hq,rfl,hS0.out⟩
 case round =>
  obtain⟨k,p,rfl,rfl,hk,hp,hrun,hS⟩:=hrel;by_cases hlt:k<l.length
  ·have hc:l.getD k 0<3:=Hhw.out _ (memD hlt);obtain⟨b1,o1,cap1,z,t,s,rfl,hc1,hc2,k1,hs1,hs2,k2,hb1,hb2⟩:=ZhP (G1.out.below hS.bel) hd.out hp hc;have e0:=hS.cell (v:=.slice (some ⟨b1,o1,none⟩) d.next.length cap1) 0 0 rfl rfl;have hnx:=(ZaP hd.out hp).2 _ hc;have hsn:=Zlm d q hlt;rw[← hrun] at hsn;obtain⟨x,hx⟩:=eI ((d.next.getD p []).getD (l.getD k 0) 0);have hdx:dnx d (p:Int) (l.getD k 0)=x:=by rw[hx];rfl
   rw[hdx] at hsn;rw[← hx] at k2 hnx;obtain⟨x0,x1⟩:=hnx;obtain⟨x,rfl⟩:=Int.eq_ofNat_of_zero_le x0;have hlet:=fun (w:World)=>ZkK l k hlt Hhw.out w
   obtain⟨c,hcc⟩:=eI (l.getD k 0);rw[← hcc] at hc k2 hlet;have hp2:(p:Int)<d.next.length:=by omega
   have hc3:(c:Int)<3:=by omega
   have hkl:(k:Int)<l.length:=by omega
   have Hlet:=qh hlet;replace hS:=qh hS;have Hhx:=qh hx;clear hx;have Hhdx:=qh hdx;clear hdx;have Hhsn:=qh hsn;clear hsn;have Hhcc:=qh hcc;clear hcc;have Hhrun:=qh hrun;clear hrun;clear hlet;go_wp2
   go_quiet (((go_at_call 30;with_reducible exact Zhn (Hlet.out _))))
   go_wp2;go_roundw
   case rel=>exact⟨k+1,x,rfl,by go_num,by omega,by omega,Hhsn.out.symm,hS.out.drewN _⟩
   case measure=>simp[intOf];omega
  obtain rfl:k=l.length:=by omega
  rw[List.take_length] at hrun;replace hS:=qh hS;have Hhrun:=qh hrun;clear hrun;go_wp2;go_ret;exact⟨ZfI Hhrun.out,hS.out.bel⟩
end Go.Proofs.YtehmjmjedopkkaaGreat
namespace Go.Proofs.YtehmjmjedopkkaaGreat
open Go.RowKit
def subV (v u:Nat):Prop:=∀ s,v.testBit s=true→u.testBit s=true
theorem ZdV (v:Nat):subV v v:=fun _ h=>h
theorem ZgE {a b c:Nat} (h:subV a b) (h':subV b c):subV a c:=fun s hs=>h' s (h s hs)
theorem Zk5 {a b:Nat} (h:subV a b) (h':subV b a):a=b:=by apply Nat.eq_of_testBit_eq;intro i;have h1:=h i;have h2:=h' i;cases ha:a.testBit i<;>cases hb:b.testBit i<;>simp_all
theorem ZmQ (v s:Nat):subV v (adj v s):=fun t ht=>by rw[ZcD,ht];rfl
theorem ZgY (v:Nat) (m:Int × Int × Int):subV v (Zat v m):=by
 unfold Zat
 split
 ·exact ZmQ _ _
 exact ZdV _
theorem ZeN:∀ (ms:List (Int × Int × Int)) (v:Nat),subV v (ms.foldl Zat v)
 | [],v=>ZdV v
 | m::ms,v=>ZgE (ZgY v m) (ZeN ms _)
theorem Zkj (ms:List (Int × Int × Int)) (v:Nat):∀ k,subV v (clIt ms v k)
 | 0=>ZdV v
 | k+1=>ZgE (Zkj ms v k) (ZeN ms _)
def ZbI (ms:List (Int × Int × Int)) (u:Nat):Prop:=∀ m∈ms,m.2.1 = -1→u.testBit m.1.toNat=true→u.testBit m.2.2.toNat=true
theorem Zmw {ms:List (Int × Int × Int)} {u v:Nat} (hu:ZbI ms u) (h:subV v u) {m:Int × Int × Int} (hm:m∈ms):subV (Zat v m) u:=by
 unfold Zat
 split
 ·rename_i hc;simp only[Bool.and_eq_true,decide_eq_true_eq] at hc;intro s hs;rw[ZcD,Bool.or_eq_true] at hs;rcases hs with hs|hs
  ·exact h s hs
  rw[← of_decide_eq_true hs];exact hu m hm hc.1.1 (h _ hc.1.2)
 exact h
theorem ZiK {ms:List (Int × Int × Int)} {u:Nat} (hu:ZbI ms u):∀ (l:List (Int × Int × Int)) (v:Nat),(∀ m∈l,m∈ms)→subV v u→subV (l.foldl Zat v) u
 | [],_,_,h=>h
 | m::l,v,hl,h=>ZiK hu l _ (fun x hx=>hl x (by simp[hx])) (Zmw hu h (hl m (by simp)))
theorem Zmx {ms:List (Int × Int × Int)} {u v:Nat} (hu:ZbI ms u) (h:subV v u):∀ k,subV (clIt ms v k) u
 | 0=>h
 | k+1=>ZiK hu ms _ (fun _ hx=>hx) (Zmx hu h k)
theorem ZoZ {n:Nat} {ms:List (Int × Int × Int)} (h:mvIn n ms) (v:Nat):ZiI ms (clV n ms v)=clV n ms v:=by
 rcases Zeo h v n with h1|h1
 ·exact h1
 have:=Zmq n v;omega
theorem Zj6:∀ {l:List (Int × Int × Int)} {v:Nat},l.foldl Zat v=v→∀ m∈l,Zat v m=v
 | [],_,_,_,hm=>by cases hm
 | m::l,v,h,x,hx=>by
  have h1:Zat v m=v:=Zk5 (by have:=ZeN l (Zat v m);rw[List.foldl_cons] at h;rw[h] at this;exact this) (ZgY v m);rw[List.foldl_cons,h1] at h;rcases List.mem_cons.1 hx with rfl|hx
  ·exact h1
  exact Zj6 h x hx
theorem Zcf {n:Nat} {ms:List (Int × Int × Int)} (h:mvIn n ms) (v:Nat):ZbI ms (clV n ms v):=by
 intro m hm hl hf;have h1:=Zj6 (ZoZ h v) m hm;cases ht:(clV n ms v).testBit m.2.2.toNat with
 | true=>rfl
 | false =>exfalso;unfold Zat at h1;rw[if_pos (by simp[hl,hf,ht])] at h1;have:=ZcD (clV n ms v) m.2.2.toNat m.2.2.toNat;rw[h1,ht] at this;simp at this
theorem Zgj (n:Nat) (ms:List (Int × Int × Int)) (v:Nat):subV v (clV n ms v):=Zkj ms v n
theorem Zmt {n:Nat} {ms:List (Int × Int × Int)} {u v:Nat} (hu:ZbI ms u) (h:subV v u):subV (clV n ms v) u:=Zmx hu h n
theorem Zfq {n:Nat} {ms:List (Int × Int × Int)} {u:Nat} (hu:ZbI ms u):clV n ms u=u:=Zk5 (Zmt hu (ZdV u)) (Zgj n ms u)
theorem ZjL:∀ (l:List Int) (v t:Nat),(l.foldl (fun v s=>adj v s.toNat) v).testBit t=(v.testBit t||l.any fun s=>decide (s.toNat=t))
 | [],v,t=>by simp
 | s::l,v,t=>by rw[List.foldl_cons,ZjL l,ZcD,List.any_cons,Bool.or_assoc]
theorem Zhd (l:List Int) (t:Nat):(setV l).testBit t=l.any fun s=>decide (s.toNat=t):=by unfold setV;rw[ZjL];simp
theorem ZjK {l:List Int} {x:Int} (hx:x∈l):(setV l).testBit x.toNat=true:=by rw[Zhd,List.any_eq_true];exact⟨x,hx,by simp⟩
section
variable {α:Type} [DecidableEq α] {nx:α→Nat→α} {a:α} {en:α→Bool} {K:Nat}
theorem ZkE {F:List α} {x:α} (h:x∈F) (d:α):F.getD (Zah F x) d=x:=by have h1:=Zbr h;rw[ZbA h1];exact List.getElem_idxOf h1
theorem Zi4 (hK:(bat nx a K).met.length≤K):∀ (w:List Nat),isW w→∀ x∈(bat nx a K).met,w.foldl nx x∈(bat nx a K).met∧runD (Zar nx en (bat nx a K).met) (Zah (bat nx a K).met x:Nat) w=(Zah (bat nx a K).met (w.foldl nx x):Nat)
 | [],_,x,hx=>⟨hx,rfl⟩
 | c::w,hw,x,hx=>by have hc:c<3:=hw c (by simp);have hx2:=ZdB hK hx hc;have h1:=Zbr hx;obtain⟨h2,h3⟩:=Zi4 hK w (fun b hb=>hw b (by simp[hb])) (nx x c) hx2;refine⟨h2,?_⟩;unfold runD at *;rw[List.foldl_cons,List.foldl_cons,← h3,Zjq (a:=a) (by omega) (by omega) hc];unfold Zby;rw[Int.toNat_natCast,ZkE hx]
theorem ZdC (hK:(bat nx a K).met.length≤K) {w:List Nat} (hw:isW w):accD (Zar nx en (bat nx a K).met) w=en (w.foldl nx a):=by
 have h0:=ZhW (nx:=nx) (a:=a) K;obtain⟨h1,h2⟩:=Zi4 (en:=en) hK w hw a h0;have h3:Zah (bat nx a K).met a=0:=by have hp:=ZeQ (nx:=nx) (a:=a) K;have hf:=Zgp (nx:=nx) (a:=a) K;have hn:=(Za5 (nx:=nx) (a:=a) K).1;rw[ZbA hp] at hf;have:=List.Nodup.idxOf_getElem hn 0 hp;rw[hf] at this;exact this
 rw[h3] at h2;unfold accD;rw[show((0:Nat):Int)=0 from rfl] at h2;rw[h2,Zjr (Zbr h1)];congr 1;exact List.getElem_idxOf _
end
def shM (d:Int) (m:Int × Int × Int):Int × Int × Int:=(m.1+d,m.2.1,m.2.2+d)
def shN (n:NfaD) (d:Int):NfaD:=⟨n.states+d,n.moves.map (shM d),n.firsts.map (·+d),n.ends.map (·+d)⟩
theorem Zbu {α β:Type} (f:α→β) {l:List α} {k:Nat} {d x:α} (hk:k<l.length) (hx:x=l.getD k d):(l.take (k+1)).map f=(l.take k).map f++[f x]:=by rw[List.take_succ_eq_append_getElem hk,List.map_append,hx];simp[hk]
def Zct (n:NfaD):NfaD:=⟨n.states+1,n.moves++(n.firsts.map fun t=>(n.states,-1,t))++(n.ends.map fun s=>(s,-1,n.states)),[n.states],[n.states]⟩
def Zdk (p q:NfaD):NfaD:=⟨(shN q p.states).states,p.moves++(shN q p.states).moves++(p.ends.flatMap fun s=>(shN q p.states).firsts.map fun t=>(s,-1,t)),p.firsts,(shN q p.states).ends⟩
inductive Pth (ms:List (Int × Int × Int)):Int→List Nat→Int→Prop
 | here (s:Int):Pth ms s [] s
 | eps {s t u:Int} {w:List Nat}:(s,-1,t)∈ms→Pth ms t w u→Pth ms s w u
 | step {s t u:Int} {c:Nat} {w:List Nat}:(s,(c:Int),t)∈ms→Pth ms t w u→Pth ms s (c::w) u
theorem Pth.append {ms:List (Int × Int × Int)} {s t u:Int} {x y:List Nat} (h:Pth ms s x t) (h':Pth ms t y u):Pth ms s (x++y) u:=by
 induction h with
 | here s=>exact h'
 | eps hm _ ih=>exact .eps hm (ih h')
 | step hm _ ih=>exact .step hm (ih h')
theorem Pth.mono {ms ns:List (Int × Int × Int)} (hs:∀ m∈ms,m∈ns) {s t:Int} {x:List Nat} (h:Pth ms s x t):Pth ns s x t:=by
 induction h with
 | here s=>exact .here s
 | eps hm _ ih=>exact .eps (hs _ hm) ih
 | step hm _ ih=>exact .step (hs _ hm) ih
theorem Pth.map {ms ns:List (Int × Int × Int)} (f:Int→Int) (hs:∀ m∈ms,(f m.1,m.2.1,f m.2.2)∈ns∨(m.2.1 = -1∧f m.1=f m.2.2)) {s t:Int} {x:List Nat} (h:Pth ms s x t):Pth ns (f s) x (f t):=by
 induction h with
 | here s=>exact .here _
 | eps hm _ ih =>
  rcases hs _ hm with h|⟨_,h⟩
  ·exact .eps h ih
  exact h ▸ ih
 | step hm _ ih =>
  rcases hs _ hm with h|⟨h,_⟩
  ·exact .step h ih
  simp only at h;omega
theorem Pth.in {ms:List (Int × Int × Int)} {n:Nat} (hm:mvIn n ms) {s t:Int} {x:List Nat} (h:Pth ms s x t) (hs:0≤s∧s<(n:Int)):0≤t∧t<(n:Int):=by
 induction h with
 | here s=>exact hs
 | eps h _ ih=>exact ih (hm _ h).2
 | step h _ ih=>exact ih (hm _ h).2
def runS (n:NfaD) (cs:List Nat):Nat:=cs.foldl (fun v (c:Nat)=>stV 40 n.moves v (c:Int)) (clV 40 n.moves (setV n.firsts))
def accS (n:NfaD) (cs:List Nat):Bool:=n.ends.any fun s=>(runS n cs).testBit s.toNat
theorem ZlM (P:Nat→Prop):∀ n:Nat,∃ u:Nat,∀ t,u.testBit t=true↔t<n∧P t
 | 0=>⟨0,fun t=>by simp⟩
 | n+1=>by
  obtain⟨u,hu⟩:=ZlM P n;by_cases hp:P n
  ·refine⟨adj u n,fun t => ?_⟩;rw[ZcD,Bool.or_eq_true,hu,decide_eq_true_eq];constructor
   ·rintro(⟨h1,h2⟩|rfl)
    ·exact⟨by omega,h2⟩
    exact⟨by omega,hp⟩
   rintro⟨h1,h2⟩;by_cases h:n=t
   ·exact .inr h
   exact .inl ⟨by omega,h2⟩
  refine⟨u,fun t => ?_⟩;rw[hu];constructor
  ·rintro⟨h1,h2⟩;exact⟨by omega,h2⟩
  rintro⟨h1,h2⟩;by_cases h:t=n
  ·subst h;exact absurd h2 hp
  exact⟨by omega,h2⟩
theorem Pth.closed {ms:List (Int × Int × Int)} {u:Nat} (hu:ZbI ms u) {s t:Int} {x:List Nat} (h:Pth ms s x t) (hx:x=[]) (hs:u.testBit s.toNat=true):u.testBit t.toNat=true:=by
 induction h with
 | here s=>exact hs
 | eps hm _ ih=>exact ih hx (hu _ hm rfl hs)
 | step hm _ ih=>cases hx
theorem Zms {ms:List (Int × Int × Int)} (hm:mvIn 40 ms) {v t:Nat} (hv:v<2 ^ 40):(clV 40 ms v).testBit t=true↔∃ s:Nat,s<40∧v.testBit s=true∧Pth ms s [] t:=by
 constructor
 ·intro h;obtain⟨u,hu⟩:=ZlM (fun t=>∃ s:Nat,s<40∧v.testBit s=true∧Pth ms s [] t) 40
  have hc:ZbI ms u:=by
   intro m hmm he hf;obtain⟨h1,s,hs,hvs,hp⟩:=(hu _).1 hf;have h2:=hm m hmm;refine(hu _).2 ⟨by omega,s,hs,hvs,?_⟩;have e1:((m.1.toNat:Nat):Int)=m.1:=by omega
   have e2:((m.2.2.toNat:Nat):Int)=m.2.2:=by omega
   rw[e1] at hp;rw[e2];refine hp.append (y:=[]) (.eps ?_ (.here _));rw[← he];exact hmm
  have hsub:subV v u:=by
   intro s hs
   have:s<40:=by
    by_cases h:s<40
    ·exact h
    rw[Nat.testBit_lt_two_pow (Nat.lt_of_lt_of_le hv (Nat.pow_le_pow_right (by omega) (by omega)))] at hs;cases hs
   exact(hu s).2 ⟨this,s,this,hs,.here _⟩
  exact((hu t).1 (Zmt hc hsub t h)).2
 rintro⟨s,hs,hvs,hp⟩;have:=hp.closed (Zcf hm v) rfl (by rw[Int.toNat_natCast];exact Zgj 40 ms v s hvs)
 rwa [Int.toNat_natCast] at this
theorem ZbD {c:Int} {v:Nat}:∀ (l:List (Int × Int × Int)) (u t:Nat),(l.foldl (Zbx v c) u).testBit t=true↔u.testBit t=true∨∃ m∈l,m.2.1=c∧v.testBit m.1.toNat=true∧m.2.2.toNat=t
 | [],u,t=>by simp
 | m::l,u,t=>by
  rw[List.foldl_cons,ZbD l,Zbx]
  split
  ·rename_i h;rw[Bool.and_eq_true,decide_eq_true_eq] at h;rw[ZcD,Bool.or_eq_true,decide_eq_true_eq];constructor
   ·rintro((h1|h1)|⟨x,hx,h1⟩)
    ·exact .inl h1
    ·exact .inr ⟨m,by simp,h.1,h.2,h1⟩
    exact .inr ⟨x,by simp[hx],h1⟩
   rintro(h1|⟨x,hx,h1⟩)
   ·exact .inl (.inl h1)
   rcases List.mem_cons.1 hx with rfl|hx
   ·exact .inl (.inr h1.2.2)
   exact .inr ⟨x,hx,h1⟩
  rename_i h;rw[Bool.and_eq_true,decide_eq_true_eq] at h;constructor
  ·rintro(h1|⟨x,hx,h1⟩)
   ·exact .inl h1
   exact .inr ⟨x,by simp[hx],h1⟩
  rintro(h1|⟨x,hx,h1⟩)
  ·exact .inl h1
  rcases List.mem_cons.1 hx with rfl|hx
  ·exact absurd ⟨h1.1,h1.2.1⟩ h
  exact .inr ⟨x,hx,h1⟩
theorem ZfV {v s n:Nat} (hv:v<2 ^ n) (hs:v.testBit s=true):s<n:=by
 by_cases h:s<n
 ·exact h
 rw[Nat.testBit_lt_two_pow (Nat.lt_of_lt_of_le hv (Nat.pow_le_pow_right (by omega) (by omega)))] at hs;cases hs
theorem Zlf {ms:List (Int × Int × Int)} (hm:mvIn 40 ms) {v t:Nat} (c:Nat):(stV 40 ms v (c:Int)).testBit t=true↔∃ x,x∈ms∧x.2.1=(c:Int)∧v.testBit x.1.toNat=true∧Pth ms x.2.2 [] t:=by
 have hlt:ms.foldl (Zbx v c) 0<2 ^ 40:=Zcq _ (fun u=>u<2 ^ 40) (fun _ _ hx hu=>Zdb hm hx hu) (by decide);unfold stV;rw[Zms hm hlt];constructor
 ·rintro⟨s,hs,hb,hp⟩;rw[ZbD] at hb;rcases hb with hb|⟨m,hmm,h1,h2,h3⟩
  ·simp at hb
  refine⟨m,hmm,h1,h2,?_⟩;have e:m.2.2=(s:Int):=by have:=(hm m hmm).2;omega
  rw[e];exact hp
 rintro⟨x,hx,h1,h2,hp⟩;have h4:=(hm x hx).2;refine⟨x.2.2.toNat,by omega,?_,?_⟩
 ·rw[ZbD];exact .inr ⟨x,hx,h1,h2,rfl⟩
 have e:((x.2.2.toNat:Nat):Int)=x.2.2:=by omega
 rw[e];exact hp
theorem Pth.split {ms:List (Int × Int × Int)} {s u:Int} {x:List Nat} (h:Pth ms s x u):∀ {c:Nat} {w:List Nat},x=c::w→∃ m,m∈ms∧m.2.1=(c:Int)∧Pth ms s [] m.1∧Pth ms m.2.2 w u:=by
 induction h with
 | here s=>intro c w h;cases h
 | eps hm _ ih =>intro c w h;obtain⟨m,h1,h2,h3,h4⟩:=ih h;exact⟨m,h1,h2,.eps hm h3,h4⟩
 | step hm hp ih =>
  intro c w h
  injection h with h1 h2
  subst h1;subst h2;exact⟨_,hm,rfl,.here _,hp⟩
theorem Zkv {ms:List (Int × Int × Int)} (hm:mvIn 40 ms) (v:Nat) (c:Int):ZbI ms (stV 40 ms v c):=Zcf hm _
theorem Ziw {ms:List (Int × Int × Int)} (hm:mvIn 40 ms):∀ (cs:List Nat) (V:Nat),V<2 ^ 40→ZbI ms V→∀ t,(cs.foldl (fun v (c:Nat)=>stV 40 ms v (c:Int)) V).testBit t=true↔∃ s:Nat,s<40∧V.testBit s=true∧Pth ms s cs t
 | [],V,hV,hc,t=>by
  rw[List.foldl_nil];constructor
  ·intro h;exact⟨t,ZfV hV h,h,.here _⟩
  rintro⟨s,hs,h1,h2⟩;have:=h2.closed hc rfl (by rwa [Int.toNat_natCast])
  rwa [Int.toNat_natCast] at this
 | c::cs,V,hV,hc,t=>by
  rw[List.foldl_cons,Ziw hm cs _ (Zlg hm V c) (Zkv hm V c)];constructor
  ·rintro⟨s,hs,h1,h2⟩;rw[Zlf hm] at h1;obtain⟨x,hx,h3,h4,h5⟩:=h1;have h6:=(hm x hx).1;refine⟨x.1.toNat,by omega,h4,?_⟩;have e:((x.1.toNat:Nat):Int)=x.1:=by omega
   rw[e];refine .step (t:=x.2.2) ?_ (h5.append h2);rw[← h3];exact hx
  rintro⟨s,hs,h1,h2⟩;obtain⟨m,h3,h4,h5,h6⟩:=h2.split rfl;have h7:=(hm m h3).2;refine⟨m.2.2.toNat,by omega,?_,?_⟩
  ·rw[Zlf hm];have:=h5.closed hc rfl (by rwa [Int.toNat_natCast]);refine⟨m,h3,h4,this,?_⟩;have e:((m.2.2.toNat:Nat):Int)=m.2.2:=by omega
   rw[e];exact .here _
  have e:((m.2.2.toNat:Nat):Int)=m.2.2:=by omega
  rw[e];exact h6
theorem ZnW {n:NfaD} (hn:Zhw n=true) (cs:List Nat):accS n cs=true↔∃ f∈n.firsts,∃ e∈n.ends,Pth n.moves f cs e:=by
 obtain⟨m,hm,hm40,hmv,-,hf,-,he,-⟩:=Zc2 hn;have hm4:=ZlO hmv hm40;have hfi:inN 40 n.firsts:=fun s hs=>by have:=hf s hs;omega
 have hlt:clV 40 n.moves (setV n.firsts)<2 ^ 40:=ZeM hm4 (ZdK hfi) 40;have hrun:=Ziw hm4 cs _ hlt (Zcf hm4 (setV n.firsts));unfold accS runS;rw[List.any_eq_true];constructor
 ·rintro⟨e,hee,hb⟩;obtain⟨s,hs,h1,h2⟩:=(hrun _).1 hb;rw[Zms hm4 (ZdK hfi)] at h1;obtain⟨r,hr,h3,h4⟩:=h1;rw[Zhd,List.any_eq_true] at h3;obtain⟨f,hff,h5⟩:=h3;have h5:=of_decide_eq_true h5;have h6:=hf f hff;have h7:=he e hee;refine⟨f,hff,e,hee,?_⟩;have e1:(r:Int)=f:=by omega
  have e2:((e.toNat:Nat):Int)=e:=by omega
  rw[e1] at h4;rw[e2] at h2;exact h4.append h2
 rintro⟨f,hff,e,hee,hp⟩;have h6:=hf f hff;have h7:=he e hee;refine⟨e,hee,(hrun _).2 ⟨f.toNat,by omega,?_,?_⟩⟩
 ·exact Zgj 40 n.moves _ _ (ZjK hff)
 have e1:((f.toNat:Nat):Int)=f:=by omega
 have e2:((e.toNat:Nat):Int)=e:=by omega
 rw[e1,e2];exact hp
theorem Pth.up {ms:List (Int × Int × Int)} (d:Int) {s t:Int} {x:List Nat} (h:Pth ms s x t):Pth (ms.map (shM d)) (s+d) x (t+d) :=
 h.map (·+d) fun m hm => .inl (List.mem_map.2 ⟨m,hm,rfl⟩)
theorem Pth.cross {p q:NfaD} {a b:Nat} (ha:p.states=(a:Int)) (hpm:mvIn a p.moves) (hqm:mvIn b q.moves) (hpe:inN a p.ends) (hqf:inN b q.firsts) {s t:Int} {x:List Nat} (h:Pth (Zdk p q).moves s x t) (ht:p.states≤t):(s<p.states→∃ k,k≤x.length∧∃ e∈p.ends,∃ f∈q.firsts,Pth p.moves s (x.take k) e∧Pth q.moves f (x.drop k) (t-p.states))∧(p.states≤s→Pth q.moves (s-p.states) x (t-p.states)):=by
 induction h with
 | here s=>exact⟨fun h=>by omega,fun _ => .here _⟩
 | @eps s' t' u w hm _ ih =>
  obtain⟨i1,i2⟩:=ih ht;rcases List.mem_append.1 hm with hm|hm
  ·rcases List.mem_append.1 hm with hm|hm
   ·have h1:=hpm _ hm;simp only at h1;refine⟨fun h => ?_,fun h=>by omega⟩;obtain⟨k,hk,e,he,f,hf,h2,h3⟩:=i1 (by omega);exact⟨k,hk,e,he,f,hf,.eps hm h2,h3⟩
   obtain⟨y,hy,e⟩:=List.mem_map.1 (show _∈q.moves.map (shM p.states) from hm);have h1:=hqm _ hy
   injection e with e1 e2
   injection e2 with e2 e3
   refine⟨fun h=>by omega,fun h => .eps (t:=t'-p.states) ?_ (i2 (by omega))⟩;rw[← e1,← e3,show y.1+p.states-p.states=y.1 by omega,show y.2.2+p.states-p.states=y.2.2 by omega,← e2];exact hy
  obtain⟨y,hy,e⟩:=List.mem_flatMap.1 hm;obtain⟨z,hz,e⟩:=List.mem_map.1 e;obtain⟨z,hz',rfl⟩:=List.mem_map.1 (show z∈q.firsts.map (·+p.states) from hz)
  injection e with e1 e2
  injection e2 with e2 e3
  have h1:=hpe y hy;have h2:=hqf z hz';refine⟨fun h=>⟨0,Nat.zero_le _,y,hy,z,hz',?_,?_⟩,fun h=>by omega⟩
  ·rw[e1];exact .here _
  have:=i2 (by omega);rw[← e3,show z+p.states-p.states=z by omega] at this;exact this
 | @step s' t' u c w hm _ ih =>
  obtain⟨i1,i2⟩:=ih ht;rcases List.mem_append.1 hm with hm|hm
  ·rcases List.mem_append.1 hm with hm|hm
   ·have h1:=hpm _ hm;simp only at h1;refine⟨fun h => ?_,fun h=>by omega⟩;obtain⟨k,hk,e,he,f,hf,h2,h3⟩:=i1 (by omega);exact⟨k+1,by simp only[List.length_cons];omega,e,he,f,hf,.step hm h2,h3⟩
   obtain⟨y,hy,e⟩:=List.mem_map.1 (show _∈q.moves.map (shM p.states) from hm);have h1:=hqm _ hy
   injection e with e1 e2
   injection e2 with e2 e3
   refine⟨fun h=>by omega,fun h => .step (t:=t'-p.states) ?_ (i2 (by omega))⟩;rw[← e1,← e3,show y.1+p.states-p.states=y.1 by omega,show y.2.2+p.states-p.states=y.2.2 by omega,← e2];exact hy
  obtain⟨y,hy,e⟩:=List.mem_flatMap.1 hm;obtain⟨z,hz,e⟩:=List.mem_map.1 e
  injection e with e1 e2
  injection e2 with e2 e3
  omega
def lets (l:List Nat):List Nat:=l.map (·-97)
theorem Zpd {l:List Nat} {k:Nat} (h:okT l l.length=true) (hk:k<l.length):97≤l.getD k 0∧l.getD k 0≤99:=by unfold okT at h;have:=List.all_eq_true.1 h k (List.mem_range.2 hk);simp only[inB,Bool.and_eq_true,decide_eq_true_eq] at this;omega
theorem Zks {l:List Nat} (h:wdOk l=true):okT l l.length=true∧l.length≤8:=by unfold wdOk at h;simp only[Bool.and_eq_true,decide_eq_true_eq] at h;exact h
end Go.Proofs.YtehmjmjedopkkaaGreat
namespace Go.Proofs.YtehmjmjedopkkaaGreat
open Go.RowKit
theorem Zjx {l:List Nat}:wdOk l=true↔(∀ b∈l,97≤b∧b≤99)∧l.length≤8:=by
 constructor
 ·intro h;obtain⟨h1,h2⟩:=Zks h;refine⟨fun b hb => ?_,h2⟩;obtain⟨k,hk,e⟩:=List.getElem_of_mem hb;have:=Zpd h1 hk;rw[ZbA hk,e] at this;exact this
 rintro⟨h1,h2⟩;unfold wdOk okT;rw[Bool.and_eq_true,List.all_eq_true,decide_eq_true_eq];refine⟨fun k hk => ?_,h2⟩;have hk:=List.mem_range.1 hk;have:=h1 _ (Zdn hk);simp only[inB,Bool.and_eq_true,decide_eq_true_eq];omega
end Go.Proofs.YtehmjmjedopkkaaGreat
namespace Go.Proofs.YtehmjmjedopkkaaGreat
open Go.RowKit
theorem ZhA {l:List Nat} (h:wdOk l=true):isW (lets l):=fun c hc=>by obtain⟨b,hb,rfl⟩:=List.mem_map.1 hc;have:=(Zjx.1 h).1 b hb;omega
theorem ZmJ {l:List Nat} (h:wdOk l=true):txB l=wdB (lets l):=by unfold txB wdB lets;rw[List.map_map];congr 2;apply List.map_congr_left;intro b hb;have:=(Zjx.1 h).1 b hb;show UInt8.ofNat b=UInt8.ofNat (97+(b-97));congr 1;omega
theorem ZoU {K:Nat} {n:NfaD} {D:DfaD} (h:detK K n=some D):Zhw n=true∧(metS n K).length≤K∧D=Zar (nxS n) (enS n) (metS n K):=by
 unfold detK at h
 split at h
 ·rename_i h1;exact⟨h1.1,h1.2,(Option.some.inj h).symm⟩
 cases h
theorem Zix {n:NfaD}:∀ (w:List Nat) (v:Nat),w.foldl (nxS n) (((v:Nat):Int),0)=(((w.foldl (fun v (c:Nat)=>stV 40 n.moves v (c:Int)) v:Nat):Int),0)
 | [],_=>rfl
 | c::w,v=>by rw[List.foldl_cons,List.foldl_cons,← Zix w];rfl
theorem ZnP {K:Nat} {n:NfaD} {D:DfaD} (h:detK K n=some D) {w:List Nat} (hw:isW w):accD D w=accS n w:=by obtain⟨-,h2,rfl⟩:=ZoU h;rw[ZdC h2 hw,Zix];rfl
end Go.Proofs.YtehmjmjedopkkaaGreat
namespace Go.Proofs.YtehmjmjedopkkaaGreat
open Go.RowKit
def DfaV (B H:Nat) (v1 v2:Value) (D:DfaD):Ent:=⟨fun k=>B≤k∧k<H,fun u=>∃ w:World,w.heap.size=H∧DfaR B w (.agg #[v1,v2]) D∧∀ k,B≤k→k<H→u.heap[k]? = w.heap[k]?,
 fun _ _ ⟨w,h1,h2,h3⟩ hk=>⟨w,h1,h2,fun k p q=>(hk k ⟨p,q⟩).trans (h3 k p q)⟩⟩
theorem St.dfaV {w0 w w':World} {L:List Ent} (h:St w0 w L) (hb:Below w.heap.size w w') {v1 v2:Value} {D:DfaD} (hr:DfaR w.heap.size w' (.agg #[v1,v2]) D):St w0 w' (L++[DfaV w.heap.size w'.heap.size v1 v2 D]) :=
 h.add hb _ ⟨w',rfl,hr,fun _ _ _=>rfl⟩ fun _ hk=>hk
theorem St.dfaVr {w0 w:World} {L:List Ent} (h:St w0 w L) (i:Nat) {B H:Nat} {v1 v2:Value} {D:DfaD} (hx:L[i]? = some (DfaV B H v1 v2 D)):DfaR 0 w (.agg #[v1,v2]) D:=by
 have hE:=h.has i _ hx;obtain⟨⟨w',h1,⟨x1,x2,hv,⟨vs,h2,h3⟩,h4⟩,h5⟩,hf⟩:=hE;simp only[Value.agg.injEq,Array.mk.injEq,List.cons.injEq,and_true] at hv;obtain⟨rfl,rfl⟩:=hv;by_cases hlt:B<H
 ·have hs:w'.heap.size≤w.heap.size:=by have:H-1<w.heap.size:=(hf (H-1) (show B≤H-1∧H-1<H by omega)).2;omega
  have hk:∀ k,B≤k→k<w'.heap.size→w.heap[k]? = w'.heap[k]?:=fun k p q=>h5 k p (by omega)
  exact⟨_,_,rfl,⟨vs,h2.keptJ (Nat.zero_le _) hs hk,fun i hi=>Sl.keptJ (h3 i hi) (Nat.zero_le _) hs hk⟩,Sl.keptJ h4 (Nat.zero_le _) hs hk⟩
 have hno:∀ {v:Value} {n size:Nat} {cs:List Value},Sl B w' v n size cs→0<size→Sl 0 w v n size cs:=fun {v n size cs} hs hz=>by obtain⟨g1,a,cap,g2,g3,g4,g5⟩:=hs;refine⟨g1,a,cap,g2,g3,g4,fun hn => ?_⟩;obtain⟨b,off,-,p,q,-⟩:=g5 hn;omega
 exact⟨_,_,rfl,⟨vs,hno h2 (by omega),fun i hi=>hno (h3 i hi) (by omega)⟩,hno h4 (by omega)⟩
def RDs (D:DfaD) (w:World) (e:Ending) (w':World):Prop:=∃ a1 c1 a2 c2,e = .returned (.agg #[.slice a1 D.next.length c1,.slice a2 D.ends.length c2])∧DfaR w.heap.size w' (.agg #[.slice a1 D.next.length c1,.slice a2 D.ends.length c2]) D∧Below w.heap.size w w'
def RDz (D:DfaD) (w:World) (e:Ending) (w':World):Prop:=∃ a1 c1 a2 c2,e = .returned (.agg #[.slice a1 D.next.length c1,.slice a2 D.ends.length c2])∧DfaR w.heap.size w' (.agg #[.slice a1 D.next.length c1,.slice a2 D.ends.length c2]) D∧Below w.heap.size w w'
theorem St.dfaVo {w0 w:World} {L:List Ent} (h:St w0 w L) (i:Nat) {B H:Nat} {v1 v2:Value} {D:DfaD} (hx:L[i]? = some (DfaV B H v1 v2 D)):DfaR w0.heap.size w (.agg #[v1,v2]) D:=by
 have hE:=h.has i _ hx;obtain⟨⟨w',h1,⟨x1,x2,hv,⟨vs,h2,h3⟩,h4⟩,h5⟩,hf⟩:=hE;simp only[Value.agg.injEq,Array.mk.injEq,List.cons.injEq,and_true] at hv;obtain⟨rfl,rfl⟩:=hv;by_cases hlt:B<H
 ·have hs:w'.heap.size≤w.heap.size:=by have:H-1<w.heap.size:=(hf (H-1) (show B≤H-1∧H-1<H by omega)).2;omega
  have hB:w0.heap.size≤B:=(hf B (show B≤B∧B<H by omega)).1;have hk:∀ k,B≤k→k<w'.heap.size→w.heap[k]? = w'.heap[k]?:=fun k p q=>h5 k p (by omega)
  exact⟨_,_,rfl,⟨vs,h2.keptJ hB hs hk,fun i hi=>Sl.keptJ (h3 i hi) hB hs hk⟩,Sl.keptJ h4 hB hs hk⟩
 have hno:∀ {v:Value} {n size:Nat} {cs:List Value},Sl B w' v n size cs→0<size→Sl w0.heap.size w v n size cs:=fun {v n size cs} hs hz=>by obtain⟨g1,a,cap,g2,g3,g4,g5⟩:=hs;refine⟨g1,a,cap,g2,g3,g4,fun hn => ?_⟩;obtain⟨b,off,-,p,q,-⟩:=g5 hn;omega
 exact⟨_,_,rfl,⟨vs,hno h2 (by omega),fun i hi=>hno (h3 i hi) (by omega)⟩,hno h4 (by omega)⟩
theorem Zme {d:DfaD} (hd:Zai d.next d.ends=true) {q:Nat} (hq:q<d.next.length):Zai (Zc7 d q).next (Zc7 d q).ends=true:=by have hl:=Zag hd;have hs:=ZeI (ZaB hd) hq d.next.length;obtain⟨h1,h2,h3,h4⟩:=Zej (en:=den d) (nx:=dnx d) (a:=(q:Int)) hs (by omega);exact Zfp h1 (by unfold Zc7;rw[ZaK];omega) h3 fun i hi=>h4 i hi
theorem Znv {d:DfaD} (hd:Zai d.next d.ends=true) {q:Nat} (hq:q<d.next.length) {w:List Nat} (hw:isW w):accD (Zc7 d q) w=den d (runD d (q:Int) w) :=
 ZdC (ZeI (ZaB hd) hq d.next.length) hw
theorem Zit (d:DfaD) (q:Nat) (hq:q<d.next.length) (v:Value) (w:World) (hd:Zai d.next d.ends=true) (h:DfaR 0 w v d) :
  Calls Tryz.prog 38 #[v,.int .i64 (q:Int)] w fun e w'=>RDs (Zc7 d q) w e w':=by
 refine(ZhI d q hq v w hd h).mono ?_;rintro e w' ⟨a1,c1,a2,c2,vs,rfl,hq⟩;exact⟨a1,c1,a2,c2,rfl,⟨_,_,rfl,(hq.intSS 0 rfl).intSS,Sl.mono (ZhU (hq.row 1 rfl)) (Nat.le_refl _)⟩,hq.bel⟩
theorem Zir (d:DfaD) (v:Value) (w:World) (hd:Zai d.next d.ends=true) (h:DfaR 0 w v d) :
  Calls Tryz.prog 40 #[v] w fun e w'=>RDs (minD d) w e w' :=
 (Zbo d v w hd h).mono fun _ _ ⟨a1,c1,a2,c2,he,ho,hb⟩=>⟨a1,c1,a2,c2,he,ho.r,hb⟩
theorem ZiF (d:DfaD) (l:List Nat) (q:Nat) (hq:runD d 0 (lets l)=(q:Int)) (hqn:q<d.next.length) (v:Value) (w:World) (hd:Zai d.next d.ends=true) (h:DfaR 0 w v d) (ht:isT l) (hwd:wdOk l=true) :
  Calls Tryz.prog 12 #[v,.string (txB l)] w fun e w'=>RDz (minD (Zc7 d q)) w e w':=by
 obtain⟨v1,v2,rfl,g1,g2⟩:=h;have hr:DfaR 0 w (.agg #[v1,v2]) d:=⟨_,_,rfl,g1,g2⟩;have hn8:=(ZcF hwd).1;have hrun:=fun (u:World) (hb:Below w.heap.size w u)=>(show Calls Tryz.prog 39 #[.agg #[v1,v2],.int .i64 0,.string (txB l)] u fun e w'=>e = .returned (.int .i64 (q:Int))∧Below u.heap.size u w' from by have h1:=Zm1 d 0 (lets l) (.agg #[v1,v2]) u hd (by have:=Zag hd;omega) (ZhA hwd) (by unfold lets;rw[List.length_map];omega) (hr.below hb);rw[← ZmJ hwd] at h1;rw[← hq];exact h1)
 have hfrom:=fun (u:World) (hb:Below w.heap.size w u)=>Zit d q hqn (.agg #[v1,v2]) u hd (hr.below hb)
 have hfo:=Zme hd hqn;obtain⟨F,hF⟩:=eJ (Zc7 d q);rw[hF] at hfrom hfo;rw[hF];obtain⟨M,hM⟩:=eJ (minD F);have hmin:=fun (v:Value) (u:World) (h:DfaR 0 u v F)=>Zir F v u hfo h
 rw[hM] at hmin;rw[hM];have Hrun:=qh hrun;have Hfrom:=qh hfrom;have Hmin:=qh hmin;have HR:=qh hr;have Hd:=qh hd;have Ht:=qh ht;have Hwd:=qh hwd;have HS:=qh (((St.start w).alloc _ rfl #[v1,v2] 32).alloc (w.heap.size+1) (by simp) #[.slice none 0 0,.slice none 0 0] 32);have e0:=HS.out.cell (v:=v1) 0 0 rfl rfl;have e1:=HS.out.cell (v:=v2) 0 1 rfl rfl;clear hrun hfrom hmin hF hM hfo hq hr g1 g2 hd ht hwd
 go_enter Tryz.func12, Tryz.ntmps12
 go_wp2_with fail;refine(Ze4 d _ _ (HR.out.below HS.out.bel) true Hd.out).mono ?_;rintro e w1 ⟨rfl,hb1⟩;have HS2:Hid (St w w1 [Ent.box w.heap.size #[v1,v2] 32,Ent.box (w.heap.size+1) #[.slice none 0 0,.slice none 0 0] 32]):=qh (HS.out.call hb1);clear hb1 e0 e1;go_wp2_with (go_at_call 27;refine(Zbf l _ Ht.out (by omega) true Hwd.out).mono ?_;rintro e w' ⟨rfl,rfl⟩);refine wp_region_any (by kernel_rfl) ?_
 refine Zam (fun A listed a w'=>∃ (l0 l1 l2 l3 l4 l5 l6:Bool) (ax1f:Option Addr) (cx1f:Nat) (ax2f:Option Addr) (cx2f:Nat) (vbf:Nat) (vhf:Nat) (ax1m:Option Addr) (cx1m:Nat) (ax2m:Option Addr) (cx2m:Nat) (vbm:Nat) (vhm:Nat),listed=#[l0,l1,l2,l3,l4,l5,l6]∧(l6=true→l5=true) ∧
   a=⟨((((((A.tmps.setIfInBounds 14 (if l0=true then .agg #[v1,v2] else A.tmps.getD 14 undef)).setIfInBounds 15 (if l1=true then .agg #[v1,v2] else A.tmps.getD 15 undef)).setIfInBounds 16 (if l2=true then .string (txB l) else A.tmps.getD 16 undef)).setIfInBounds 17 (if l3=true then .int .i64 (q:Int) else A.tmps.getD 17 undef)).setIfInBounds 18 (if l4=true then .agg #[.slice ax1f F.next.length cx1f,.slice ax2f F.ends.length cx2f] else A.tmps.getD 18 undef)).setIfInBounds 19 (if l5=true then .agg #[.slice ax1m M.next.length cx1m,.slice ax2m M.ends.length cx2m] else A.tmps.getD 19 undef)),A.defers⟩ ∧
   St w w' [Ent.box w.heap.size #[v1,v2] 32,(if l6=true then Ent.box (w.heap.size+1) #[.slice ax1m M.next.length cx1m,.slice ax2m M.ends.length cx2m] 32 else Ent.box (w.heap.size+1) #[.slice none 0 0,.slice none 0 0] 32),(if l4=true then DfaV vbf vhf (.slice ax1f F.next.length cx1f) (.slice ax2f F.ends.length cx2f) F else Ent.nil),(if l5=true then DfaV vbm vhm (.slice ax1m M.next.length cx1m) (.slice ax2m M.ends.length cx2m) M else Ent.nil)]) ?_ ?_ ?_
 ·rintro listed a w' ⟨l0,l1,l2,l3,l4,l5,l6,ax1f,cx1f,ax2f,cx2f,vbf,vhf,ax1m,cx1m,ax2m,cx2m,vbm,vhm,rfl,hd6,rfl,hS⟩ i hi;obtain⟨hun,o,ho,hall⟩:=mem_ready.1 hi;have hlt:=(Array.getElem?_eq_some_iff.1 ho).1;refine wpOp_step ho (fun K hK => ?_);clear hi;have HS:=qh hS;clear hS;simp only[List.setIfInBounds_toArray,List.set_cons_zero,List.set_cons_succ,Array.getD_eq_getD_getElem?,List.getElem?_toArray,List.getElem?_cons_zero,List.getElem?_cons_succ,Option.getD_some];obtain h|h|h|h|h|h|h:i=0∨i=1∨i=2∨i=3∨i=4∨i=5∨i=6:=by simp at hlt;omega
  all_goals subst h
  all_goals simp only[List.getElem?_toArray,List.getElem?_cons_zero,List.getElem?_cons_succ,Option.some.injEq] at ho
  all_goals subst ho
  all_goals simp[Region.binds] at hun hall
  ·subst hun;have e0:=HS.out.cell (v:=v1) 0 0 rfl rfl;have e1:=HS.out.cell (v:=v2) 0 1 rfl rfl;go_simp;exact hK _ _ ⟨true,l1,l2,l3,l4,l5,l6,ax1f,cx1f,ax2f,cx2f,vbf,vhf,ax1m,cx1m,ax2m,cx2m,vbm,vhm,rfl,hd6,(by simp),HS.out⟩
  ·subst hun;have e0:=HS.out.cell (v:=v1) 0 0 rfl rfl;have e1:=HS.out.cell (v:=v2) 0 1 rfl rfl;go_simp;exact hK _ _ ⟨l0,true,l2,l3,l4,l5,l6,ax1f,cx1f,ax2f,cx2f,vbf,vhf,ax1m,cx1m,ax2m,cx2m,vbm,vhm,rfl,hd6,(by simp),HS.out⟩
  ·subst hun;go_simp;exact hK _ _ ⟨l0,l1,true,l3,l4,l5,l6,ax1f,cx1f,ax2f,cx2f,vbf,vhf,ax1m,cx1m,ax2m,cx2m,vbm,vhm,rfl,hd6,(by simp),HS.out⟩
  ·obtain⟨rfl,rfl⟩:=hall;subst hun;go_simp
   go_at_call 39
   refine(Hrun.out _ HS.out.bel).mono ?_;rintro e u1 ⟨rfl,hb⟩;have hS2:=HS.out.call hb;replace hS2:=qh hS2;go_simp;exact hK _ _ ⟨l0,true,true,true,l4,l5,l6,ax1f,cx1f,ax2f,cx2f,vbf,vhf,ax1m,cx1m,ax2m,cx2m,vbm,vhm,rfl,hd6,(by simp),hS2.out⟩
  ·obtain⟨rfl,rfl,-⟩:=hall;subst hun;go_simp
   go_at_call 38
   refine(Hfrom.out _ HS.out.bel).mono ?_;rintro e u1 ⟨z1,z2,z3,z4,rfl,hr,hb⟩;have hS2:=(HS.out.dfaV hb hr).pick [0,1,4,3] (by decide);replace hS2:=qh hS2;go_simp;exact hK _ _ ⟨true,l1,l2,true,true,l5,l6,z1,z2,z3,z4,w'.heap.size,u1.heap.size,ax1m,cx1m,ax2m,cx2m,vbm,vhm,rfl,hd6,(by simp),hS2.out⟩
  ·obtain rfl:=hall;subst hun;obtain rfl:l6=false:=by cases l6 with|false=>rfl|true=>simpa using hd6 rfl
   go_simp
   go_at_call 40
   refine(Hmin.out _ _ (HS.out.dfaVr 2 rfl)).mono ?_;rintro e u1 ⟨z1,z2,z3,z4,rfl,hr,hb⟩;have hS2:=(HS.out.dfaV hb hr).pick [0,1,2,4] (by decide);replace hS2:=qh hS2;go_simp;exact hK _ _ ⟨l0,l1,l2,l3,true,true,false,ax1f,cx1f,ax2f,cx2f,vbf,vhf,z1,z2,z3,z4,w'.heap.size,u1.heap.size,rfl,by simp,(by simp),hS2.out⟩
  obtain⟨rfl,rfl,rfl,rfl,rfl,rfl,-⟩:=hall;subst hun;have f0:=HS.out.fr 1 0 rfl;have f1:=HS.out.fr 1 1 rfl;have k0:=HS.out.cell (v:=.slice none 0 0) 1 0 rfl rfl;have k1:=HS.out.cell (v:=.slice none 0 0) 1 1 rfl rfl;go_simp;exact hK _ _ ⟨true,true,true,true,true,true,true,ax1f,cx1f,ax2f,cx2f,vbf,vhf,ax1m,cx1m,ax2m,cx2m,vbm,vhm,rfl,by simp,(by simp),((HS.out.set 1 rfl 0 (.slice ax1m M.next.length cx1m)).set 1 rfl 1 (.slice ax2m M.ends.length cx2m))⟩
 ·rintro listed a w' ⟨l0,l1,l2,l3,l4,l5,l6,ax1f,cx1f,ax2f,cx2f,vbf,vhf,ax1m,cx1m,ax2m,cx2m,vbm,vhm,rfl,hd6,rfl,hS⟩ hr;have hall:=Zan (by kernel_rfl) rfl hr;obtain rfl:l0=true:=by simpa using hall 0 (by simp)
  obtain rfl:l1=true:=by simpa using hall 1 (by simp)
  obtain rfl:l2=true:=by simpa using hall 2 (by simp)
  obtain rfl:l3=true:=by simpa using hall 3 (by simp)
  obtain rfl:l4=true:=by simpa using hall 4 (by simp)
  obtain rfl:l5=true:=by simpa using hall 5 (by simp)
  obtain rfl:l6=true:=by simpa using hall 6 (by simp)
  clear hall hr hd6;simp only[↓reduceIte] at hS ⊢;simp only[List.setIfInBounds_toArray,List.set_cons_zero,List.set_cons_succ];have HSf:=qh hS;clear hS;have q0:=HSf.out.cell (v:=.slice ax1m M.next.length cx1m) 1 0 rfl rfl;have q1:=HSf.out.cell (v:=.slice ax2m M.ends.length cx2m) 1 1 rfl rfl;go_wp2;refine bodyPost_ret (v:=.agg #[.slice ax1m M.next.length cx1m,.slice ax2m M.ends.length cx2m]) (by simp[results,Tryz.results12,go_sem,q0,q1]) rfl ?_;exact⟨_,_,_,_,rfl,HSf.out.dfaVo 3 rfl,HSf.out.bel⟩
 refine⟨false,false,false,false,false,false,false,none,0,none,0,0,0,none,0,none,0,0,0,rfl,by simp,(by simp),?_⟩;exact((HS2.out.drew.add (Below.refl _ _) Ent.nil trivial fun k hk=>hk.elim).add (Below.refl _ _) Ent.nil trivial fun k hk=>hk.elim)
def loW (v:Nat):Nat:=v % 2 ^ 64
def hiW (v:Nat):Nat:=v / 2 ^ 64
theorem ZfX (v:Nat):loW v<2 ^ 64:=Nat.mod_lt _ (by omega)
theorem Zl6 {v:Nat} (h:v<2 ^ 128):hiW v<2 ^ 64:=Nat.div_lt_of_lt_mul (by rw[← Nat.pow_add];exact h)
theorem ZfY {v s:Nat} (h:s<64):(loW v).testBit s=v.testBit s:=by unfold loW;rw[Nat.testBit_mod_two_pow];simp[h]
theorem Zf9 {v s:Nat} (h:64≤s):(hiW v).testBit (s-64)=v.testBit s:=by unfold hiW;rw[Nat.testBit_div_two_pow];congr 1;omega
theorem ZdS (v s t:Nat):(adj v s).testBit t=(v.testBit t||decide (t=s)):=by rw[ZcD];congr 1;exact decide_eq_decide.2 ⟨Eq.symm,Eq.symm⟩
theorem Zph {v s:Nat} (h:s<64):loW (adj v s)=adj (loW v) s∧hiW (adj v s)=hiW v:=by
 constructor
 ·refine Nat.eq_of_testBit_eq fun t => ?_
  by_cases ht:t<64
  ·rw[ZfY ht,ZdS,ZdS,ZfY ht]
  have h1:(loW (adj v s)).testBit t=false:=Nat.testBit_lt_two_pow (Nat.lt_of_lt_of_le (ZfX _) (Nat.pow_le_pow_right (by omega) (by omega)));have h2:(loW v).testBit t=false:=Nat.testBit_lt_two_pow (Nat.lt_of_lt_of_le (ZfX _) (Nat.pow_le_pow_right (by omega) (by omega)));rw[h1,ZdS,h2,Bool.false_or];exact(decide_eq_false (by omega)).symm
 refine Nat.eq_of_testBit_eq fun t => ?_
 have e1:=Zf9 (v:=adj v s) (s:=t+64) (by omega);have e2:=Zf9 (v:=v) (s:=t+64) (by omega);rw[Nat.add_sub_cancel] at e1 e2;rw[e1,e2,ZdS,decide_eq_false (show ¬ t+64=s by omega),Bool.or_false]
theorem Zpk {v s:Nat} (h:64≤s):loW (adj v s)=loW v∧hiW (adj v s)=adj (hiW v) (s-64):=by
 constructor
 ·refine Nat.eq_of_testBit_eq fun t => ?_
  by_cases ht:t<64
  ·rw[ZfY ht,ZdS,ZfY ht,decide_eq_false (show ¬ t=s by omega),Bool.or_false]
  have h1:(loW (adj v s)).testBit t=false:=Nat.testBit_lt_two_pow (Nat.lt_of_lt_of_le (ZfX _) (Nat.pow_le_pow_right (by omega) (by omega)));have h2:(loW v).testBit t=false:=Nat.testBit_lt_two_pow (Nat.lt_of_lt_of_le (ZfX _) (Nat.pow_le_pow_right (by omega) (by omega)));rw[h1,h2]
 refine Nat.eq_of_testBit_eq fun t => ?_
 have e1:=Zf9 (v:=adj v s) (s:=t+64) (by omega);have e2:=Zf9 (v:=v) (s:=t+64) (by omega);rw[Nat.add_sub_cancel] at e1 e2;rw[e1,ZdS,ZdS,e2];congr 1;exact decide_eq_decide.2 ⟨fun h=>by omega,fun h=>by omega⟩
abbrev setW (v:Nat):Value:=.agg #[.int .u64 (loW v:Int),.int .u64 (hiW v:Int)]
theorem ZiP (v s:Nat) (hv:v<2 ^ 64):(bits BinOp.and IntKind.u64 ((v:Int) / 2 ^ s) 1==1)=v.testBit s:=by
 have e:((v:Int) / 2 ^ s)=((v / 2 ^ s:Nat):Int):=by simp
 have hle:v / 2 ^ s≤v:=Nat.div_le_self _ _;rw[e,Nat.testBit_eq_decide_div_mod_eq]
 generalize v / 2 ^ s=q at hle ⊢
 rw[and_one_u64 _ (by omega) (by omega),Bool.eq_iff_iff];simp;omega
theorem Zkm (v s:Nat) (hv:v<2 ^ 64) (hs:s<64):bits BinOp.or IntKind.u64 (v:Int) (IntKind.u64.wrap (2 ^ s))=((adj v s:Nat):Int):=by
 have e:((2:Int) ^ s)=((2 ^ s:Nat):Int):=by simp
 have hle:2 ^ s<2 ^ 64:=Nat.pow_lt_pow_right (by omega) hs;unfold adj
 generalize 2 ^ s=q at hle e ⊢
 rw[e,IntKind.wrap_u64,Int.emod_eq_of_lt (by omega) (by omega),u64_or_nat _ _ (by omega) (by omega)]
theorem ZcU (v s:Nat) (hv:v<2 ^ 128) (hs:s<128) (w:World) (r:Bool) (hr:v.testBit s=r) :
  Calls Tryz.prog 154 #[setW v,.int .i64 s] w fun e w'=>e = .returned (.bool r)∧Below w.heap.size w w':=by
 by_cases h:s<64
 ·have h1:(s:Int) / 64=0:=by omega
  have h2:(s:Int) % 64=s:=by omega
  have h3:s / 64=0:=by omega
  have hb:=ZiP (loW v) s (ZfX v);rw[ZfY h,hr] at hb;have Hhr:=qh hr;clear hr;have Hhv:=qh hv;clear hv;replace hb:=qh hb
  go_enter Tryz.func154, Tryz.ntmps154
  go_wp2;go_ret;exact⟨ZaU hb.out,(Below.refl _ _).alloc (Nat.le_refl _) _⟩
 have h1:(s:Int) / 64=1:=by omega
 have h2:(s:Int) % 64=((s-64:Nat):Int):=by omega
 have h3:s / 64=1:=by omega
 have hb:=ZiP (hiW v) (s-64) (Zl6 hv);rw[Zf9 (by omega),hr] at hb;obtain⟨t,ht⟩:=eI (s-64);rw[← ht] at hb h2;have Hht:=qh ht;clear ht;have Hhr:=qh hr;clear hr;have Hhv:=qh hv;clear hv;replace hb:=qh hb
 go_enter Tryz.func154, Tryz.ntmps154
 go_wp2;go_ret;exact⟨ZaU hb.out,(Below.refl _ _).alloc (Nat.le_refl _) _⟩
theorem Zdd (v s:Nat) (hv:v<2 ^ 128) (hs:s<128) (w:World) :
  Calls Tryz.prog 155 #[setW v,.int .i64 s] w fun e w'=>e = .returned (setW (adj v s))∧Below w.heap.size w w':=by
 by_cases h:s<64
 ·have h1:(s:Int) / 64=0:=by omega
  have h2:(s:Int) % 64=s:=by omega
  have h3:s / 64=0:=by omega
  have hb:=Zkm (loW v) s (ZfX v) h;obtain⟨e1,e2⟩:=Zph (v:=v) h;rw[← e1] at hb;obtain⟨L,hL⟩:=eI (loW (adj v s));rw[← hL] at hb;unfold setW;rw[e2,← hL];have Hhv:=qh hv;clear hv;have HhL:=qh hL;clear hL;replace e1:=qh e1;have He2:=qh e2;clear e2
  go_enter Tryz.func155, Tryz.ntmps155
  go_wp2
  go_region
  go_wp2;refine bodyPost_ret (v:=.agg #[.int .u64 (L:Int),.int .u64 (hiW v:Int)]) (by simp[results,Tryz.results155,go_sem]) rfl ⟨rfl,?_⟩;exact((((Below.refl _ _).alloc (Nat.le_refl _) _).alloc (by simp) _).drew)
 have h1:(s:Int) / 64=1:=by omega
 have h3:s / 64=1:=by omega
 obtain⟨t,ht⟩:=eI (s-64);have h2:(s:Int) % 64=(t:Int):=by omega
 have hb:=Zkm (hiW v) t (Zl6 hv) (by omega);obtain⟨e1,e2⟩:=Zpk (v:=v) (s:=s) (by omega);rw[ht,← e2] at hb;rw[← ht] at hb;obtain⟨L,hL⟩:=eI (hiW (adj v s));rw[← hL] at hb;unfold setW;rw[e1,← hL];have Hhv:=qh hv;clear hv;have HhL:=qh hL;clear hL;replace e1:=qh e1;have He2:=qh e2;clear e2;have Hht:=qh ht;clear ht
 go_enter Tryz.func155, Tryz.ntmps155
 go_wp2
 go_region
 go_wp2;refine bodyPost_ret (v:=.agg #[.int .u64 (loW v:Int),.int .u64 (L:Int)]) (by simp[results,Tryz.results155,go_sem]) rfl ⟨rfl,?_⟩;exact((((Below.refl _ _).alloc (Nat.le_refl _) _).alloc (by simp) _).drew)
end Go.Proofs.YtehmjmjedopkkaaGreat
