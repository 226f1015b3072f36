/-
  The walks over the program's CheckPairs and over the function behind it.
  Conditions: the arguments read as automata and as a list of pairs; for the function behind it, the automata are valid.
-/
import Derived.Test.YtfanhfcamblghaaPq10Lp
import Derived.Test.YtfanhfcamblghaaPq24Lh
set_option maxHeartbeats 1600000
namespace Go.Proofs.Ytfanhfcamblghaa
open Go.RowKit Go.Maps
theorem Zlp (w:World):(zeroValue 4).run Try.prog w = .ok (.bool false) w:=by kernel_rfl
end Go.Proofs.Ytfanhfcamblghaa
namespace Go.Proofs.Ytfanhfcamblghaa
open Go.RowKit
def Strs (B:Nat) (w:World) (v:Value) (ws:List (List Nat)):Prop:=Sl B w v ws.length 1 (wdCells ws)
theorem Strs.below {B:Nat} {w w':World} {v:Value} {ws:List (List Nat)} (h:Strs B w v ws) (he:Below w.heap.size w w'):Strs B w' v ws:=Sl.below h he
theorem Strs.form {B:Nat} {w:World} {v:Value} {ws:List (List Nat)} (h:Strs B w v ws):∃ a cap,v = .slice a ws.length cap∧ws.length≤cap∧cap≤9223372036854775807 ∧
  (0<ws.length→∃ b off,a=some ⟨b,off,none⟩∧b<w.heap.size∧∀ j,j<ws.length→w.cell? ⟨b,off+j,none⟩=some (.string (wdB (ws.getD j [])))):=by
 obtain⟨hl,a,cap,hv,h1,h2,h3⟩:=h;refine⟨a,cap,hv,h1,h2,fun hn => ?_⟩;obtain⟨b,off,ha,hb,hlt,hc⟩:=h3 hn;refine⟨b,off,ha,hlt,fun j hj => ?_⟩;rw[hc j (by omega)];simp[hj]
def okWs (ws:List (List Nat)):Prop:=∀ x∈ws,isW x∧x.length≤400000
def LOk (st:List (List Nat)):Prop:=(∀ x∈st,isW x)∧∀ i,i<st.length→(st.getD i []).length≤i
theorem LOk.visit {β:Type} [DecidableEq β] {key:List Nat→β} {s:List (List Nat)} (h:LOk s) {w:List Nat} (hw:isW w) (hl:w.length≤s.length):LOk (kvisit key s w):=by
 unfold kvisit
 split
 ·exact h
 refine⟨fun x hx => ?_,fun i hi => ?_⟩
 ·rcases List.mem_append.1 hx with hx|hx
  ·exact h.1 x hx
  simp only[List.mem_singleton] at hx;rw[hx];exact hw
 simp only[List.length_append,List.length_singleton] at hi;by_cases hin:i<s.length
 ·have:=h.2 i hin;simp only[List.getD_eq_getElem?_getD] at this ⊢;rw[List.getElem?_append_left hin];exact this
 obtain rfl:i=s.length:=by omega
 simpa using hl
theorem LOk.row {β:Type} [DecidableEq β] {key:List Nat→β} {s:List (List Nat)} (h:LOk s) {k:Nat} (hk:k<s.length):∀ n,n≤3→LOk (krow key s (s.getD k []) n)∧s.length≤(krow key s (s.getD k []) n).length
 | 0,_=>⟨h,Nat.le_refl _⟩
 | n+1,hn=>by obtain⟨h1,h2⟩:=h.row (key:=key) hk n (by omega);have h3:=(Zf8 (key:=key) (krow key s (s.getD k []) n) (s.getD k []++[n])).length_le;refine⟨h1.visit (Zeb (h.1 _ (memD hk)) (Zh7 (by omega))) ?_,Nat.le_trans h2 h3⟩;have:=h.2 k hk;rw[List.length_append,List.length_singleton];omega
theorem LOk.kat {β:Type} [DecidableEq β] {key:List Nat→β} {s:List (List Nat)} (h:LOk s):∀ k,LOk (kat key s k)
 | 0=>h
 | k+1=>by
  have ih:=LOk.kat (key:=key) h k;by_cases hk:k<(Go.Proofs.Ytfanhfcamblghaa.kat key s k).length
  ·rw[ZdI hk];exact(ih.row hk 3 (by omega)).1
  rw[ZdJ (by omega)];exact ih
theorem LOk.okWs {st:List (List Nat)} (h:LOk st) (hl:st.length≤1000):∀ x∈st,isW x∧x.length≤399999:=fun x hx=>by refine⟨h.1 x hx,?_⟩;obtain⟨i,hi,e⟩:=List.getElem_of_mem hx;have:=h.2 i hi;rw[ZcB hi,e] at this;omega
def hitD (d:DfaD) (g:DfaD):Option (List Nat):=hitP d g
theorem ZkP (d g:DfaD):hitD d g=hitK ZmZ d g:=rfl
theorem ZlM:ZmZ≤1600:=Nat.le_refl _
theorem Zhm {d g:DfaD} {w:List Nat} (h:hitD d g=some w):isW w∧accD d w≠accD g w:=by rw[ZkP] at h;exact ZlY h
theorem ZkO (d:DfaD):ZnT d (hitD d):=fun _ _ _ h=>Zhm h
theorem ZlZ {K:Nat} {a b:DfaD} {w:List Nat} (h:hitK K a b=some w):w.length≤K:=by have hg:=(Zb3 (nx:=ZiZ a b) (a:=((0,0):Int × Int)) K).2.1;obtain⟨i,hi,hw,-⟩:=ZdN (d:=((0,0):Int × Int)) hg h;rw[← hw];exact ZiV (nx:=ZiZ a b) (a:=((0,0):Int × Int)) K _ (memD (by omega))
theorem Zl0 {d g:DfaD} {w:List Nat} (h:hitD d g=some w):w.length≤1600:=by rw[ZkP] at h;have:=ZlZ h;have:=ZlM;omega
def preW (d:DfaD):Nat→List (List Nat)
 | 0=>[[]]
 | j+1=>(tabW d (hitD d) j).1
def resW (d:DfaD) (j:Nat):List (List Nat):=(tabW d (hitD d) j).2
def staW (d:DfaD) (j:Nat):List (List Nat):=(tabW d (hitD d) j).1
def gueW (d:DfaD) (j:Nat):DfaD:=gssW d (hitD d) j
theorem Zjc {α:Type} {l m:List α} (h:l <+: m) (hm:m.Nodup):l.Nodup:=by obtain⟨t,rfl⟩:=h;exact(List.nodup_append.1 hm).1
theorem Zkc (d:DfaD) (j:Nat) {w:List Nat} (h:hitD d (gueW d j)=some w):resW d (j+1)=resW d j++[w.drop (cutW d (staW d j) (gueW d j) w+1)]:=by show(tabW d (hitD d) j).2++_=_;have h':hitD d (Zaz d (tabW d (hitD d) j).1 (tabW d (hitD d) j).2)=some w:=h;simp only[h',Option.getD_some];rfl
structure LTab (d:DfaD) (j:Nat):Prop where
 pre:LOk (preW d j)
 nd:((preW d j).map (rowW d (resW d j))).Nodup
 re:okWs (resW d j)
 rl:(resW d j).length≤j+1
 inv:LInv d (staW d j) (resW d j)
 st:LOk (staW d j)
theorem LTab.at {d:DfaD} (hd:Za2 d.next d.ends=true):∀ j,(∀ i,i<j→(hitD d (gueW d i)).isSome=true)→LTab d j
 | 0,hy=>by
  have hinv:=(ZhH hd (ZkO d) 0 hy).1
  have h0:LOk [[]]:=⟨fun x hx=>by simp at hx;subst hx;intro c hc;simp at hc,fun i hi=>by
   obtain rfl:i=0:=by simpa using hi
   simp⟩
  exact⟨h0,by simp[preW],fun x hx=>by simp[resW,tabW] at hx;subst hx;exact⟨fun c hc=>by simp at hc,by simp⟩,by simp[resW,tabW],hinv,LOk.kat h0 _⟩
 | j+1,hy=>by
  have ih:=LTab.at hd j fun i hi=>hy i (by omega)
  have hinv:=(ZhH hd (ZkO d) (j+1) hy).1;obtain⟨w,hw⟩:=Option.isSome_iff_exists.1 (hy j (by omega));have hr:=Zkc d j hw;have hww:=(Zhm hw).1;have hpre:preW d (j+1) <+: staW d (j+1):=ZgJ (key:=rowW d (resW d (j+1))) (s0:=preW d (j+1)) (Nat.zero_le (d.next.length+1));refine⟨ih.st,?_,fun x hx => ?_,?_,hinv,LOk.kat (s:=preW d (j+1)) ih.st _⟩
  ·obtain⟨t,ht⟩:=hpre;have h1:=hinv.nd;refine Zjc (m:=(staW d (j+1)).map (rowW d (resW d (j+1)))) ⟨t.map (rowW d (resW d (j+1))),?_⟩ h1;rw[← List.map_append,ht]
  ·rw[hr] at hx;rcases List.mem_append.1 hx with hx|hx
   ·exact ih.re x hx
   simp only[List.mem_singleton] at hx;subst hx;refine⟨ZiH hww _,?_⟩;have:=Zl0 hw;rw[List.length_drop];omega
  rw[hr,List.length_append,List.length_singleton];have:=ih.rl;omega
/-! The guesses in memory. -/
def Ent.sub (X y:Ent):Prop:=(∀ w,X.holds w→y.holds w)∧∀ k,y.foot k→X.foot k
def GMem (X:Ent) (vals:List (Value × Value)) (gs:List DfaD):Prop:=vals.length=gs.length∧∀ i,i<gs.length →
 ∃ a1 c1 a2 c2 vs,vals.getD i (undef,undef)=(.slice a1 (gs.getD i ⟨[],[]⟩).next.length c1,.slice a2 (gs.getD i ⟨[],[]⟩).next.length c2) ∧
  Ent.sub X (Ent.rows 26 3 (.slice a1 (gs.getD i ⟨[],[]⟩).next.length c1) vs ((gs.getD i ⟨[],[]⟩).next.map intCells))∧Ent.sub X (Ent.row 4 1 (.slice a2 (gs.getD i ⟨[],[]⟩).next.length c2) (gs.getD i ⟨[],[]⟩).next.length (boolCells (gs.getD i ⟨[],[]⟩).ends))
theorem GMem.nil (X:Ent):GMem X [] []:=⟨rfl,fun i hi=>absurd hi (by simp)⟩
theorem GMem.own {w0 w:World} {L:List Ent} (h:St w0 w L) (i:Nat) {X:Ent} (hx:L[i]? = some X) {vals:List (Value × Value)} {gs:List DfaD} (hG:GMem X vals gs) {k:Nat} (hk:k<gs.length) :
  ∃ a1 c1 a2 c2,vals.getD k (undef,undef)=(.slice a1 (gs.getD k ⟨[],[]⟩).next.length c1,.slice a2 (gs.getD k ⟨[],[]⟩).next.length c2)∧(gs.getD k ⟨[],[]⟩).ends.length=(gs.getD k ⟨[],[]⟩).next.length ∧
   DfaO 26 3 4 w0.heap.size w.heap.size w (.agg #[.slice a1 (gs.getD k ⟨[],[]⟩).next.length c1,.slice a2 (gs.getD k ⟨[],[]⟩).next.length c2]) (gs.getD k ⟨[],[]⟩):=by
 obtain⟨a1,c1,a2,c2,vs,e,s1,s2⟩:=hG.2 k hk;have hil:i<L.length:=(List.getElem?_eq_some_iff.1 hx).1;have h1:=h.same i hx _ (s1.1 w) s1.2;have h2:=h.same i hx _ (s2.1 w) s2.2;have g1:=h1.intSS i (by rw[List.getElem?_set,if_pos rfl,if_pos hil]);have g2:=h2.row i (by rw[List.getElem?_set,if_pos rfl,if_pos hil]);have hl:(gs.getD k ⟨[],[]⟩).ends.length=(gs.getD k ⟨[],[]⟩).next.length:=by have:=g2.1;simp at this;simpa using this
 refine⟨a1,c1,a2,c2,e,hl,_,_,rfl,g1,?_⟩;unfold OBools;rw[hl];exact Zae g2
def txB (l:List Nat):ByteArray:=⟨(l.map UInt8.ofNat).toArray⟩
def isT (l:List Nat):Prop:=∀ b∈l,b<256
theorem Zcr (l:List Nat):(txB l).size=l.length:=by simp[txB,ByteArray.size]
theorem Zfz {l:List Nat} {i:Nat} (hi:i<l.length):l.getD i 0∈l:=by rw[List.getD_eq_getElem?_getD,List.getElem?_eq_getElem hi];exact List.getElem_mem hi
theorem ZnI {l:List Nat} {i:Nat} (hi:i<l.length) (ht:isT l) (h:i<(txB l).size):(((txB l)[i]'h).toNat:Int)=(l.getD i 0:Nat):=by
 have hc:l.getD i 0<256:=ht _ (Zfz hi);have e:(txB l)[i]'h=UInt8.ofNat (l.getD i 0):=by show(txB l).data[i]=_;simp[txB,hi]
 rw[e,UInt8.toNat_ofNat'];omega
theorem Zg0 {l:List Nat} {i:Nat} (hi:i<l.length) (ht:isT l) (w:World):(Instr.index 9 (.string (txB l)) (.int .i64 (i:Int))).run Try.prog w = .ok (.int .u8 ((l.getD i 0:Nat):Int)) w:=by have hs:(txB l).size=l.length:=Zcr l;rw[run_index_string w 9 (txB l) .i64 i Try.underlying9,dif_pos (by omega)];congr 2;exact ZnI hi ht _
def okT (l:List Nat) (k:Nat):Bool:=(List.range k).all fun i=>inB ((l.getD i 0:Nat):Int) 97 99
def wdOk (l:List Nat):Bool:=okT l l.length&&decide (l.length≤8)
theorem ZlH {l:List Nat} {k:Nat} (h:okT l k=true) (h1:inB ((l.getD k 0:Nat):Int) 97 99=true):okT l (k+1)=true:=Zd3 h h1
theorem ZmY {l:List Nat} {k:Nat} (hk:k<l.length) (h1:inB ((l.getD k 0:Nat):Int) 97 99=false):wdOk l=false:=by
 unfold wdOk okT;have:((List.range l.length).all fun i=>inB ((l.getD i 0:Nat):Int) 97 99)=false:=by rw[List.all_eq_false];exact⟨k,List.mem_range.2 hk,by rw[h1];simp⟩
 rw[this];rfl
theorem ZfX (l:List Nat) (w:World) (ht:isT l) (hl:l.length≤2000000) (r:Bool) (hr:wdOk l=r) :
  Calls Try.prog 97 #[.string (txB l),.int .i64 8] w fun e w'=>e = .returned (.bool r)∧w=w':=by
 have hs:(txB l).size=l.length:=Zcr l;replace hr:=qh hr;have Hht:=qh ht;clear ht
 go_enter Try.func97, Try.ntmps97
 go_wp2
 go_loopw [8] (fun i wr=>∃ k:Nat,i = .int .i64 k∧k≤l.length∧okT l k=true∧w=wr) (fun i _=>l.length-(intOf i).toNat)
 case atStart=>exact⟨0,rfl,Nat.zero_le _,rfl,rfl⟩
 case round =>
  obtain⟨k,rfl,hk,hok,rfl⟩:=hrel;by_cases hlt:k<l.length
  ·have hkl:(k:Int)<l.length:=by omega
   have hrun:=Zg0 hlt Hht.out;have hb:=Hht.out _ (Zfz hlt);obtain⟨c,hcc⟩:=eI (l.getD k 0);rw[← hcc] at hrun hb;have hw9:IntKind.i64.wrap (c:Int)=(c:Int):=IntWalk.i64_in _ (by omega);have Hhok:=qh hok;clear hok;replace hcc:=qh hcc;cases hin:inB (c:Int) 97 99
   ·have Hhin:=qh hin;clear hin;go_wp2_with (go_at_call 48;refine(Zas _ _ _ _ _ Hhin.out).mono ?_;rintro e w' ⟨rfl,rfl⟩);go_ret;exact⟨by rw[← hr.out,ZmY hlt (by rw[← hcc.out];exact Hhin.out)];rfl,rfl⟩
   have Hhin:=qh hin;clear hin;go_wp2_with (go_at_call 48;refine(Zas _ _ _ _ _ Hhin.out).mono ?_;rintro e w' ⟨rfl,rfl⟩);go_roundw
   case rel=>exact⟨k+1,by go_num,by omega,ZlH Hhok.out (by rw[← hcc.out];exact Hhin.out),trivial⟩
   case measure=>simp[intOf];omega
  obtain rfl:k=l.length:=by omega
  have hrr:decide ((l.length:Int)≤8)=r:=by rw[← hr.out];unfold wdOk;rw[hok,Bool.true_and];exact decide_eq_decide.2 (by omega)
  have Hhok:=qh hok;clear hok;have Hhrr:=qh hrr;clear hrr;go_wp2;go_ret;exact⟨by rw[← Hhrr.out];rfl,rfl⟩
theorem ZaY (l:List Nat) (w:World) (ht:isT l) (hl:l.length≤2000000) (r:Bool) (hr:wdOk l=r) :
  Calls Try.prog 53 #[.string (txB l)] w fun e w'=>e = .returned (.bool r)∧w=w':=by
 replace hr:=qh hr;have Hht:=qh ht;clear ht
 go_enter Try.func53, Try.ntmps53
 go_wp2_with (go_at_call 97;refine(ZfX l _ Hht.out hl _ hr.out).mono ?_;rintro e w' ⟨rfl,rfl⟩);go_ret;exact⟨rfl,rfl⟩
theorem Zcy (l:List Nat) (i:Nat) (hi:i<l.length) (ht:isT l) (hlo:97≤l.getD i 0) (w:World):Calls Try.prog 93 #[.string (txB l),.int .i64 i] w fun e w'=>e = .returned (.int .i64 ((l.getD i 0-97:Nat):Int))∧w=w':=by
 have hb:=ht _ (Zfz hi);have hrun:=Zg0 hi ht;obtain⟨c,hcc⟩:=eI (l.getD i 0-97);have hc2:((l.getD i 0:Nat):Int)=97+(c:Int):=by omega
 rw[hc2] at hrun;rw[← hcc]
 have hw8:IntKind.u8.wrap (97+(c:Int)-97)=(c:Int):=by
  have:97+(c:Int)-97=(c:Int):=by omega
  rw[this];exact IntWalk.u8_in _ (by omega)
 have hw9:IntKind.i64.wrap (c:Int)=(c:Int):=IntWalk.i64_in _ (by omega);replace hcc:=qh hcc;clear hc2 hlo hb
 go_enter Try.func93, Try.ntmps93
 go_wp2;go_ret;exact⟨rfl,rfl⟩
def shF:Nat→Nat
 | 0=>0
 | k+1=>shF k+3 ^ k
theorem Zkd {k:Nat} (h:k≤9):3 ^ k≤19683:=Nat.pow_le_pow_right (by omega) h
theorem Zmz:∀ k,shF k≤3 ^ k
 | 0=>by decide
 | k+1=>by show shF k+3 ^ k≤3 ^ (k+1);have:=Zmz k;rw[Nat.pow_succ];omega
theorem ZhF (n:Nat) (w:World) (hn:n≤9):Calls Try.prog 127 #[.int .i64 n] w fun e w'=>e = .returned (.int .i64 ((3 ^ n:Nat):Int))∧w=w':=by
 go_enter Try.func127, Try.ntmps127
 go_wp2
 go_loopw [3,5] (fun p i wr=>∃ k q:Nat,i = .int .i64 k∧p = .int .i64 q∧k≤n∧3 ^ k=q∧w=wr) (fun _ i _=>n-(intOf i).toNat)
 case atStart=>exact⟨0,1,rfl,rfl,Nat.zero_le _,rfl,rfl⟩
 case round =>
  obtain⟨k,q,rfl,rfl,hk,hq,rfl⟩:=hrel;have hq2:=Zkd (k:=k) (by omega);rw[hq] at hq2;by_cases hlt:k<n
  ·have hkl:(k:Int)<n:=by omega
   replace hq:=qh hq;go_wp2;go_roundw
   case rel=>exact⟨k+1,q*3,by go_num,by go_num,by omega,by rw[Nat.pow_succ,hq.out],trivial⟩
   case measure=>simp[intOf];omega
  obtain rfl:k=n:=by omega
  replace hq:=qh hq;go_wp2;go_ret;exact⟨by rw[hq.out];rfl,rfl⟩
theorem ZhQ (n:Nat) (w:World) (hn:n≤9):Calls Try.prog 94 #[.int .i64 n] w fun e w'=>e = .returned (.int .i64 ((shF n:Nat):Int))∧w=w':=by
 go_enter Try.func94, Try.ntmps94
 go_wp2
 go_loopw [3,6] (fun p i wr=>∃ k q:Nat,i = .int .i64 k∧p = .int .i64 q∧k≤n∧shF k=q∧w=wr) (fun _ i _=>n-(intOf i).toNat)
 case atStart=>exact⟨0,0,rfl,rfl,Nat.zero_le _,rfl,rfl⟩
 case round =>
  obtain⟨k,q,rfl,rfl,hk,hq,rfl⟩:=hrel;have hq2:=Zkd (k:=k) (by omega);have hq3:=Zmz k;rw[hq] at hq3;obtain⟨t,hT⟩:=eJ (3 ^ k);rw[hT] at hq2 hq3;by_cases hlt:k<n
  ·have hkl:(k:Int)<n:=by omega
   replace hq:=qh hq;replace hT:=qh hT;go_wp2_with (go_at_call 127;refine(ZhF k _ (by omega)).mono ?_;rintro e w' ⟨rfl,rfl⟩;rw[hT.out]);go_roundw
   case rel=>exact⟨k+1,q+t,by go_num,by go_num,by omega,by rw[← hq.out,← hT.out];rfl,trivial⟩
   case measure=>simp[intOf];omega
  obtain rfl:k=n:=by omega
  replace hq:=qh hq;replace hT:=qh hT;go_wp2;go_ret;exact⟨by rw[hq.out];rfl,rfl⟩
theorem Zi8 (w:World):Calls Try.prog 46 #[.string { data:=#[97,98] }] w fun e w'=>e = .returned (.int .i64 5)∧w=w':=by
 have hab:({ data:=#[97,98] }:ByteArray)=txB [97,98]:=rfl;have hab2:isT [97,98]:=fun b hb=>by simp at hb;omega
 have hsz:(txB [97,98]).size=2:=rfl;have l0:=fun w=>Zcy [97,98] 0 (by decide) hab2 (by decide) w
 have l1:=fun w=>Zcy [97,98] 1 (by decide) hab2 (by decide) w
 have sh:∀ w,Calls Try.prog 94 #[.int .i64 2] w fun e w'=>e = .returned (.int .i64 4)∧w=w':=fun w=>ZhQ 2 w (by omega)
 have hv:=fun w=>ZaY [97,98] w hab2 (by decide) true rfl
 rw[hab];have L0:=qh l0;have L1:=qh l1;have Sh:=qh sh;have Hv:=qh hv;clear l0 l1 sh hab hab2 hv
 go_enter Try.func46, Try.ntmps46
 go_wp2_with (go_at_call 53;refine(Hv.out _).mono ?_;rintro e w' ⟨rfl,rfl⟩)
 go_loopw [3,10] (fun n i wr=>∃ k q:Nat,i = .int .i64 k∧n = .int .i64 q∧k≤2∧q≤1∧(k<2→q=0)∧(k=2→q=1)∧w=wr) (fun _ i _=>2-(intOf i).toNat)
 case atStart=>exact⟨0,0,rfl,rfl,by omega,by omega,fun _=>rfl,fun h=>by omega,rfl⟩
 case round =>
  obtain⟨k,q,rfl,rfl,hk,hq1,hq2,hq3,rfl⟩:=hrel;obtain rfl|rfl|rfl:k=0∨k=1∨k=2:=by omega
  ·obtain rfl:=hq2 (by omega);clear hq1 hq2 hq3 hk;go_wp2_with (go_at_call 93;refine(L0.out _).mono ?_;rintro e w' ⟨rfl,rfl⟩);go_roundw
   case rel=>exact⟨1,0,rfl,rfl,by omega,by omega,fun _=>rfl,fun h=>by omega,trivial⟩
   case measure=>simp[intOf]
  ·obtain rfl:=hq2 (by omega);clear hq1 hq2 hq3 hk;go_wp2_with (go_at_call 93;refine(L1.out _).mono ?_;rintro e w' ⟨rfl,rfl⟩);go_roundw
   case rel=>exact⟨2,1,rfl,rfl,by omega,by omega,fun h=>by omega,fun _=>rfl,trivial⟩
   case measure=>simp[intOf]
  obtain rfl:=hq3 rfl;clear hq1 hq2 hq3 hk;go_wp2_with (go_at_call 94;refine(Sh.out _).mono ?_;rintro e w' ⟨rfl,rfl⟩);go_ret;exact⟨rfl,rfl⟩
theorem Zcq (w:World):Calls Try.prog 10 #[] w fun e w'=>e = .returned (.bool true)∧w=w':=by
 go_enter Try.func10, Try.ntmps10
 go_wp2_with (go_at_call 46;refine(Zi8 _).mono ?_;rintro e w' ⟨rfl,rfl⟩);go_ret;exact⟨rfl,rfl⟩
def lets (l:List Nat):List Nat:=l.map (·-97)
def accT (n:NfaD) (l:List Nat):Bool:=Zaq n&&wdOk l&&accS n (lets l)
def Zdd:Ex→Prop
 | .join a b=>Zdd a∧Zdd b
 | .alt a b=>Zdd a∧Zdd b
 | .star a=>Zdd a
 | .both _ _=>False
 | .neg _=>False
 | _=>True
theorem Zcb:∀ (t:Ex),Zaw t.post=true→Zdd t:=by
 intro t;have ap:∀ (x y:List (Int × Int)),Zaw (x++y)=(Zaw x&&Zaw y):=fun x y=>List.all_append
 induction t with
 | zero=>exact fun _=>trivial
 | one=>exact fun _=>trivial
 | ltr c=>exact fun _=>trivial
 | join a b ha hb =>intro h;have h:Zaw (a.post++b.post++[(4,0)])=true:=h;rw[ap,ap,Bool.and_eq_true,Bool.and_eq_true] at h;exact⟨ha h.1.1,hb h.1.2⟩
 | alt a b ha hb =>intro h;have h:Zaw (a.post++b.post++[(5,0)])=true:=h;rw[ap,ap,Bool.and_eq_true,Bool.and_eq_true] at h;exact⟨ha h.1.1,hb h.1.2⟩
 | both a b ha hb =>intro h;have h:Zaw (a.post++b.post++[(6,0)])=true:=h;rw[ap,Bool.and_eq_true] at h;exact absurd h.2 (by decide)
 | neg a ha =>intro h;have h:Zaw (a.post++[(7,0)])=true:=h;rw[ap,Bool.and_eq_true] at h;exact absurd h.2 (by decide)
 | star a ha =>intro h;have h:Zaw (a.post++[(8,0)])=true:=h;rw[ap,Bool.and_eq_true] at h;exact ha h.1
end Go.Proofs.Ytfanhfcamblghaa
namespace Go.Proofs.Ytfanhfcamblghaa
def bnd:Ex→Nat
 | .alt _ _=>1
 | .both _ _=>2
 | .join _ _=>3
 | .neg _=>4
 | .star _=>5
 | _=>6
def brk (l:Nat) (a:Ex) (x:List Nat):List Nat:=if bnd a<l then 40::(x++[41]) else x
def prE:Ex→List Nat
 | .zero=>[48]
 | .one=>[49]
 | .ltr c=>[97+c.val]
 | .join a b=>brk 3 a (prE a)++brk 4 b (prE b)
 | .alt a b=>brk 1 a (prE a)++124::brk 2 b (prE b)
 | .both a b=>brk 2 a (prE a)++38::brk 3 b (prE b)
 | .neg a=>33::brk 4 a (prE a)
 | .star a=>brk 5 a (prE a)++[42]
/-! The reader. -/
abbrev PS:Type:=List (Int × Int) × List Nat × Bool
def Zn6 (p:Int × Int) (st:List Ex):Option (List Ex) :=
 if p.1=1 then some (.zero::st) else if p.1=2 then some (.one::st) else if p.1=3 then some (.ltr (Fin.ofNat 3 p.2.toNat)::st)
 else if p.1=7 then(match st with|a::st=>some (.neg a::st)|[]=>none)
 else if p.1=8 then(match st with|a::st=>some (.star a::st)|[]=>none)
 else match st with
  | b::a::st=>if p.1=4 then some (.join a b::st) else if p.1=5 then some (.alt a b::st) else some (.both a b::st)
  | _=>none
def ZdY:List (Int × Int)→List Ex→Option (List Ex)
 | [],st=>some st
 | p::r,st=>(Zn6 p st).bind (ZdY r)
theorem Zjz:∀ (t:Ex) (r:List (Int × Int)) (st:List Ex),ZdY (t.post++r) st=ZdY r (t::st):=by
 intro t
 induction t with
 | zero=>intro r st;rfl
 | one=>intro r st;rfl
 | ltr c =>
  intro r st;obtain⟨c,hc⟩:=c;obtain rfl|rfl|rfl:c=0∨c=1∨c=2:=by omega
  all_goals rfl
 | neg a ha=>intro r st;show ZdY (a.post++[(7,0)]++r) st=_;rw[List.append_assoc,ha];rfl
 | star a ha=>intro r st;show ZdY (a.post++[(8,0)]++r) st=_;rw[List.append_assoc,ha];rfl
 | join a b ha hb=>intro r st;show ZdY (a.post++b.post++[(4,0)]++r) st=_;rw[List.append_assoc,List.append_assoc,ha,hb];rfl
 | alt a b ha hb=>intro r st;show ZdY (a.post++b.post++[(5,0)]++r) st=_;rw[List.append_assoc,List.append_assoc,ha,hb];rfl
 | both a b ha hb=>intro r st;show ZdY (a.post++b.post++[(6,0)]++r) st=_;rw[List.append_assoc,List.append_assoc,ha,hb];rfl
def ZjI (e:List (Int × Int)):Option Ex:=match ZdY e [] with
 | some [t]=>some t
 | _=>none
theorem ZeX (t:Ex):ZjI t.post=some t:=by have:=Zjz t [] [];rw[List.append_nil] at this;unfold ZjI;rw[this];rfl
theorem Ziu {t u:Ex} (h:t.post=u.post):t=u:=by have h1:=ZeX t;rw[h,ZeX u] at h1;exact(Option.some.inj h1).symm
def Zn2 (e:List (Int × Int)):List Nat:=if exOk e=true then(match ZjI e with|some t=>prE t|none=>[]) else []
def yesR (x:PS) (s:List Nat):Prop:=x.2.2=false∧x.2.1=[]∧Zn2 x.1=s
instance (x:PS) (s:List Nat):Decidable (yesR x s):=by unfold yesR;infer_instance
/-! How much is read. -/
/-! What is left is an end of what was there. -/
end Go.Proofs.Ytfanhfcamblghaa
