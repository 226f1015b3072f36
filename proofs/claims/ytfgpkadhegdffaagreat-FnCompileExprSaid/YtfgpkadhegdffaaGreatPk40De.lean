/-
  The walks over the program's accepts and ExprAccepts.
  Conditions: the list of parts reads as such; the text is one of bytes.
-/
import Derived.Test.YtfgpkadhegdffaaGreatPk09Ivs
import Derived.Test.YtfgpkadhegdffaaGreatPk35Ry
import Derived.Test.YtfgpkadhegdffaaGreatPk39Spo
set_option maxHeartbeats 8000000
set_option maxRecDepth 100000
namespace Go.Proofs.YtfgpkadhegdffaaGreat
open Go.RowKit
theorem ZhE {P:Program} (t e:TypeId) (n:Nat) (cs:Array Value) (i:Nat) (d:TypeDesc) (sz:Nat) (h:P.underlying t=some (.array n e)) (hi:i<n) (hu:P.underlying e=some d) (hd:d.isRow=true) (hs:(P.info? e).map (·.size)=some sz) (w:World) :
  (Instr.index t (.agg cs) (.int .i64 (i:Int))).run P w = .ok (.agg (cs.extract (i*sz) (i*sz+sz))) w:=by
 cases hq:P.info? e with
 | none=>simp[hq] at hs
 | some ie =>
  have hz:ie.size=sz:=by simpa [hq] using hs
  have hagg:(isAgg e).run P w = .ok true w:=by unfold isAgg;rw[Sem.run_bind,run_underlying hu w];cases d<;>simp_all
  have h0:(0:Int)≤(i:Int)∧(i:Int)<(n:Int):=by omega
  simp[Instr.index,run_underlying h,asIntOf,h0,go_sem,part,hagg,sizeOf,typeInfo,hq,hz];exact fun hle=>absurd hle (by omega)
theorem ZiJ {P:Program} (t e:TypeId) (n:Nat) (cs:Array Value) (i:Nat) (d:TypeDesc) (v:Value) (h:P.underlying t=some (.array n e)) (hi:i<n) (hu:P.underlying e=some d) (hd:d.isRow=false) (hs:(P.info? e).map (·.size)=some 1) (hv:cs[i]? = some v) (w:World) :
  (Instr.index t (.agg cs) (.int .i64 (i:Int))).run P w = .ok v w:=by
 cases hq:P.info? e with
 | none=>simp[hq] at hs
 | some ie =>
  have hz:ie.size=1:=by simpa [hq] using hs
  have hagg:(isAgg e).run P w = .ok false w:=by unfold isAgg;rw[Sem.run_bind,run_underlying hu w];cases d<;>simp_all
  have h0:(0:Int)≤(i:Int)∧(i:Int)<(n:Int):=by omega
  simp[Instr.index,run_underlying h,asIntOf,h0,go_sem,part,hagg,sizeOf,typeInfo,hq,hz,hv];exact fun hle=>absurd hle (by omega)
def accX (l:List Nat) (t:Ex):Bool:=tabE l.length (lsT l) t 0 l.length
def AccO (es:List (Int × Int)) (l:List Nat) (r:Bool):Prop:=(exOk es=true∧wdOk l=true∧∃ t:Ex,t.post=es∧accX l t=r)∨((exOk es=false∨wdOk l=false)∧r=false)
theorem Zpv (es:List (Int × Int)) (l:List Nat):∃ r,AccO es l r:=by
 cases h:exOk es with
 | false=>exact⟨false,.inr ⟨.inl h,rfl⟩⟩
 | true =>
  cases g:wdOk l with
  | false=>exact⟨false,.inr ⟨.inr g,rfl⟩⟩
  | true =>obtain⟨t,ht⟩:=parse h;exact⟨_,.inl ⟨h,g,t,ht,rfl⟩⟩
theorem Zex (t:Ex) (es:List (Int × Int)) (l:List Nat) (v:Value) (w:World) (r:Bool) (hr:accX l t=r) (hes:t.post=es) (hok:exOk es=true) (h:Pairs 0 w v es) (ht:isT l) (hwd:wdOk l=true) :
  Calls Tryz.prog 65 #[v,.string (txB l)] w fun e w'=>e = .returned (.bool r)∧Below w.heap.size w w':=by
 obtain⟨n,hln⟩:=eJ (l.length);obtain⟨hn8,-⟩:=Zed hwd;have hsz:=Zax l;rw[hln] at hsz hn8;have hI:(Tryz.prog.info? 118).map (·.size)=some 9:=by kernel_rfl
 have hJ:(Tryz.prog.info? 4).map (·.size)=some 1:=by kernel_rfl
 have hx1:∀ (X:Array Value) (u:World),(Instr.index 120 (.agg X) (.int .i64 0)).run Tryz.prog u = .ok (.agg (X.extract (0*9) (0*9+9))) u:=fun X u=>ZhE _ 118 9 X 0 _ 9 (by kernel_rfl) (by omega) Tryz.underlying118 rfl hI u
 obtain⟨Y,hY⟩:=eI ((spC (Zap n (tabE n (lsT l) t))).extract (0*9) (0*9+9));have hY1:Y[n]? = some (.bool r):=by rw[hY,Array.getElem?_extract,if_pos (by rw[Zai];omega)];have:=ZnC (Zap n (tabE n (lsT l) t)) (i:=0) (j:=n) (by omega) (by omega);rw[show 0*9+n=0*9+n from rfl] at this;rw[this,ZbJ _ (Nat.zero_le _) (Nat.le_refl _),← hr,← hln];rfl
 have hx2:∀ u:World,(Instr.index 118 (.agg Y) (.int .i64 (n:Int))).run Tryz.prog u = .ok (.bool r) u:=fun u=>ZiJ _ 4 9 Y n _ (.bool r) (by kernel_rfl) (by omega) Tryz.underlying4 rfl hJ hY1 u
 have hx1':=fun u=>hx1 (spC (Zap n (tabE n (lsT l) t))) u
 rw[← hY] at hx1';have Hx1:=qh hx1';have Hx2:=qh hx2;have Hc:=qh (fun u (hp:Pairs 0 u v es)=>ZkN t es l n v u hes hok hp ht hwd hln);have Hh:=qh h;clear hx1 hx1' hx2 hY hY1 hI hJ hes hok h ht hwd hr
 go_enter Tryz.func65, Tryz.ntmps65
 go_wp2_with fail;refine(Hc.out _ Hh.out).mono ?_;rintro e w1 ⟨rfl,hb1⟩;have hrun1:=Hx1.out w1;have hrun2:=Hx2.out w1;go_wp2;go_ret;exact⟨rfl,hb1⟩
theorem ZcP (es:List (Int × Int)) (l:List Nat) (v:Value) (w:World) (r:Bool) (hr:AccO es l r) (h:Pairs 0 w v es) (ht:isT l) (hlen:l.length≤1000000) :
  Calls Tryz.prog 28 #[v,.string (txB l)] w fun e w'=>e = .returned (.bool r)∧Below w.heap.size w w':=by
 obtain⟨x,hx⟩:=eJ (exOk es);obtain⟨y,hy⟩:=eJ (wdOk l);have Hc1:=qh (fun u (hp:Pairs 0 u v es)=>ZaW es v u hp x hx);have Hc2:=qh (fun u=>Zbx l u ht hlen y hy);have Hh:=qh h;have Ht:=qh ht;have Hr:=qh hr;replace hx:=qh hx;have Hhy:=qh hy;clear hy;clear h ht hr;cases x with
 | false =>
  have hrf:r=false:=by
   rcases Hr.out with⟨h1,-,-⟩|⟨-,h2⟩
   ·rw[hx.out] at h1;cases h1
   exact h2
  subst hrf
  go_enter Tryz.func28, Tryz.ntmps28
  go_wp2_with fail;refine(Hc1.out _ Hh.out).mono ?_;rintro e w1 ⟨rfl,hb1⟩;go_wp2;go_ret;exact⟨rfl,hb1⟩
 | true =>
  cases y with
  | false =>
   have hrf:r=false:=by
    rcases Hr.out with⟨-,h1,-⟩|⟨-,h2⟩
    ·rw[Hhy.out] at h1;cases h1
    exact h2
   subst hrf
   go_enter Tryz.func28, Tryz.ntmps28
   go_wp2_with fail;refine(Hc1.out _ Hh.out).mono ?_;rintro e w1 ⟨rfl,hb1⟩;go_wp2_with (go_at_call 63;refine(Hc2.out _).mono ?_;rintro e w' ⟨rfl,rfl⟩);go_ret;exact⟨rfl,hb1⟩
  | true =>
   obtain⟨t,ht1,ht2⟩:∃ t:Ex,t.post=es∧accX l t=r:=by
    rcases Hr.out with⟨-,-,h1⟩|⟨h1|h1,-⟩
    ·exact h1
    ·rw[hx.out] at h1;cases h1
    rw[Hhy.out] at h1;cases h1
   have Hc3:=qh (fun u (hp:Pairs 0 u v es)=>Zex t es l v u r ht2 ht1 hx.out hp Ht.out Hhy.out);clear ht1 ht2
   go_enter Tryz.func28, Tryz.ntmps28
   go_wp2_with fail;refine(Hc1.out _ Hh.out).mono ?_;rintro e w1 ⟨rfl,hb1⟩;go_wp2_with (first|(go_at_call 63;refine(Hc2.out _).mono ?_;rintro e w' ⟨rfl,rfl⟩)|(go_at_call 65;refine(Hc3.out _ (Hh.out.below hb1)).mono ?_;rintro e w2 ⟨rfl,hb2⟩));go_ret;exact⟨rfl,hb1.trans (hb2.mono hb1.size)⟩
theorem Zlx (l:List Nat):(wdB l).size=l.length:=by simp[wdB,ByteArray.size]
theorem Zng (u:List Nat) {v:ByteArray} {l:List Nat} (hv:v=txB l):txB u++v=txB (u++l):=by rw[hv,Zdb]
theorem Zi2 {l:List Nat} {c:Nat} (h:isT l) (hc:c<256):isT (l++[c]):=fun b hb=>by
 rcases List.mem_append.1 hb with hb|hb
 ·exact h b hb
 rw[List.mem_singleton.1 hb];exact hc
theorem Zj4 (bs:List Nat) (vb:Value) (b p n:Nat) (w0 w:World) (X:Ent) (hb:Bytes 0 w0 vb bs) (hlen:bs.length≤2000) (hp:p≤800000) (hn1:n≤10000) (hS:St w0 w [RdE b vb p,X]) :
  Calls Tryz.prog 59 #[.pointer (some ⟨b,0,none⟩),.int .i64 ((n:Nat):Int)] w fun e w'=>∃ (l:List Nat) (p':Nat),isT l∧l.length≤10∧p'≤p+20∧e = .returned (.string (txB l))∧St w0 w' [RdE b vb p',X]:=by
 have Hb:=qh hb;have HS:=qh hS;clear hb hS
 go_enter Tryz.func59, Tryz.ntmps59
 go_wp2_with fail;refine(ZaE bs vb b p 9 w0 _ _ Hb.out hlen (by omega) (by omega) (by omega) HS.out).mono ?_;rintro e w1 ⟨k0,hk0,rfl,hS1⟩;have HS1:=qh hS1;clear hS1;go_wp2
 go_loopw [5,6] (fun vs vk wr=>∃ (k pq:Nat) (l:List Nat),vk = .int .i64 k∧vs = .string (txB l)∧l.length+k≤8∧pq+k≤p+9∧isT l∧St w0 wr [RdE b vb pq,X])
  (fun _ vk _=>(intOf vk).toNat)
 case atStart=>exact⟨k0,p+1,[],rfl,rfl,by simp;omega,by omega,(fun b hb=>by cases hb),HS1.out⟩
 case round =>
  obtain⟨k,pq,l,rfl,rfl,hk,hpq,ht,hS⟩:=hrel;have HS2:=qh hS;have Ht:=qh ht;clear hS ht;by_cases hlt:0<k
  ·go_wp2_with fail;refine(ZaE bs vb b pq 3 w0 _ _ Hb.out hlen (by omega) (by omega) (by omega) HS2.out).mono ?_;rintro e w2 ⟨c,hc,rfl,hS3⟩;have HS3:=qh (hS3.alloc_ (.cells #[.int .u8 (97+(c:Int))] 5));have hw1:IntKind.i64.wrap (97+(c:Int))=97+(c:Int):=IntWalk.i64_in _ (by omega);have hw2:=ZjA c hc;have hcv:=Zmd c hc (w2.alloc (.cells #[.int .u8 (97+(c:Int))] 5)) w2.heap.size 1 (Zir _ _ _ 0);obtain⟨hadd,hnlt⟩:=ZkA l (txB [97+c]) (by omega) (by rw[Zax];simp);clear hS3;go_wp2;go_roundw
   case rel =>refine⟨k-1,pq+1,l++[97+c],by congr 1;omega,by rw[Zdb],by rw[List.length_append];simp;omega,by omega,Zi2 Ht.out (by omega),HS3.out⟩
   case measure=>simp[intOf];omega
  have hz:((0:Int)<(k:Int))=False:=by simp;omega
  have hz2:(0<k)=False:=by simp;omega
  clear hlt;go_wp2_with fail;refine(ZiT bs vb b pq n w0 _ _ Hb.out hlen (by omega) hn1 HS2.out).mono ?_;rintro e w2 ⟨q,p2,hp2,rfl,hS3⟩;have HS3:=qh hS3;clear hS3;cases q
  ·go_wp2;go_ret;exact⟨l,p2,Ht.out,by omega,by omega,rfl,HS3.out⟩
  obtain⟨hadd1,hnlt1⟩:=ZkA l { data:=#[100] } (by omega) (by decide);obtain⟨hadd2,hnlt2⟩:=ZkA l { data:=#[65] } (by omega) (by decide);obtain⟨u1,hu1⟩:∃ u1,u1=txB l++{ data:=#[100] }:=⟨_,rfl⟩;obtain⟨u2,hu2⟩:∃ u2,u2=txB l++{ data:=#[65] }:=⟨_,rfl⟩;rw[← hu1] at hadd1;rw[← hu2] at hadd2;have he1:u1=txB (l++[100]):=by rw[hu1];exact Zng l rfl
  have he2:u2=txB (l++[65]):=by rw[hu2];exact Zng l rfl
  have HS4:=qh (HS3.out.alloc _ rfl #[.string u1,.string u2,.string { data:=#[97,97,97,97,97,97,97,97,97] }] 9);replace hu1:=qh hu1;have Hhu2:=qh hu2;clear hu2;replace he1:=qh he1;have Hhe2:=qh he2;clear he2;go_wp2_with fail;refine(ZaE bs vb b p2 3 w0 _ _ Hb.out hlen (by omega) (by omega) (by omega) (St.pack (A:=[RdE b vb p2]) (R:=[X,Ent.box w2.heap.size #[.string u1,.string u2,.string { data:=#[97,97,97,97,97,97,97,97,97] }] 9]) HS4.out)).mono ?_;rintro e w5 ⟨j,hj,rfl,hSp⟩;have HS5:=qh (St.unpack (A:=[RdE b vb p2]) (A':=[RdE b vb (p2+1)]) (R:=[X,Ent.box w2.heap.size #[.string u1,.string u2,.string { data:=#[97,97,97,97,97,97,97,97,97] }] 9]) HS4.out hSp);have c0:=HS5.out.cell (v:=.string u1) 2 0 rfl rfl;have c1:=HS5.out.cell (v:=.string u2) 2 1 rfl rfl;have c2:=HS5.out.cell (v:=.string { data:=#[97,97,97,97,97,97,97,97,97] }) 2 2 rfl rfl;clear hSp;obtain rfl|rfl|rfl:j=0∨j=1∨j=2:=by omega
  ·go_wp2;go_ret;exact⟨l++[100],p2+1,Zi2 Ht.out (by omega),by rw[List.length_append];simp;omega,by omega,by rw[he1.out];rfl,HS5.out.pick [0,1] (by decide)⟩
  ·go_wp2;go_ret;exact⟨l++[65],p2+1,Zi2 Ht.out (by omega),by rw[List.length_append];simp;omega,by omega,by rw[Hhe2.out];rfl,HS5.out.pick [0,1] (by decide)⟩
  go_wp2;go_ret;exact⟨[97,97,97,97,97,97,97,97,97],p2+1,(fun b hb=>by simp at hb;omega),by decide,by omega,rfl,HS5.out.pick [0,1] (by decide)⟩
theorem Zk8 (bs:List Nat) (vb:Value) (b p n:Nat) (w0 w:World) (X:Ent) (hb:Bytes 0 w0 vb bs) (hlen:bs.length≤2000) (hp:p≤10000) (hn1:n≤10000) (hS:St w0 w [RdE b vb p,X]) :
  Calls Tryz.prog 59 #[.pointer (some ⟨b,0,none⟩),.int .i64 ((n:Nat):Int)] w fun e w'=>∃ (l:List Nat) (p':Nat),isT l∧l.length≤10∧e = .returned (.string (txB l))∧St w0 w' [RdE b vb p',X] :=
 (Zj4 bs vb b p n w0 w X hb hlen (by omega) hn1 hS).mono fun _ _ ⟨l,p',h1,h2,_,h4,h5⟩=>⟨l,p',h1,h2,h4,h5⟩
theorem Zgc (bs:List Nat) (v:Value) (w:World) (hb:Bytes 0 w v bs) (hlen:bs.length≤100000000) :
  Calls Tryz.prog 25 #[v] w fun e w'=>∃ l:List Nat,isT l∧l.length≤10∧e = .returned (.string (txB l))∧Below w.heap.size w w':=by
 have Hb:=qh hb;clear hb
 go_enter Tryz.func25, Tryz.ntmps25
 go_wp2_with fail;refine(ZlS bs v _ Hb.out hlen).mono ?_;rintro e w1 ⟨vb,bs',hl',hB,rfl,hS'⟩;have HB:=qh hB;have HS1:=qh hS';clear hB hS';go_wp2_with fail;refine(Zk8 bs' vb w.heap.size 0 9 w w1 _ HB.out hl' (by omega) (by omega) (St.pack (A:=[RdE w.heap.size vb 0]) (R:=[]) HS1.out)).mono ?_;rintro e w2 ⟨l,p',ht,hl,rfl,hS2⟩;have HS2:=qh hS2;have Ht:=qh ht;clear hS2 ht;go_wp2;go_ret;exact⟨l,Ht.out,hl,rfl,HS2.out.bel⟩
theorem ZrN {l:List Nat} {i:Nat} (hi:i<l.length) (hw:isW l) (h:i<(wdB l).size):(((wdB l)[i]'h).toNat:Int)=97+(l.getD i 0:Nat):=by
 have hc:l.getD i 0<3:=hw _ (memD hi);have e:(wdB l)[i]'h=UInt8.ofNat (97+l.getD i 0):=by show(wdB l).data[i]=_;simp[wdB,hi]
 rw[e,UInt8.toNat_ofNat'];omega
theorem ZmO (l:List Nat) (i:Nat) (hi:i<l.length) (hw:isW l) (w:World):Calls Tryz.prog 93 #[.string (wdB l),.int .i64 i] w fun e w'=>e = .returned (.int .i64 (l.getD i 0:Nat))∧w=w':=by
 have hc:l.getD i 0<3:=hw _ (memD hi);have hs:(wdB l).size=l.length:=Zlx l;have hat:=fun h=>ZrN hi hw h
 obtain⟨c,hcc⟩:=eI (l.getD i 0);rw[← hcc] at hc hat;rw[← hcc];have hrun:∀ w':World,(Instr.index 9 (.string (wdB l)) (.int .i64 (i:Int))).run Tryz.prog w' = .ok (.int .u8 (97+(c:Int))) w':=fun w'=>by rw[run_index_string w' 9 (wdB l) .i64 i Tryz.underlying9,dif_pos (by omega)];congr 2;exact hat _
 have hw8:IntKind.u8.wrap (97+(c:Int)-97)=(c:Int):=by
  obtain rfl|rfl|rfl:c=0∨c=1∨c=2:=by omega
  all_goals rfl
 have hw9:IntKind.i64.wrap (c:Int)=(c:Int):=IntWalk.i64_in _ (by omega);replace hcc:=qh hcc;clear hat
 go_enter Tryz.func93, Tryz.ntmps93
 go_wp2;go_ret;exact⟨rfl,rfl⟩
theorem ZnG (d:DfaD) (s:Int) {l:List Nat} {k:Nat} (hk:k<l.length):runD d s (l.take (k+1))=dnx d (runD d s (l.take k)) (l.getD k 0):=by rw[List.take_succ_eq_append_getElem hk,ZeC];simp[runD,hk]
theorem ZpV (d:DfaD) (q:Nat) (l:List Nat) (v:Value) (w:World) (hd:Zag d.next d.ends=true) (hq:q<d.next.length) (hw:isW l) (hl:l.length≤1000000) (h:DfaR 0 w v d) :
  Calls Tryz.prog 104 #[v,.int .i64 q,.string (wdB l)] w fun e w'=>e = .returned (.int .i64 (runD d q l))∧Below w.heap.size w w':=by
 obtain⟨v1,v2,rfl,g1,g2⟩:=h;have hlen:=Zaf hd;have hS0:=(St.start w).alloc _ rfl #[v1,v2] 25;have hs:(wdB l).size=l.length:=Zlx l;have G1:=qh g1;replace hd:=qh hd;have Hhw:=qh hw;clear hw;replace hS0:=qh hS0;clear g1 g2
 go_enter Tryz.func104, Tryz.ntmps104
 go_wp2
 go_loopw [1,10] (fun fr i wr=>∃ k p:Nat,fr = .int .i64 p∧i = .int .i64 k∧k≤l.length∧p<d.next.length∧(p:Int)=runD d q (l.take k)∧St w wr [Ent.box w.heap.size #[v1,v2] 25]) (fun _ i _=>l.length-(intOf i).toNat)
 case atStart=>exact⟨0,q,rfl,rfl,Nat.zero_le _,hq,rfl,hS0.out⟩
 case round =>
  obtain⟨k,p,rfl,rfl,hk,hp,hrun,hS⟩:=hrel;by_cases hlt:k<l.length
  ·have hc:l.getD k 0<3:=Hhw.out _ (memD hlt);obtain⟨b1,o1,cap1,z,t,s,rfl,hc1,hc2,k1,hs1,hs2,k2,hb1,hb2⟩:=Zji (G1.out.below hS.bel) hd.out hp hc;have e0:=hS.cell (v:=.slice (some ⟨b1,o1,none⟩) d.next.length cap1) 0 0 rfl rfl;have hnx:=(ZaP hd.out hp).2 _ hc;have hsn:=ZnG d q hlt;rw[← hrun] at hsn;obtain⟨x,hx⟩:=eI ((d.next.getD p []).getD (l.getD k 0) 0);have hdx:dnx d (p:Int) (l.getD k 0)=x:=by rw[hx];rfl
   rw[hdx] at hsn;rw[← hx] at k2 hnx;obtain⟨x0,x1⟩:=hnx;obtain⟨x,rfl⟩:=Int.eq_ofNat_of_zero_le x0;have hlet:=fun (w:World)=>ZmO l k hlt Hhw.out w
   obtain⟨c,hcc⟩:=eI (l.getD k 0);rw[← hcc] at hc k2 hlet;have hp2:(p:Int)<d.next.length:=by omega
   have hc3:(c:Int)<3:=by omega
   have hkl:(k:Int)<l.length:=by omega
   have Hlet:=qh hlet;replace hS:=qh hS;have Hhx:=qh hx;clear hx;have Hhdx:=qh hdx;clear hdx;have Hhsn:=qh hsn;clear hsn;have Hhcc:=qh hcc;clear hcc;have Hhrun:=qh hrun;clear hrun;clear hlet;go_wp2
   go_quiet (((go_at_call 93;with_reducible exact Zgu (Hlet.out _))))
   go_wp2;go_roundw
   case rel=>exact⟨k+1,x,rfl,by go_num,by omega,by omega,Hhsn.out.symm,hS.out.drewN _⟩
   case measure=>simp[intOf];omega
  obtain rfl:k=l.length:=by omega
  rw[List.take_length] at hrun;replace hS:=qh hS;have Hhrun:=qh hrun;clear hrun;go_wp2;go_ret;exact⟨ZeD Hhrun.out,hS.out.bel⟩
theorem Zlt (d:DfaD) (l:List Nat) (v:Value) (w:World) (hd:Zag d.next d.ends=true) (hw:isW l) (hl:l.length≤1000000) (h:DfaR 0 w v d) :
  Calls Tryz.prog 64 #[v,.string (wdB l)] w fun e w'=>e = .returned (.bool (accD d l))∧Below w.heap.size w w':=by
 have HD:=qh h;obtain⟨v1,v2,rfl,g1,g2⟩:=h;obtain⟨h1,h2,h3⟩:=Zaf hd;obtain⟨q,hq⟩:=Int.eq_ofNat_of_zero_le (ZiN hd hw (s:=0) (by omega) (by omega)).1;have hqn:q<d.ends.length:=by have:=(ZiN hd hw (s:=0) (by omega) (by omega)).2;omega
 have hS0:=(St.start w).alloc _ rfl #[v1,v2] 25;obtain⟨b2,o2,cap2,rfl,hc1,hc2,k2,hb2⟩:=Zea g2 hqn;have hacc:accD d l=d.ends.getD q false:=by unfold accD den;rw[hq,Int.toNat_natCast]
 have e0:=hS0.cell (v:=v1) 0 0 rfl rfl;have e1:=hS0.cell (v:=.slice (some ⟨b2,o2,none⟩) d.ends.length cap2) 0 1 rfl rfl;have hl0:=(hS0.boxlt 0 rfl).2;have hk2:=(bcell hS0.bel b2 (o2+q) hb2).trans k2;have hb2':=Nat.lt_of_lt_of_le hb2 hS0.size;obtain⟨W,hW⟩:=eI (w.alloc (.cells #[v1,.slice (some ⟨b2,o2,none⟩) d.ends.length cap2] 25));rw[← hW] at e0 e1 hl0 hk2 hb2' hS0;have hrun:∀ w':World,Below w.heap.size w w'→Calls Tryz.prog 104 #[.agg #[v1,.slice (some ⟨b2,o2,none⟩) d.ends.length cap2],.int .i64 0,.string (wdB l)] w' fun e w2=>e = .returned (.int .i64 (runD d 0 l))∧Below w'.heap.size w' w2:=fun w' hb=>ZpV d 0 l (.agg #[v1,.slice (some ⟨b2,o2,none⟩) d.ends.length cap2]) w' hd (by omega) hw hl (HD.out.below hb)
 rw[hq] at hrun;have Hrun:=qh hrun;have Hk:=qh (fun (w':World) (h:Below W.drew.heap.size W.drew w')=>(show w'.cell? ⟨w.heap.size,0,none⟩=some v1∧w'.cell? ⟨w.heap.size,1,none⟩=some (.slice (some ⟨b2,o2,none⟩) d.ends.length cap2)∧w'.cell? ⟨b2,o2+q,none⟩=some (.bool (d.ends.getD q false)) from⟨(bcell h _ _ hl0).trans e0,(bcell h _ _ hl0).trans e1,(bcell h _ _ hb2').trans hk2⟩));obtain⟨r,hr⟩:=eI (d.ends.getD q false);rw[← hr] at hacc hk2 Hk;rw[hacc];have hqi:(q:Int)<d.ends.length:=by omega
 have HBd:=qh hS0.bel.drew;replace hS0:=qh hS0;have Hhd:=qh hd;clear hd;have Hhw:=qh hw;clear hw;have Hhq:=qh hq;clear hq;have Hhr:=qh hr;clear hr;have Hhacc:=qh hacc;clear hacc;have HW:=qh hW;clear hW g1 g2 k2 hrun h3
 go_enter Tryz.func64, Tryz.ntmps64
 go_wp2_with fail;rw[← HW.out]
 go_region_held3 (fun w'=>w'.cell? ⟨w.heap.size,0,none⟩=some v1∧w'.cell? ⟨w.heap.size,1,none⟩=some (.slice (some ⟨b2,o2,none⟩) d.ends.length cap2)∧w'.cell? ⟨b2,o2+q,none⟩=some (.bool r))
  (first|go_keep|exact Hk.out _ hq0)
  (first
   | (go_at_call 104;(with_reducible refine(Hrun.out _ HBd.out).mono ?_);rintro e u0 ⟨rfl,hq0⟩))
 go_wp2;go_ret;exact⟨rfl,HBd.out.trans (hq0.mono HBd.out.size)⟩
theorem St.dfaV {w0 w w':World} {L:List Ent} (h:St w0 w L) (hb:Below w.heap.size w w') {v1 v2:Value} {D:DfaD} (hr:DfaR w.heap.size w' (.agg #[v1,v2]) D):St w0 w' (L++[DfaV w.heap.size w'.heap.size v1 v2 D]) :=
 h.add hb _ ⟨w',rfl,hr,fun _ _ _=>rfl⟩ fun _ hk=>hk
theorem St.dfaVr {w0 w:World} {L:List Ent} (h:St w0 w L) (i:Nat) {B H:Nat} {v1 v2:Value} {D:DfaD} (hx:L[i]? = some (DfaV B H v1 v2 D)):DfaR 0 w (.agg #[v1,v2]) D:=by
 have hE:=h.has i _ hx;obtain⟨⟨w',h1,⟨x1,x2,hv,⟨vs,h2,h3⟩,h4⟩,h5⟩,hf⟩:=hE;simp only[Value.agg.injEq,Array.mk.injEq,List.cons.injEq,and_true] at hv;obtain⟨rfl,rfl⟩:=hv;by_cases hlt:B<H
 ·have hs:w'.heap.size≤w.heap.size:=by have:H-1<w.heap.size:=(hf (H-1) (show B≤H-1∧H-1<H by omega)).2;omega
  have hk:∀ k,B≤k→k<w'.heap.size→w.heap[k]? = w'.heap[k]?:=fun k p q=>h5 k p (by omega)
  exact⟨_,_,rfl,⟨vs,h2.keptJ (Nat.zero_le _) hs hk,fun i hi=>Sl.keptJ (h3 i hi) (Nat.zero_le _) hs hk⟩,Sl.keptJ h4 (Nat.zero_le _) hs hk⟩
 have hno:∀ {v:Value} {n size:Nat} {cs:List Value},Sl B w' v n size cs→0<size→Sl 0 w v n size cs:=fun {v n size cs} hs hz=>by obtain⟨g1,a,cap,g2,g3,g4,g5⟩:=hs;refine⟨g1,a,cap,g2,g3,g4,fun hn => ?_⟩;obtain⟨b,off,-,p,q,-⟩:=g5 hn;omega
 exact⟨_,_,rfl,⟨vs,hno h2 (by omega),fun i hi=>hno (h3 i hi) (by omega)⟩,hno h4 (by omega)⟩
theorem Zss (w:World) (B:Nat):DfaR B w (.agg #[.slice none 0 0,.slice none 0 0]) ⟨[],[]⟩:=(Zjy w B 0 0 0).r
theorem ZdF (d:DfaD) (D:DfaD) (hD:minQ d=D) (v:Value) (w:World) (h:DfaR 0 w v d) :
  Calls Tryz.prog 31 #[v] w fun e w'=>RDs D w e w':=by
 have H:=qh h;obtain⟨v1,v2,rfl,g1,g2⟩:=h;have hS0:=((St.start w).alloc _ rfl #[v1,v2] 25).alloc (w.heap.size+1) (by simp) #[.slice none 0 0,.slice none 0 0] 25;have e0:=hS0.cell (v:=v1) 0 0 rfl rfl;have e1:=hS0.cell (v:=v2) 0 1 rfl rfl;replace hS0:=qh hS0;clear g1 g2;cases hok:Zag d.next d.ends
 ·have hz:D=⟨[],[]⟩:=by rw[← hD];unfold minQ;rw[if_neg (by rw[hok];simp)]
  subst hz;have Hhok:=qh hok;clear hok;clear hD
  go_enter Tryz.func31, Tryz.ntmps31
  go_wp2_with fail;refine(ZaK d _ _ (H.out.below hS0.out.bel) _ Hhok.out).mono ?_;rintro e w1 ⟨rfl,hb1⟩;have HS1:=qh (hS0.out.call hb1);clear hb1 e0 e1;have f0:=HS1.out.fr 1 0 rfl;have f1:=HS1.out.fr 1 1 rfl;have k0:=HS1.out.cell (v:=.slice none 0 0) 1 0 rfl rfl;have k1:=HS1.out.cell (v:=.slice none 0 0) 1 1 rfl rfl;go_wp2;have hq:=(HS1.out.set 1 rfl 0 (.slice none 0 0)).set 1 rfl 1 (.slice none 0 0);have q0:=hq.cell (v:=.slice none 0 0) 1 0 rfl rfl;have q1:=hq.cell (v:=.slice none 0 0) 1 1 rfl rfl;refine bodyPost_ret (v:=.agg #[.slice none 0 0,.slice none 0 0]) (by simp[results,Tryz.results31,go_sem,q0,q1]) rfl ?_;exact⟨none,0,none,0,rfl,Zss _ _,hq.bel⟩
 have hz:minD d=D:=by rw[← hD];unfold minQ;rw[if_pos hok]
 have Hhok:=qh hok;clear hok;have Hz:=qh hz;clear hD hz
 go_enter Tryz.func31, Tryz.ntmps31
 go_wp2_with fail;refine(ZaK d _ _ (H.out.below hS0.out.bel) _ Hhok.out).mono ?_;rintro e w1 ⟨rfl,hb1⟩;have HS1:=qh (hS0.out.call hb1);clear hb1 e0 e1;have e0:=HS1.out.cell (v:=v1) 0 0 rfl rfl;have e1:=HS1.out.cell (v:=v2) 0 1 rfl rfl;go_wp2_with fail;refine(Zbq d _ _ Hhok.out (H.out.below HS1.out.bel)).mono ?_;rintro e w2 ⟨a1,c1,a2,c2,rfl,hdo,hb2⟩;rw[Hz.out] at hdo;rw[Hz.out];have HS2:=qh (HS1.out.call hb2);have HDr:=qh hdo.r;have hB1:=(HS1.out.boxlt 1 rfl).2;have hsz:=HS1.out.size;clear hb2 hdo e0 e1;have f0:=HS2.out.fr 1 0 rfl;have f1:=HS2.out.fr 1 1 rfl;have k0:=HS2.out.cell (v:=.slice none 0 0) 1 0 rfl rfl;have k1:=HS2.out.cell (v:=.slice none 0 0) 1 1 rfl rfl;go_wp2;have hq:=(HS2.out.set 1 rfl 0 (.slice a1 D.next.length c1)).set 1 rfl 1 (.slice a2 D.ends.length c2);have q0:=hq.cell (v:=.slice a1 D.next.length c1) 1 0 rfl rfl;have q1:=hq.cell (v:=.slice a2 D.ends.length c2) 1 1 rfl rfl;refine bodyPost_ret (v:=.agg #[.slice a1 D.next.length c1,.slice a2 D.ends.length c2]) (by simp[results,Tryz.results31,go_sem,q0,q1]) rfl ?_;exact⟨a1,c1,a2,c2,rfl,((HDr.out.far hB1 0 _).far hB1 1 _).mono hsz,hq.bel⟩
def lets (l:List Nat):List Nat:=l.map (·-97)
theorem ZrY {l:List Nat} {k:Nat} (h:okT l l.length=true) (hk:k<l.length):97≤l.getD k 0∧l.getD k 0≤99:=by unfold okT at h;have:=List.all_eq_true.1 h k (List.mem_range.2 hk);simp only[inB,Bool.and_eq_true,decide_eq_true_eq] at this;omega
theorem Zmt {l:List Nat} (h:wdOk l=true):okT l l.length=true∧l.length≤8:=by unfold wdOk at h;simp only[Bool.and_eq_true,decide_eq_true_eq] at h;exact h
end Go.Proofs.YtfgpkadhegdffaaGreat
namespace Go.Proofs.YtfgpkadhegdffaaGreat
open Go.RowKit
theorem Zlw {l:List Nat}:wdOk l=true↔(∀ b∈l,97≤b∧b≤99)∧l.length≤8:=by
 constructor
 ·intro h;obtain⟨h1,h2⟩:=Zmt h;refine⟨fun b hb => ?_,h2⟩;obtain⟨k,hk,e⟩:=List.getElem_of_mem hb;have:=ZrY h1 hk;rw[Zbr hk,e] at this;exact this
 rintro⟨h1,h2⟩;unfold wdOk okT;rw[Bool.and_eq_true,List.all_eq_true,decide_eq_true_eq];refine⟨fun k hk => ?_,h2⟩;have hk:=List.mem_range.1 hk;have:=h1 _ (ZbE hk);simp only[inB,Bool.and_eq_true,decide_eq_true_eq];omega
end Go.Proofs.YtfgpkadhegdffaaGreat
namespace Go.Proofs.YtfgpkadhegdffaaGreat
open Go.RowKit
theorem ZlX {l:List Nat} (h:wdOk l=true):isW (lets l):=fun c hc=>by obtain⟨b,hb,rfl⟩:=List.mem_map.1 hc;have:=(Zlw.1 h).1 b hb;omega
theorem ZpA {l:List Nat} (h:wdOk l=true):txB l=wdB (lets l):=by unfold txB wdB lets;rw[List.map_map];congr 2;apply List.map_congr_left;intro b hb;have:=(Zlw.1 h).1 b hb;show UInt8.ofNat b=UInt8.ofNat (97+(b-97));congr 1;omega
theorem ZhP (d:DfaD) (l:List Nat) (v:Value) (w:World) (ht:isT l) (hll:l.length≤1000) (h:DfaR 0 w v d) (hd:Zag d.next d.ends=true) (hwd:wdOk l=true) :
  Calls Tryz.prog 27 #[v,.string (txB l)] w fun e w'=>e = .returned (.bool (accD d (lets l)))∧Below w.heap.size w w':=by
 have H:=qh h;obtain⟨v1,v2,rfl,g1,g2⟩:=h;have hS0:=(St.start w).alloc _ rfl #[v1,v2] 25;have e0:=hS0.cell (v:=v1) 0 0 rfl rfl;have e1:=hS0.cell (v:=v2) 0 1 rfl rfl;obtain⟨q,hq⟩:=eJ (accD d (lets l));have hacc:=fun (u:World) (hu:Below w.heap.size w u)=>Zlt d (lets l) (.agg #[v1,v2]) u hd (ZlX hwd) (by unfold lets;rw[List.length_map];omega) (H.out.below hu)
 rw[← ZpA hwd,hq] at hacc;rw[hq];have Hacc:=qh hacc;replace ht:=qh ht;replace hS0:=qh hS0;have Hhd:=qh hd;clear hd;have Hhwd:=qh hwd;clear hwd;have Hhq:=qh hq;clear hq;clear g1 g2 hacc
 go_enter Tryz.func27, Tryz.ntmps27
 go_wp2_with fail;refine(ZaK d _ _ (H.out.below hS0.out.bel) _ Hhd.out).mono ?_;rintro e w1 ⟨rfl,hb1⟩;have HS1:=qh (hS0.out.call hb1);clear hb1 e0 e1;have e0:=HS1.out.cell (v:=v1) 0 0 rfl rfl;have e1:=HS1.out.cell (v:=v2) 0 1 rfl rfl;go_wp2_with (go_at_call 63;refine(Zbx l _ ht.out (by omega) _ Hhwd.out).mono ?_;rintro e w' ⟨rfl,rfl⟩);refine(Hacc.out _ HS1.out.bel).mono ?_;rintro e w2 ⟨rfl,hb2⟩;go_wp2;go_ret;exact⟨rfl,(HS1.out.call hb2).bel⟩
end Go.Proofs.YtfgpkadhegdffaaGreat
namespace Go.Proofs.YtfgpkadhegdffaaGreat
open Go.RowKit
theorem Zmr {l:List Nat} (hw:wdOk l=true) (t:Ex):accX l t=true↔memE t (lets l):=by
 have h8:(lsT l).length≤8:=by rw[Zon];exact(Zed hw).1
 have:=ZpL h8 t;rw[Zon] at this;exact this
theorem Zms {K:Nat} (hK:K=40) {es:List (Int × Int)} {l:List Nat} {D:DfaD} {r:Bool} (hc:Zjx K es (some D)) (hr:AccO es l r):(wdOk l&&accD D (lets l))=r:=by
 obtain⟨hok,t,ht,hcc⟩|⟨-,h⟩:=hc
 ·rcases hr with⟨-,hwd,t',ht',hx⟩|⟨h1|h1,hf⟩
  ·have e:t'=t:=Zgv (ht'.trans ht.symm);subst e;rw[hwd,Bool.true_and,← hx,Bool.eq_iff_iff,Zmr hwd];exact Zfn hK t' hcc _ (ZlX hwd)
  ·rw[hok] at h1;cases h1
  rw[h1,hf];rfl
 cases h
theorem Zhq (d:DfaD) (l:List Nat) (v:Value) (w:World) (ht:isT l) (hll:l.length≤1000) (h:DfaR 0 w v d) (hd:Zag d.next d.ends=true) (q:Bool) (hq:(wdOk l&&accD d (lets l))=q) :
  Calls Tryz.prog 27 #[v,.string (txB l)] w fun e w'=>e = .returned (.bool q)∧Below w.heap.size w w':=by
 cases hwd:wdOk l
 ·obtain rfl:q=false:=by rw[← hq,hwd];rfl
  have H:=qh h;obtain⟨v1,v2,rfl,g1,g2⟩:=h;have hS0:=(St.start w).alloc _ rfl #[v1,v2] 25;have e0:=hS0.cell (v:=v1) 0 0 rfl rfl;have e1:=hS0.cell (v:=v2) 0 1 rfl rfl;replace ht:=qh ht;replace hS0:=qh hS0;have Hhd:=qh hd;clear hd;have Hhwd:=qh hwd;clear hwd;have Hhq:=qh hq;clear hq;clear g1 g2
  go_enter Tryz.func27, Tryz.ntmps27
  go_wp2_with fail;refine(ZaK d _ _ (H.out.below hS0.out.bel) _ Hhd.out).mono ?_;rintro e w1 ⟨rfl,hb1⟩;have HS1:=qh (hS0.out.call hb1);clear hb1 e0 e1;go_wp2_with (go_at_call 63;refine(Zbx l _ ht.out (by omega) _ Hhwd.out).mono ?_;rintro e w' ⟨rfl,rfl⟩);go_ret;exact⟨rfl,HS1.out.bel⟩
 have:=ZhP d l v w ht hll h hd hwd;rw[hwd,Bool.true_and] at hq
 rwa [hq] at this
end Go.Proofs.YtfgpkadhegdffaaGreat
