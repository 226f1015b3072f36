/-
  The walks over the program's accepts and ExprAccepts.
  Conditions: the list of parts reads as such; the text is one of bytes.
-/
import Derived.Test.YtfanhfcamblghaaPq51Spo
set_option maxHeartbeats 8000000
set_option maxRecDepth 100000
namespace Go.Proofs.Ytfanhfcamblghaa
open Go.RowKit
theorem ZfQ {P:Program} (t e:TypeId) (n:Nat) (cs:Array Value) (i:Nat) (d:TypeDesc) (sz:Nat) (h:P.underlying t=some (.array n e)) (hi:i<n) (hu:P.underlying e=some d) (hd:d.isRow=true) (hs:(P.info? e).map (·.size)=some sz) (w:World) :
  (Instr.index t (.agg cs) (.int .i64 (i:Int))).run P w = .ok (.agg (cs.extract (i*sz) (i*sz+sz))) w:=by
 cases hq:P.info? e with
 | none=>simp[hq] at hs
 | some ie =>
  have hz:ie.size=sz:=by simpa [hq] using hs
  have hagg:(isAgg e).run P w = .ok true w:=by unfold isAgg;rw[Sem.run_bind,run_underlying hu w];cases d<;>simp_all
  have h0:(0:Int)≤(i:Int)∧(i:Int)<(n:Int):=by omega
  simp[Instr.index,run_underlying h,asIntOf,h0,go_sem,part,hagg,sizeOf,typeInfo,hq,hz];exact fun hle=>absurd hle (by omega)
theorem Zgu {P:Program} (t e:TypeId) (n:Nat) (cs:Array Value) (i:Nat) (d:TypeDesc) (v:Value) (h:P.underlying t=some (.array n e)) (hi:i<n) (hu:P.underlying e=some d) (hd:d.isRow=false) (hs:(P.info? e).map (·.size)=some 1) (hv:cs[i]? = some v) (w:World) :
  (Instr.index t (.agg cs) (.int .i64 (i:Int))).run P w = .ok v w:=by
 cases hq:P.info? e with
 | none=>simp[hq] at hs
 | some ie =>
  have hz:ie.size=1:=by simpa [hq] using hs
  have hagg:(isAgg e).run P w = .ok false w:=by unfold isAgg;rw[Sem.run_bind,run_underlying hu w];cases d<;>simp_all
  have h0:(0:Int)≤(i:Int)∧(i:Int)<(n:Int):=by omega
  simp[Instr.index,run_underlying h,asIntOf,h0,go_sem,part,hagg,sizeOf,typeInfo,hq,hz,hv];exact fun hle=>absurd hle (by omega)
theorem ZnF (es:List (Int × Int)) (l:List Nat):∃ r,AccO es l r:=by
 cases h:exOk es with
 | false=>exact⟨false,.inr ⟨.inl h,rfl⟩⟩
 | true =>
  cases g:wdOk l with
  | false=>exact⟨false,.inr ⟨.inr g,rfl⟩⟩
  | true =>obtain⟨t,ht⟩:=parse h;exact⟨_,.inl ⟨h,g,t,ht,rfl⟩⟩
theorem ZfT (t:Ex) (es:List (Int × Int)) (l:List Nat) (v:Value) (w:World) (r:Bool) (hr:accX l t=r) (hes:t.post=es) (hok:exOk es=true) (h:Pairs 0 w v es) (ht:isT l) (hwd:wdOk l=true) :
  Calls Try.prog 56 #[v,.string (txB l)] w fun e w'=>e = .returned (.bool r)∧Below w.heap.size w w':=by
 obtain⟨n,hln⟩:=eJ (l.length);obtain⟨hn8,-⟩:=Zc4 hwd;have hsz:=Zcr l;rw[hln] at hsz hn8;have hI:(Try.prog.info? 135).map (·.size)=some 9:=by kernel_rfl
 have hJ:(Try.prog.info? 4).map (·.size)=some 1:=by kernel_rfl
 have hx1:∀ (X:Array Value) (u:World),(Instr.index 137 (.agg X) (.int .i64 0)).run Try.prog u = .ok (.agg (X.extract (0*9) (0*9+9))) u:=fun X u=>ZfQ _ 135 9 X 0 _ 9 (by kernel_rfl) (by omega) Try.underlying135 rfl hI u
 obtain⟨Y,hY⟩:=eI ((spC (Zak n (tabE n (lsT l) t))).extract (0*9) (0*9+9));have hY1:Y[n]? = some (.bool r):=by rw[hY,Array.getElem?_extract,if_pos (by rw[Zad];omega)];have:=ZjX (Zak n (tabE n (lsT l) t)) (i:=0) (j:=n) (by omega) (by omega);rw[show 0*9+n=0*9+n from rfl] at this;rw[this,Za3 _ (Nat.zero_le _) (Nat.le_refl _),← hr,← hln];rfl
 have hx2:∀ u:World,(Instr.index 135 (.agg Y) (.int .i64 (n:Int))).run Try.prog u = .ok (.bool r) u:=fun u=>Zgu _ 4 9 Y n _ (.bool r) (by kernel_rfl) (by omega) Try.underlying4 rfl hJ hY1 u
 have hx1':=fun u=>hx1 (spC (Zak n (tabE n (lsT l) t))) u
 rw[← hY] at hx1';have Hx1:=qh hx1';have Hx2:=qh hx2;have Hc:=qh (fun u (hp:Pairs 0 u v es)=>ZhM t es l n v u hes hok hp ht hwd hln);have Hh:=qh h;clear hx1 hx1' hx2 hY hY1 hI hJ hes hok h ht hwd hr
 go_enter Try.func56, Try.ntmps56
 go_wp2_with fail;refine(Hc.out _ Hh.out).mono ?_;rintro e w1 ⟨rfl,hb1⟩;have hrun1:=Hx1.out w1;have hrun2:=Hx2.out w1;go_wp2;go_ret;exact⟨rfl,hb1⟩
theorem Zdo (es:List (Int × Int)) (l:List Nat) (v:Value) (w:World) (r:Bool) (hr:AccO es l r) (h:Pairs 0 w v es) (ht:isT l) (hlen:l.length≤2000000) :
  Calls Try.prog 15 #[v,.string (txB l)] w fun e w'=>e = .returned (.bool r)∧Below w.heap.size w w':=by
 obtain⟨x,hx⟩:=eJ (exOk es);obtain⟨y,hy⟩:=eJ (wdOk l);have Hc1:=qh (fun u (hp:Pairs 0 u v es)=>ZaL es v u hp x hx);have Hc2:=qh (fun u=>ZaY l u ht hlen y hy);have Hh:=qh h;have Ht:=qh ht;have Hr:=qh hr;replace hx:=qh hx;have Hhy:=qh hy;clear hy;clear h ht hr;cases x with
 | false =>
  have hrf:r=false:=by
   rcases Hr.out with⟨h1,-,-⟩|⟨-,h2⟩
   ·rw[hx.out] at h1;cases h1
   exact h2
  subst hrf
  go_enter Try.func15, Try.ntmps15
  go_wp2_with fail;refine(Hc1.out _ Hh.out).mono ?_;rintro e w1 ⟨rfl,hb1⟩;go_wp2;go_ret;exact⟨rfl,hb1⟩
 | true =>
  cases y with
  | false =>
   have hrf:r=false:=by
    rcases Hr.out with⟨-,h1,-⟩|⟨-,h2⟩
    ·rw[Hhy.out] at h1;cases h1
    exact h2
   subst hrf
   go_enter Try.func15, Try.ntmps15
   go_wp2_with fail;refine(Hc1.out _ Hh.out).mono ?_;rintro e w1 ⟨rfl,hb1⟩;go_wp2_with (go_at_call 53;refine(Hc2.out _).mono ?_;rintro e w' ⟨rfl,rfl⟩);go_ret;exact⟨rfl,hb1⟩
  | true =>
   obtain⟨t,ht1,ht2⟩:∃ t:Ex,t.post=es∧accX l t=r:=by
    rcases Hr.out with⟨-,-,h1⟩|⟨h1|h1,-⟩
    ·exact h1
    ·rw[hx.out] at h1;cases h1
    rw[Hhy.out] at h1;cases h1
   have Hc3:=qh (fun u (hp:Pairs 0 u v es)=>ZfT t es l v u r ht2 ht1 hx.out hp Ht.out Hhy.out);clear ht1 ht2
   go_enter Try.func15, Try.ntmps15
   go_wp2_with fail;refine(Hc1.out _ Hh.out).mono ?_;rintro e w1 ⟨rfl,hb1⟩;go_wp2_with (first|(go_at_call 53;refine(Hc2.out _).mono ?_;rintro e w' ⟨rfl,rfl⟩)|(go_at_call 56;refine(Hc3.out _ (Hh.out.below hb1)).mono ?_;rintro e w2 ⟨rfl,hb2⟩));go_ret;exact⟨rfl,hb1.trans (hb2.mono hb1.size)⟩
theorem ZeB (t:Ex) (h60:t.post.length≤60) (v:Value) (w:World) (h:Pairs 0 w v t.post) :
  Calls Try.prog 16 #[v] w fun e w'=>e = .returned (.bool (hasE t))∧Below w.heap.size w w':=by
 have hok:=Zal t h60;have HV:=qh (ZaL t.post v w h true hok);have HE:=qh (fun (u:World) hu=>ZbU t h60 v u hu);obtain⟨z,hz⟩:=eJ (hasE t);rw[hz] at HE;rw[hz];have Hh:=qh h;replace hz:=qh hz;clear h hok
 go_enter Try.func16, Try.ntmps16
 go_wp2_with fail;refine HV.out.mono ?_;rintro e w2 ⟨rfl,hb2⟩;have HB2:=qh hb2;have HP:=qh (Hh.out.below hb2);clear hb2;go_wp2_with fail;refine(HE.out _ HP.out).mono ?_;rintro e w3 ⟨rfl,hb3⟩;go_wp2;go_ret;exact⟨rfl,HB2.out.trans (hb3.mono HB2.out.size)⟩
theorem ZfY (u v:List Nat):txB u++txB v=txB (u++v):=by apply ByteArray.ext;simp[txB,ByteArray.data_append]
theorem ZjH (u:List Nat) {v:ByteArray} {l:List Nat} (hv:v=txB l):txB u++v=txB (u++l):=by rw[hv,ZfY]
theorem Zgk (c:Nat) (hc:c<3):strOfNums [97+(c:Int)]=txB [97+c]:=by
 obtain rfl|rfl|rfl:c=0∨c=1∨c=2:=by omega
 all_goals rfl
theorem Zmr (c:Nat) (hc:c<3) (w:World) (b cap:Nat) (h:w.cell? ⟨b,0,none⟩=some (.int .u8 (97+(c:Int)))) :
  (convert 22 9 (.slice (some ⟨b,0,none⟩) 1 cap)).run Try.prog w = .ok (.string (txB [97+c])) w:=by
 rw[← Zgk c hc]
 exact run_convert_bytes_arg w 22 5 Try.underlying22 Try.underlying5 b 0 1 cap [97+(c:Int)] rfl (fun i hi=>by
  obtain rfl:i=0:=by omega
  simpa using h) 9 Try.underlying9
theorem ZjD (c:Nat) (hc:c<3):IntKind.u8.wrap (97+(c:Int))=97+(c:Int):=by
 obtain rfl|rfl|rfl:c=0∨c=1∨c=2:=by omega
 all_goals rfl
theorem Zln (u:List Nat) (v:ByteArray) (hu:u.length≤1000) (hv:v.size≤1000):(∀ w':World,(Op.stringOp .add (txB u) v).run Try.prog w' = .ok (.string (txB u++v)) w')∧¬ 9223372036854775807<(txB u).size+v.size:=by have h:=Zcr u;exact⟨fun w'=>run_string_add_sum w' _ _ (by omega),by omega⟩
theorem ZgK {l:List Nat} {c:Nat} (h:isT l) (hc:c<256):isT (l++[c]):=fun b hb=>by
 rcases List.mem_append.1 hb with hb|hb
 ·exact h b hb
 rw[List.mem_singleton.1 hb];exact hc
theorem Zhf (bs:List Nat) (vb:Value) (b p n:Nat) (w0 w:World) (X:Ent) (hb:Bytes 0 w0 vb bs) (hlen:bs.length≤2000) (hp:p≤800000) (hn1:n≤10000) (hS:St w0 w [RdE b vb p,X]) :
  Calls Try.prog 47 #[.pointer (some ⟨b,0,none⟩),.int .i64 ((n:Nat):Int)] w fun e w'=>∃ (l:List Nat) (p':Nat),isT l∧l.length≤10∧p'≤p+20∧e = .returned (.string (txB l))∧St w0 w' [RdE b vb p',X]:=by
 have Hb:=qh hb;have HS:=qh hS;clear hb hS
 go_enter Try.func47, Try.ntmps47
 go_wp2_with fail;refine(ZaC bs vb b p 9 w0 _ _ Hb.out hlen (by omega) (by omega) (by omega) HS.out).mono ?_;rintro e w1 ⟨k0,hk0,rfl,hS1⟩;have HS1:=qh hS1;clear hS1;go_wp2
 go_loopw [5,6] (fun vs vk wr=>∃ (k pq:Nat) (l:List Nat),vk = .int .i64 k∧vs = .string (txB l)∧l.length+k≤8∧pq+k≤p+9∧isT l∧St w0 wr [RdE b vb pq,X])
  (fun _ vk _=>(intOf vk).toNat)
 case atStart=>exact⟨k0,p+1,[],rfl,rfl,by simp;omega,by omega,(fun b hb=>by cases hb),HS1.out⟩
 case round =>
  obtain⟨k,pq,l,rfl,rfl,hk,hpq,ht,hS⟩:=hrel;have HS2:=qh hS;have Ht:=qh ht;clear hS ht;by_cases hlt:0<k
  ·go_wp2_with fail;refine(ZaC bs vb b pq 3 w0 _ _ Hb.out hlen (by omega) (by omega) (by omega) HS2.out).mono ?_;rintro e w2 ⟨c,hc,rfl,hS3⟩;have HS3:=qh (hS3.alloc_ (.cells #[.int .u8 (97+(c:Int))] 5));have hw1:IntKind.i64.wrap (97+(c:Int))=97+(c:Int):=IntWalk.i64_in _ (by omega);have hw2:=ZjD c hc;have hcv:=Zmr c hc (w2.alloc (.cells #[.int .u8 (97+(c:Int))] 5)) w2.heap.size 1 (ZjA _ _ _ 0);obtain⟨hadd,hnlt⟩:=Zln l (txB [97+c]) (by omega) (by rw[Zcr];simp);clear hS3;go_wp2;go_roundw
   case rel =>refine⟨k-1,pq+1,l++[97+c],by congr 1;omega,by rw[ZfY],by rw[List.length_append];simp;omega,by omega,ZgK Ht.out (by omega),HS3.out⟩
   case measure=>simp[intOf];omega
  have hz:((0:Int)<(k:Int))=False:=by simp;omega
  have hz2:(0<k)=False:=by simp;omega
  clear hlt;go_wp2_with fail;refine(ZgD bs vb b pq n w0 _ _ Hb.out hlen (by omega) hn1 HS2.out).mono ?_;rintro e w2 ⟨q,p2,hp2,rfl,hS3⟩;have HS3:=qh hS3;clear hS3;cases q
  ·go_wp2;go_ret;exact⟨l,p2,Ht.out,by omega,by omega,rfl,HS3.out⟩
  obtain⟨hadd1,hnlt1⟩:=Zln l { data:=#[100] } (by omega) (by decide);obtain⟨hadd2,hnlt2⟩:=Zln l { data:=#[65] } (by omega) (by decide);obtain⟨u1,hu1⟩:∃ u1,u1=txB l++{ data:=#[100] }:=⟨_,rfl⟩;obtain⟨u2,hu2⟩:∃ u2,u2=txB l++{ data:=#[65] }:=⟨_,rfl⟩;rw[← hu1] at hadd1;rw[← hu2] at hadd2;have he1:u1=txB (l++[100]):=by rw[hu1];exact ZjH l rfl
  have he2:u2=txB (l++[65]):=by rw[hu2];exact ZjH l rfl
  have HS4:=qh (HS3.out.alloc _ rfl #[.string u1,.string u2,.string { data:=#[97,97,97,97,97,97,97,97,97] }] 9);replace hu1:=qh hu1;have Hhu2:=qh hu2;clear hu2;replace he1:=qh he1;have Hhe2:=qh he2;clear he2;go_wp2_with fail;refine(ZaC bs vb b p2 3 w0 _ _ Hb.out hlen (by omega) (by omega) (by omega) (St.pack (A:=[RdE b vb p2]) (R:=[X,Ent.box w2.heap.size #[.string u1,.string u2,.string { data:=#[97,97,97,97,97,97,97,97,97] }] 9]) HS4.out)).mono ?_;rintro e w5 ⟨j,hj,rfl,hSp⟩;have HS5:=qh (St.unpack (A:=[RdE b vb p2]) (A':=[RdE b vb (p2+1)]) (R:=[X,Ent.box w2.heap.size #[.string u1,.string u2,.string { data:=#[97,97,97,97,97,97,97,97,97] }] 9]) HS4.out hSp);have c0:=HS5.out.cell (v:=.string u1) 2 0 rfl rfl;have c1:=HS5.out.cell (v:=.string u2) 2 1 rfl rfl;have c2:=HS5.out.cell (v:=.string { data:=#[97,97,97,97,97,97,97,97,97] }) 2 2 rfl rfl;clear hSp;obtain rfl|rfl|rfl:j=0∨j=1∨j=2:=by omega
  ·go_wp2;go_ret;exact⟨l++[100],p2+1,ZgK Ht.out (by omega),by rw[List.length_append];simp;omega,by omega,by rw[he1.out];rfl,HS5.out.pick [0,1] (by decide)⟩
  ·go_wp2;go_ret;exact⟨l++[65],p2+1,ZgK Ht.out (by omega),by rw[List.length_append];simp;omega,by omega,by rw[Hhe2.out];rfl,HS5.out.pick [0,1] (by decide)⟩
  go_wp2;go_ret;exact⟨[97,97,97,97,97,97,97,97,97],p2+1,(fun b hb=>by simp at hb;omega),by decide,by omega,rfl,HS5.out.pick [0,1] (by decide)⟩
theorem Zh3 (bs:List Nat) (vb:Value) (b p n:Nat) (w0 w:World) (X:Ent) (hb:Bytes 0 w0 vb bs) (hlen:bs.length≤2000) (hp:p≤10000) (hn1:n≤10000) (hS:St w0 w [RdE b vb p,X]) :
  Calls Try.prog 47 #[.pointer (some ⟨b,0,none⟩),.int .i64 ((n:Nat):Int)] w fun e w'=>∃ (l:List Nat) (p':Nat),isT l∧l.length≤10∧e = .returned (.string (txB l))∧St w0 w' [RdE b vb p',X] :=
 (Zhf bs vb b p n w0 w X hb hlen (by omega) hn1 hS).mono fun _ _ ⟨l,p',h1,h2,_,h4,h5⟩=>⟨l,p',h1,h2,h4,h5⟩
theorem Zhv (bs:List Nat) (v:Value) (w:World) (hb:Bytes 0 w v bs) (hlen:bs.length≤100000000) :
  Calls Try.prog 11 #[v] w fun e w'=>∃ l:List Nat,isT l∧l.length≤10∧e = .returned (.string (txB l))∧Below w.heap.size w w':=by
 have Hb:=qh hb;clear hb
 go_enter Try.func11, Try.ntmps11
 go_wp2_with fail;refine(ZlF bs v _ Hb.out hlen).mono ?_;rintro e w1 ⟨vb,bs',hl',hB,rfl,hS'⟩;have HB:=qh hB;have HS1:=qh hS';clear hB hS';go_wp2_with fail;refine(Zh3 bs' vb w.heap.size 0 9 w w1 _ HB.out hl' (by omega) (by omega) (St.pack (A:=[RdE w.heap.size vb 0]) (R:=[]) HS1.out)).mono ?_;rintro e w2 ⟨l,p',ht,hl,rfl,hS2⟩;have HS2:=qh hS2;have Ht:=qh ht;clear hS2 ht;go_wp2;go_ret;exact⟨l,Ht.out,hl,rfl,HS2.out.bel⟩
end Go.Proofs.Ytfanhfcamblghaa
