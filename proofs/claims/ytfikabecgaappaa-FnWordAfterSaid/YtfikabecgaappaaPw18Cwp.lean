/-
  The walk over the reference's l20Word: a text is drawn, most often a word (weak: some text of at most ten bytes).
  Conditions: the reader is at hand, its bytes read as such.
-/
import Derived.Test.YtfikabecgaappaaPw15Lgl
import Derived.Test.YtfikabecgaappaaPw16Dr
set_option maxHeartbeats 8000000
set_option maxRecDepth 100000
namespace Go.Proofs.Ytfikabecgaappaa
open Go.RowKit
theorem Ze3 (u v:List Nat):txB u++txB v=txB (u++v):=by apply ByteArray.ext;simp[txB,ByteArray.data_append]
theorem ZiT (u:List Nat) {v:ByteArray} {l:List Nat} (hv:v=txB l):txB u++v=txB (u++l):=by rw[hv,Ze3]
theorem Zfs (c:Nat) (hc:c<3):strOfNums [97+(c:Int)]=txB [97+c]:=by
 obtain rfl|rfl|rfl:c=0∨c=1∨c=2:=by omega
 all_goals rfl
theorem Zk0 (c:Nat) (hc:c<3) (w:World) (b cap:Nat) (h:w.cell? ⟨b,0,none⟩=some (.int .u8 (97+(c:Int)))) :
  (convert 22 9 (.slice (some ⟨b,0,none⟩) 1 cap)).run Try.prog w = .ok (.string (txB [97+c])) w:=by
 rw[← Zfs c hc]
 exact run_convert_bytes_arg w 22 5 Try.underlying22 Try.underlying5 b 0 1 cap [97+(c:Int)] rfl (fun i hi=>by
  obtain rfl:i=0:=by omega
  simpa using h) 9 Try.underlying9
theorem ZiQ (c:Nat) (hc:c<3):IntKind.u8.wrap (97+(c:Int))=97+(c:Int):=by
 obtain rfl|rfl|rfl:c=0∨c=1∨c=2:=by omega
 all_goals rfl
theorem Zkh (u:List Nat) (v:ByteArray) (hu:u.length≤1000) (hv:v.size≤1000):(∀ w':World,(Op.stringOp .add (txB u) v).run Try.prog w' = .ok (.string (txB u++v)) w')∧¬ 9223372036854775807<(txB u).size+v.size:=by have h:=ZbJ u;exact⟨fun w'=>run_string_add_sum w' _ _ (by omega),by omega⟩
theorem ZfS {l:List Nat} {c:Nat} (h:isT l) (hc:c<256):isT (l++[c]):=fun b hb=>by
 rcases List.mem_append.1 hb with hb|hb
 ·exact h b hb
 rw[List.mem_singleton.1 hb];exact hc
theorem ZgA (bs:List Nat) (vb:Value) (b p n:Nat) (w0 w:World) (X:Ent) (hb:Bytes 0 w0 vb bs) (hlen:bs.length≤2000) (hp:p≤800000) (hn1:n≤10000) (hS:St w0 w [RdE b vb p,X]) :
  Calls Try.prog 20 #[.pointer (some ⟨b,0,none⟩),.int .i64 ((n:Nat):Int)] w fun e w'=>∃ (l:List Nat) (p':Nat),isT l∧l.length≤10∧p'≤p+20∧e = .returned (.string (txB l))∧St w0 w' [RdE b vb p',X]:=by
 have Hb:=qh hb;have HS:=qh hS;clear hb hS
 go_enter Try.func20, Try.ntmps20
 go_wp2_with fail;refine(ZdS bs vb b p 9 w0 _ _ Hb.out hlen (by omega) (by omega) (by omega) HS.out).mono ?_;rintro e w1 ⟨k0,hk0,rfl,hS1⟩;have HS1:=qh hS1;clear hS1;go_wp2
 go_loopw [5,6] (fun vs vk wr=>∃ (k pq:Nat) (l:List Nat),vk = .int .i64 k∧vs = .string (txB l)∧l.length+k≤8∧pq+k≤p+9∧isT l∧St w0 wr [RdE b vb pq,X])
  (fun _ vk _=>(intOf vk).toNat)
 case atStart=>exact⟨k0,p+1,[],rfl,rfl,by simp;omega,by omega,(fun b hb=>by cases hb),HS1.out⟩
 case round =>
  obtain⟨k,pq,l,rfl,rfl,hk,hpq,ht,hS⟩:=hrel;have HS2:=qh hS;have Ht:=qh ht;clear hS ht;by_cases hlt:0<k
  ·go_wp2_with fail;refine(ZdS bs vb b pq 3 w0 _ _ Hb.out hlen (by omega) (by omega) (by omega) HS2.out).mono ?_;rintro e w2 ⟨c,hc,rfl,hS3⟩;have HS3:=qh (hS3.alloc_ (.cells #[.int .u8 (97+(c:Int))] 5));have hw1:IntKind.i64.wrap (97+(c:Int))=97+(c:Int):=IntWalk.i64_in _ (by omega);have hw2:=ZiQ c hc;have hcv:=Zk0 c hc (w2.alloc (.cells #[.int .u8 (97+(c:Int))] 5)) w2.heap.size 1 (ZiM _ _ _ 0);obtain⟨hadd,hnlt⟩:=Zkh l (txB [97+c]) (by omega) (by rw[ZbJ];simp);clear hS3;go_wp2;go_roundw
   case rel =>refine⟨k-1,pq+1,l++[97+c],by congr 1;omega,by rw[Ze3],by rw[List.length_append];simp;omega,by omega,ZfS Ht.out (by omega),HS3.out⟩
   case measure=>simp[intOf];omega
  have hz:((0:Int)<(k:Int))=False:=by simp;omega
  have hz2:(0<k)=False:=by simp;omega
  clear hlt;go_wp2_with fail;refine(Zlq bs vb b pq n w0 _ _ Hb.out hlen (by omega) hn1 HS2.out).mono ?_;rintro e w2 ⟨q,p2,hp2,rfl,hS3⟩;have HS3:=qh hS3;clear hS3;cases q
  ·go_wp2;go_ret;exact⟨l,p2,Ht.out,by omega,by omega,rfl,HS3.out⟩
  obtain⟨hadd1,hnlt1⟩:=Zkh l { data:=#[100] } (by omega) (by decide);obtain⟨hadd2,hnlt2⟩:=Zkh l { data:=#[65] } (by omega) (by decide);obtain⟨u1,hu1⟩:∃ u1,u1=txB l++{ data:=#[100] }:=⟨_,rfl⟩;obtain⟨u2,hu2⟩:∃ u2,u2=txB l++{ data:=#[65] }:=⟨_,rfl⟩;rw[← hu1] at hadd1;rw[← hu2] at hadd2;have he1:u1=txB (l++[100]):=by rw[hu1];exact ZiT l rfl
  have he2:u2=txB (l++[65]):=by rw[hu2];exact ZiT l rfl
  have HS4:=qh (HS3.out.alloc _ rfl #[.string u1,.string u2,.string { data:=#[97,97,97,97,97,97,97,97,97] }] 9);replace hu1:=qh hu1;have Hhu2:=qh hu2;clear hu2;replace he1:=qh he1;have Hhe2:=qh he2;clear he2;go_wp2_with fail;refine(ZdS bs vb b p2 3 w0 _ _ Hb.out hlen (by omega) (by omega) (by omega) (St.pack (A:=[RdE b vb p2]) (R:=[X,Ent.box w2.heap.size #[.string u1,.string u2,.string { data:=#[97,97,97,97,97,97,97,97,97] }] 9]) HS4.out)).mono ?_;rintro e w5 ⟨j,hj,rfl,hSp⟩;have HS5:=qh (St.unpack (A:=[RdE b vb p2]) (A':=[RdE b vb (p2+1)]) (R:=[X,Ent.box w2.heap.size #[.string u1,.string u2,.string { data:=#[97,97,97,97,97,97,97,97,97] }] 9]) HS4.out hSp);have c0:=HS5.out.cell (v:=.string u1) 2 0 rfl rfl;have c1:=HS5.out.cell (v:=.string u2) 2 1 rfl rfl;have c2:=HS5.out.cell (v:=.string { data:=#[97,97,97,97,97,97,97,97,97] }) 2 2 rfl rfl;clear hSp;obtain rfl|rfl|rfl:j=0∨j=1∨j=2:=by omega
  ·go_wp2;go_ret;exact⟨l++[100],p2+1,ZfS Ht.out (by omega),by rw[List.length_append];simp;omega,by omega,by rw[he1.out];rfl,HS5.out.pick [0,1] (by decide)⟩
  ·go_wp2;go_ret;exact⟨l++[65],p2+1,ZfS Ht.out (by omega),by rw[List.length_append];simp;omega,by omega,by rw[Hhe2.out];rfl,HS5.out.pick [0,1] (by decide)⟩
  go_wp2;go_ret;exact⟨[97,97,97,97,97,97,97,97,97],p2+1,(fun b hb=>by simp at hb;omega),by decide,by omega,rfl,HS5.out.pick [0,1] (by decide)⟩
theorem Zhl (bs:List Nat) (vb:Value) (b p n:Nat) (w0 w:World) (X:Ent) (hb:Bytes 0 w0 vb bs) (hlen:bs.length≤2000) (hp:p≤10000) (hn1:n≤10000) (hS:St w0 w [RdE b vb p,X]) :
  Calls Try.prog 20 #[.pointer (some ⟨b,0,none⟩),.int .i64 ((n:Nat):Int)] w fun e w'=>∃ (l:List Nat) (p':Nat),isT l∧l.length≤10∧e = .returned (.string (txB l))∧St w0 w' [RdE b vb p',X] :=
 (ZgA bs vb b p n w0 w X hb hlen (by omega) hn1 hS).mono fun _ _ ⟨l,p',h1,h2,_,h4,h5⟩=>⟨l,p',h1,h2,h4,h5⟩
theorem ZdO (bs:List Nat) (v:Value) (w:World) (hb:Bytes 0 w v bs) (hlen:bs.length≤100000000) :
  Calls Try.prog 5 #[v] w fun e w'=>∃ l:List Nat,isT l∧l.length≤10∧e = .returned (.string (txB l))∧Below w.heap.size w w':=by
 have Hb:=qh hb;clear hb
 go_enter Try.func5, Try.ntmps5
 go_wp2_with fail;refine(Zkv bs v _ Hb.out hlen).mono ?_;rintro e w1 ⟨vb,bs',hl',hB,rfl,hS'⟩;have HB:=qh hB;have HS1:=qh hS';clear hB hS';go_wp2_with fail;refine(Zhl bs' vb w.heap.size 0 9 w w1 _ HB.out hl' (by omega) (by omega) (St.pack (A:=[RdE w.heap.size vb 0]) (R:=[]) HS1.out)).mono ?_;rintro e w2 ⟨l,p',ht,hl,rfl,hS2⟩;have HS2:=qh hS2;have Ht:=qh ht;clear hS2 ht;go_wp2;go_ret;exact⟨l,Ht.out,hl,rfl,HS2.out.bel⟩
def wxK (l:List Nat):Nat→List (Int × Int)
 | 0=>[]
 | k+1=>wxK l k++[(3,((l.getD k 0-97:Nat):Int))]++(if k=0 then [] else [(4,0)])
def ZaS (l:List Nat):List (Int × Int):=if wdOk l=true then(if l.length=0 then [(2,0)] else wxK l l.length) else []
theorem Zfr (l:List Nat):∀ k,(wxK l k).length≤2*k
 | 0=>Nat.le_refl _
 | k+1=>by
  have:=Zfr l k;unfold wxK;rw[List.length_append,List.length_append,List.length_singleton]
  split<;>simp<;>omega
def fin3 (c:Nat):Fin 3:=⟨c % 3,Nat.mod_lt _ (by decide)⟩
theorem Zd2 {c:Nat} (h:c<3):(fin3 c).val=c:=Nat.mod_eq_of_lt h
def wxT (ls:List Nat):Nat→Ex
 | 0 => .one
 | k+1=>if k=0 then .ltr (fin3 (ls.getD k 0)) else .join (wxT ls k) (.ltr (fin3 (ls.getD k 0)))
theorem Zg0 (ls:List Nat) (h:isW ls):∀ k,k≤ls.length→∀ w,memE (wxT ls k) w↔w=ls.take k
 | 0,_,w=>by rw[List.take_zero];exact Iff.rfl
 | k+1,hk,w=>by
  have hc:ls.getD k 0<3:=h _ (by rw[List.getD_eq_getElem?_getD,List.getElem?_eq_getElem (by omega)];exact List.getElem_mem _);have ht:ls.take (k+1)=ls.take k++[ls.getD k 0]:=by rw[List.take_add_one,List.getElem?_eq_getElem (by omega),List.getD_eq_getElem?_getD,List.getElem?_eq_getElem (by omega)];rfl
  unfold wxT;by_cases h0:k=0
  ·subst h0;rw[if_pos rfl,ht,List.take_zero,List.nil_append];show w=[(fin3 (ls.getD 0 0)).val]↔_;rw[Zd2 hc]
  rw[if_neg h0,ht];show(∃ u v,w=u++v∧memE (wxT ls k) u∧v=[(fin3 (ls.getD k 0)).val])↔_;rw[Zd2 hc];constructor
  ·rintro⟨u,v,rfl,hu,rfl⟩;rw[(Zg0 ls h k (by omega) u).1 hu]
  rintro rfl;exact⟨_,_,rfl,(Zg0 ls h k (by omega) _).2 rfl,rfl⟩
theorem ZhB {l:List Nat} (h:wdOk l=true):∀ k,1≤k→k≤l.length→(wxT (lets l) k).post=wxK l k
 | 0,h1,_=>absurd h1 (by omega)
 | k+1,_,hk=>by
  have hg:(lets l).getD k 0=l.getD k 0-97:=by unfold lets;rw[List.getD_eq_getElem?_getD,List.getElem?_map,List.getElem?_eq_getElem (by omega),List.getD_eq_getElem?_getD,List.getElem?_eq_getElem (by omega)];rfl
  have hc:(lets l).getD k 0<3:=ZdY h _ (by rw[List.getD_eq_getElem?_getD,List.getElem?_eq_getElem (by simp[lets];omega)];exact List.getElem_mem _);unfold wxT wxK;by_cases h0:k=0
  ·subst h0;rw[if_pos rfl,if_pos rfl];show [(3,(((fin3 ((lets l).getD 0 0)).val:Nat):Int))]=_;rw[Zd2 hc,hg];rfl
  rw[if_neg h0,if_neg h0];show(wxT (lets l) k).post++[(3,(((fin3 ((lets l).getD k 0)).val:Nat):Int))]++[(4,0)]=_;rw[Zd2 hc,hg,ZhB h k (by omega) (by omega)]
theorem ZiR {l:List Nat} (h:wdOk l=true):(wxT (lets l) l.length).post=ZaS l∧∀ w,memE (wxT (lets l) l.length) w↔w=lets l:=by
 have hl:(lets l).length=l.length:=by simp[lets]
 refine⟨?_,fun w => ?_⟩
 ·unfold ZaS;rw[if_pos h];by_cases h0:l.length=0
  ·rw[if_pos h0,h0];rfl
  rw[if_neg h0,ZhB h _ (by omega) (Nat.le_refl _)]
 rw[Zg0 (lets l) (ZdY h) _ (by omega),← hl,List.take_length]
theorem Try.infoPart:(Try.prog.info? 34).map (fun i=>(i.zero,i.size,i.bytes))=some (some (.agg #[.int .i64 0,.int .i64 0]),2,16):=by kernel_rfl
abbrev PZ:Value:=.agg #[.int .i64 0,.int .i64 0]
theorem ZjN (n:Nat) (w:World) (hn:n≤100000) :
  Calls Try.prog 78 #[.slice none 0 0,.int .i64 (n:Int)] w fun e w'=>∃ a c,e = .returned (.slice a 0 c)∧St w w' [Ent.row 34 2 (.slice a 0 c) 0 []]:=by
 obtain⟨j0,hj,hy0,hy1,hy2⟩:=info_parts Try.infoPart;have h1:¬ ((n:Int)<0):=by omega
 by_cases h0:n=0
 ·subst h0;have hS0:=(St.start w).nilRow 34 2;have HhS0:=qh hS0;clear hS0
  go_enter Try.func78, Try.ntmps78
  go_wp2;go_ret;exact⟨none,0,rfl,HhS0.out⟩
 have hrz:∀ ty,(Builtin.append_ #[24,3] ty #[.slice none 0 0,.int .i64 (n:Int)]).run Try.prog w =
   .ok (.slice (some ⟨w.heap.size,0,none⟩) n (grownCap w n 0 34)) (w.drew.alloc (.cells (Builtin.zeroCells PZ.cells n++Builtin.zeroCells PZ.cells (grownCap w n 0 34 - n)) 34)):=fun ty=>by
  have h:=Lib.run_append_grow_zeros w 24 3 ty 34 j0 PZ .i64 .i64 Try.underlying24 Try.underlying3 hj hy0 none 0 0 [] (run_firstCells_none w.drew j0.size 0 0 0) n (by omega) (by omega) (by omega) (by omega) (by rw[hy2];omega) (by rw[hy2];exact growslice_fits (by omega) (by omega));simpa using h
 have hGn:n≤grownCap w n 0 34:=grownCap_ge w _ _ _;have hG63:grownCap w n 0 34 ≤ maxLen:=grownCap_le_maxLen w n 0 34 (by unfold maxLen;omega);obtain⟨G,hG⟩:=eI (grownCap w n 0 34);obtain⟨cur,hcur⟩:=eI (Builtin.zeroCells PZ.cells n++Builtin.zeroCells PZ.cells (G-n));have hcs:cur.size=G*2:=by rw[hcur,Array.size_append,size_zeroCells,size_zeroCells];show n*2+(G-n)*2=G*2;rw[← hG] at hGn;omega
 rw[← hG] at hrz hGn hG63;rw[← hcur] at hrz
 have hown:(w.drew.alloc (.cells cur 34)).ownsRow w.heap.size 34 2 (.slice (some ⟨w.heap.size,0,none⟩) 0 G) 0 [] :=
  ⟨rfl,.inr ⟨w.heap.size,G,cur,rfl,Nat.le_refl _,heap_alloc_new w.drew _,Nat.zero_le _,hG63,hcs,by simp⟩⟩
 have hS0:=(St.start w).made ((Below.refl _ _).drew.alloc (Nat.le_refl _) (.cells cur 34)) hown;have hG63':G≤9223372036854775807:=by unfold maxLen at hG63;omega
 replace hG:=qh hG;have Hhcur:=qh hcur;clear hcur;have Hhcs:=qh hcs;clear hcs;have Hhown:=qh hown;clear hown;have HhS0:=qh hS0;clear hS0
 go_enter Try.func78, Try.ntmps78
 go_wp2_with (at_builtin;refine Lib.wpList_append_run _ rfl _ _ _ _ rfl _ _ rfl rfl _ _ (hrz _) ?_);go_ret;exact⟨_,G,rfl,HhS0.out⟩
def sumL (ess:List (List (Int × Int))) (k:Nat):Nat:=(ess.take k).flatten.length
theorem ZcS (ess:List (List (Int × Int))):sumL ess 0=0:=by simp[sumL]
theorem Zgh {ess:List (List (Int × Int))} {k:Nat} (h:k<ess.length):sumL ess (k+1)=sumL ess k+(ess.getD k []).length∧(ess.take (k+1)).flatten=(ess.take k).flatten++ess.getD k []:=by
 have e:ess.take (k+1)=ess.take k++[ess.getD k []]:=by rw[List.take_succ_eq_append_getElem h];simp[h]
 have e2:(ess.take (k+1)).flatten=(ess.take k).flatten++ess.getD k []:=by rw[e];simp
 exact⟨by unfold sumL;rw[e2,List.length_append],e2⟩
theorem Zg4 {ess:List (List (Int × Int))} (hl:∀ es∈ess,es.length≤1000):∀ k,k≤ess.length→sumL ess k≤1000*k
 | 0,_=>by rw[ZcS];omega
 | k+1,h=>by have ih:=Zg4 hl k (by omega);have h1:=(Zgh (ess:=ess) (k:=k) (by omega)).1;have h2:=hl (ess.getD k []) (by simp[List.getElem?_eq_getElem (show k<ess.length by omega)]);omega
theorem Zhw (ess:List (List (Int × Int))) (vas:List Value) (ao:Option Addr) (b cap:Nat) (w:World) (hao:0<ess.length→ao=some ⟨b,0,none⟩) (hm:ess.length≤100) (hl:∀ es∈ess,es.length≤1000) (hb:0<ess.length→b<w.heap.size)
  (hc:∀ i,i<ess.length→w.cell? ⟨b,i,none⟩=some (vas.getD i undef)) (hp:∀ i,i<ess.length→Pairs 0 w (vas.getD i undef) (ess.getD i [])) :
  Calls Try.prog 63 #[.slice ao ess.length cap] w fun e w'=>∃ a c,e = .returned (.slice a ess.flatten.length c)∧St w w' [Ent.row 34 2 (.slice a ess.flatten.length c) ess.flatten.length (ess.flatten.flatMap Zah)]:=by
 obtain⟨j0,hj,hy0,hy1,hy2⟩:=info_parts Try.infoPart;obtain⟨m,hmm⟩:=eI (ess.length);have hsum:=fun k (h:k<ess.length)=>Zgh h
 have hle:=Zg4 hl;have hfin:sumL ess m=ess.flatten.length∧(ess.take m).flatten=ess.flatten:=by rw[hmm];unfold sumL;rw[List.take_length];exact⟨rfl,rfl⟩
 have hl':∀ k,k<m→(ess.getD k []).length≤1000:=fun k hk=>hl _ (by simp[List.getElem?_eq_getElem (show k<ess.length by omega)])
 rw[← hmm] at hm hc hp hsum hle hao hb ⊢;have Hao:=qh hao;have Hb:=qh hb;have Hc:=qh hc;have Hp:=qh hp;have Hsum:=qh hsum;have Hle:=qh hle;have Hfin:=qh hfin;have Hl:=qh hl';replace hmm:=qh hmm;clear hc hp hsum hle hfin hl hl' hao hb
 go_enter Try.func63, Try.ntmps63
 go_wp2
 go_loopw [3,11] (fun n i wr=>∃ k:Nat,i = .int .i64 (k:Int)∧n = .int .i64 ((sumL ess k:Nat):Int)∧k≤m∧w=wr) (fun _ i _=>m-(intOf i).toNat)
 case atStart=>exact⟨0,rfl,by rw[ZcS];rfl,Nat.zero_le _,rfl⟩
 case round =>
  obtain⟨k,rfl,rfl,hk,rfl⟩:=hrel;by_cases hlt:k<m
  ·have hlt2:(k:Int)<m:=by omega
   have hao:=Hao.out (by omega);subst hao;obtain⟨q1,q2⟩:=Hsum.out k hlt;have q3:=Hle.out k hk;have q4:=Hl.out k hlt;have c0:=Hc.out k hlt;obtain⟨ax,cx,hv,hv1,hv2,-⟩:=(Hp.out k hlt).form;rw[hv] at c0;obtain⟨L,hL⟩:=eI ((ess.getD k []).length);obtain⟨s,hs⟩:=eI (sumL ess k);rw[← hL] at q1 q4 c0;rw[← hs] at q1 q3;rw[← hs];have hw:IntKind.i64.wrap ((s:Int)+(L:Int))=(s:Int)+(L:Int):=IntWalk.i64_in _ (by omega);have hng:¬ (s:Int)+(L:Int)<0:=by omega
   have Hq1:=qh q1;clear q1;replace hL:=qh hL;have Hhs:=qh hs;clear hs;clear q2 hv hv1 hv2;go_wp2;go_roundw
   case rel=>exact⟨k+1,by go_num,by rw[Hq1.out];congr 1,by omega,trivial⟩
   case measure=>simp[intOf];omega
  obtain rfl:k=m:=by omega
  obtain⟨s,hs⟩:=eI (sumL ess k);have q3:=Hle.out k hk;rw[← hs] at q3 ⊢;have Hhs:=qh hs;clear hs;clear hlt;go_wp2_with fail;refine(ZjN s _ (by omega)).mono ?_;rintro e w1 ⟨a6,c6,rfl,hS'⟩;have HS1:=qh hS';clear hS';go_wp2
  go_loopw [6,27] (fun vo i wr=>∃ (j:Nat) (a:Option Addr) (c:Nat),i = .int .i64 (j:Int)∧vo = .slice a (sumL ess j) c∧j≤k∧St w wr [Ent.row 34 2 (.slice a (sumL ess j) c) (sumL ess j) ((ess.take j).flatten.flatMap Zah)]) (fun _ i _=>k-(intOf i).toNat)
  case atStart=>exact⟨0,a6,c6,rfl,by rw[ZcS],by omega,by rw[ZcS];exact HS1.out⟩
  case round =>
   obtain⟨j,a,c,rfl,rfl,hj2,hS⟩:=hrel;by_cases hlt:j<k
   ·have hlt2:(j:Int)<k:=by omega
    have hao:=Hao.out (by omega);subst hao;have hb:=Hb.out (by omega);obtain⟨q1,q2⟩:=Hsum.out j hlt;have q3:=Hle.out j (by omega);have q4:=Hl.out j hlt;have m0:=(bcell hS.bel b j hb).trans (Hc.out j hlt);have hPr:=(Hp.out j hlt).below hS.bel;obtain⟨ax,cx,hv,hv1,hv2,-⟩:=hPr.form;rw[hv] at m0 hPr;obtain⟨E,hE⟩:=eI (ess.getD j []);obtain⟨Z,hZ⟩:=eI ((ess.take j).flatten);rw[← hE] at q1 q2 q4 m0 hPr hv1;rw[← hZ] at q2 hS;obtain⟨L,hL⟩:=eI (E.length);obtain⟨s2,hs2⟩:=eI (sumL ess j);have hPr2:Sl 0 wr (.slice ax L cx) L 2 (E.flatMap Zah):=by rw[hL];exact hPr
    rw[← hL] at q1 q4 m0;rw[← hs2] at q1 q3 hS;rw[← hs2];have HS:=qh hS;have HR:=qh (hS.row 0 rfl);have HXw:=qh hPr2;have Hq1:=qh q1;clear q1;have Hq2:=qh q2;clear q2;replace hL:=qh hL;have Hhs2:=qh hs2;clear hs2;replace hE:=qh hE;have HhZ:=qh hZ;clear hZ;clear hS hv hv1 hv2 hPr hPr2 hlt;go_wp2_with (at_builtin;refine ZaW _ rfl _ _ _ rfl _ 34 j0 PZ 2 16 Try.underlying24 hj hy0 hy1 hy2 rfl (by omega) _ s2 _ rfl HR.out _ L (E.flatMap Zah) rfl HXw.out ZlU (by unfold maxLen;omega) (by omega) HS.out.size ?_;intro a6 c6 w6 hown6 hgrow6 hat6;have HS6:=qh (HS.out.appS 0 rfl hown6 hgrow6 hat6);clear hown6 hgrow6 hat6);go_roundw
    case rel=>exact⟨j+1,a6,c6,by go_num,by rw[Hq1.out],by omega,by rw[Hq1.out,Hq2.out,List.flatMap_append];exact HS6.out⟩
    case measure=>simp[intOf];omega
   obtain rfl:j=k:=by omega
   rw[Hfin.out.1,Hfin.out.2] at hS;rw[Hfin.out.1];have HS:=qh hS;clear hS hlt;go_wp2;go_ret;exact⟨a,c,rfl,HS.out⟩
def RPo (es:List (Int × Int)) (w:World) (e:Ending) (w':World):Prop:=∃ a c,e = .returned (.slice a es.length c)∧St w w' [Ent.row 34 2 (.slice a es.length c) es.length (es.flatMap Zah)]
theorem ZfG (k:Int) (ess:List (List (Int × Int))) (vas:List Value) (b cap:Nat) (w:World) (hm:ess.length≤100) (hl:∀ es∈ess,es.length≤1000) (hb:b<w.heap.size)
  (hc:∀ i,i<ess.length→w.cell? ⟨b,i,none⟩=some (vas.getD i undef)) (hp:∀ i,i<ess.length→Pairs 0 w (vas.getD i undef) (ess.getD i [])) :
  Calls Try.prog 37 #[.int .i64 k,.slice (some ⟨b,0,none⟩) ess.length cap] w fun e w'=>RPo (ess.flatten++[(k,0)]) w e w':=by
 obtain⟨j0,hj,hy0,hy1,hy2⟩:=info_parts Try.infoPart;have hcon:=qh (Zhw ess vas (some ⟨b,0,none⟩) b cap w (fun _=>rfl) hm hl (fun _=>hb) hc hp);have hle:=Zg4 hl ess.length (Nat.le_refl _);have hfl:sumL ess ess.length=ess.flatten.length:=by unfold sumL;rw[List.take_length]
 rw[hfl] at hle;clear hc hp hl hfl;obtain⟨m,hmm⟩:=eI (ess.length);rw[← hmm] at hcon hm hle ⊢;obtain⟨E,hE⟩:=eI (ess.flatten);rw[← hE] at hcon hle ⊢;obtain⟨L,hL⟩:=eI (E.length);rw[← hL] at hcon hle;have hL2:(E++[(k,0)]).length=L+1:=by rw[hL];simp
 unfold RPo;rw[hL2];replace hmm:=qh hmm;replace hE:=qh hE;have HhL:=qh hL;clear hL;have HhL2:=qh hL2;clear hL2
 go_enter Try.func37, Try.ntmps37
 go_wp2_with (first
  | (go_at_call 63;refine(hcon.out).mono ?_;rintro e w1 ⟨a6,c6,rfl,hS'⟩;have hS2:=hS'.alloc w1.heap.size rfl #[.int .i64 k,.int .i64 0] 34;have hS3:=hS2.boxrow 1 1 2 [.int .i64 k,.int .i64 0] rfl rfl (by unfold maxLen;omega);have HS:=qh hS3;have HR:=qh (hS3.row 0 rfl);have HX:=qh ((Zaa (hS3.row 1 rfl)).sl (by omega));clear hS' hS2 hS3)
  | (at_builtin;refine ZaW _ rfl _ _ _ rfl _ 34 j0 PZ 2 16 Try.underlying24 hj hy0 hy1 hy2 rfl (by omega) _ L _ rfl HR.out _ 1 [.int .i64 k,.int .i64 0] rfl (HX.out.mono (Nat.zero_le _)) (by intro u hu;simp at hu;rcases hu with rfl|rfl<;>rfl) (by unfold maxLen;omega) (by omega) HS.out.size ?_;intro a6 c6 w6 hown6 hgrow6 hat6;have HS6:=qh (HS.out.appS 0 rfl hown6 hgrow6 hat6);clear hown6 hgrow6 hat6))
 go_ret;exact⟨_,_,rfl,by rw[List.flatMap_append];exact HS6.out.pick [0] (by decide)⟩
theorem ZkI (k:Int) (w:World):Calls Try.prog 36 #[.int .i64 k] w fun e w'=>RPo [(k,0)] w e w':=by
 have hS:=((St.start w).alloc w.heap.size rfl #[.int .i64 k,.int .i64 0] 34).boxrow 0 1 2 [.int .i64 k,.int .i64 0] rfl rfl (by unfold maxLen;omega);replace hS:=qh hS
 go_enter Try.func36, Try.ntmps36
 go_wp2;go_ret;exact⟨_,_,rfl,hS.out⟩
theorem Zlo (k:Int) (xs ys:List (Int × Int)) (v u:Value) (b cap:Nat) (w:World) (hl:xs.length≤1000) (hl2:ys.length≤1000) (hb:b<w.heap.size) (h0:w.cell? ⟨b,0,none⟩=some v) (h1:w.cell? ⟨b,1,none⟩=some u) (hp:Pairs 0 w v xs) (hq:Pairs 0 w u ys) :
  Calls Try.prog 37 #[.int .i64 k,.slice (some ⟨b,0,none⟩) 2 cap] w fun e w'=>RPo (xs++ys++[(k,0)]) w e w':=by
 have h:=ZfG k [xs,ys] [v,u] b cap w (by simp) (by intro es he;simp at he;rcases he with rfl|rfl<;>assumption) hb (fun i hi=>by
  obtain rfl|rfl:i=0∨i=1:=by simp at hi;omega
  ·exact h0
  ·exact h1) (fun i hi=>by
  obtain rfl|rfl:i=0∨i=1:=by simp at hi;omega
  ·exact hp
  exact hq)
 have e:[xs,ys].flatten++[(k,0)]=xs++ys++[(k,0)]:=by simp
 rw[e] at h;exact h
theorem ZdV {x y:Int}:∀ u∈[Value.int .i64 x,Value.int .i64 y],u.oneCell'=true:=by intro u hu;simp at hu;rcases hu with rfl|rfl<;>rfl
theorem Try.infoPart2:(Try.prog.info? 34).map (fun i=>(i.zero,i.size,i.bytes))=some (some (.agg #[.int .i64 0,.int .i64 0]),2,16):=by kernel_rfl
theorem ZiP {l:List Nat}:wxK l 1=[(3,((l.getD 0 0-97:Nat):Int))]:=by unfold wxK;rw[if_pos rfl];rfl
theorem Zkj {l:List Nat} {k:Nat} (h:0<k):wxK l (k+1)=wxK l k++[(3,((l.getD k 0-97:Nat):Int))]++[(4,0)]:=by rw[wxK,if_neg (by omega)]
theorem Zge (l:List Nat) (w:World) (ht:isT l) (hwd:wdOk l=true):Calls Try.prog 23 #[.string (txB l)] w fun e w'=>RPo (ZaS l) w e w':=by
 obtain⟨hn8,h97⟩:=Zcu hwd;have hes:ZaS l=if l.length=0 then [(2,0)] else wxK l l.length:=by unfold ZaS;rw[if_pos hwd]
 rw[hes];obtain⟨n,hn⟩:=eJ (l.length);have hsz:=ZbJ l;have hemp:=Zgf l;rw[hn] at hsz hn8;have HL:=qh (fun (i:Nat) (u:World) (hi:i<n)=>ZcN l i (by omega) ht (h97 i (by omega)).1 u);by_cases h0:n=0
 ·rw[hn,if_pos h0];have hle:l=[]:=List.eq_nil_of_length_eq_zero (by omega);have he:(txB l).toList.isEmpty=true:=by rw[hemp,hle];rfl
  replace hle:=qh hle;have Hhn:=qh hn;clear hn;clear hes hemp h0 h97
  go_enter Try.func23, Try.ntmps23
  go_wp2_with (go_at_call 36;refine(ZkI 2 _).mono ?_;rintro e w1 ⟨a,c,rfl,hS⟩);go_ret;exact⟨a,c,rfl,hS⟩
 rw[hn,if_neg h0];have hle:l≠[]:=fun h=>h0 (by rw[← hn,h];rfl)
 have he:(txB l).toList.isEmpty=false:=by rw[hemp];cases l with|nil=>exact absurd rfl hle|cons=>rfl
 have hn1:1≤n:=by omega
 obtain⟨c0,hc0⟩:∃ c0:Nat,c0=l.getD 0 0-97:=⟨_,rfl⟩;have HS1:=qh (((St.start w).alloc w.heap.size rfl #[.int .i64 3,.int .i64 (c0:Int)] 34).boxrow 0 1 2 [.int .i64 3,.int .i64 (c0:Int)] rfl rfl (by unfold maxLen;omega));have HL0:=qh (fun u:World=>show Calls Try.prog 44 #[.string (txB l),.int .i64 0] u fun e w'=>e = .returned (.int .i64 (c0:Int))∧u=w' from by rw[hc0];exact HL.out 0 u (by omega));replace hc0:=qh hc0;have Hhn:=qh hn;clear hn;clear hes hemp h0 h97 hle
 go_enter Try.func23, Try.ntmps23
 go_wp2_with (go_at_call 44;refine(HL0.out _).mono ?_;rintro e w' ⟨rfl,rfl⟩)
 go_loopw [3,4] (fun ev iv wr=>∃ (k c:Nat) (a:Option Addr),iv = .int .i64 (k:Int)∧ev = .slice a (wxK l k).length c∧1≤k∧k≤n∧St w wr [Ent.row 34 2 (.slice a (wxK l k).length c) (wxK l k).length ((wxK l k).flatMap Zah)]) (fun _ iv _=>n-(intOf iv).toNat)
 case atStart =>refine⟨1,1,some ⟨w.heap.size,0,none⟩,rfl,by rw[ZiP];rfl,by omega,hn1,?_⟩;rw[ZiP,← hc0.out];exact HS1.out
 case round =>
  obtain⟨k,c,a,rfl,rfl,hk1,hkn,hS⟩:=hrel;have hwi:IntKind.i64.wrap ((k:Int)+1)=(k:Int)+1:=IntWalk.i64_in _ (by omega);have hlen:=Zfr l k;obtain⟨E,hE⟩:=eI (wxK l k);rw[← hE] at hS hlen ⊢;by_cases hlt:k<n
  ·have hlI:(k:Int)<(n:Int):=by omega
   obtain⟨ck,hck⟩:∃ ck:Nat,ck=l.getD k 0-97:=⟨_,rfl⟩;have HLk:=qh (fun u:World=>show Calls Try.prog 44 #[.string (txB l),.int .i64 (k:Int)] u fun e w'=>e = .returned (.int .i64 (ck:Int))∧u=w' from by rw[hck];exact HL.out k u hlt);have hst:wxK l (k+1)=E++[(3,(ck:Int))]++[(4,0)]:=by rw[Zkj (by omega),← hE,← hck]
   have hS2:=(hS.alloc wr.heap.size rfl #[.int .i64 3,.int .i64 (ck:Int)] 34).boxrow 1 1 2 [.int .i64 3,.int .i64 (ck:Int)] rfl rfl (by unfold maxLen;omega);have hS3:=hS2.alloc (wr.heap.size+1) (by simp) #[.slice a E.length c,.slice (some ⟨wr.heap.size,0,none⟩) 1 1] 24;have HS3:=qh hS3;have hx:Pairs 0 _ (.slice a E.length c) E:=((Zaa (hS3.row 0 rfl)).sl (by omega)).mono (Nat.zero_le _);have hy:Pairs 0 _ (.slice (some ⟨wr.heap.size,0,none⟩) 1 1) [(3,(ck:Int))]:=((Zaa (hS3.row 1 rfl)).sl (by omega)).mono (Nat.zero_le _);have HX:=qh hx;have HY:=qh hy;have q0:=hS3.cell (v:=.slice a E.length c) 2 0 rfl rfl;have q1:=hS3.cell (v:=.slice (some ⟨wr.heap.size,0,none⟩) 1 1) 2 1 rfl rfl;have hbl:=(hS3.boxlt 2 rfl).2;have Hhst:=qh hst;clear hst;have Hhck:=qh hck;clear hck;replace hE:=qh hE;clear hS hS2 hS3 hx hy
   go_wp2_with (first
    | (go_at_call 44;refine(HLk.out _).mono ?_;rintro e w' ⟨rfl,rfl⟩)
    | (go_at_call 37;refine(Zlo 4 E [(3,(ck:Int))] _ _ _ 2 _ (by omega) (by simp) hbl q0 q1 HX.out HY.out).mono ?_;rintro e w5 ⟨g,cg,rfl,hSo⟩;have HS5:=qh ((HS3.out.cat hSo).pick [3] (by decide));clear hSo))
   go_roundw
   case rel =>refine⟨k+1,cg,g,by go_num,by rw[Hhst.out];simp,by omega,by omega,?_⟩;rw[Hhst.out];exact HS5.out
   case measure=>simp[intOf];omega
  have hlI:¬ (k:Int)<(n:Int):=by omega
  have hkn2:k=n:=by omega
  have hEn:wxK l n=E:=by rw[hE,hkn2]
  have HS:=qh hS;replace hE:=qh hE;have Hhkn2:=qh hkn2;clear hkn2;have HhEn:=qh hEn;clear hEn;clear hS hlt;go_wp2;go_ret;rw[HhEn.out];exact⟨a,c,rfl,HS.out⟩
theorem ZdI (l:List Nat) (w:World) (ht:isT l) (hl:l.length≤2000000):Calls Try.prog 6 #[.string (txB l)] w fun e w'=>RPo (ZaS l) w e w':=by
 obtain⟨y,hy⟩:=eJ (wdOk l);have Hc:=qh (fun u=>Zbd l u ht hl y hy);cases y with
 | false =>
  have he:ZaS l=[]:=by unfold ZaS;rw[hy];rfl
  rw[he];clear hy ht hl
  go_enter Try.func6, Try.ntmps6
  go_wp2_with (go_at_call 22;refine(Hc.out _).mono ?_;rintro e w' ⟨rfl,rfl⟩);go_ret;exact⟨none,0,rfl,(St.start w).nilRow 34 2⟩
 | true =>
  have Hx:=qh (fun u=>Zge l u ht hy);clear hy ht hl
  go_enter Try.func6, Try.ntmps6
  go_wp2_with (first
   | (go_at_call 22;refine(Hc.out _).mono ?_;rintro e w' ⟨rfl,rfl⟩)
   | (go_at_call 23;refine(Hx.out _).mono ?_;rintro e w1 ⟨a,c,rfl,hS⟩))
  go_ret;exact⟨a,c,rfl,hS⟩
theorem ZdG (l:List Nat) (w:World) (ht:isT l) (hl:l.length≤2000000):Calls Try.prog 8 #[.string (txB l)] w fun e w'=>RPo (ZaS l) w e w':=by
 obtain⟨y,hy⟩:=eJ (wdOk l);have Hc:=qh (fun u=>Zdf l u ht hl y hy);obtain⟨i0,hi,hz0,hz1,hz2⟩:=info_parts Try.infoPart2;replace hi:=qh hi;have Hhz0:=qh hz0;clear hz0;have Hhz1:=qh hz1;clear hz1;have Hhz2:=qh hz2;clear hz2;have HS0:=qh ((St.start w).newRow0 34 2);cases y with
 | false =>
  have he:ZaS l=[]:=by unfold ZaS;rw[hy];rfl
  rw[he];clear hy ht hl
  go_enter Try.func8, Try.ntmps8
  go_wp2_with (go_at_call 24;refine(Hc.out _).mono ?_;rintro e w' ⟨rfl,rfl⟩);go_ret;exact⟨_,0,rfl,HS0.out⟩
 | true =>
  obtain⟨hn8,h97⟩:=Zcu hy;have hes:ZaS l=if l.length=0 then [(2,0)] else wxK l l.length:=by unfold ZaS;rw[if_pos hy]
  obtain⟨Q,hQ⟩:=eJ (ZaS l);rw[hQ] at hes ⊢;obtain⟨n,hn⟩:=eJ (l.length);have hsz:=ZbJ l;have hemp:=Zgf l;rw[hn] at hsz hn8 hes;have HQ:=qh hes;have Ht:=qh ht;have H97:=qh h97;have Hemp:=qh hemp;have Hhn:=qh hn;clear hn;clear hy ht hl hes h97 hemp hQ
  go_enter Try.func8, Try.ntmps8
  go_wp2_with (go_at_call 24;refine(Hc.out _).mono ?_;rintro e w' ⟨rfl,rfl⟩)
  go_loopw [3,4] (fun ev iv wr=>∃ (k c:Nat) (a:Option Addr),iv = .int .i64 (k:Int)∧ev = .slice a (wxK l k).length c∧k≤n∧St w wr [Ent.row 34 2 (.slice a (wxK l k).length c) (wxK l k).length ((wxK l k).flatMap Zah)]) (fun _ iv _=>n-(intOf iv).toNat)
  case atStart=>exact⟨0,0,_,rfl,rfl,Nat.zero_le _,HS0.out⟩
  case round =>
   obtain⟨k,c,a,rfl,rfl,hkn,hS⟩:=hrel;obtain⟨wq,hwq⟩:∃ wq:World,wq=wr:=⟨_,rfl⟩;subst hwq;have hwi:IntKind.i64.wrap ((k:Int)+1)=(k:Int)+1:=IntWalk.i64_in _ (by omega);have hlen:=Zfr l k;obtain⟨E,hE⟩:=eI (wxK l k);rw[← hE] at hS hlen ⊢;by_cases hlt:k<n
   ·have hlI:(k:Int)<(n:Int):=by omega
    have hil:k<l.length:=by rw[Hhn.out];exact hlt
    have hrun:=ZcR hil Ht.out;obtain⟨h97a,h97b⟩:=H97.out k hil;obtain⟨ck,hck⟩:∃ ck:Nat,ck=l.getD k 0-97:=⟨_,rfl⟩;have hc2:((l.getD k 0:Nat):Int)=97+(ck:Int):=by omega
    rw[hc2] at hrun
    have hw8:IntKind.u8.wrap (97+(ck:Int)-97)=(ck:Int):=by
     have:97+(ck:Int)-97=(ck:Int):=by omega
     rw[this];exact IntWalk.u8_in _ (by omega)
    have hw9:IntKind.i64.wrap (ck:Int)=(ck:Int):=IntWalk.i64_in _ (by omega);have HSa:=qh (hS.alloc wq.heap.size rfl #[.int .i64 3,.int .i64 (ck:Int)] 34);have HR:=qh (HSa.out.row 0 rfl);have hst:wxK l (k+1)=E++[(3,(ck:Int))]++(if k=0 then [] else [(4,0)]):=by rw[wxK,← hE,← hck]
    have Hhst:=qh hst;clear hst;replace hck:=qh hck;replace hE:=qh hE;clear hS hc2 h97a h97b hil;by_cases hk0:k=0
    ·have hkI:¬ (k:Int)>0:=by omega
     have hkI2:(k:Int)≤0:=by omega
     have hst0:=Hhst.out;rw[if_pos hk0,List.append_nil] at hst0;have Hhst0:=qh hst0;clear hst0;have Hhk0:=qh hk0;clear hk0;go_wp2_with (at_builtin;refine wpList_append_lies _ rfl _ _ _ rfl _ 34 i0 (.agg #[.int .i64 0,.int .i64 0]) 2 16 Try.underlying24 hi.out Hhz0.out Hhz1.out Hhz2.out rfl (by omega) _ E.length _ rfl HR.out ⟨wq.heap.size,0,none⟩ 1 1 [.int .i64 3,.int .i64 (ck:Int)] rfl rfl (World.news_of_block (HSa.out.box 1 rfl)) ZdV (by omega) (by unfold maxLen;omega) (by omega) HSa.out.size _ rfl ?_;intro g7 c7 w7 hown hgrow hat hlt';have HS7:=qh ((HSa.out.app 0 rfl hown hgrow hat).pick [0] (by decide));clear hown hgrow hat hlt';have HSb:=qh (HS7.out.alloc w7.heap.size rfl #[.int .i64 4,.int .i64 0] 34);have HR2:=qh (HSb.out.row 0 rfl));go_roundw
     case rel =>refine⟨k+1,c7,some ⟨g7,0,none⟩,by go_num,by rw[Hhst0.out,List.length_append];rfl,by omega,?_⟩;rw[Hhst0.out,List.length_append,List.flatMap_append];exact HS7.out
     case measure=>simp[intOf]<;>omega
    have hkI:(k:Int)>0:=by omega
    have hkI2:0<(k:Int):=by omega
    have hst0:=Hhst.out;rw[if_neg hk0] at hst0;have Hhst0:=qh hst0;clear hst0;have Hhk0:=qh hk0;clear hk0;go_wp2_with (first|(at_builtin;refine wpList_append_lies _ rfl _ _ _ rfl _ 34 i0 (.agg #[.int .i64 0,.int .i64 0]) 2 16 Try.underlying24 hi.out Hhz0.out Hhz1.out Hhz2.out rfl (by omega) _ E.length _ rfl HR.out ⟨wq.heap.size,0,none⟩ 1 1 [.int .i64 3,.int .i64 (ck:Int)] rfl rfl (World.news_of_block (HSa.out.box 1 rfl)) ZdV (by omega) (by unfold maxLen;omega) (by omega) HSa.out.size _ rfl ?_;intro g7 c7 w7 hown hgrow hat hlt';have HS7:=qh ((HSa.out.app 0 rfl hown hgrow hat).pick [0] (by decide));clear hown hgrow hat hlt';have HSb:=qh (HS7.out.alloc w7.heap.size rfl #[.int .i64 4,.int .i64 0] 34);have HR2:=qh (HSb.out.row 0 rfl))|(at_builtin;refine wpList_append_lies _ rfl _ _ _ rfl _ 34 i0 (.agg #[.int .i64 0,.int .i64 0]) 2 16 Try.underlying24 hi.out Hhz0.out Hhz1.out Hhz2.out rfl (by omega) _ (E.length+1) _ rfl HR2.out ⟨w7.heap.size,0,none⟩ 1 1 [.int .i64 4,.int .i64 0] rfl rfl (World.news_of_block (HSb.out.box 1 rfl)) ZdV (by omega) (by unfold maxLen;omega) (by omega) HSb.out.size _ rfl ?_;intro g8 c8 w8 hown hgrow hat hlt';have HS8:=qh ((HSb.out.app 0 rfl hown hgrow hat).pick [0] (by decide));clear hown hgrow hat hlt'));go_roundw
    case rel =>refine⟨k+1,c8,some ⟨g8,0,none⟩,by go_num,by rw[Hhst0.out,List.length_append,List.length_append];rfl,by omega,?_⟩;rw[Hhst0.out,List.length_append,List.length_append,List.flatMap_append,List.flatMap_append];exact HS8.out
    case measure=>simp[intOf]<;>omega
   have hlI:¬ (k:Int)<(n:Int):=by omega
   have hkn2:k=n:=by omega
   have hEn:wxK l n=E:=by rw[hE,hkn2]
   by_cases h0:n=0
   ·have he:(txB l).toList.isEmpty=true:=by
     rw[Hemp.out];cases hll:l with
     | nil=>rfl
     | cons x xs=>have:=Hhn.out;rw[hll] at this;simp at this;omega
    have hE0:E=[]:=by rw[hE,hkn2,h0];rfl
    subst hE0;have HSa:=qh (hS.alloc wq.heap.size rfl #[.int .i64 2,.int .i64 0] 34);have HR:=qh (HSa.out.row 0 rfl);replace hE:=qh hE;have Hhkn2:=qh hkn2;clear hkn2;have HhEn:=qh hEn;clear hEn;replace h0:=qh h0;clear hS;go_wp2_with (at_builtin;refine wpList_append_lies _ rfl _ _ _ rfl _ 34 i0 (.agg #[.int .i64 0,.int .i64 0]) 2 16 Try.underlying24 hi.out Hhz0.out Hhz1.out Hhz2.out rfl (by omega) _ ([]:List (Int × Int)).length _ rfl HR.out ⟨wq.heap.size,0,none⟩ 1 1 [.int .i64 2,.int .i64 0] rfl rfl (World.news_of_block (HSa.out.box 1 rfl)) ZdV (by omega) (by unfold maxLen;omega) (by omega) HSa.out.size _ rfl ?_;intro g7 c7 w7 hown hgrow hat hlt';have HS7:=qh ((HSa.out.app 0 rfl hown hgrow hat).pick [0] (by decide));clear hown hgrow hat hlt');go_ret;have hq:=HQ.out;rw[if_pos h0.out] at hq;rw[hq];exact⟨some ⟨g7,0,none⟩,c7,rfl,HS7.out⟩
   have he:(txB l).toList.isEmpty=false:=by
    rw[Hemp.out];cases hll:l with
    | nil=>have:=Hhn.out;rw[hll] at this;exact absurd this.symm h0
    | cons x xs=>rfl
   have HS:=qh hS;replace hE:=qh hE;have Hhkn2:=qh hkn2;clear hkn2;have HhEn:=qh hEn;clear hEn;replace h0:=qh h0;clear hS;go_wp2;go_ret;have hq:=HQ.out;rw[if_neg h0.out,HhEn.out] at hq;rw[hq];exact⟨a,c,rfl,HS.out⟩
def cntP:Nat→(List Nat→Bool)→Nat
 | 0,p=>if p []=true then 1 else 0
 | n+1,p=>cntP n (fun w=>p (0::w))+cntP n (fun w=>p (1::w))+cntP n (fun w=>p (2::w))
def cntD (d:DfaD) (n:Nat) (s:Int):Nat:=cntP n fun w=>den d (runD d s w)
end Go.Proofs.Ytfikabecgaappaa
