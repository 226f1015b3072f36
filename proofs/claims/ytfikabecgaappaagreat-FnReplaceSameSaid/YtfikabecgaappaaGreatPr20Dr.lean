/-
  The fewest parts into which a text is divided, plain: texts of letters; what the two tables hold; a text is divided exactly if it is a repeated word.
-/
import Derived.Test.YtfikabecgaappaaGreatPr17Po
set_option maxHeartbeats 4000000
set_option maxRecDepth 100000
namespace Go.Proofs.YtfikabecgaappaaGreat
open Go.RowKit
def txM (m:Nat) (l:List Nat):Bool:=okT l l.length&&decide (l.length≤m)
theorem Zkx {m:Nat} {l:List Nat}:txM m l=true↔(∀ b∈l,97≤b∧b≤99)∧l.length≤m:=by
 unfold txM okT;simp only[Bool.and_eq_true,List.all_eq_true,List.mem_range,decide_eq_true_eq];refine and_congr_left fun _=>⟨fun h b hb => ?_,fun h i hi => ?_⟩
 ·obtain⟨i,hi,rfl⟩:=List.getElem_of_mem hb;have h2:=h i hi;rw[List.getD_eq_getElem?_getD,List.getElem?_eq_getElem hi] at h2;unfold inB at h2;simp at h2;omega
 have h2:=h _ (ZbO hi);obtain⟨c,hc⟩:=eI (l.getD i 0);rw[← hc] at h2 ⊢;unfold inB;simp;omega
theorem Zjo {m:Nat} {l:List Nat} {k:Nat} (hk:k<l.length) (h1:inB ((l.getD k 0:Nat):Int) 97 99=false):txM m l=false:=by
 unfold txM okT;have:((List.range l.length).all fun i=>inB ((l.getD i 0:Nat):Int) 97 99)=false:=by rw[List.all_eq_false];exact⟨k,List.mem_range.2 hk,by rw[h1];simp⟩
 rw[this];rfl
theorem Zf2 (m:Nat) (l:List Nat) (w:World) (ht:isT l) (hl:l.length≤1000000) (r:Bool) (hr:txM m l=r) :
  Calls Tryz.prog 99 #[.string (txB l),.int .i64 (m:Int)] w fun e w'=>e = .returned (.bool r)∧w=w':=by
 have hs:(txB l).size=l.length:=ZaE l;replace hr:=qh hr;have Hht:=qh ht;clear ht
 go_enter Tryz.func99, Tryz.ntmps99
 go_wp2
 go_loopw [8] (fun i wr=>∃ k:Nat,i = .int .i64 k∧k≤l.length∧okT l k=true∧w=wr) (fun i _=>l.length-(intOf i).toNat)
 case atStart=>exact⟨0,rfl,Nat.zero_le _,rfl,rfl⟩
 case round =>
  obtain⟨k,rfl,hk,hok,rfl⟩:=hrel;by_cases hlt:k<l.length
  ·have hkl:(k:Int)<l.length:=by omega
   have hrun:=Zb9 hlt Hht.out;have hb:=Hht.out _ (ZbO hlt);obtain⟨c,hcc⟩:=eI (l.getD k 0);rw[← hcc] at hrun hb;have hw9:IntKind.i64.wrap (c:Int)=(c:Int):=IntWalk.i64_in _ (by omega);have Hhok:=qh hok;clear hok;replace hcc:=qh hcc;cases hin:inB (c:Int) 97 99
   ·have Hhin:=qh hin;clear hin;go_wp2_with (go_at_call 48;refine(ZaZ _ _ _ _ _ Hhin.out).mono ?_;rintro e w' ⟨rfl,rfl⟩);go_ret;exact⟨by rw[← hr.out,Zjo hlt (by rw[← hcc.out];exact Hhin.out)];rfl,rfl⟩
   have Hhin:=qh hin;clear hin;go_wp2_with (go_at_call 48;refine(ZaZ _ _ _ _ _ Hhin.out).mono ?_;rintro e w' ⟨rfl,rfl⟩);go_roundw
   case rel=>exact⟨k+1,by go_num,by omega,Ze3 Hhok.out (by rw[← hcc.out];exact Hhin.out),trivial⟩
   case measure=>simp[intOf];omega
  obtain rfl:k=l.length:=by omega
  have hrr:decide (l.length≤m)=r:=by rw[← hr.out];unfold txM;rw[hok,Bool.true_and]
  have Hhok:=qh hok;clear hok;have Hhrr:=qh hrr;clear hrr;go_wp2;go_ret;exact⟨by rw[← Hhrr.out];rfl,rfl⟩
theorem Zep (l:List Nat) (w:World) (ht:isT l) (hl:l.length≤1000000) (r:Bool) (hr:txM 30 l=r) :
  Calls Tryz.prog 72 #[.string (txB l)] w fun e w'=>e = .returned (.bool r)∧w=w':=by
 have HA:=qh (fun u=>Zf2 30 l u ht hl r hr);clear ht hr
 go_enter Tryz.func72, Tryz.ntmps72
 go_wp2_with (go_at_call 99;refine(HA.out _).mono ?_;rintro e w' ⟨rfl,rfl⟩);go_ret;exact⟨rfl,rfl⟩
theorem Zef (l:List Nat) (w:World) (ht:isT l) (hl:l.length≤1000000) (r:Bool) (hr:txM 30 l=r) :
  Calls Tryz.prog 26 #[.string (txB l)] w fun e w'=>e = .returned (.bool r)∧w=w':=by
 have hs:(txB l).size=l.length:=ZaE l;replace hr:=qh hr;have Hht:=qh ht;clear ht
 go_enter Tryz.func26, Tryz.ntmps26
 go_wp2
 go_loopw [3] (fun i wr=>∃ k:Nat,i = .int .i64 k∧k≤l.length∧okT l k=true∧w=wr) (fun i _=>l.length-(intOf i).toNat)
 case atStart=>exact⟨0,rfl,Nat.zero_le _,rfl,rfl⟩
 case round =>
  obtain⟨k,rfl,hk,hok,rfl⟩:=hrel;by_cases hlt:k<l.length
  ·have hkl:(k:Int)<l.length:=by omega
   have hrun:=Zb9 hlt Hht.out;have hb:=Hht.out _ (ZbO hlt);obtain⟨c,hcc⟩:=eI (l.getD k 0);rw[← hcc] at hrun hb;have hw9:IntKind.i64.wrap (c:Int)=(c:Int):=IntWalk.i64_in _ (by omega);have Hhok:=qh hok;clear hok;replace hcc:=qh hcc;cases hin:inB (c:Int) 97 99
   ·have Hhin:=qh hin;clear hin;go_wp2_with (go_at_call 71;refine(Za2 _ _ _ _ _ Hhin.out).mono ?_;rintro e w' ⟨rfl,rfl⟩);go_ret;exact⟨by rw[← hr.out,Zjo hlt (by rw[← hcc.out];exact Hhin.out)];rfl,rfl⟩
   have Hhin:=qh hin;clear hin;go_wp2_with (go_at_call 71;refine(Za2 _ _ _ _ _ Hhin.out).mono ?_;rintro e w' ⟨rfl,rfl⟩);go_roundw
   case rel=>exact⟨k+1,by go_num,by omega,Ze3 Hhok.out (by rw[← hcc.out];exact Hhin.out),trivial⟩
   case measure=>simp[intOf];omega
  obtain rfl:k=l.length:=by omega
  have hrr:decide ((l.length:Int)≤30)=r:=by rw[← hr.out];unfold txM;rw[hok,Bool.true_and];exact decide_eq_decide.2 (by omega)
  have Hhok:=qh hok;clear hok;have Hhrr:=qh hrr;clear hrr;go_wp2;go_ret;exact⟨by rw[← Hhrr.out];rfl,rfl⟩
theorem Zng {w:World} {v1:Value} {d:DfaD} (h:IntSS 0 w v1 d.next) (hd:Zae d.next d.ends=true):∃ q o cap,v1 = .slice (some ⟨q,o,none⟩) d.next.length cap∧d.next.length≤cap∧cap≤9223372036854775807∧q<w.heap.size∧∀ i,i<d.next.length→∃ z t s,w.cell? ⟨q,o+i,none⟩=some (.slice (some ⟨z,t,none⟩) 3 s)∧3≤s∧s≤9223372036854775807∧z<w.heap.size∧∀ c,c<3→w.cell? ⟨z,t+c,none⟩=some (.int .i64 ((nxD d i c:Nat):Int)):=by have hf:=ZaB hd;obtain⟨a,cap,rfl,h1,h2,h3⟩:=h.form;obtain⟨q,o,rfl,_,hq,hr⟩:=h3 hf.1;refine⟨q,o,cap,rfl,h1,h2,hq,fun i hi => ?_⟩;obtain⟨a',s,e1,e2,e3,e4⟩:=hr i hi;obtain⟨hl,hin⟩:=ZaD hd hi;rw[hl] at e1 e2 e4;obtain⟨z,t,rfl,_,hz,e5⟩:=e4 (by omega);refine⟨z,t,s,e1,e2,e3,hz,fun c hc => ?_⟩;rw[e5 c hc];have h0:=hin c hc;unfold nxD;rw[Int.toNat_of_nonneg h0.1]
theorem Znm {w:World} {v1:Value} {d:DfaD} (h:Bools 0 w v1 d.ends) (hd:Zae d.next d.ends=true):∃ q o cap,v1 = .slice (some ⟨q,o,none⟩) d.ends.length cap∧d.ends.length≤cap∧cap≤9223372036854775807∧q<w.heap.size∧∀ i,i<d.next.length→w.cell? ⟨q,o+i,none⟩=some (.bool (enD d i)):=by have hl:=Zac hd;obtain⟨a,cap,rfl,h1,h2,h3⟩:=h.form;obtain⟨q,o,rfl,_,hq,hr⟩:=h3 (by omega);exact⟨q,o,cap,rfl,h1,h2,hq,fun i hi=>hr i (by omega)⟩
variable {P:Program}
theorem ZiH {w:World} {B e size n cap m:Nat} {a:Option Addr} {cs:List Value} (h:w.ownsRow B e size (.slice a n cap) n cs) (hm:m≤n):w.ownsRow B e size (.slice a m cap) m (cs.take (m*size)):=by
 obtain⟨h1,h2⟩:=h;have hle:m*size≤n*size:=Nat.mul_le_mul_right size hm;refine⟨by rw[List.length_take,h1];omega,?_⟩;rcases h2 with⟨h3,h4⟩|⟨g,c,cur,h3,h4,h5,h6,h7,h8,h9⟩
 ·simp only[Value.slice.injEq] at h3;obtain⟨rfl,rfl,rfl⟩:=h3;obtain rfl:m=0:=by omega
  exact .inl ⟨rfl,rfl⟩
 simp only[Value.slice.injEq] at h3;obtain⟨rfl,-,rfl⟩:=h3;refine .inr ⟨g,cap,cur,rfl,h4,h5,by omega,h7,h8,?_⟩;rw[← h9,List.take_take,Nat.min_eq_left hle]
theorem St.cut {w0 w:World} {L:List Ent} (h:St w0 w L) (i:Nat) {e size n cap:Nat} {a:Option Addr} {cs:List Value} (hx:L[i]? = some (Ent.row e size (.slice a n cap) n cs)) (m:Nat) (hm:m≤n):St w0 w (L.set i (Ent.row e size (.slice a m cap) m (cs.take (m*size)))) :=
 h.same i hx _ (fun hb=>ZiH hb hm) fun k hk=>by
  cases a with
  | none=>cases hk
  | some a=>exact hk
theorem Zge {l:List Nat} (h:wdOk l=true):l.length≤8∧∀ i,i<l.length→97≤l.getD i 0∧l.getD i 0≤99:=by unfold wdOk okT at h;rw[Bool.and_eq_true,decide_eq_true_eq,List.all_eq_true] at h;refine⟨h.2,fun i hi => ?_⟩;have h1:=h.1 i (List.mem_range.2 hi);simp only[inB,Bool.and_eq_true,decide_eq_true_eq] at h1;omega
end Go.Proofs.YtfikabecgaappaaGreat
namespace Go.Proofs.YtfikabecgaappaaGreat
open Go.RowKit Go.Deep Go.ChangeShapes Go.ChangeAt
section
variable {H:Type} {enc:TypeId × Value→H} {P:Program} {w:World} {held:Bool}
theorem Zks {a:Addr} {v:Value} (h:w.cell? (a.add 0)=some v):∃ b off,a=⟨b,off,none⟩:=by
 obtain⟨b,off,spot⟩:=a;have hspot:spot=none:=by simpa [Addr.add] using World.cell?_spot h
 subst hspot;exact⟨b,off,rfl⟩
theorem Ziv {a:Addr} {len cap:Nat} {cs:List Value} (hl:cs.length=len) (hle:len≤cap) (hm:cap≤maxLen) (hc:∀ i,i<len→w.cell? (a.add i)=cs[i]?):Sl 0 w (.slice (some a) len cap) len 1 cs:=by refine⟨by omega,_,cap,rfl,hle,hm,fun h0 => ?_⟩;obtain⟨u,hu⟩:∃ u,cs[0]? = some u:=⟨cs[0]'(by omega),by simp[show 0<cs.length by omega]⟩;obtain⟨b,off,rfl⟩:=Zks ((hc 0 h0).trans hu);refine⟨b,off,rfl,Nat.zero_le _,World.block_lt_of_cell? w _ ((hc 0 h0).trans hu),fun j hj => ?_⟩;rw[← hc j (by omega),← Go.WideShapes.add_plain]
end
end Go.Proofs.YtfikabecgaappaaGreat
namespace Go.Proofs.YtfikabecgaappaaGreat
open Go.RowKit Go.Deep Go.ChangeShapes Go.ChangeAt
def Bytes (B:Nat) (w:World) (v:Value) (bs:List Nat):Prop:=(∀ b∈bs,b<256)∧Sl B w v bs.length 1 (bs.map fun (b:Nat)=>Value.int .u8 (b:Int))
theorem Bytes.below {B:Nat} {w w':World} {v:Value} {bs:List Nat} (h:Bytes B w v bs) (he:Below w.heap.size w w'):Bytes B w' v bs:=⟨h.1,Sl.below h.2 he⟩
theorem Bytes.form {B:Nat} {w:World} {v:Value} {bs:List Nat} (h:Bytes B w v bs):∃ a cap,v = .slice a bs.length cap∧bs.length≤cap∧cap≤9223372036854775807 ∧
  (0<bs.length→∃ b off,a=some ⟨b,off,none⟩∧B≤b∧b<w.heap.size∧∀ j,j<bs.length→w.cell? ⟨b,off+j,none⟩=some (.int .u8 (bs.getD j 0:Nat))∧bs.getD j 0<256):=by
 obtain⟨h0,hl,a,cap,hv,h1,h2,h3⟩:=h;refine⟨a,cap,hv,h1,h2,fun hn => ?_⟩;obtain⟨b,off,ha,hb,hlt,hc⟩:=h3 hn;refine⟨b,off,ha,hb,hlt,fun j hj=>⟨?_,h0 _ (by rw[show bs.getD j 0=bs[j] by simp[hj]];exact List.getElem_mem hj)⟩⟩;rw[hc j (by omega)];simp[hj]
section
variable {H:Type} {enc:TypeId × Value→H} {P:Program} {w:World} {held:Bool}
theorem Zof {n:Int} (h:(Lit.int .u8 n).wf=true):0≤n∧n≤255:=by have e1:IntKind.u8.min=0:=rfl;have e2:IntKind.u8.max=255:=rfl;simp only[Lit.wf,Bool.and_eq_true,decide_eq_true_eq,e1,e2] at h;exact h
theorem ZhM {t e:TypeId} {fuel:Nat} {cs:List Value} {x:DataW H × List MemPlace} (ht:P.underlying t=some (.slice e)) (he:P.underlying e=some (.int .u8)) (hc:P.cellsOf e=1)
  (h:DataW.trod enc P w 0 (fun _=>true) held fuel t cs=some x):∃ v bs,cs=[v]∧Bytes 0 w v bs:=by
 rcases open_ints ht he hc h with⟨hcs,-⟩|⟨a,len,cap,zs,hcs,-,hl,hm,hz,-,hcell,hwf⟩
 ·exact⟨_,[],hcs,fun b hb=>by simp at hb,by simp,none,0,rfl,Nat.le_refl _,Nat.zero_le _,fun h=>by simp at h⟩
 simp only[if_true] at hz;refine⟨_,(zs.take len).map Int.toNat,hcs,fun b hb => ?_,?_⟩
 ·obtain⟨z,hz1,rfl⟩:=List.mem_map.1 hb;have:=Zof (hwf z (List.mem_of_mem_take hz1));omega
 have hlen:((zs.take len).map Int.toNat).length=len:=by simp;omega
 rw[hlen];refine Ziv (by simp;omega) hl hm fun i hi => ?_
 rw[hcell i (by omega)];have hzi:i<zs.length:=by omega
 have:=Zof (hwf _ (List.getElem_mem hzi));simp[hi,hzi];omega
end
theorem ZhN (a:Nat) (ha:a<1099511627776):(BitVec.ofInt 64 (a:Int)).toNat=a:=by rw[BitVec.ofInt_natCast,BitVec.toNat_ofNat];exact Nat.mod_eq_of_lt (by omega)
theorem ZiW (a b:Nat) (ha:a<1099511627776) (hb:b<1099511627776):bits .xor .i64 (a:Int) (b:Int)=((a ^^^ b:Nat):Int):=by have hx:a ^^^ b<2 ^ 40:=Nat.xor_lt_two_pow (by omega) (by omega);show IntKind.i64.wrap ((BitVec.ofInt 64 (a:Int) ^^^ BitVec.ofInt 64 (b:Int)).toNat:Int)=_;rw[BitVec.toNat_xor,ZhN a ha,ZhN b hb];exact IntWalk.i64_in _ (by omega)
end Go.Proofs.YtfikabecgaappaaGreat
namespace Go.Proofs.YtfikabecgaappaaGreat
open Go.RowKit
def RdE (b:Nat) (vb:Value) (p:Nat):Ent:=Ent.box b #[vb,.int .i64 ((p:Nat):Int)] 105
theorem Bytes.take {w:World} {a:Option Addr} {len cap:Nat} {bs:List Nat} (h:Bytes 0 w (.slice a len cap) bs) {n:Nat} (hn:n≤bs.length):Bytes 0 w (.slice a n cap) (bs.take n):=by
 obtain⟨h0,hl,a',cap',hv,h1,h2,h3⟩:=h;simp only[Value.slice.injEq] at hv;obtain⟨rfl,rfl,rfl⟩:=hv;have e:(bs.take n).length=n:=by rw[List.length_take];omega
 refine⟨fun b hb=>h0 b (List.mem_of_mem_take hb),?_⟩;rw[e];refine⟨by rw[List.length_map,e];omega,a,cap,rfl,by omega,h2,fun hn0 => ?_⟩;obtain⟨b,off,ha,hb,hlt,hc⟩:=h3 (by omega);refine⟨b,off,ha,hb,hlt,fun j hj => ?_⟩;rw[hc j (by omega),List.map_take,List.getElem?_take_of_lt (by omega)]
theorem Zax (bs:List Nat) (vb:Value) (b p n:Nat) (w0 w:World) (X:Ent) (hb:Bytes 0 w0 vb bs) (hlen:bs.length≤2000) (hp:p≤1000000) (hn0:1≤n) (hn1:n≤10000) (hS:St w0 w [RdE b vb p,X]) :
  Calls Tryz.prog 76 #[.pointer (some ⟨b,0,none⟩),.int .i64 ((n:Nat):Int)] w fun e w'=>∃ k:Nat,k<n∧e = .returned (.int .i64 ((k:Nat):Int))∧St w0 w' [RdE b vb (p+1),X]:=by
 obtain⟨a,c,rfl,hc1,hc2,hr⟩:=hb.form;have e0:=hS.cell (v:=.slice a bs.length c) 0 0 rfl rfl;have e1:=hS.cell (v:=.int .i64 ((p:Nat):Int)) 0 1 rfl rfl;have f1:=hS.fr 0 1 rfl;have hS1:=hS.set 0 rfl 1 (.int .i64 ((p:Int)+1));have HS1:=qh hS1;have Hr:=qh hr;have hnI:(1:Int)≤n:=by omega
 have hn2:((n:Int)<1)=False:=by simp;omega
 have hp1:(p:Int)+1-1=p:=by omega
 clear hb hS hr hS1;by_cases h0:bs.length=0
 ·have q1:((bs.length:Int)==0)=true:=by rw[h0];rfl
  have q2:((bs.length:Int)=0)=True:=by simp[h0]
  go_enter Tryz.func76, Tryz.ntmps76
  go_wp2;go_ret;exact⟨0,by omega,rfl,HS1.out⟩
 have q0:(bs.length:Int)≠0:=by omega
 have q1:((bs.length:Int)==0)=false:=by rw[beq_eq_false_iff_ne];exact q0
 have q2:((bs.length:Int)=0)=False:=eq_false q0;clear q0;obtain⟨b1,o1,rfl,-,hb1,hcs⟩:=Hr.out (by omega);by_cases hlt:p<bs.length
 ·have hlt2:(p:Int)<bs.length:=by omega
  have e3:=(bcell HS1.out.bel b1 _ hb1).trans (hcs p hlt).1;obtain⟨v,hv⟩:=eI (bs.getD p 0);have hv2:=(hcs p hlt).2;rw[← hv] at e3 hv2;replace hv:=qh hv;clear hcs h0
  go_enter Tryz.func76, Tryz.ntmps76
  go_wp2;go_ret;have hvn:((v:Int) % (n:Int))=((v % n:Nat):Int):=by omega
  exact⟨v % n,Nat.mod_lt _ (by omega),by rw[← hvn];rfl,HS1.out⟩
 have hlt2:((p:Int)<bs.length)=False:=by simp;omega
 have hm1:p % bs.length<bs.length:=Nat.mod_lt _ (by omega);have hm2:(p*7+3) % bs.length<bs.length:=Nat.mod_lt _ (by omega);have e3:=(bcell HS1.out.bel b1 _ hb1).trans (hcs _ hm1).1;have e4:=(bcell HS1.out.bel b1 _ hb1).trans (hcs _ hm2).1;have hv1:=(hcs _ hm1).2;have hv2:=(hcs _ hm2).2;have i1:(p:Int) % (bs.length:Int)=((p % bs.length:Nat):Int):=by omega
 have i2:((p:Int)*7+3) % (bs.length:Int)=(((p*7+3) % bs.length:Nat):Int):=by rw[Int.natCast_emod];congr 1
 have i3:(p:Int) / (bs.length:Int)=((p / bs.length:Nat):Int):=by rw[Int.natCast_ediv]
 have hdv:p / bs.length≤1000000:=Nat.le_trans (Nat.div_le_self _ _) hp;obtain⟨u1,hu1⟩:∃ u,u=bs.getD (p % bs.length) 0:=⟨_,rfl⟩;obtain⟨u2,hu2⟩:∃ u,u=bs.getD ((p*7+3) % bs.length) 0:=⟨_,rfl⟩;obtain⟨m1,hmm1⟩:∃ m,m=p % bs.length:=⟨_,rfl⟩;obtain⟨m2,hmm2⟩:∃ m,m=(p*7+3) % bs.length:=⟨_,rfl⟩;obtain⟨m3,hmm3⟩:∃ m,m=p / bs.length:=⟨_,rfl⟩;rw[← hu1] at e3 hv1;rw[← hu2] at e4 hv2;rw[← hmm1] at e3 i1 hm1;rw[← hmm2] at e4 i2 hm2;rw[← hmm3] at i3 hdv;have j1:(m1:Int)<bs.length:=by omega
 have j2:(m2:Int)<bs.length:=by omega
 replace hu1:=qh hu1;have Hhu2:=qh hu2;clear hu2;replace hmm1:=qh hmm1;have Hhmm2:=qh hmm2;clear hmm2;have Hhmm3:=qh hmm3;clear hmm3;clear hcs h0 hlt
 go_enter Tryz.func76, Tryz.ntmps76
 go_wp2
 go_quiet (fail)
 go_wp2;have ea:((u1:Int)*131+(u2:Int)*1117+(p:Int)*29+(m3:Int)*53)=((u1*131+u2*1117+p*29+m3*53:Nat):Int):=by omega
 obtain⟨A,hA⟩:=eI (u1*131+u2*1117+p*29+m3*53);have hAl:A<1099511627776:=by omega
 rw[← hA] at ea;have hx:(bits BinOp.xor IntKind.i64 ((u1:Int)*131+(u2:Int)*1117+(p:Int)*29+(m3:Int)*53) (((u1:Int)*131+(u2:Int)*1117+(p:Int)*29+(m3:Int)*53) / 64)).tmod (n:Int)=(((A ^^^ (A / 64)) % n:Nat):Int):=by rw[ea,show((A:Nat):Int) / 64=((A / 64:Nat):Int) by omega,ZiW A (A / 64) hAl (by omega)];exact(Int.ofNat_tmod _ _).symm
 go_ret;exact⟨(A ^^^ (A / 64)) % n,Nat.mod_lt _ (by omega),by rw[← hx];rfl,HS1.out.drewN _⟩
theorem Zg3 (bs:List Nat) (vb:Value) (b p n:Nat) (w0 w:World) (X:Ent) (hb:Bytes 0 w0 vb bs) (hlen:bs.length≤2000) (hp:p≤1000000) (hn1:n≤10000) (hS:St w0 w [RdE b vb p,X]) :
  Calls Tryz.prog 74 #[.pointer (some ⟨b,0,none⟩),.int .i64 ((n:Nat):Int)] w fun e w'=>∃ (q:Bool) (p':Nat),p'≤p+1∧e = .returned (.bool q)∧St w0 w' [RdE b vb p',X]:=by
 have HS:=qh hS;have Hb:=qh hb;clear hS hb;by_cases h0:n=0
 ·subst h0
  go_enter Tryz.func74, Tryz.ntmps74
  go_wp2;go_ret;exact⟨_,p,by omega,rfl,HS.out⟩
 have hnI:(0:Int)<n:=by omega
 go_enter Tryz.func74, Tryz.ntmps74
 go_wp2_with fail;refine(Zax bs vb b p n w0 _ X Hb.out hlen hp (by omega) hn1 HS.out).mono ?_;rintro e w1 ⟨k,hk,rfl,hS1⟩;have HS1:=qh hS1;clear hS1;by_cases hkn:(k:Int)=(n:Int)-1
 ·have g1:((k:Int)==(n:Int)-1)=true:=by rw[hkn];simp
  have g2:((k:Int)=(n:Int)-1)=True:=eq_true hkn;clear hkn;go_wp2;go_ret;exact⟨_,p+1,Nat.le_refl _,rfl,HS1.out⟩
 have g1:((k:Int)==(n:Int)-1)=false:=by rw[beq_eq_false_iff_ne];exact hkn
 have g2:((k:Int)=(n:Int)-1)=False:=eq_false hkn;clear hkn;go_wp2;go_ret;exact⟨_,p+1,Nat.le_refl _,rfl,HS1.out⟩
end Go.Proofs.YtfikabecgaappaaGreat
