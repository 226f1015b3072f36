/-
  What the reading of an argument says of memory: lists of ints, of bools, of rows, of structs of two or three ints.
  No condition: this text speaks of no program.
  A list of bytes, an argument of the laws that draw; the bit operation of the reader.
  No condition: this text speaks of no program.
  The walks over the reader that the laws draw from: open, pick, odd.
  Conditions: the bytes read as such; the reader's place is small; the reader is among the things that the call owns.
-/
import Derived.Test.YtfanhfcamblghaaPv01Prod
set_option maxHeartbeats 4000000
set_option maxRecDepth 100000
namespace Go.Proofs.Ytfanhfcamblghaa
open Go.RowKit Go.Deep Go.ChangeShapes Go.ChangeAt
section
variable {H:Type} {enc:TypeId × Value→H} {P:Program} {w:World} {held:Bool}
theorem Ziz {a:Addr} {v:Value} (h:w.cell? (a.add 0)=some v):∃ b off,a=⟨b,off,none⟩:=by
 obtain⟨b,off,spot⟩:=a;have hspot:spot=none:=by simpa [Addr.add] using World.cell?_spot h
 subst hspot;exact⟨b,off,rfl⟩
theorem ZgM {a:Addr} {len cap:Nat} {cs:List Value} (hl:cs.length=len) (hle:len≤cap) (hm:cap≤maxLen) (hc:∀ i,i<len→w.cell? (a.add i)=cs[i]?):Sl 0 w (.slice (some a) len cap) len 1 cs:=by refine⟨by omega,_,cap,rfl,hle,hm,fun h0 => ?_⟩;obtain⟨u,hu⟩:∃ u,cs[0]? = some u:=⟨cs[0]'(by omega),by simp[show 0<cs.length by omega]⟩;obtain⟨b,off,rfl⟩:=Ziz ((hc 0 h0).trans hu);refine⟨b,off,rfl,Nat.zero_le _,World.block_lt_of_cell? w _ ((hc 0 h0).trans hu),fun j hj => ?_⟩;rw[← hc j (by omega),← Go.WideShapes.add_plain]
end
end Go.Proofs.Ytfanhfcamblghaa
namespace Go.Proofs.Ytfanhfcamblghaa
open Go.RowKit Go.Deep Go.ChangeShapes Go.ChangeAt
def Bytes (B:Nat) (w:World) (v:Value) (bs:List Nat):Prop:=(∀ b∈bs,b<256)∧Sl B w v bs.length 1 (bs.map fun (b:Nat)=>Value.int .u8 (b:Int))
theorem Bytes.below {B:Nat} {w w':World} {v:Value} {bs:List Nat} (h:Bytes B w v bs) (he:Below w.heap.size w w'):Bytes B w' v bs:=⟨h.1,Sl.below h.2 he⟩
theorem Bytes.form {B:Nat} {w:World} {v:Value} {bs:List Nat} (h:Bytes B w v bs):∃ a cap,v = .slice a bs.length cap∧bs.length≤cap∧cap≤9223372036854775807 ∧
  (0<bs.length→∃ b off,a=some ⟨b,off,none⟩∧B≤b∧b<w.heap.size∧∀ j,j<bs.length→w.cell? ⟨b,off+j,none⟩=some (.int .u8 (bs.getD j 0:Nat))∧bs.getD j 0<256):=by
 obtain⟨h0,hl,a,cap,hv,h1,h2,h3⟩:=h;refine⟨a,cap,hv,h1,h2,fun hn => ?_⟩;obtain⟨b,off,ha,hb,hlt,hc⟩:=h3 hn;refine⟨b,off,ha,hb,hlt,fun j hj=>⟨?_,h0 _ (by rw[show bs.getD j 0=bs[j] by simp[hj]];exact List.getElem_mem hj)⟩⟩;rw[hc j (by omega)];simp[hj]
section
variable {H:Type} {enc:TypeId × Value→H} {P:Program} {w:World} {held:Bool}
theorem Zln {n:Int} (h:(Lit.int .u8 n).wf=true):0≤n∧n≤255:=by have e1:IntKind.u8.min=0:=rfl;have e2:IntKind.u8.max=255:=rfl;simp only[Lit.wf,Bool.and_eq_true,decide_eq_true_eq,e1,e2] at h;exact h
theorem Zga {t e:TypeId} {fuel:Nat} {cs:List Value} {x:DataW H × List MemPlace} (ht:P.underlying t=some (.slice e)) (he:P.underlying e=some (.int .u8)) (hc:P.cellsOf e=1)
  (h:DataW.trod enc P w 0 (fun _=>true) held fuel t cs=some x):∃ v bs,cs=[v]∧Bytes 0 w v bs:=by
 rcases open_ints ht he hc h with⟨hcs,-⟩|⟨a,len,cap,zs,hcs,-,hl,hm,hz,-,hcell,hwf⟩
 ·exact⟨_,[],hcs,fun b hb=>by simp at hb,by simp,none,0,rfl,Nat.le_refl _,Nat.zero_le _,fun h=>by simp at h⟩
 simp only[if_true] at hz;refine⟨_,(zs.take len).map Int.toNat,hcs,fun b hb => ?_,?_⟩
 ·obtain⟨z,hz1,rfl⟩:=List.mem_map.1 hb;have:=Zln (hwf z (List.mem_of_mem_take hz1));omega
 have hlen:((zs.take len).map Int.toNat).length=len:=by simp;omega
 rw[hlen];refine ZgM (by simp;omega) hl hm fun i hi => ?_
 rw[hcell i (by omega)];have hzi:i<zs.length:=by omega
 have:=Zln (hwf _ (List.getElem_mem hzi));simp[hi,hzi];omega
end
theorem Zgc (a:Nat) (ha:a<1099511627776):(BitVec.ofInt 64 (a:Int)).toNat=a:=by rw[BitVec.ofInt_natCast,BitVec.toNat_ofNat];exact Nat.mod_eq_of_lt (by omega)
theorem Zhc (a b:Nat) (ha:a<1099511627776) (hb:b<1099511627776):bits .xor .i64 (a:Int) (b:Int)=((a ^^^ b:Nat):Int):=by have hx:a ^^^ b<2 ^ 40:=Nat.xor_lt_two_pow (by omega) (by omega);show IntKind.i64.wrap ((BitVec.ofInt 64 (a:Int) ^^^ BitVec.ofInt 64 (b:Int)).toNat:Int)=_;rw[BitVec.toNat_xor,Zgc a ha,Zgc b hb];exact IntWalk.i64_in _ (by omega)
end Go.Proofs.Ytfanhfcamblghaa
namespace Go.Proofs.Ytfanhfcamblghaa
open Go.RowKit
def RdE (b:Nat) (vb:Value) (p:Nat):Ent:=Ent.box b #[vb,.int .i64 ((p:Nat):Int)] 117
theorem Bytes.take {w:World} {a:Option Addr} {len cap:Nat} {bs:List Nat} (h:Bytes 0 w (.slice a len cap) bs) {n:Nat} (hn:n≤bs.length):Bytes 0 w (.slice a n cap) (bs.take n):=by
 obtain⟨h0,hl,a',cap',hv,h1,h2,h3⟩:=h;simp only[Value.slice.injEq] at hv;obtain⟨rfl,rfl,rfl⟩:=hv;have e:(bs.take n).length=n:=by rw[List.length_take];omega
 refine⟨fun b hb=>h0 b (List.mem_of_mem_take hb),?_⟩;rw[e];refine⟨by rw[List.length_map,e];omega,a,cap,rfl,by omega,h2,fun hn0 => ?_⟩;obtain⟨b,off,ha,hb,hlt,hc⟩:=h3 (by omega);refine⟨b,off,ha,hb,hlt,fun j hj => ?_⟩;rw[hc j (by omega),List.map_take,List.getElem?_take_of_lt (by omega)]
theorem Zj8 (bs:List Nat) (v:Value) (w:World) (hb:Bytes 0 w v bs) (hlen:bs.length≤100000000) :
  Calls Try.prog 29 #[v] w fun e w'=>∃ vb bs',bs'.length≤2000∧Bytes 0 w vb bs'∧e = .returned (.pointer (some ⟨w.heap.size,0,none⟩))∧St w w' [RdE w.heap.size vb 0]:=by
 obtain⟨a,c,rfl,hc1,hc2,-⟩:=hb.form;have Hb:=qh hb;clear hb;by_cases h2:2000<bs.length
 ·have q1:(2000:Int)<bs.length:=by omega
  have q2:(2000:Int)≤c:=by omega
  have hS:=(St.start w).alloc _ rfl #[.slice a 2000 c,.int .i64 0] 117;have HS:=qh hS;clear hS
  go_enter Try.func29, Try.ntmps29
  go_wp2;go_ret;exact⟨_,bs.take 2000,by rw[List.length_take];omega,Hb.out.take (by omega),rfl,HS.out⟩
 have q1:(2000<(bs.length:Int))=False:=by simp;omega
 have hS:=(St.start w).alloc _ rfl #[.slice a bs.length c,.int .i64 0] 117;have HS:=qh hS;have h2:bs.length≤2000:=by omega
 clear hS
 go_enter Try.func29, Try.ntmps29
 go_wp2;go_ret;exact⟨_,bs,h2,Hb.out,rfl,HS.out⟩
theorem Zar (bs:List Nat) (vb:Value) (b p n:Nat) (w0 w:World) (X:Ent) (hb:Bytes 0 w0 vb bs) (hlen:bs.length≤2000) (hp:p≤1000000) (hn0:1≤n) (hn1:n≤10000) (hS:St w0 w [RdE b vb p,X]) :
  Calls Try.prog 85 #[.pointer (some ⟨b,0,none⟩),.int .i64 ((n:Nat):Int)] w fun e w'=>∃ k:Nat,k<n∧e = .returned (.int .i64 ((k:Nat):Int))∧St w0 w' [RdE b vb (p+1),X]:=by
 obtain⟨a,c,rfl,hc1,hc2,hr⟩:=hb.form;have e0:=hS.cell (v:=.slice a bs.length c) 0 0 rfl rfl;have e1:=hS.cell (v:=.int .i64 ((p:Nat):Int)) 0 1 rfl rfl;have f1:=hS.fr 0 1 rfl;have hS1:=hS.set 0 rfl 1 (.int .i64 ((p:Int)+1));have HS1:=qh hS1;have Hr:=qh hr;have hnI:(1:Int)≤n:=by omega
 have hn2:((n:Int)<1)=False:=by simp;omega
 have hp1:(p:Int)+1-1=p:=by omega
 clear hb hS hr hS1;by_cases h0:bs.length=0
 ·have q1:((bs.length:Int)==0)=true:=by rw[h0];rfl
  have q2:((bs.length:Int)=0)=True:=by simp[h0]
  go_enter Try.func85, Try.ntmps85
  go_wp2;go_ret;exact⟨0,by omega,rfl,HS1.out⟩
 have q0:(bs.length:Int)≠0:=by omega
 have q1:((bs.length:Int)==0)=false:=by rw[beq_eq_false_iff_ne];exact q0
 have q2:((bs.length:Int)=0)=False:=eq_false q0;clear q0;obtain⟨b1,o1,rfl,-,hb1,hcs⟩:=Hr.out (by omega);by_cases hlt:p<bs.length
 ·have hlt2:(p:Int)<bs.length:=by omega
  have e3:=(bcell HS1.out.bel b1 _ hb1).trans (hcs p hlt).1;obtain⟨v,hv⟩:=eI (bs.getD p 0);have hv2:=(hcs p hlt).2;rw[← hv] at e3 hv2;replace hv:=qh hv;clear hcs h0
  go_enter Try.func85, Try.ntmps85
  go_wp2;go_ret;have hvn:((v:Int) % (n:Int))=((v % n:Nat):Int):=by omega
  exact⟨v % n,Nat.mod_lt _ (by omega),by rw[← hvn];rfl,HS1.out⟩
 have hlt2:((p:Int)<bs.length)=False:=by simp;omega
 have hm1:p % bs.length<bs.length:=Nat.mod_lt _ (by omega);have hm2:(p*7+3) % bs.length<bs.length:=Nat.mod_lt _ (by omega);have e3:=(bcell HS1.out.bel b1 _ hb1).trans (hcs _ hm1).1;have e4:=(bcell HS1.out.bel b1 _ hb1).trans (hcs _ hm2).1;have hv1:=(hcs _ hm1).2;have hv2:=(hcs _ hm2).2;have i1:(p:Int) % (bs.length:Int)=((p % bs.length:Nat):Int):=by omega
 have i2:((p:Int)*7+3) % (bs.length:Int)=(((p*7+3) % bs.length:Nat):Int):=by rw[Int.natCast_emod];congr 1
 have i3:(p:Int) / (bs.length:Int)=((p / bs.length:Nat):Int):=by rw[Int.natCast_ediv]
 have hdv:p / bs.length≤1000000:=Nat.le_trans (Nat.div_le_self _ _) hp;obtain⟨u1,hu1⟩:∃ u,u=bs.getD (p % bs.length) 0:=⟨_,rfl⟩;obtain⟨u2,hu2⟩:∃ u,u=bs.getD ((p*7+3) % bs.length) 0:=⟨_,rfl⟩;obtain⟨m1,hmm1⟩:∃ m,m=p % bs.length:=⟨_,rfl⟩;obtain⟨m2,hmm2⟩:∃ m,m=(p*7+3) % bs.length:=⟨_,rfl⟩;obtain⟨m3,hmm3⟩:∃ m,m=p / bs.length:=⟨_,rfl⟩;rw[← hu1] at e3 hv1;rw[← hu2] at e4 hv2;rw[← hmm1] at e3 i1 hm1;rw[← hmm2] at e4 i2 hm2;rw[← hmm3] at i3 hdv;have j1:(m1:Int)<bs.length:=by omega
 have j2:(m2:Int)<bs.length:=by omega
 replace hu1:=qh hu1;have Hhu2:=qh hu2;clear hu2;replace hmm1:=qh hmm1;have Hhmm2:=qh hmm2;clear hmm2;have Hhmm3:=qh hmm3;clear hmm3;clear hcs h0 hlt
 go_enter Try.func85, Try.ntmps85
 go_wp2
 go_quiet (fail)
 go_wp2;have ea:((u1:Int)*131+(u2:Int)*1117+(p:Int)*29+(m3:Int)*53)=((u1*131+u2*1117+p*29+m3*53:Nat):Int):=by omega
 obtain⟨A,hA⟩:=eI (u1*131+u2*1117+p*29+m3*53);have hAl:A<1099511627776:=by omega
 rw[← hA] at ea;have hx:(bits BinOp.xor IntKind.i64 ((u1:Int)*131+(u2:Int)*1117+(p:Int)*29+(m3:Int)*53) (((u1:Int)*131+(u2:Int)*1117+(p:Int)*29+(m3:Int)*53) / 64)).tmod (n:Int)=(((A ^^^ (A / 64)) % n:Nat):Int):=by rw[ea,show((A:Nat):Int) / 64=((A / 64:Nat):Int) by omega,Zhc A (A / 64) hAl (by omega)];exact(Int.ofNat_tmod _ _).symm
 go_ret;exact⟨(A ^^^ (A / 64)) % n,Nat.mod_lt _ (by omega),by rw[← hx];rfl,HS1.out.drewN _⟩
theorem Zfr (bs:List Nat) (vb:Value) (b p n:Nat) (w0 w:World) (X:Ent) (hb:Bytes 0 w0 vb bs) (hlen:bs.length≤2000) (hp:p≤1000000) (hn1:n≤10000) (hS:St w0 w [RdE b vb p,X]) :
  Calls Try.prog 82 #[.pointer (some ⟨b,0,none⟩),.int .i64 ((n:Nat):Int)] w fun e w'=>∃ (q:Bool) (p':Nat),p'≤p+1∧e = .returned (.bool q)∧St w0 w' [RdE b vb p',X]:=by
 have HS:=qh hS;have Hb:=qh hb;clear hS hb;by_cases h0:n=0
 ·subst h0
  go_enter Try.func82, Try.ntmps82
  go_wp2;go_ret;exact⟨_,p,by omega,rfl,HS.out⟩
 have hnI:(0:Int)<n:=by omega
 go_enter Try.func82, Try.ntmps82
 go_wp2_with fail;refine(Zar bs vb b p n w0 _ X Hb.out hlen hp (by omega) hn1 HS.out).mono ?_;rintro e w1 ⟨k,hk,rfl,hS1⟩;have HS1:=qh hS1;clear hS1;by_cases hkn:(k:Int)=(n:Int)-1
 ·have g1:((k:Int)==(n:Int)-1)=true:=by rw[hkn];simp
  have g2:((k:Int)=(n:Int)-1)=True:=eq_true hkn;clear hkn;go_wp2;go_ret;exact⟨_,p+1,Nat.le_refl _,rfl,HS1.out⟩
 have g1:((k:Int)==(n:Int)-1)=false:=by rw[beq_eq_false_iff_ne];exact hkn
 have g2:((k:Int)=(n:Int)-1)=False:=eq_false hkn;clear hkn;go_wp2;go_ret;exact⟨_,p+1,Nat.le_refl _,rfl,HS1.out⟩
def pOk (p:Int × Int):Bool:=inB p.1 1 8&&(decide (p.1=3)&&inB p.2 0 2||(!decide (p.1=3)&&decide (p.2=0)))
def Zai (p:Int × Int):Int:=if pOk p=true then(if p.1=1∨p.1=2∨p.1=3 then 0 else if p.1=7∨p.1=8 then 1 else 2) else -1
theorem Zc4 (p:Int × Int):-1≤Zai p∧Zai p≤2:=by
 unfold Zai
 split<;>(try split)<;>(try split)<;>omega
theorem ZiZ {p:Int × Int} (h:0≤Zai p):pOk p=true:=by
 unfold Zai at h
 split at h
 ·assumption
 omega
def dep (es:List (Int × Int)):Nat→Int
 | 0=>0
 | k+1=>dep es k-Zai (es.getD k (0,0))+1
theorem ZgA (es:List (Int × Int)):∀ k:Nat,-(2*k:Int)≤dep es k∧dep es k≤2*k
 | 0=>by simp[dep]
 | k+1=>by have ih:=ZgA es k;have:=Zc4 (es.getD k (0,0));unfold dep;omega
def exAt (es:List (Int × Int)) (k:Nat):Bool:=decide (0≤Zai (es.getD k (0,0)))&&decide (Zai (es.getD k (0,0))≤dep es k)
def exOk (es:List (Int × Int)):Bool:=(List.range es.length).all (exAt es)&&decide (dep es es.length=1)&&decide (es.length≤60)
theorem ZcH {es:List (Int × Int)} (h:exOk es=true):(∀ k,k<es.length→0≤Zai (es.getD k (0,0))∧Zai (es.getD k (0,0))≤dep es k)∧dep es es.length=1∧1≤es.length∧es.length≤60:=by
 simp only[exOk,exAt,Bool.and_eq_true,List.all_eq_true,List.mem_range,decide_eq_true_eq] at h;refine⟨h.1.1,h.1.2,?_,h.2⟩;cases es with
 | nil=>have:=h.1.2;simp[dep] at this
 | cons=>simp
theorem ZhJ {es:List (Int × Int)} {k:Nat} (hk:k<es.length) (h:exAt es k=false):exOk es=false:=by
 cases he:exOk es with
 | false=>rfl
 | true =>obtain⟨h1,-⟩:=ZcH he;obtain⟨a,b⟩:=h1 k hk;simp only[exAt,decide_eq_true a,decide_eq_true b,Bool.and_self] at h;cases h
theorem Zlg {es:List (Int × Int)} (h:∀ k,k<es.length→0≤Zai (es.getD k (0,0))∧Zai (es.getD k (0,0))≤dep es k):∀ k,0<k→k≤es.length→1≤dep es k
 | 0,h0,_=>by omega
 | k+1,_,hk=>by have:=h k (by omega);unfold dep;omega
def ZbB (es:List (Int × Int)) (n a:Nat):Prop:=a<n∧dep es a=dep es n-1∧∀ j,a<j→j<n→dep es j≠dep es n-1
theorem ZjN {es:List (Int × Int)} {n:Nat} (h:∀ k,k<n→0≤Zai (es.getD k (0,0))) (hn:1≤dep es n):∃ a,ZbB es n a:=by
 have key:∀ m,m≤n→(∀ j,m≤j→j<n→dep es j≠dep es n-1)→(m=n∨dep es n≤dep es m)→∃ a,ZbB es n a:=by
  intro m
  induction m with
  | zero =>
   intro _ hj hm;exfalso;have h0:dep es 0=0:=rfl;rcases hm with hm|hm
   ·subst hm;omega
   omega
  | succ m ih =>
   intro hmn hj hm;have hs:dep es (m+1)=dep es m-Zai (es.getD m (0,0))+1:=rfl;have hp:=h m (by omega)
   have hge:dep es n≤dep es (m+1):=by
    rcases hm with hm|hm
    ·rw[hm];exact Int.le_refl _
    exact hm
   by_cases he:dep es m=dep es n-1
   ·exact⟨m,by omega,he,fun j h1 h2=>hj j (by omega) h2⟩
   exact ih (by omega) (fun j h1 h2=>by
    by_cases hjm:j=m
    ·rw[hjm];exact he
    exact hj j (by omega) h2) (Or.inr (by omega))
 exact key n (Nat.le_refl _) (fun j h1 h2=>by omega) (Or.inl rfl)
end Go.Proofs.Ytfanhfcamblghaa
namespace Go.Proofs.Ytfanhfcamblghaa
open Go.RowKit
theorem Zaq {a b:Int} (h:a≠b):(a==b)=false∧(a=b)=False∧(a != b)=true∧(!(a==b))=true:=by simp[h]
theorem Zc3 (k l:Int) (w:World) (r:Bool) (hr:pOk (k,l)=r) :
  Calls Try.prog 125 #[.agg #[.int .i64 k,.int .i64 l]] w fun e w'=>e = .returned (.bool r)∧Below w.heap.size w w':=by
 unfold pOk at hr;simp only at hr;cases h1:inB k 1 8
 ·rw[h1,Bool.false_and] at hr;subst hr;have H1:=qh h1;clear h1
  go_enter Try.func125, Try.ntmps125
  go_wp2_with (go_at_call 80;refine(ZaA _ _ _ _ _ H1.out).mono ?_;rintro e w' ⟨rfl,rfl⟩);go_ret;exact⟨rfl,(Below.refl _ _).alloc (Nat.le_refl _) _⟩
 rw[h1,Bool.true_and] at hr;have H1:=qh h1;clear h1;by_cases h3:k=3
 ·subst h3;cases h2:inB l 0 2
  ·rw[h2] at hr;have hr:false=r:=hr;subst hr;have H2:=qh h2;clear h2
   go_enter Try.func125, Try.ntmps125
   go_wp2_with (go_at_call 80;(first|(with_reducible refine(ZaA _ _ _ _ _ H1.out).mono ?_)|(with_reducible refine(ZaA _ _ _ _ _ H2.out).mono ?_));rintro e w' ⟨rfl,rfl⟩);go_ret;exact⟨rfl,(Below.refl _ _).alloc (Nat.le_refl _) _⟩
  rw[h2] at hr;have hr:true=r:=hr;subst hr;have H2:=qh h2;clear h2
  go_enter Try.func125, Try.ntmps125
  go_wp2_with (go_at_call 80;(first|(with_reducible refine(ZaA _ _ _ _ _ H1.out).mono ?_)|(with_reducible refine(ZaA _ _ _ _ _ H2.out).mono ?_));rintro e w' ⟨rfl,rfl⟩);go_ret;exact⟨rfl,(Below.refl _ _).alloc (Nat.le_refl _) _⟩
 obtain⟨q1,q2,q3,q4⟩:=Zaq h3;rw[decide_eq_false h3] at hr;replace h3:=qh h3;by_cases h0:l=0
 ·subst h0;have hr:true=r:=hr;subst hr
  go_enter Try.func125, Try.ntmps125
  go_wp2_with (go_at_call 80;refine(ZaA _ _ _ _ _ H1.out).mono ?_;rintro e w' ⟨rfl,rfl⟩);go_ret;exact⟨rfl,(Below.refl _ _).alloc (Nat.le_refl _) _⟩
 obtain⟨p1,p2,p3,p4⟩:=Zaq h0;rw[decide_eq_false h0] at hr;have hr:false=r:=hr;subst hr;replace h0:=qh h0
 go_enter Try.func125, Try.ntmps125
 go_wp2_with (go_at_call 80;refine(ZaA _ _ _ _ _ H1.out).mono ?_;rintro e w' ⟨rfl,rfl⟩);go_ret;exact⟨rfl,(Below.refl _ _).alloc (Nat.le_refl _) _⟩
theorem Zbd (k l:Int) (w:World) (n:Int) (hn:Zai (k,l)=n) :
  Calls Try.prog 90 #[.agg #[.int .i64 k,.int .i64 l]] w fun e w'=>e = .returned (.int .i64 n)∧Below w.heap.size w w':=by
 have hS0:=(St.start w).alloc _ rfl #[.int .i64 k,.int .i64 l] 72;have e0:=hS0.cell (v:=.int .i64 k) 0 0 rfl rfl;have e1:=hS0.cell (v:=.int .i64 l) 0 1 rfl rfl;cases h:pOk (k,l)
 ·have hn1:n = -1:=by rw[← hn];unfold Zai;rw[if_neg (by simp[h])]
  subst hn1;have H:=qh h;replace hS0:=qh hS0;clear hn h
  go_enter Try.func90, Try.ntmps90
  go_wp2_with fail;refine(Zc3 k l _ _ H.out).mono ?_;rintro e w1 ⟨rfl,hb1⟩;have HS1:=qh (hS0.out.call hb1);clear hb1;go_wp2;go_ret;exact⟨rfl,HS1.out.bel⟩
 have hk:k=1∨k=2∨k=3∨k=4∨k=5∨k=6∨k=7∨k=8:=by have h':=h;unfold pOk at h';simp only[Bool.and_eq_true] at h';have:=Zc8 h'.1;omega
 have hn1:n=if k=1∨k=2∨k=3 then 0 else if k=7∨k=8 then 1 else 2:=by rw[← hn];unfold Zai;rw[if_pos h]
 have H:=qh h;replace hS0:=qh hS0;clear hn h;rcases hk with rfl|rfl|rfl|rfl|rfl|rfl|rfl|rfl
 all_goals
  simp at hn1;subst hn1
  go_enter Try.func90, Try.ntmps90
  go_wp2_with fail;refine(Zc3 _ l _ _ H.out).mono ?_;rintro e w1 ⟨rfl,hb1⟩;have c0:=(hS0.out.call hb1).cell (v:=.int .i64 _) 0 0 rfl rfl;have HS1:=qh (hS0.out.call hb1);clear hb1;go_wp2;go_ret;exact⟨rfl,HS1.out.bel⟩
theorem Zgt (xs:List (Int × Int)):∀ n:Nat,(xs.take n).flatMap Zah=(xs.flatMap Zah).take (n*2):=by
 induction xs with
 | nil=>intro n;simp
 | cons x l ih =>
  intro n;cases n with
  | zero=>simp
  | succ n =>rw[List.take_succ_cons,List.flatMap_cons,List.flatMap_cons,ih n,show(n+1)*2=n*2+2 by omega];rfl
theorem Zgu (xs:List (Int × Int)):∀ n:Nat,(xs.drop n).flatMap Zah=(xs.flatMap Zah).drop (n*2):=by
 induction xs with
 | nil=>intro n;simp
 | cons x l ih =>
  intro n;cases n with
  | zero=>simp
  | succ n =>rw[List.drop_succ_cons,List.flatMap_cons,ih n,show(n+1)*2=n*2+2 by omega];rfl
theorem Pairs.take {w:World} {a:Option Addr} {len cap:Nat} {xs:List (Int × Int)} (h:Pairs 0 w (.slice a len cap) xs) {n:Nat} (hn:n≤xs.length):Pairs 0 w (.slice a n cap) (xs.take n):=by
 obtain⟨hl,a',cap',hv,h1,h2,h3⟩:=h;simp only[Value.slice.injEq] at hv;obtain⟨rfl,rfl,rfl⟩:=hv;have e:(xs.take n).length=n:=by rw[List.length_take];omega
 unfold Pairs;rw[e];refine⟨by rw[Zgt,List.length_take];omega,a,cap,rfl,by omega,h2,fun hn0 => ?_⟩;obtain⟨b,off,ha,hb,hlt,hc⟩:=h3 (by omega);refine⟨b,off,ha,hb,hlt,fun j hj => ?_⟩;rw[hc j (by omega),Zgt,List.getElem?_take_of_lt hj]
theorem Pairs.drop {w:World} {b off len cap:Nat} {xs:List (Int × Int)} (h:Pairs 0 w (.slice (some ⟨b,off,none⟩) len cap) xs) {n:Nat} (hn:n<xs.length):Pairs 0 w (.slice (some ⟨b,off+n*2,none⟩) (xs.length-n) (cap-n)) (xs.drop n):=by obtain⟨hl,a',cap',hv,h1,h2,h3⟩:=h;simp only[Value.slice.injEq] at hv;obtain⟨rfl,rfl,rfl⟩:=hv;unfold Pairs;rw[List.length_drop];refine⟨by rw[Zgu,List.length_drop];omega,_,_,rfl,by omega,by omega,fun hn0 => ?_⟩;obtain⟨b',off',ha,hb,hlt,hc⟩:=h3 (by omega);simp only[w_9,Addr.mk.injEq,and_true] at ha;obtain⟨rfl,rfl⟩:=ha;refine⟨b,off+n*2,rfl,hb,hlt,fun j hj => ?_⟩;rw[show off+n*2+j=off+(n*2+j) by omega,hc _ (by omega),Zgu,List.getElem?_drop]
theorem Zda (es:List (Int × Int)) (v:Value) (w:World) (hlen:es.length≤2000000) (h:Pairs 0 w v es) (r:Bool) (hr:exOk es=r) :
  Calls Try.prog 39 #[v] w fun e w'=>e = .returned (.bool r)∧Below w.heap.size w w':=by
 obtain⟨a,c,rfl,hc1,hc2,hrd⟩:=h.form;have Hrd:=qh hrd;have Hr:=qh hr;clear h hr hrd
 go_enter Try.func39, Try.ntmps39
 go_wp2
 go_loopw [3,4] (fun vd i wr=>∃ k:Nat,i = .int .i64 k∧k≤es.length∧vd = .int .i64 (dep es k)∧(∀ j,j<k→exAt es j=true)∧Below w.heap.size w wr) (fun _ i _=>es.length-(intOf i).toNat)
 case atStart=>exact⟨0,rfl,Nat.zero_le _,rfl,fun j hj=>absurd hj (by omega),Below.refl _ _⟩
 case round =>
  obtain⟨k,rfl,hk,rfl,hall,hb⟩:=hrel;have hdi:=ZgA es k;have hds:dep es (k+1)=dep es k-Zai (es.getD k (0,0))+1:=rfl;have hpi:=Zc4 (es.getD k (0,0));have hex:exAt es k=(decide (0≤Zai (es.getD k (0,0)))&&decide (Zai (es.getD k (0,0))≤dep es k)):=rfl;have Hall:=qh hall;have Hb:=qh hb;clear hall hb;by_cases hlt:k<es.length
  ·have hlt2:(k:Int)<es.length:=by omega
   obtain⟨b,o,rfl,-,hbl,hcs⟩:=Hrd.out (by omega);obtain⟨g1,g2⟩:=hcs k hlt;have k1:=(bcell Hb.out b _ hbl).trans g1;have k2:=(bcell Hb.out b _ hbl).trans g2;obtain⟨p,hp⟩:=eI (es.getD k (0,0));rw[← hp] at k1 k2 hds hpi hex;obtain⟨p1,p2⟩:=p;simp only at k1 k2;obtain⟨n,hn⟩:=eI (Zai (p1,p2));rw[← hn] at hds hpi hex;obtain⟨D,hD⟩:=eI (dep es k);rw[← hD] at hds hdi hex;rw[← hD];obtain⟨hd1,hd2⟩:=hdi;obtain⟨hp1,hp2⟩:=hpi;have Hds:=qh hds;have Hex:=qh hex;replace hp:=qh hp;replace hn:=qh hn;replace hD:=qh hD;clear hds hex hcs g1 g2;go_wp2_with fail;refine(Zbd p1 p2 _ _ hn.out.symm).mono ?_;rintro e w1 ⟨rfl,hb1⟩;have Hb1:=qh (Hb.out.trans (hb1.mono Hb.out.size));clear hb1 k1 k2;by_cases hn0:n<0
   ·have q1:(n<0)=True:=by simp[hn0]
    have hrf:false=r:=by rw[← Hr.out];exact(ZhJ hlt (by rw[Hex.out,decide_eq_false (by omega)];rfl)).symm
    subst hrf;go_wp2;go_ret;exact⟨rfl,Hb1.out⟩
   have q1:(n<0)=False:=by simp;omega
   have hn1:0≤n:=by omega
   clear hn0;by_cases hDn:D<n
   ·have q2:(D<n)=True:=by simp[hDn]
    have hrf:false=r:=by rw[← Hr.out];exact(ZhJ hlt (by rw[Hex.out,decide_eq_false (show ¬ n≤D by omega),Bool.and_false])).symm
    subst hrf;go_wp2;go_ret;exact⟨rfl,Hb1.out⟩
   have q2:(D<n)=False:=by simp;omega
   have hDn1:n≤D:=by omega
   clear hDn;go_wp2;go_roundw
   case rel =>
    refine⟨k+1,by go_num,by omega,by rw[Hds.out],fun j hj => ?_,Hb1.out⟩;by_cases e:j=k
    ·rw[e,Hex.out,decide_eq_true hn1,decide_eq_true hDn1];rfl
    exact Hall.out j (by omega)
   case measure=>simp[intOf];omega
  obtain rfl:k=es.length:=by omega
  have hro:exOk es=(decide (dep es es.length=1)&&decide (es.length≤60)):=by unfold exOk;rw[List.all_eq_true.2 (fun j hj=>Hall.out j (List.mem_range.1 hj)),Bool.true_and]
  obtain⟨D,hD⟩:=eI (dep es es.length);rw[← hD] at hro;rw[← hD];rw[Hr.out] at hro;have Hro:=qh hro;replace hD:=qh hD;clear hro hdi hds hpi hex;by_cases hD1:D=1
  ·subst hD1;by_cases h60:es.length≤60
   ·have q1:((es.length:Int)≤60)=True:=by simp;omega
    have hrt:true=r:=by rw[Hro.out,decide_eq_true h60];rfl
    subst hrt;go_wp2;go_ret;exact⟨rfl,Hb.out⟩
   have q1:((es.length:Int)≤60)=False:=by simp;omega
   have hrt:false=r:=by rw[Hro.out,decide_eq_false h60];rfl
   subst hrt;clear h60;go_wp2;go_ret;exact⟨rfl,Hb.out⟩
  obtain⟨q1,q2,q3,q4⟩:=Zaq hD1;have hrt:false=r:=by rw[Hro.out,decide_eq_false hD1];rfl
  subst hrt;clear hD1;go_wp2;go_ret;exact⟨rfl,Hb.out⟩
theorem Zg4 (es:List (Int × Int)) (en at':Nat) (v:Value) (w:World) (hlen:es.length≤1000000) (hen:en<es.length) (h:Pairs 0 w v es) (ha:ZbB es (en+1) at') :
  Calls Try.prog 126 #[v,.int .i64 ((en:Nat):Int)] w fun e w'=>e = .returned (.int .i64 ((at':Nat):Int))∧Below w.heap.size w w':=by
 obtain⟨a,c,rfl,hc1,hc2,hrd⟩:=h.form;obtain⟨b,o,rfl,-,hbl,hcs⟩:=hrd (by omega);obtain⟨ha1,ha2,ha3⟩:=ha;have Hcs:=qh hcs;have Ha2:=qh ha2;have Ha3:=qh ha3;have hde:=ZgA es (en+1);obtain⟨hde1,hde2⟩:=hde;obtain⟨E,hE⟩:=eI (dep es (en+1));rw[← hE] at hde1 hde2;replace hE:=qh hE;clear h hcs hrd ha2 ha3
 go_enter Try.func126, Try.ntmps126
 go_wp2
 go_loopw [5,6] (fun vn i wr=>∃ k:Nat,i = .int .i64 k∧at'≤k∧k≤en∧vn = .int .i64 (1+dep es (k+1)-E)∧Below w.heap.size w wr) (fun _ i _=>(intOf i).toNat)
 case atStart=>exact⟨en,rfl,by omega,Nat.le_refl _,by rw[hE.out];congr 1;omega,Below.refl _ _⟩
 case round =>
  obtain⟨k,rfl,hak,hk,rfl,hb⟩:=hrel;have hlt2:(k:Int)<es.length:=by omega
  have hdi:=ZgA es (k+1);have hdk:=ZgA es k;have hds:dep es (k+1)=dep es k-Zai (es.getD k (0,0))+1:=rfl;have hpi:=Zc4 (es.getD k (0,0));obtain⟨g1,g2⟩:=Hcs.out k (by omega);have k1:=(bcell hb b _ hbl).trans g1;have k2:=(bcell hb b _ hbl).trans g2;obtain⟨p,hp⟩:=eI (es.getD k (0,0));rw[← hp] at k1 k2 hds hpi;obtain⟨p1,p2⟩:=p;simp only at k1 k2;obtain⟨n,hn⟩:=eI (Zai (p1,p2));rw[← hn] at hds hpi;obtain⟨D1,hD1⟩:=eI (dep es (k+1));rw[← hD1] at hds hdi;rw[← hD1];obtain⟨D,hD⟩:=eI (dep es k);rw[← hD] at hds hdk;obtain⟨hd1,hd2⟩:=hdi;obtain⟨hd3,hd4⟩:=hdk;obtain⟨hp1,hp2⟩:=hpi;have hsum:1+D1-E-1+n=1+D-E:=by omega
  have Hb:=qh hb;have Hds:=qh hds;have Hsum:=qh hsum;have Hhp:=qh hp;clear hp;have Hhn:=qh hn;clear hn;replace hD:=qh hD;have HhD1:=qh hD1;clear hD1;clear hds hsum g1 g2 hb;go_wp2_with fail;refine(Zbd p1 p2 _ _ Hhn.out.symm).mono ?_;rintro e w1 ⟨rfl,hb1⟩;have Hb1:=qh (Hb.out.trans (hb1.mono Hb.out.size));clear hb1 k1 k2;by_cases hka:k=at'
  ·subst hka;have hz:1+D1-E-1+n=0:=by rw[Hsum.out,hD.out,Ha2.out,← hE.out];omega
   go_wp2;go_ret;exact⟨rfl,Hb1.out⟩
  have hz:1+D1-E-1+n≠0:=by rw[Hsum.out];intro he;have h:=Ha3.out k (by omega) (by omega);rw[← hE.out,← hD.out] at h;omega
  obtain⟨z1,z2,z3,z4⟩:=Zaq hz;have hsm:1+D1-E-1+n=1+dep es ((k-1)+1)-E:=by rw[Hsum.out,show(k-1)+1=k by omega,hD.out]
  have Hsm:=qh hsm;have hk0:1≤k:=by omega
  clear hz hsm;go_wp2;go_roundw
  case rel=>exact⟨k-1,by congr 1;omega,by omega,by omega,by rw[Hsm.out],Hb1.out⟩
  case measure=>simp[intOf];omega
def splits (es:List (Int × Int)) (xs ys:List (Int × Int)):Prop:=(Zai (es.getD (es.length-1) (0,0))=0→xs=[]∧ys=[])∧(Zai (es.getD (es.length-1) (0,0))=1→xs=es.take (es.length-1)∧ys=[]) ∧
 (Zai (es.getD (es.length-1) (0,0))=2→∃ a,ZbB es (es.length-1) a∧xs=es.take a∧ys=(es.drop a).take (es.length-1-a))
theorem Zd4 (w:World) (a:Option Addr) {c:Nat} (hc:c≤maxLen):Pairs 0 w (.slice a 0 c) []:=⟨rfl,_,_,rfl,Nat.zero_le _,hc,fun h=>by simp at h⟩
theorem Zbk (es:List (Int × Int)) (v:Value) (w:World) (hok:exOk es=true) (h:Pairs 0 w v es) :
  Calls Try.prog 91 #[v] w fun e w'=>∃ vx vy xs ys,splits es xs ys∧e = .returned (.tuple #[vx,vy])∧Pairs 0 w' vx xs∧Pairs 0 w' vy ys∧Below w.heap.size w w':=by
 obtain⟨hall,hd1,hl1,hl60⟩:=ZcH hok;have Hp:=qh h;obtain⟨a,c,rfl,hc1,hc2,hrd⟩:=h.form;obtain⟨b,o,rfl,-,hbl,hcs⟩:=hrd (by omega);obtain⟨m,hm⟩:∃ m,es.length=m+1:=⟨es.length-1,by omega⟩;obtain⟨g1,g2⟩:=hcs m (by omega);have hpn:=hall m (by omega);have hpi:=Zc4 (es.getD m (0,0));have hdm:dep es (m+1)=dep es m-Zai (es.getD m (0,0))+1:=rfl;rw[← hm,hd1] at hdm;have hbeg:Zai (es.getD m (0,0))=2→∃ a,ZbB es m a:=fun h2=>ZjN (fun k hk=>(hall k (by omega)).1) (by omega)
 have hsp:∀ xs ys,splits es xs ys↔(Zai (es.getD m (0,0))=0→xs=[]∧ys=[])∧(Zai (es.getD m (0,0))=1→xs=es.take m∧ys=[])∧(Zai (es.getD m (0,0))=2→∃ a,ZbB es m a∧xs=es.take a∧ys=(es.drop a).take (m-a)):=fun xs ys=>by unfold splits;rw[show es.length-1=m by omega]
 obtain⟨p,hp⟩:=eI (es.getD m (0,0));rw[← hp] at g1 g2 hpi hpn hbeg hsp;obtain⟨p1,p2⟩:=p;simp only at g1 g2;obtain⟨n,hn⟩:=eI (Zai (p1,p2));rw[← hn] at hpi hpn hbeg hsp;have hn3:n=0∨n=1∨n=2:=by omega
 have Hbeg:=qh hbeg;have Hsp:=qh hsp;have hml:(m:Int)<es.length:=by omega
 replace hn:=qh hn;have Hhp:=qh hp;clear hp;clear hall hd1 h hok hcs hrd hdm hbeg hsp hpn hpi;have hlen:(es.length:Int)-1=(m:Int):=by omega
 replace hm:=qh hm
 go_enter Try.func91, Try.ntmps91
 rcases hn3 with rfl|rfl|rfl
 ·go_wp2_with fail;refine(Zbd p1 p2 _ _ hn.out.symm).mono ?_;rintro e w1 ⟨rfl,hb1⟩;have HS:=qh (((((St.start w).call hb1).alloc_ (.cells #[] 72)).alloc_ (.cells #[] 72)).bel);clear hb1;go_wp2;refine bodyPost_ret (v:=.tuple #[.slice (some ⟨w1.heap.size,0,none⟩) 0 0,.slice (some ⟨w1.heap.size+1,0,none⟩) 0 0]) (by simp[results,Try.results91,go_sem]) rfl ?_;exact⟨_,_,[],[],(Hsp.out _ _).2 ⟨fun _=>⟨rfl,rfl⟩,fun h=>absurd h (by omega),fun h=>absurd h (by omega)⟩,rfl,Zd4 _ _ (by unfold maxLen;omega),Zd4 _ _ (by unfold maxLen;omega),HS.out⟩
 ·have hcI:(m:Int)≤c:=by omega
  go_wp2_with fail;refine(Zbd p1 p2 _ _ hn.out.symm).mono ?_;rintro e w1 ⟨rfl,hb1⟩;have HS:=qh ((((St.start w).call hb1).alloc_ (.cells #[] 72)).bel);clear hb1;go_wp2;refine bodyPost_ret (v:=.tuple #[.slice (some ⟨b,o,none⟩) m c,.slice (some ⟨w1.heap.size,0,none⟩) 0 0]) (by simp[results,Try.results91,go_sem]) rfl ?_;exact⟨_,_,es.take m,[],(Hsp.out _ _).2 ⟨fun h=>absurd h (by omega),fun _=>⟨rfl,rfl⟩,fun h=>absurd h (by omega)⟩,rfl,(Hp.out.below HS.out).take (by have:=hm.out;omega),Zd4 _ _ (by unfold maxLen;omega),HS.out⟩
 obtain⟨at',hat⟩:=Hbeg.out rfl;have ha1:=hat.1;obtain⟨q,hqm⟩:∃ q,m=q+1:=⟨m-1,by omega⟩;have hq:(m:Int)-1=(q:Int):=by omega
 have haI:(at':Int)≤(m:Int):=by omega
 have haC:(at':Int)≤c:=by omega
 have hqC:(m:Int)≤c:=by omega
 rw[hqm] at hat;have Hhqm:=qh hqm;clear hqm;have Hat:=qh hat;clear hat;go_wp2_with fail;refine(Zbd p1 p2 _ _ hn.out.symm).mono ?_;rintro e w1 ⟨rfl,hb1⟩;have HS:=qh ((St.start w).call hb1);clear hb1;go_wp2_with fail;refine(Zg4 es q at' _ _ (by have:=hm.out;omega) (by have:=hm.out;have:=Hhqm.out;omega) (Hp.out.below HS.out.bel) Hat.out).mono ?_;rintro e w2 ⟨rfl,hb2⟩;have HS2:=qh (HS.out.call hb2);clear hb2;go_wp2
 go_quiet (fail)
 go_wp2;have HS3:=qh (HS2.out.drewN nq);refine bodyPost_ret (v:=.tuple #[.slice (some ⟨b,o,none⟩) at' c,.slice (some ⟨b,o+at'*2,none⟩) (m-at') (c-at')]) (by simp[results,Try.results91,go_sem]) rfl ?_;have hml2:=hm.out
 exact⟨_,_,es.take at',(es.drop at').take (m-at'),(Hsp.out _ _).2 ⟨fun h=>absurd h (by omega),fun h=>absurd h (by omega),fun _=>⟨at',by rw[Hhqm.out];exact Hat.out,rfl,rfl⟩⟩,rfl,
  (Hp.out.below HS3.out.bel).take (by omega),((Hp.out.below HS3.out.bel).drop (by omega)).take (by rw[List.length_drop];omega),HS3.out.bel⟩
theorem Zh8 {p:Nat→Bool} {k:Nat} (h:(List.range k).all p=true) (hp:p k=true):(List.range (k+1)).all p=true:=by rw[List.range_succ,List.all_append,h];simp[hp]
end Go.Proofs.Ytfanhfcamblghaa
namespace Go.Proofs.Ytfanhfcamblghaa
open Go.RowKit
end Go.Proofs.Ytfanhfcamblghaa
namespace Go.Proofs.Ytfanhfcamblghaa
open Go.RowKit
def adj (v s:Nat):Nat:=v ||| 2 ^ s
theorem Zfz (v s t:Nat):(adj v s).testBit t=(v.testBit t||decide (s=t)):=by unfold adj;rw[Nat.testBit_or,Nat.testBit_two_pow]
theorem ZjS {v s n:Nat} (hv:v<2 ^ n) (hs:s<n):adj v s<2 ^ n:=Nat.or_lt_two_pow hv (Nat.pow_lt_pow_right (by omega) hs)
def flags (n v:Nat):List Bool:=(List.range n).map v.testBit
theorem Zes (n v:Nat):(flags n v).length=n:=by simp[flags]
theorem Zdr {n v s:Nat} (h:s<n):(flags n v).getD s false=v.testBit s:=by simp[flags,h]
theorem Zjx {n v s:Nat}:flags n (adj v s)=(flags n v).set s true:=by
 apply List.ext_getElem
 ·simp[flags]
 intro i h1 h2;simp only[flags,List.getElem_map,List.getElem_range];rw[List.getElem_set,Zfz];by_cases h:s=i<;>simp[h]
theorem Ziu (n:Nat):flags n 0=List.replicate n false:=by
 apply List.ext_getElem
 ·simp[flags]
 intro i h1 h2;simp[flags]
theorem Zjw {n u v:Nat} (hu:u<2 ^ n) (hv:v<2 ^ n) (h:flags n u=flags n v):u=v:=by
 apply Nat.eq_of_testBit_eq;intro i;by_cases hi:i<n
 ·rw[← Zdr (v:=u) hi,h,Zdr hi]
 rw[Nat.testBit_lt_two_pow (Nat.lt_of_lt_of_le hu (Nat.pow_le_pow_right (by omega) (by omega))),Nat.testBit_lt_two_pow (Nat.lt_of_lt_of_le hv (Nat.pow_le_pow_right (by omega) (by omega)))]
def setV (l:List Int):Nat:=l.foldl (fun v s=>adj v s.toNat) 0
theorem Zb0 {α β:Type} (f:β→α→β) (b:β) {l:List α} {k:Nat} (hk:k<l.length) (d:α):(l.take (k+1)).foldl f b=f ((l.take k).foldl f b) (l.getD k d):=by rw[List.take_succ_eq_append_getElem hk,List.foldl_append];simp[hk]
theorem Zcs {α β:Type} (f:β→α→β) (Q:β→Prop) {l:List α} (hf:∀ b,∀ x∈l,Q b→Q (f b x)):∀ {b:β},Q b→Q (l.foldl f b):=by
 induction l with
 | nil=>intro b h;exact h
 | cons x l ih=>intro b h;exact ih (fun b y hy=>hf b y (by simp[hy])) (hf b x (by simp) h)
theorem ZeF {α β:Type} (f:β→α→β) (Q:β→Prop) {l:List α} (hf:∀ b,∀ x∈l,Q b→Q (f b x)) {b:β} (h:Q b) (k:Nat):Q ((l.take k).foldl f b) :=
 Zcs f Q (fun b x hx=>hf b x (List.mem_of_mem_take hx)) h
def inN (n:Nat) (l:List Int):Prop:=∀ s∈l,0≤s∧s<(n:Int)
theorem ZiI {n:Nat} {l:List Int} (h:inN n l):setV l<2 ^ n :=
 Zcs _ (fun v=>v<2 ^ n) (fun v s hs hv=>ZjS hv (by have:=h s hs;omega)) (Nat.two_pow_pos n)
def mvIn (n:Nat) (ms:List (Int × Int × Int)):Prop:=∀ m∈ms,(0≤m.1∧m.1<(n:Int))∧(0≤m.2.2∧m.2.2<(n:Int))
def Zaw (v:Nat) (m:Int × Int × Int):Nat:=if (decide (m.2.1 = -1)&&v.testBit m.1.toNat && !v.testBit m.2.2.toNat)=true then adj v m.2.2.toNat else v
def ZhQ (ms:List (Int × Int × Int)) (v:Nat):Nat:=ms.foldl Zaw v
def clIt (ms:List (Int × Int × Int)) (v:Nat):Nat→Nat
 | 0=>v
 | k+1=>ZhQ ms (clIt ms v k)
def clV (n:Nat) (ms:List (Int × Int × Int)) (v:Nat):Nat:=clIt ms v n
def Zbv (v:Nat) (c:Int) (u:Nat) (m:Int × Int × Int):Nat:=if (decide (m.2.1=c)&&v.testBit m.1.toNat)=true then adj u m.2.2.toNat else u
def stV (n:Nat) (ms:List (Int × Int × Int)) (v:Nat) (c:Int):Nat:=clV n ms (ms.foldl (Zbv v c) 0)
theorem ZgB {n:Nat} {ms:List (Int × Int × Int)} (h:mvIn n ms) {m:Int × Int × Int} (hm:m∈ms) {v:Nat} (hv:v<2 ^ n):Zaw v m<2 ^ n:=by
 unfold Zaw
 split
 ·exact ZjS hv (by have:=(h m hm).2;omega)
 exact hv
theorem ZjF {n:Nat} {ms:List (Int × Int × Int)} (h:mvIn n ms) {v:Nat} (hv:v<2 ^ n):ZhQ ms v<2 ^ n:=Zcs _ (fun v=>v<2 ^ n) (fun _ _ hm hv=>ZgB h hm hv) hv
theorem ZfL {n:Nat} {ms:List (Int × Int × Int)} (h:mvIn n ms) {v:Nat} (hv:v<2 ^ n):∀ k,clIt ms v k<2 ^ n
 | 0=>hv
 | k+1=>ZjF h (ZfL h hv k)
theorem Zf1 {n:Nat} {ms:List (Int × Int × Int)} (h:mvIn n ms) {m:Int × Int × Int} (hm:m∈ms) {v u:Nat} {c:Int} (hu:u<2 ^ n):Zbv v c u m<2 ^ n:=by
 unfold Zbv
 split
 ·exact ZjS hu (by have:=(h m hm).2;omega)
 exact hu
def clr (n v:Nat):Nat:=((List.range n).filter fun i => !v.testBit i).length
theorem Zgv {α:Type} {p q:α→Bool}:∀ {l:List α},(∀ x∈l,p x=true→q x=true)→(l.filter p).length≤(l.filter q).length
 | [],_=>by simp
 | x::l,h=>by
  have ih:=Zgv (l:=l) fun y hy=>h y (by simp[hy])
  have hx:=h x (by simp);simp only[List.filter_cons];by_cases hp:p x=true
  ·rw[if_pos hp,if_pos (hx hp)];simp;omega
  rw[if_neg hp]
  split<;>simp<;>omega
theorem Zcw {α:Type} {p q:α→Bool} {a:α} (hp:p a=false) (hq:q a=true):∀ {l:List α},a∈l→(∀ x∈l,p x=true→q x=true)→(l.filter p).length<(l.filter q).length
 | [],h,_=>by simp at h
 | x::l,ha,h=>by
  have hle:=Zgv (l:=l) fun y hy=>h y (by simp[hy])
  simp only[List.filter_cons];by_cases hx:a=x
  ·subst hx;rw[if_neg (by simp[hp]),if_pos hq];simp;omega
  have ih:=Zcw hp hq (l:=l) (by simpa [hx] using ha) fun y hy=>h y (by simp[hy])
  have hxx:=h x (by simp);by_cases hpx:p x=true
  ·rw[if_pos hpx,if_pos (hxx hpx)];simp;omega
  rw[if_neg hpx]
  split<;>simp<;>omega
theorem ZkR (n v:Nat):clr n v≤n:=by have:=List.length_filter_le (fun i => !v.testBit i) (List.range n);simpa [clr] using this
theorem Zlk {n v s:Nat} (hs:s<n) (h:v.testBit s=false):clr n (adj v s)<clr n v:=by
 unfold clr;refine Zcw (a:=s) (by simp[Zfz]) (by simp[h]) (by simpa using hs) fun x _ hx => ?_
 rw[Zfz] at hx;simp at hx ⊢;exact hx.1
theorem Zdv {n:Nat} {m:Int × Int × Int} (hm:0≤m.2.2∧m.2.2<(n:Int)) (v:Nat):Zaw v m=v∨clr n (Zaw v m)<clr n v:=by
 unfold Zaw
 split
 ·rename_i h;simp only[Bool.and_eq_true,Bool.not_eq_true'] at h;exact .inr (Zlk (by omega) h.2)
 exact .inl rfl
theorem Zb2 {n:Nat}:∀ {ms:List (Int × Int × Int)},(∀ m∈ms,0≤m.2.2∧m.2.2<(n:Int))→∀ v,ms.foldl Zaw v=v∨clr n (ms.foldl Zaw v)<clr n v
 | [],_,v => .inl rfl
 | m::ms,h,v=>by
  have h1:=Zdv (h m (by simp)) v;have h2:=Zb2 (ms:=ms) (fun m hm=>h m (by simp[hm])) (Zaw v m);simp only[List.foldl_cons];rcases h1 with h1|h1
  ·rw[h1] at h2 ⊢;exact h2
  rcases h2 with h2|h2
  ·rw[h2];exact .inr h1
  exact .inr (Nat.lt_trans h2 h1)
theorem Zde {ms:List (Int × Int × Int)} {v j:Nat} (h:clIt ms v (j+1)=clIt ms v j):∀ k,j≤k→clIt ms v k=clIt ms v j
 | 0,hk=>by obtain rfl:j=0:=by omega
            rfl
 | k+1,hk=>by
  by_cases e:j=k+1
  ·subst e;rfl
  have ih:=Zde h k (by omega);show ZhQ ms (clIt ms v k)=_;rw[ih];exact h
theorem Zev {n:Nat} {ms:List (Int × Int × Int)} (h:mvIn n ms) (v:Nat):∀ k,clIt ms v (k+1)=clIt ms v k∨clr n (clIt ms v (k+1))+(k+1)≤clr n v
 | 0=>by
  rcases Zb2 (n:=n) (ms:=ms) (fun m hm=>(h m hm).2) v with e|e
  ·exact .inl e
  exact .inr (by show clr n (ZhQ ms v)+1≤_;exact e)
 | k+1=>by
  rcases Zev h v k with e|e
  ·left;have:=Zde e (k+1+1) (by omega);rw[this,e]
  rcases Zb2 (n:=n) (ms:=ms) (fun m hm=>(h m hm).2) (clIt ms v (k+1)) with e2|e2
  ·exact .inl e2
  right;have:clr n (clIt ms v (k+1+1))<clr n (clIt ms v (k+1)):=e2;omega
theorem Zlw {n:Nat} {ms:List (Int × Int × Int)} (h:mvIn n ms) {v j:Nat} (hj:clIt ms v (j+1)=clIt ms v j):clV n ms v=clIt ms v j:=by
 unfold clV;by_cases hjn:j≤n
 ·exact Zde hj n hjn
 rcases Zev h v n with e|e
 ·exact(Zde e j (by omega)).symm
 have:=ZkR n v;omega
theorem Zix {n:Nat} {ms:List (Int × Int × Int)} (h:mvIn n ms) {v k:Nat} (hk:clIt ms v (k+1)≠clIt ms v k):k<n:=by
 rcases Zev h v k with e|e
 ·exact absurd e hk
 have:=ZkR n v;omega
theorem ZjG {n:Nat} {ms:List (Int × Int × Int)} (h:mvIn n ms) {v:Nat} {k:Nat} (hk:k<ms.length) (hne:Zaw ((ms.take k).foldl Zaw v) (ms.getD k (0,0,0))≠(ms.take k).foldl Zaw v):(ms.take (k+1)).foldl Zaw v≠v:=by
 have h1:=Zb2 (n:=n) (ms:=ms.take k) (fun m hm=>(h m (List.mem_of_mem_take hm)).2) v;have hmem:ms.getD k (0,0,0)∈ms:=by rw[List.getD_eq_getElem?_getD,List.getElem?_eq_getElem hk];simp
 have h2:=Zdv (n:=n) (h _ hmem).2 ((ms.take k).foldl Zaw v);rw[Zb0 Zaw v hk (0,0,0)];intro e;rcases h2 with h2|h2
 ·exact hne h2
 rw[e] at h2;rcases h1 with h1|h1
 ·rw[h1] at h2;omega
 omega
theorem ZeI {n:Nat} {ms:List (Int × Int × Int)} (h:mvIn n ms) {v:Nat} {k:Nat} (hk:k<ms.length) (hne:(ms.take k).foldl Zaw v≠v):(ms.take (k+1)).foldl Zaw v≠v:=by
 have h1:=Zb2 (n:=n) (ms:=ms.take k) (fun m hm=>(h m (List.mem_of_mem_take hm)).2) v;have hmem:ms.getD k (0,0,0)∈ms:=by rw[List.getD_eq_getElem?_getD,List.getElem?_eq_getElem hk];simp
 have h2:=Zdv (n:=n) (h _ hmem).2 ((ms.take k).foldl Zaw v);rw[Zb0 Zaw v hk (0,0,0)];rcases h1 with h1|h1
 ·exact absurd h1 hne
 rcases h2 with h2|h2
 ·rw[h2];exact hne
 intro e;rw[e] at h2;omega
end Go.Proofs.Ytfanhfcamblghaa
namespace Go.Proofs.Ytfanhfcamblghaa
open Go.RowKit
theorem offL {x p q:Bool} (h:x=true→p=true∧q=true) (hp:p=false):x=false:=by
 cases x with
 | false=>rfl
 | true=>rw[hp] at h;exact absurd (h rfl).1 (by decide)
theorem offR {x p q:Bool} (h:x=true→p=true∧q=true) (hq:q=false):x=false:=by
 cases x with
 | false=>rfl
 | true=>rw[hq] at h;exact absurd (h rfl).2 (by decide)
section
variable {P:Program} {ops:Array Oper} {Q:Exit→Act→World→Prop} {md:Region.Mode}
def unl (n:Nat) (listed:Array Bool):Nat:=((List.range n).filter fun i => !listed.getD i true).length
theorem ZkC (n:Nat) (listed:Array Bool):unl n listed≤n:=by unfold unl;have:=List.length_filter_le (fun i => !listed.getD i true) (List.range n);simpa using this
theorem ZiB {n i:Nat} {listed:Array Bool} (hi:i<n) (h:listed.getD i true=false):unl n (listed.setIfInBounds i true)<unl n listed:=by
 refine Zcw (a:=i) ?_ (by simp only[h];rfl) (List.mem_range.2 hi) fun x _ hx => ?_
 ·simp only[Bool.not_eq_false'];rcases Nat.lt_or_ge i listed.size with h1|h1
  ·simp[h1]
  simp[Array.getElem?_eq_none h1] at h
 by_cases hxi:i=x
 ·subst hxi;simp only[h];rfl
 simpa [hxi] using hx
theorem ZdY (Inv:Array Bool→Act→World→Prop) (hstep:∀ listed a w,Inv listed a w→∀ i∈Region.ready md ops listed,wpOp P ops Q i (Inv (listed.setIfInBounds i true)) a w)
  (hdone:∀ listed a w,Inv listed a w→Region.ready md ops listed=[]→Q .normal a w):∀ (fuel:Nat) (listed:Array Bool) (a:Act) (w:World),unl ops.size listed≤fuel→Inv listed a w→wpAny P md ops Q fuel listed a w
 | 0,listed,a,w,hf,h=>by
  have hr:Region.ready md ops listed=[]:=by
   refine List.eq_nil_iff_forall_not_mem.2 fun i hi => ?_
   obtain⟨hun,o,ho,-⟩:=mem_ready.1 hi;have:=ZiB (n:=ops.size) (Array.getElem?_eq_some_iff.1 ho).1 hun;omega
  exact⟨hr,hdone _ _ _ h hr⟩
 | fuel+1,listed,a,w,hf,h=>⟨fun h0=>hdone _ _ _ h h0,fun i hi=>wpOp_mono (fun a' w' h'=>ZdY Inv hstep hdone fuel _ a' w' (by obtain⟨hun,o,ho,-⟩:=mem_ready.1 hi;have:=ZiB (n:=ops.size) (Array.getElem?_eq_some_iff.1 ho).1 hun;omega) h') (hstep _ _ _ h i hi)⟩
theorem Zak (Inv:Act→Array Bool→Act→World→Prop) {a:Act} {w:World} (hstep:∀ listed b w,Inv a listed b w→∀ i∈Region.ready md ops listed,wpOp P ops Q i (Inv a (listed.setIfInBounds i true)) b w)
  (hdone:∀ listed b w,Inv a listed b w→Region.ready md ops listed=[]→Q .normal b w) (h0:Inv a (Array.replicate ops.size false) a w):wpAny P md ops Q ops.size (Array.replicate ops.size false) a w :=
 ZdY (Inv a) hstep hdone _ _ _ _ (ZkC _ _) h0
def ZhM (ops:Array Oper):Bool:=(List.range ops.size).all fun i=>match ops[i]? with
 | some o=>o.after.all fun e=>decide (e.on<i)
 | none=>true
theorem ZaJ {listed:Array Bool} (hd:ZhM ops=true) (hs:listed.size=ops.size) (hr:Region.ready md ops listed=[]):∀ i,i<ops.size→listed.getD i true=true:=by
 intro i
 induction i using Nat.strongRecOn with
 | ind i ih =>
  intro hi;cases h:listed.getD i true with
  | true=>rfl
  | false =>
   exfalso
   have hmem:i∈Region.ready md ops listed:=by
    refine mem_ready.2 ⟨h,ops[i],by simp[hi],fun e he _ => ?_⟩;simp only[ZhM,List.all_eq_true,List.mem_range] at hd;have h1:=hd i hi;simp only[Array.getElem?_eq_getElem hi] at h1;have h2:e.on<i:=by have:=(Array.all_eq_true_iff_forall_mem.1 h1) e he;simpa using this
    have h3:=ih e.on h2 (by omega);have h4:e.on<listed.size:=by omega
    simpa [h4] using h3
   rw[hr] at hmem;cases hmem
end
end Go.Proofs.Ytfanhfcamblghaa
namespace Go.Proofs.Ytfanhfcamblghaa
open Go.RowKit
section
variable {ops:Array Oper} {md:Region.Mode}
def Zgz (md:Region.Mode) (ops:Array Oper):Bool:=(List.range ops.size).all fun i=>match ops[i]? with
 | some o=>o.after.all fun e => !Region.binds md e||decide (e.on<i)
 | none=>true
theorem Zay {listed:Array Bool} (hd:Zgz md ops=true) (hs:listed.size=ops.size) (hr:Region.ready md ops listed=[]):∀ i,i<ops.size→listed.getD i true=true:=by
 intro i
 induction i using Nat.strongRecOn with
 | ind i ih =>
  intro hi;cases h:listed.getD i true with
  | true=>rfl
  | false =>
   exfalso
   have hmem:i∈Region.ready md ops listed:=by
    refine mem_ready.2 ⟨h,ops[i],by simp[hi],fun e he hbd => ?_⟩;simp only[Zgz,List.all_eq_true,List.mem_range] at hd;have h1:=hd i hi;simp only[Array.getElem?_eq_getElem hi] at h1;have h2:e.on<i:=by have:=(Array.all_eq_true_iff_forall_mem.1 h1) e he;rw[hbd] at this;simpa using this
    have h3:=ih e.on h2 (by omega);have h4:e.on<listed.size:=by omega
    simpa [h4] using h3
   rw[hr] at hmem;cases hmem
end
end Go.Proofs.Ytfanhfcamblghaa
namespace Go.Proofs.Ytfanhfcamblghaa
open Go.RowKit Go.Maps
def eds (d:DfaD):Nat→List Int
 | 0=>[]
 | s+1=>if d.ends.getD s false=true then eds d s++[(s:Int)] else eds d s
theorem Zds (d:DfaD):∀ s,(eds d s).length≤s
 | 0=>Nat.le_refl _
 | s+1=>by
  have ih:=Zds d s;unfold eds
  split
  ·rw[List.length_append,List.length_singleton];omega
  omega
theorem Zan (l:List Int) (x:Int):intCells (l++[x])=intCells l++[.int .i64 x]:=by simp[intCells]
theorem ZaV {k:IntKind} {x:Int}:∀ u∈[Value.int k x],u.oneCell'=true:=by intro u hu;simp only[List.mem_singleton] at hu;subst hu;rfl
def RNfaS (n:NfaD) (w:World) (e:Ending) (w':World):Prop:=∃ a1 c1 a2 c2 a3 c3,e = .returned (.agg #[.int .i64 n.states,.slice a1 n.moves.length c1,.slice a2 n.firsts.length c2,.slice a3 n.ends.length c3]) ∧
 St w w' [Ent.row 34 3 (.slice a1 n.moves.length c1) n.moves.length (n.moves.flatMap Zac),Ent.row 3 1 (.slice a2 n.firsts.length c2) n.firsts.length (intCells n.firsts),Ent.row 3 1 (.slice a3 n.ends.length c3) n.ends.length (intCells n.ends)]
theorem Zcn {w:World} {B e:Nat} {v:Value} {xs:List (Int × Int × Int)} (hr:w.ownsRow B e 3 v xs.length (xs.flatMap Zac)):Moves 0 w v xs :=
 ((Zaa hr).sl (by omega)).mono (Nat.zero_le _)
theorem Zgq {w:World} {B e:Nat} {v:Value} {xs:List Int} (hr:w.ownsRow B e 1 v xs.length (intCells xs)):Ints 0 w v xs :=
 ((Zaa hr).sl (by omega)).mono (Nat.zero_le _)
theorem St.moves {w0 w:World} {L:List Ent} (h:St w0 w L) (i:Nat) {e:Nat} {v:Value} {xs:List (Int × Int × Int)} (hx:L[i]? = some (Ent.row e 3 v xs.length (xs.flatMap Zac))):Moves 0 w v xs:=Zcn (h.row i hx)
theorem Try.infoMv:(Try.prog.info? 34).map (fun i=>(i.zero,i.size,i.bytes))=some (some (.agg #[.int .i64 0,.int .i64 0,.int .i64 0]),3,24):=by kernel_rfl
theorem Zgb {s c x:Int}:∀ u∈[Value.int .i64 s,Value.int .i64 c,Value.int .i64 x],u.oneCell'=true:=by intro u hu;simp at hu;rcases hu with rfl|rfl|rfl<;>rfl
theorem Zb1 (xs:List (Int × Int × Int)) (s c x:Int):(xs++[(s,c,x)]).flatMap Zac=xs.flatMap Zac++[.int .i64 s,.int .i64 c,.int .i64 x]:=by simp[Zac]
end Go.Proofs.Ytfanhfcamblghaa
namespace Go.Proofs.Ytfanhfcamblghaa
open Go.RowKit
section
variable {P:Program} (w:World)
theorem Zd7 {w:World} {base e size n:Nat} {v:Value} {xs:List Value} (h:w.ownsRow base e size v n xs):∃ a cap,v = .slice a n cap∧n≤cap:=by
 rcases h.2 with⟨h1,h2⟩|⟨g',cap',cur,h1,-,-,h4,-⟩
 ·exact⟨none,0,by rw[h1,h2],by omega⟩
 exact⟨_,cap',h1,h4⟩
theorem Zfk (t ty:TypeId) (base:Nat) (e:TypeId) (i:TypeInfo) (z:Value) (size bytes:Nat) (ht:P.underlying t=some (.slice e)) (hi:P.info? e=some i) (hz:i.zero=some z)
  (hsize:i.size=size) (hby:i.bytes=bytes) (hzs:z.cells.size=size) (hsz:0<size)
  (v:Value) (n:Nat) (xs:List Value) (hown:w.ownsRow base e size v n xs) (x:Value) (m:Nat) (news:List Value) (hx:Sl 0 w x m size news) (h1:∀ u∈news,u.oneCell'=true)
  (h63:n+m≤maxLen) (hbytes:(n+m)*bytes≤140737488355328) (hbase:base≤w.heap.size) :
  ∃ a' cap w',(Builtin.append_ #[t,t] ty #[v,x]).run P w = .ok (.slice a' (n+m) cap) w'∧w'.ownsRow base e size (.slice a' (n+m) cap) (n+m) (xs++news)∧w.grownBy w' v.ownBlock ∧
   (∀ k,(Value.slice a' (n+m) cap).ownBlock=some k→v.ownBlock=some k∨w.heap.size≤k):=by
 obtain⟨hl,a,cap,rfl,hle,hm,hc⟩:=hx;cases a with
 | some ad =>
  have hnews:∀ j u,news[j]? = some u→w.cell? (ad.add j)=some u:=fun j u hj=>by
   have hjl:=(List.getElem?_eq_some_iff.1 hj).1
   have hm0:0<m:=by
    rcases Nat.eq_zero_or_pos m with h0|h0
    ·rw[h0] at hl;omega
    exact h0
   obtain⟨b,off,ha,-,-,hcs⟩:=hc hm0;simp only[w_9] at ha;subst ha;rw[← hj,← hcs j (by omega),← Go.WideShapes.add_plain]
  obtain⟨v',w',hr,h2,h3,-,h5⟩:=run_append_own_at (P:=P) w base t ty e i z size bytes ht hi hz hsize hby hzs hsz v n xs hown ad m cap news hl hnews h1 h63 hbytes hbase;obtain⟨a',cap',rfl,-⟩:=Zd7 h2;refine⟨a',cap',w',hr,h2,h3,fun k hk => ?_⟩;rcases h5 with h5|h5
  ·exact Or.inl (by rw[← h5];exact hk)
  rw[h5] at hk;exact Or.inr (by simp only[w_9] at hk;omega)
 | none =>
  have hm0:m=0:=by
   rcases Nat.eq_zero_or_pos m with h0|h0
   ·exact h0
   obtain⟨b,off,ha,-⟩:=hc h0;cases ha
  subst hm0;have hnil:news=[]:=List.eq_nil_of_length_eq_zero (by omega);subst hnil;obtain⟨a',cap',rfl,hlc⟩:=Zd7 hown;subst hsize;refine⟨a',cap',w,run_append_nothing w t t ty e i ht hi a' n cap' hlc _ (Src.ofNil w ht cap),by simpa using hown,⟨rfl,rfl,rfl,Nat.le_refl _,fun _ _ _=>rfl⟩,fun k hk=>Or.inl hk⟩
theorem ZdB {o:Oper} {a:Act} {K:Act→World→Prop} {Q:Exit→Act→World→Prop} (s x:Operand) (t:TypeId)
  (ho:o.op = .call { callee:=.builtin .append,args:=#[s,x],argTypes:=#[t,t] })
  (base:Nat) (e:TypeId) (i:TypeInfo) (z:Value) (size bytes:Nat) (ht:P.underlying t=some (.slice e)) (hi:P.info? e=some i) (hz:i.zero=some z)
  (hsize:i.size=size) (hby:i.bytes=bytes) (hzs:z.cells.size=size) (hsz:0<size)
  (v:Value) (n:Nat) (xs:List Value) (hs:a.eval s=v) (hown:w.ownsRow base e size v n xs)
  (y:Value) (m:Nat) (news:List Value) (hy:a.eval x=y) (hx:Sl 0 w y m size news) (h1:∀ u∈news,u.oneCell'=true)
  (h63:n+m≤maxLen) (hbytes:(n+m)*bytes≤140737488355328) (hbase:base≤w.heap.size)
  (h:∀ a' cap w',w'.ownsRow base e size (.slice a' (n+m) cap) (n+m) (xs++news)→w.grownBy w' v.ownBlock→(∀ k,(Value.slice a' (n+m) cap).ownBlock=some k→v.ownBlock=some k∨w.heap.size≤k)→K (a.put o.dst (.slice a' (n+m) cap)) w'):o.wp P a w K Q:=by
 obtain⟨a',cap,w',hr,h2,h3,h4⟩:=Zfk (P:=P) w t o.type base e i z size bytes ht hi hz hsize hby hzs hsz v n xs hown y m news hx h1 h63 hbytes hbase;unfold Oper.wp execOp;simp only[ho,resolve,invoke,builtin,Sem.run_bind,Sem.run_pure,Result.andThen_ok,List.map_toArray,List.map_cons,List.map_nil,hs,hy,hr];exact h a' cap w' h2 h3 h4
theorem ZaF {ops:Array Oper} {rest:List Oper} {o:Oper} {a:Act} {Q:Exit→Act→World→Prop} (hgd:o.guard=none) (s x:Operand) (t:TypeId)
  (ho:o.op = .call { callee:=.builtin .append,args:=#[s,x],argTypes:=#[t,t] })
  (base:Nat) (e:TypeId) (i:TypeInfo) (z:Value) (size bytes:Nat) (ht:P.underlying t=some (.slice e)) (hi:P.info? e=some i) (hz:i.zero=some z)
  (hsize:i.size=size) (hby:i.bytes=bytes) (hzs:z.cells.size=size) (hsz:0<size)
  (v:Value) (n:Nat) (xs:List Value) (hs:a.eval s=v) (hown:w.ownsRow base e size v n xs)
  (y:Value) (m:Nat) (news:List Value) (hy:a.eval x=y) (hx:Sl 0 w y m size news) (h1:∀ u∈news,u.oneCell'=true)
  (h63:n+m≤maxLen) (hbytes:(n+m)*bytes≤140737488355328) (hbase:base≤w.heap.size)
  (h:∀ a' cap w',w'.ownsRow base e size (.slice a' (n+m) cap) (n+m) (xs++news)→w.grownBy w' v.ownBlock→(∀ k,(Value.slice a' (n+m) cap).ownBlock=some k→v.ownBlock=some k∨w.heap.size≤k)→wpList P ops Q rest (a.put o.dst (.slice a' (n+m) cap)) w'):wpList P ops Q (o::rest) a w :=
 wpList_plain hgd fun _ hK=>ZdB w s x t ho base e i z size bytes ht hi hz hsize hby hzs hsz v n xs hs hown y m news hy hx h1 h63 hbytes hbase fun a' cap w' h2 h3 h4=>hK _ _ (h a' cap w' h2 h3 h4)
theorem ZcO {ops:Array Oper} {o:Oper} {a:Act} {K:Act→World→Prop} {Q:Exit→Act→World→Prop} {E:Prop} (hgd:o.guard=none) (s x:Operand) (t:TypeId)
  (ho:o.op = .call { callee:=.builtin .append,args:=#[s,x],argTypes:=#[t,t] })
  (base:Nat) (e:TypeId) (i:TypeInfo) (z:Value) (size bytes:Nat) (ht:P.underlying t=some (.slice e)) (hi:P.info? e=some i) (hz:i.zero=some z)
  (hsize:i.size=size) (hby:i.bytes=bytes) (hzs:z.cells.size=size) (hsz:0<size)
  (v:Value) (n:Nat) (xs:List Value) (hs:a.eval s=v) (hown:w.ownsRow base e size v n xs)
  (y:Value) (m:Nat) (news:List Value) (hy:a.eval x=y) (hx:Sl 0 w y m size news) (h1:∀ u∈news,u.oneCell'=true)
  (h63:n+m≤maxLen) (hbytes:(n+m)*bytes≤140737488355328) (hbase:base≤w.heap.size)
  (h:∀ a' cap w',w'.ownsRow base e size (.slice a' (n+m) cap) (n+m) (xs++news)→w.grownBy w' v.ownBlock→(∀ k,(Value.slice a' (n+m) cap).ownBlock=some k→v.ownBlock=some k∨w.heap.size≤k)→K (a.put o.dst (.slice a' (n+m) cap)) w') :
  if Region.wanted o (yielded ops a.tmps)=true then Oper.wp P o a w K Q else E:=by
 have hw:Region.wanted o (yielded ops a.tmps)=true:=by simp[Region.wanted,hgd]
 rw[if_pos hw];exact ZdB w s x t ho base e i z size bytes ht hi hz hsize hby hzs hsz v n xs hs hown y m news hy hx h1 h63 hbytes hbase h
end
theorem on_i {k:IntKind} {x:Int}:∀ u∈[Value.int k x],u.oneCell'=true:=by simp[Value.oneCell']
theorem Zlb (l:List Int) (x:Int):intCells (l++[x])=intCells l++[.int .i64 x]:=by simp[intCells]
theorem Zhy {xs:List (Int × Int)}:∀ u∈xs.flatMap Zah,u.oneCell'=true:=fun u hu=>by obtain⟨x,-,hx⟩:=List.mem_flatMap.1 hu;simp only[Zah,List.mem_cons,List.not_mem_nil,or_false] at hx;rcases hx with rfl|rfl<;>simp[Value.oneCell']
theorem St.appS {w0 w w':World} {L:List Ent} (h:St w0 w L) (i:Nat) {B e size n m cap:Nat} {a':Option Addr} {v:Value} {cs cs':List Value} (hx:L[i]? = some (Ent.row e size v n cs)) (hown:w'.ownsRow B e size (.slice a' m cap) m cs') (hg:w.grownBy w' v.ownBlock)
  (hat:∀ k,(Value.slice a' m cap).ownBlock=some k→v.ownBlock=some k∨w.heap.size≤k):St w0 w' (L.set i (Ent.row e size (.slice a' m cap) m cs')):=h.grow i hx hg hown hat
end Go.Proofs.Ytfanhfcamblghaa
