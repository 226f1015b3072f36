/-
  What the reading of an argument says of memory: lists of ints, of bools, of rows, of structs of two or three ints.
  No condition: this text speaks of no program.
  A list of bytes, an argument of the laws that draw; the bit operation of the reader.
  No condition: this text speaks of no program.
  The walks over the reader that the laws draw from: open, pick, odd.
  Conditions: the bytes read as such; the reader's place is small; the reader is among the things that the call owns.
-/
import Derived.Test.YtfanhfcamblghaaPq01Ctx
set_option maxHeartbeats 4000000
set_option maxRecDepth 100000
namespace Go.Proofs.Ytfanhfcamblghaa
open Go.RowKit Go.Deep Go.ChangeShapes Go.ChangeAt
section
variable {H:Type} {enc:TypeId × Value→H} {P:Program} {w:World} {held:Bool}
theorem ZjB {a:Addr} {v:Value} (h:w.cell? (a.add 0)=some v):∃ b off,a=⟨b,off,none⟩:=by
 obtain⟨b,off,spot⟩:=a;have hspot:spot=none:=by simpa [Addr.add] using World.cell?_spot h
 subst hspot;exact⟨b,off,rfl⟩
theorem ZhN {a:Addr} {len cap:Nat} {cs:List Value} (hl:cs.length=len) (hle:len≤cap) (hm:cap≤maxLen) (hc:∀ i,i<len→w.cell? (a.add i)=cs[i]?):Sl 0 w (.slice (some a) len cap) len 1 cs:=by refine⟨by omega,_,cap,rfl,hle,hm,fun h0 => ?_⟩;obtain⟨u,hu⟩:∃ u,cs[0]? = some u:=⟨cs[0]'(by omega),by simp[show 0<cs.length by omega]⟩;obtain⟨b,off,rfl⟩:=ZjB ((hc 0 h0).trans hu);refine⟨b,off,rfl,Nat.zero_le _,World.block_lt_of_cell? w _ ((hc 0 h0).trans hu),fun j hj => ?_⟩;rw[← hc j (by omega),← Go.WideShapes.add_plain]
end
end Go.Proofs.Ytfanhfcamblghaa
namespace Go.Proofs.Ytfanhfcamblghaa
open Go.RowKit Go.Deep Go.ChangeShapes Go.ChangeAt
def Bytes (B:Nat) (w:World) (v:Value) (bs:List Nat):Prop:=(∀ b∈bs,b<256)∧Sl B w v bs.length 1 (bs.map fun (b:Nat)=>Value.int .u8 (b:Int))
theorem Bytes.below {B:Nat} {w w':World} {v:Value} {bs:List Nat} (h:Bytes B w v bs) (he:Below w.heap.size w w'):Bytes B w' v bs:=⟨h.1,Sl.below h.2 he⟩
theorem Bytes.form {B:Nat} {w:World} {v:Value} {bs:List Nat} (h:Bytes B w v bs):∃ a cap,v = .slice a bs.length cap∧bs.length≤cap∧cap≤9223372036854775807 ∧
  (0<bs.length→∃ b off,a=some ⟨b,off,none⟩∧B≤b∧b<w.heap.size∧∀ j,j<bs.length→w.cell? ⟨b,off+j,none⟩=some (.int .u8 (bs.getD j 0:Nat))∧bs.getD j 0<256):=by
 obtain⟨h0,hl,a,cap,hv,h1,h2,h3⟩:=h;refine⟨a,cap,hv,h1,h2,fun hn => ?_⟩;obtain⟨b,off,ha,hb,hlt,hc⟩:=h3 hn;refine⟨b,off,ha,hb,hlt,fun j hj=>⟨?_,h0 _ (by rw[show bs.getD j 0=bs[j] by simp[hj]];exact List.getElem_mem hj)⟩⟩;rw[hc j (by omega)];simp[hj]
section
variable {H:Type} {enc:TypeId × Value→H} {P:Program} {w:World} {held:Bool}
theorem ZnH {n:Int} (h:(Lit.int .u8 n).wf=true):0≤n∧n≤255:=by have e1:IntKind.u8.min=0:=rfl;have e2:IntKind.u8.max=255:=rfl;simp only[Lit.wf,Bool.and_eq_true,decide_eq_true_eq,e1,e2] at h;exact h
theorem Zg8 {t e:TypeId} {fuel:Nat} {cs:List Value} {x:DataW H × List MemPlace} (ht:P.underlying t=some (.slice e)) (he:P.underlying e=some (.int .u8)) (hc:P.cellsOf e=1)
  (h:DataW.trod enc P w 0 (fun _=>true) held fuel t cs=some x):∃ v bs,cs=[v]∧Bytes 0 w v bs:=by
 rcases open_ints ht he hc h with⟨hcs,-⟩|⟨a,len,cap,zs,hcs,-,hl,hm,hz,-,hcell,hwf⟩
 ·exact⟨_,[],hcs,fun b hb=>by simp at hb,by simp,none,0,rfl,Nat.le_refl _,Nat.zero_le _,fun h=>by simp at h⟩
 simp only[if_true] at hz;refine⟨_,(zs.take len).map Int.toNat,hcs,fun b hb => ?_,?_⟩
 ·obtain⟨z,hz1,rfl⟩:=List.mem_map.1 hb;have:=ZnH (hwf z (List.mem_of_mem_take hz1));omega
 have hlen:((zs.take len).map Int.toNat).length=len:=by simp;omega
 rw[hlen];refine ZhN (by simp;omega) hl hm fun i hi => ?_
 rw[hcell i (by omega)];have hzi:i<zs.length:=by omega
 have:=ZnH (hwf _ (List.getElem_mem hzi));simp[hi,hzi];omega
end
theorem Zg9 (a:Nat) (ha:a<1099511627776):(BitVec.ofInt 64 (a:Int)).toNat=a:=by rw[BitVec.ofInt_natCast,BitVec.toNat_ofNat];exact Nat.mod_eq_of_lt (by omega)
theorem Zh9 (a b:Nat) (ha:a<1099511627776) (hb:b<1099511627776):bits .xor .i64 (a:Int) (b:Int)=((a ^^^ b:Nat):Int):=by have hx:a ^^^ b<2 ^ 40:=Nat.xor_lt_two_pow (by omega) (by omega);show IntKind.i64.wrap ((BitVec.ofInt 64 (a:Int) ^^^ BitVec.ofInt 64 (b:Int)).toNat:Int)=_;rw[BitVec.toNat_xor,Zg9 a ha,Zg9 b hb];exact IntWalk.i64_in _ (by omega)
end Go.Proofs.Ytfanhfcamblghaa
namespace Go.Proofs.Ytfanhfcamblghaa
open Go.RowKit
def RdE (b:Nat) (vb:Value) (p:Nat):Ent:=Ent.box b #[vb,.int .i64 ((p:Nat):Int)] 117
theorem Bytes.take {w:World} {a:Option Addr} {len cap:Nat} {bs:List Nat} (h:Bytes 0 w (.slice a len cap) bs) {n:Nat} (hn:n≤bs.length):Bytes 0 w (.slice a n cap) (bs.take n):=by
 obtain⟨h0,hl,a',cap',hv,h1,h2,h3⟩:=h;simp only[Value.slice.injEq] at hv;obtain⟨rfl,rfl,rfl⟩:=hv;have e:(bs.take n).length=n:=by rw[List.length_take];omega
 refine⟨fun b hb=>h0 b (List.mem_of_mem_take hb),?_⟩;rw[e];refine⟨by rw[List.length_map,e];omega,a,cap,rfl,by omega,h2,fun hn0 => ?_⟩;obtain⟨b,off,ha,hb,hlt,hc⟩:=h3 (by omega);refine⟨b,off,ha,hb,hlt,fun j hj => ?_⟩;rw[hc j (by omega),List.map_take,List.getElem?_take_of_lt (by omega)]
theorem ZaC (bs:List Nat) (vb:Value) (b p n:Nat) (w0 w:World) (X:Ent) (hb:Bytes 0 w0 vb bs) (hlen:bs.length≤2000) (hp:p≤1000000) (hn0:1≤n) (hn1:n≤10000) (hS:St w0 w [RdE b vb p,X]) :
  Calls Try.prog 85 #[.pointer (some ⟨b,0,none⟩),.int .i64 ((n:Nat):Int)] w fun e w'=>∃ k:Nat,k<n∧e = .returned (.int .i64 ((k:Nat):Int))∧St w0 w' [RdE b vb (p+1),X]:=by
 obtain⟨a,c,rfl,hc1,hc2,hr⟩:=hb.form;have e0:=hS.cell (v:=.slice a bs.length c) 0 0 rfl rfl;have e1:=hS.cell (v:=.int .i64 ((p:Nat):Int)) 0 1 rfl rfl;have f1:=hS.fr 0 1 rfl;have hS1:=hS.set 0 rfl 1 (.int .i64 ((p:Int)+1));have HS1:=qh hS1;have Hr:=qh hr;have hnI:(1:Int)≤n:=by omega
 have hn2:((n:Int)<1)=False:=by simp;omega
 have hp1:(p:Int)+1-1=p:=by omega
 clear hb hS hr hS1;by_cases h0:bs.length=0
 ·have q1:((bs.length:Int)==0)=true:=by rw[h0];rfl
  have q2:((bs.length:Int)=0)=True:=by simp[h0]
  go_enter Try.func85, Try.ntmps85
  go_wp2;go_ret;exact⟨0,by omega,rfl,HS1.out⟩
 have q0:(bs.length:Int)≠0:=by omega
 have q1:((bs.length:Int)==0)=false:=by rw[beq_eq_false_iff_ne];exact q0
 have q2:((bs.length:Int)=0)=False:=eq_false q0;clear q0;obtain⟨b1,o1,rfl,-,hb1,hcs⟩:=Hr.out (by omega);by_cases hlt:p<bs.length
 ·have hlt2:(p:Int)<bs.length:=by omega
  have e3:=(bcell HS1.out.bel b1 _ hb1).trans (hcs p hlt).1;obtain⟨v,hv⟩:=eI (bs.getD p 0);have hv2:=(hcs p hlt).2;rw[← hv] at e3 hv2;replace hv:=qh hv;clear hcs h0
  go_enter Try.func85, Try.ntmps85
  go_wp2;go_ret;have hvn:((v:Int) % (n:Int))=((v % n:Nat):Int):=by omega
  exact⟨v % n,Nat.mod_lt _ (by omega),by rw[← hvn];rfl,HS1.out⟩
 have hlt2:((p:Int)<bs.length)=False:=by simp;omega
 have hm1:p % bs.length<bs.length:=Nat.mod_lt _ (by omega);have hm2:(p*7+3) % bs.length<bs.length:=Nat.mod_lt _ (by omega);have e3:=(bcell HS1.out.bel b1 _ hb1).trans (hcs _ hm1).1;have e4:=(bcell HS1.out.bel b1 _ hb1).trans (hcs _ hm2).1;have hv1:=(hcs _ hm1).2;have hv2:=(hcs _ hm2).2;have i1:(p:Int) % (bs.length:Int)=((p % bs.length:Nat):Int):=by omega
 have i2:((p:Int)*7+3) % (bs.length:Int)=(((p*7+3) % bs.length:Nat):Int):=by rw[Int.natCast_emod];congr 1
 have i3:(p:Int) / (bs.length:Int)=((p / bs.length:Nat):Int):=by rw[Int.natCast_ediv]
 have hdv:p / bs.length≤1000000:=Nat.le_trans (Nat.div_le_self _ _) hp;obtain⟨u1,hu1⟩:∃ u,u=bs.getD (p % bs.length) 0:=⟨_,rfl⟩;obtain⟨u2,hu2⟩:∃ u,u=bs.getD ((p*7+3) % bs.length) 0:=⟨_,rfl⟩;obtain⟨m1,hmm1⟩:∃ m,m=p % bs.length:=⟨_,rfl⟩;obtain⟨m2,hmm2⟩:∃ m,m=(p*7+3) % bs.length:=⟨_,rfl⟩;obtain⟨m3,hmm3⟩:∃ m,m=p / bs.length:=⟨_,rfl⟩;rw[← hu1] at e3 hv1;rw[← hu2] at e4 hv2;rw[← hmm1] at e3 i1 hm1;rw[← hmm2] at e4 i2 hm2;rw[← hmm3] at i3 hdv;have j1:(m1:Int)<bs.length:=by omega
 have j2:(m2:Int)<bs.length:=by omega
 replace hu1:=qh hu1;have Hhu2:=qh hu2;clear hu2;replace hmm1:=qh hmm1;have Hhmm2:=qh hmm2;clear hmm2;have Hhmm3:=qh hmm3;clear hmm3;clear hcs h0 hlt
 go_enter Try.func85, Try.ntmps85
 go_wp2
 go_quiet (fail)
 go_wp2;have ea:((u1:Int)*131+(u2:Int)*1117+(p:Int)*29+(m3:Int)*53)=((u1*131+u2*1117+p*29+m3*53:Nat):Int):=by omega
 obtain⟨A,hA⟩:=eI (u1*131+u2*1117+p*29+m3*53);have hAl:A<1099511627776:=by omega
 rw[← hA] at ea;have hx:(bits BinOp.xor IntKind.i64 ((u1:Int)*131+(u2:Int)*1117+(p:Int)*29+(m3:Int)*53) (((u1:Int)*131+(u2:Int)*1117+(p:Int)*29+(m3:Int)*53) / 64)).tmod (n:Int)=(((A ^^^ (A / 64)) % n:Nat):Int):=by rw[ea,show((A:Nat):Int) / 64=((A / 64:Nat):Int) by omega,Zh9 A (A / 64) hAl (by omega)];exact(Int.ofNat_tmod _ _).symm
 go_ret;exact⟨(A ^^^ (A / 64)) % n,Nat.mod_lt _ (by omega),by rw[← hx];rfl,HS1.out.drewN _⟩
theorem ZgD (bs:List Nat) (vb:Value) (b p n:Nat) (w0 w:World) (X:Ent) (hb:Bytes 0 w0 vb bs) (hlen:bs.length≤2000) (hp:p≤1000000) (hn1:n≤10000) (hS:St w0 w [RdE b vb p,X]) :
  Calls Try.prog 82 #[.pointer (some ⟨b,0,none⟩),.int .i64 ((n:Nat):Int)] w fun e w'=>∃ (q:Bool) (p':Nat),p'≤p+1∧e = .returned (.bool q)∧St w0 w' [RdE b vb p',X]:=by
 have HS:=qh hS;have Hb:=qh hb;clear hS hb;by_cases h0:n=0
 ·subst h0
  go_enter Try.func82, Try.ntmps82
  go_wp2;go_ret;exact⟨_,p,by omega,rfl,HS.out⟩
 have hnI:(0:Int)<n:=by omega
 go_enter Try.func82, Try.ntmps82
 go_wp2_with fail;refine(ZaC bs vb b p n w0 _ X Hb.out hlen hp (by omega) hn1 HS.out).mono ?_;rintro e w1 ⟨k,hk,rfl,hS1⟩;have HS1:=qh hS1;clear hS1;by_cases hkn:(k:Int)=(n:Int)-1
 ·have g1:((k:Int)==(n:Int)-1)=true:=by rw[hkn];simp
  have g2:((k:Int)=(n:Int)-1)=True:=eq_true hkn;clear hkn;go_wp2;go_ret;exact⟨_,p+1,Nat.le_refl _,rfl,HS1.out⟩
 have g1:((k:Int)==(n:Int)-1)=false:=by rw[beq_eq_false_iff_ne];exact hkn
 have g2:((k:Int)=(n:Int)-1)=False:=eq_false hkn;clear hkn;go_wp2;go_ret;exact⟨_,p+1,Nat.le_refl _,rfl,HS1.out⟩
end Go.Proofs.Ytfanhfcamblghaa
