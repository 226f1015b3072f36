/-
  The plain meaning of 'pairs prove that two automata are alike', and the walk over the reference's CheckPairs.
  Conditions: the arguments read as automata and as a list of pairs.
-/
import Derived.Test.YtfikabecgaappaaGreatPb02Nvs
set_option maxHeartbeats 4000000
set_option maxRecDepth 100000
namespace Go.Proofs.YtfikabecgaappaaGreat
open Go.RowKit
def ZcD (a b:DfaD) (p:Int × Int) (c:Nat):Int × Int:=((a.next.getD p.1.toNat []).getD c 0,(b.next.getD p.2.toNat []).getD c 0)
def Zcw (a b:DfaD) (p:Int × Int):Bool:=inB p.1 0 ((a.next.length:Int)-1)&&inB p.2 0 ((b.next.length:Int)-1)
theorem Zc6 {x lo hi:Int} (h:inB x lo hi=true):lo≤x∧x≤hi:=by simpa [inB] using h
theorem ZaV {next:List (List Int)} {ends:List Bool} (h:Zak next ends=true) {i:Nat} (hi:i<next.length) :
  (next.getD i []).length=3∧∀ c,c<3→0≤(next.getD i []).getD c 0∧(next.getD i []).getD c 0<next.length:=by
 simp only[Zak,Bool.and_eq_true,List.all_eq_true] at h;have hr:=h.1.1 _ (ZbE (d:=[]) hi);simp only[Zet,Bool.and_eq_true,decide_eq_true_eq,List.all_eq_true] at hr;refine⟨hr.1,fun c hc => ?_⟩;have:=Zc6 (hr.2 _ (ZbE (d:=0) (show c<(next.getD i []).length by omega)));omega
theorem Zaj {next:List (List Int)} {ends:List Bool} (h:Zak next ends=true):1≤next.length∧next.length≤40∧ends.length=next.length:=by simp only[Zak,Bool.and_eq_true,decide_eq_true_eq] at h;have:=Zc6 h.1.2;omega
theorem Zkg {w:World} {v1:Value} {next:List (List Int)} {ends:List Bool} (h:IntSS 0 w v1 next) (hd:Zak next ends=true) {i c:Nat} (hi:i<next.length) (hc:c<3) :
  ∃ q o cap z t s,v1 = .slice (some ⟨q,o,none⟩) next.length cap∧next.length≤cap∧cap≤9223372036854775807∧w.cell? ⟨q,o+i,none⟩=some (.slice (some ⟨z,t,none⟩) 3 s)∧3≤s∧s≤9223372036854775807 ∧
   w.cell? ⟨z,t+c,none⟩=some (.int .i64 ((next.getD i []).getD c 0))∧q<w.heap.size∧z<w.heap.size:=by
 obtain⟨a,cap,rfl,h1,h2,h3⟩:=h.form;obtain⟨q,o,rfl,_,hq,hr⟩:=h3 (by omega);obtain⟨a',s,e1,e2,e3,e4⟩:=hr i hi;obtain⟨hl,_⟩:=ZaV hd hi;rw[hl] at e1 e2 e4;obtain⟨z,t,rfl,_,hz,e5⟩:=e4 (by omega);exact⟨q,o,cap,z,t,s,rfl,h1,h2,e1,e2,e3,e5 c hc,hq,hz⟩
theorem Zeo {w:World} {v1:Value} {xs:List Bool} (h:Bools 0 w v1 xs) {i:Nat} (hi:i<xs.length) :
  ∃ q o cap,v1 = .slice (some ⟨q,o,none⟩) xs.length cap∧xs.length≤cap∧cap≤9223372036854775807∧w.cell? ⟨q,o+i,none⟩=some (.bool (xs.getD i false))∧q<w.heap.size:=by
 obtain⟨a,cap,rfl,h1,h2,h3⟩:=h.form;obtain⟨q,o,rfl,_,hq,hr⟩:=h3 (by omega);exact⟨q,o,cap,rfl,h1,h2,hr i hi,hq⟩
theorem ZcP {a b:DfaD} {p:Int × Int} (h:Zcw a b p=true):∃ i j:Nat,p=((i:Int),(j:Int))∧i<a.next.length∧j<b.next.length:=by unfold Zcw at h;rw[Bool.and_eq_true] at h;obtain⟨x,y⟩:=p;obtain⟨h1,h2⟩:=Zc6 h.1;obtain⟨h3,h4⟩:=Zc6 h.2;simp only at h1 h2 h3 h4;obtain⟨i,rfl⟩:=Int.eq_ofNat_of_zero_le h1;obtain⟨j,rfl⟩:=Int.eq_ofNat_of_zero_le h3;exact⟨i,j,rfl,by omega,by omega⟩
def DfaAt (w:World) (b:Nat) (d:DfaD):Prop:=∃ v1 v2,Bx w b #[v1,v2] 37 ∧ IntSS 0 w v1 d.next∧Bools 0 w v2 d.ends
theorem DfaAt.below {w w':World} {b:Nat} {d:DfaD} (h:DfaAt w b d) (hb:Below w.heap.size w w'):DfaAt w' b d:=by obtain⟨v1,v2,h1,h2,h3⟩:=h;exact⟨v1,v2,h1.below hb h1.lt,h2.below hb,h3.below hb⟩
theorem Zil (a b:DfaD) (x:Int × Int) (c ba bb:Nat) (w:World) (hda:Zak a.next a.ends=true) (hdb:Zak b.next b.ends=true) (h1:DfaAt w ba a) (h2:DfaAt w bb b) (hx:Zcw a b x=true) (hc:c<3) :
  Calls Tryz.prog 189 #[.agg #[.int .i64 x.1,.int .i64 x.2],.int .i64 c,.pointer (some ⟨ba,0,none⟩),.pointer (some ⟨bb,0,none⟩)] w fun e w'=>e = .returned (.agg #[.int .i64 (ZcD a b x c).1,.int .i64 (ZcD a b x c).2])∧Below w.heap.size w w':=by
 obtain⟨i,j,rfl,hi,hj⟩:=ZcP hx;obtain⟨u1,u2,hB1,g1,-⟩:=h1;obtain⟨u3,u4,hB2,g2,-⟩:=h2;obtain⟨q1,o1,c1,z1,t1,s1,rfl,hc1,hm1,e1,l1,m1,e2,d1,d2⟩:=Zkg g1 hda hi hc;obtain⟨q2,o2,c2,z2,t2,s2,rfl,hc2,hm2,e3,l2,m2,e4,d3,d4⟩:=Zkg g2 hdb hj hc;obtain⟨ta,hta⟩:=eI ((ZcD a b ((i:Int),(j:Int)) c).1);obtain⟨tb,htb⟩:=eI ((ZcD a b ((i:Int),(j:Int)) c).2);have e2':w.cell? ⟨z1,t1+c,none⟩=some (.int .i64 ta):=by rw[hta];exact e2
 have e4':w.cell? ⟨z2,t2+c,none⟩=some (.int .i64 tb):=by rw[htb];exact e4
 rw[← hta,← htb];have hla:=Zaj hda;have hlb:=Zaj hdb;have ca:=hB1.cell 0;have cb:=hB2.cell 0;simp only[List.getElem?_toArray,List.getElem?_cons_zero] at ca cb;have d5:=hB1.lt;have d6:=hB2.lt;have hci:(c:Int)<3:=by omega
 have hii:(i:Int)<a.next.length:=by omega
 have hjj:(j:Int)<b.next.length:=by omega
 clear g1 g2 hB1 hB2 hta htb e2 e4 hx hda hdb;obtain⟨h41,h42,-⟩:=hla;obtain⟨h43,h44,-⟩:=hlb
 go_enter Tryz.func189, Tryz.ntmps189
 go_wp2
 go_region_held3 (fun w'=>w'.cell? ⟨w.heap.size,0,none⟩=some (.int .i64 i)∧w'.cell? ⟨w.heap.size,1,none⟩=some (.int .i64 j)∧w'.cell? ⟨ba,0,none⟩=some (.slice (some ⟨q1,o1,none⟩) a.next.length c1)∧w'.cell? ⟨bb,0,none⟩=some (.slice (some ⟨q2,o2,none⟩) b.next.length c2)∧w'.cell? ⟨q1,o1+i,none⟩=some (.slice (some ⟨z1,t1,none⟩) 3 s1)∧w'.cell? ⟨q2,o2+j,none⟩=some (.slice (some ⟨z2,t2,none⟩) 3 s2)∧w'.cell? ⟨z1,t1+c,none⟩=some (.int .i64 ta)∧w'.cell? ⟨z2,t2+c,none⟩=some (.int .i64 tb))
  (first|go_keep) (fail)
 go_wp2;refine bodyPost_ret (v:=.agg #[.int .i64 ta,.int .i64 tb]) (by simp[results,Tryz.results189,go_sem]) rfl ⟨rfl,?_⟩;exact(((Below.refl _ _).alloc (Nat.le_refl _) _).alloc (by simp) _).drew
def ZeI (f:Bool→Bool→Bool) (a b:DfaD) (p:Int × Int):Bool:=f (a.ends.getD p.1.toNat false) (b.ends.getD p.2.toNat false)
end Go.Proofs.YtfikabecgaappaaGreat
namespace Go.Proofs.YtfikabecgaappaaGreat
open Go.RowKit Go.Deep Go.ChangeShapes Go.ChangeAt
section
variable {H:Type} {enc:TypeId × Value→H} {P:Program} {w:World} {held:Bool}
theorem Zk6 {a:Addr} {v:Value} (h:w.cell? (a.add 0)=some v):∃ b off,a=⟨b,off,none⟩:=by
 obtain⟨b,off,spot⟩:=a;have hspot:spot=none:=by simpa [Addr.add] using World.cell?_spot h
 subst hspot;exact⟨b,off,rfl⟩
theorem Zi8 {a:Addr} {len cap:Nat} {cs:List Value} (hl:cs.length=len) (hle:len≤cap) (hm:cap≤maxLen) (hc:∀ i,i<len→w.cell? (a.add i)=cs[i]?):Sl 0 w (.slice (some a) len cap) len 1 cs:=by refine⟨by omega,_,cap,rfl,hle,hm,fun h0 => ?_⟩;obtain⟨u,hu⟩:∃ u,cs[0]? = some u:=⟨cs[0]'(by omega),by simp[show 0<cs.length by omega]⟩;obtain⟨b,off,rfl⟩:=Zk6 ((hc 0 h0).trans hu);refine⟨b,off,rfl,Nat.zero_le _,World.block_lt_of_cell? w _ ((hc 0 h0).trans hu),fun j hj => ?_⟩;rw[← hc j (by omega),← Go.WideShapes.add_plain]
end
end Go.Proofs.YtfikabecgaappaaGreat
namespace Go.Proofs.YtfikabecgaappaaGreat
open Go.RowKit Go.Deep Go.ChangeShapes Go.ChangeAt
def Bytes (B:Nat) (w:World) (v:Value) (bs:List Nat):Prop:=(∀ b∈bs,b<256)∧Sl B w v bs.length 1 (bs.map fun (b:Nat)=>Value.int .u8 (b:Int))
theorem Bytes.below {B:Nat} {w w':World} {v:Value} {bs:List Nat} (h:Bytes B w v bs) (he:Below w.heap.size w w'):Bytes B w' v bs:=⟨h.1,Sl.below h.2 he⟩
theorem Bytes.form {B:Nat} {w:World} {v:Value} {bs:List Nat} (h:Bytes B w v bs):∃ a cap,v = .slice a bs.length cap∧bs.length≤cap∧cap≤9223372036854775807 ∧
  (0<bs.length→∃ b off,a=some ⟨b,off,none⟩∧B≤b∧b<w.heap.size∧∀ j,j<bs.length→w.cell? ⟨b,off+j,none⟩=some (.int .u8 (bs.getD j 0:Nat))∧bs.getD j 0<256):=by
 obtain⟨h0,hl,a,cap,hv,h1,h2,h3⟩:=h;refine⟨a,cap,hv,h1,h2,fun hn => ?_⟩;obtain⟨b,off,ha,hb,hlt,hc⟩:=h3 hn;refine⟨b,off,ha,hb,hlt,fun j hj=>⟨?_,h0 _ (by rw[show bs.getD j 0=bs[j] by simp[hj]];exact List.getElem_mem hj)⟩⟩;rw[hc j (by omega)];simp[hj]
section
variable {H:Type} {enc:TypeId × Value→H} {P:Program} {w:World} {held:Bool}
theorem Zo2 {n:Int} (h:(Lit.int .u8 n).wf=true):0≤n∧n≤255:=by have e1:IntKind.u8.min=0:=rfl;have e2:IntKind.u8.max=255:=rfl;simp only[Lit.wf,Bool.and_eq_true,decide_eq_true_eq,e1,e2] at h;exact h
theorem Zim {t e:TypeId} {fuel:Nat} {cs:List Value} {x:DataW H × List MemPlace} (ht:P.underlying t=some (.slice e)) (he:P.underlying e=some (.int .u8)) (hc:P.cellsOf e=1)
  (h:DataW.trod enc P w 0 (fun _=>true) held fuel t cs=some x):∃ v bs,cs=[v]∧Bytes 0 w v bs:=by
 rcases open_ints ht he hc h with⟨hcs,-⟩|⟨a,len,cap,zs,hcs,-,hl,hm,hz,-,hcell,hwf⟩
 ·exact⟨_,[],hcs,fun b hb=>by simp at hb,by simp,none,0,rfl,Nat.le_refl _,Nat.zero_le _,fun h=>by simp at h⟩
 simp only[if_true] at hz;refine⟨_,(zs.take len).map Int.toNat,hcs,fun b hb => ?_,?_⟩
 ·obtain⟨z,hz1,rfl⟩:=List.mem_map.1 hb;have:=Zo2 (hwf z (List.mem_of_mem_take hz1));omega
 have hlen:((zs.take len).map Int.toNat).length=len:=by simp;omega
 rw[hlen];refine Zi8 (by simp;omega) hl hm fun i hi => ?_
 rw[hcell i (by omega)];have hzi:i<zs.length:=by omega
 have:=Zo2 (hwf _ (List.getElem_mem hzi));simp[hi,hzi];omega
end
theorem Zin (a:Nat) (ha:a<1099511627776):(BitVec.ofInt 64 (a:Int)).toNat=a:=by rw[BitVec.ofInt_natCast,BitVec.toNat_ofNat];exact Nat.mod_eq_of_lt (by omega)
theorem ZjA (a b:Nat) (ha:a<1099511627776) (hb:b<1099511627776):bits .xor .i64 (a:Int) (b:Int)=((a ^^^ b:Nat):Int):=by have hx:a ^^^ b<2 ^ 40:=Nat.xor_lt_two_pow (by omega) (by omega);show IntKind.i64.wrap ((BitVec.ofInt 64 (a:Int) ^^^ BitVec.ofInt 64 (b:Int)).toNat:Int)=_;rw[BitVec.toNat_xor,Zin a ha,Zin b hb];exact IntWalk.i64_in _ (by omega)
end Go.Proofs.YtfikabecgaappaaGreat
namespace Go.Proofs.YtfikabecgaappaaGreat
open Go.RowKit
def RdE (b:Nat) (vb:Value) (p:Nat):Ent:=Ent.box b #[vb,.int .i64 ((p:Nat):Int)] 105
theorem Bytes.take {w:World} {a:Option Addr} {len cap:Nat} {bs:List Nat} (h:Bytes 0 w (.slice a len cap) bs) {n:Nat} (hn:n≤bs.length):Bytes 0 w (.slice a n cap) (bs.take n):=by
 obtain⟨h0,hl,a',cap',hv,h1,h2,h3⟩:=h;simp only[Value.slice.injEq] at hv;obtain⟨rfl,rfl,rfl⟩:=hv;have e:(bs.take n).length=n:=by rw[List.length_take];omega
 refine⟨fun b hb=>h0 b (List.mem_of_mem_take hb),?_⟩;rw[e];refine⟨by rw[List.length_map,e];omega,a,cap,rfl,by omega,h2,fun hn0 => ?_⟩;obtain⟨b,off,ha,hb,hlt,hc⟩:=h3 (by omega);refine⟨b,off,ha,hb,hlt,fun j hj => ?_⟩;rw[hc j (by omega),List.map_take,List.getElem?_take_of_lt (by omega)]
theorem Znp (bs:List Nat) (v:Value) (w:World) (hb:Bytes 0 w v bs) (hlen:bs.length≤100000000) :
  Calls Tryz.prog 29 #[v] w fun e w'=>∃ vb bs',bs'.length≤2000∧Bytes 0 w vb bs'∧e = .returned (.pointer (some ⟨w.heap.size,0,none⟩))∧St w w' [RdE w.heap.size vb 0]:=by
 obtain⟨a,c,rfl,hc1,hc2,-⟩:=hb.form;have Hb:=qh hb;clear hb;by_cases h2:2000<bs.length
 ·have q1:(2000:Int)<bs.length:=by omega
  have q2:(2000:Int)≤c:=by omega
  have hS:=(St.start w).alloc _ rfl #[.slice a 2000 c,.int .i64 0] 105;have HS:=qh hS;clear hS
  go_enter Tryz.func29, Tryz.ntmps29
  go_wp2;go_ret;exact⟨_,bs.take 2000,by rw[List.length_take];omega,Hb.out.take (by omega),rfl,HS.out⟩
 have q1:(2000<(bs.length:Int))=False:=by simp;omega
 have hS:=(St.start w).alloc _ rfl #[.slice a bs.length c,.int .i64 0] 105;have HS:=qh hS;have h2:bs.length≤2000:=by omega
 clear hS
 go_enter Tryz.func29, Tryz.ntmps29
 go_wp2;go_ret;exact⟨_,bs,h2,Hb.out,rfl,HS.out⟩
theorem ZaG (bs:List Nat) (vb:Value) (b p n:Nat) (w0 w:World) (X:Ent) (hb:Bytes 0 w0 vb bs) (hlen:bs.length≤2000) (hp:p≤1000000) (hn0:1≤n) (hn1:n≤10000) (hS:St w0 w [RdE b vb p,X]) :
  Calls Tryz.prog 76 #[.pointer (some ⟨b,0,none⟩),.int .i64 ((n:Nat):Int)] w fun e w'=>∃ k:Nat,k<n∧e = .returned (.int .i64 ((k:Nat):Int))∧St w0 w' [RdE b vb (p+1),X]:=by
 obtain⟨a,c,rfl,hc1,hc2,hr⟩:=hb.form;have e0:=hS.cell (v:=.slice a bs.length c) 0 0 rfl rfl;have e1:=hS.cell (v:=.int .i64 ((p:Nat):Int)) 0 1 rfl rfl;have f1:=hS.fr 0 1 rfl;have hS1:=hS.set 0 rfl 1 (.int .i64 ((p:Int)+1));have HS1:=qh hS1;have Hr:=qh hr;have hnI:(1:Int)≤n:=by omega
 have hn2:((n:Int)<1)=False:=by simp;omega
 have hp1:(p:Int)+1-1=p:=by omega
 clear hb hS hr hS1;by_cases h0:bs.length=0
 ·have q1:((bs.length:Int)==0)=true:=by rw[h0];rfl
  have q2:((bs.length:Int)=0)=True:=by simp[h0]
  go_enter Tryz.func76, Tryz.ntmps76
  go_wp2;go_ret;exact⟨0,by omega,rfl,HS1.out⟩
 have q0:(bs.length:Int)≠0:=by omega
 have q1:((bs.length:Int)==0)=false:=by rw[beq_eq_false_iff_ne];exact q0
 have q2:((bs.length:Int)=0)=False:=eq_false q0;clear q0;obtain⟨b1,o1,rfl,-,hb1,hcs⟩:=Hr.out (by omega);by_cases hlt:p<bs.length
 ·have hlt2:(p:Int)<bs.length:=by omega
  have e3:=(bcell HS1.out.bel b1 _ hb1).trans (hcs p hlt).1;obtain⟨v,hv⟩:=eI (bs.getD p 0);have hv2:=(hcs p hlt).2;rw[← hv] at e3 hv2;replace hv:=qh hv;clear hcs h0
  go_enter Tryz.func76, Tryz.ntmps76
  go_wp2;go_ret;have hvn:((v:Int) % (n:Int))=((v % n:Nat):Int):=by omega
  exact⟨v % n,Nat.mod_lt _ (by omega),by rw[← hvn];rfl,HS1.out⟩
 have hlt2:((p:Int)<bs.length)=False:=by simp;omega
 have hm1:p % bs.length<bs.length:=Nat.mod_lt _ (by omega);have hm2:(p*7+3) % bs.length<bs.length:=Nat.mod_lt _ (by omega);have e3:=(bcell HS1.out.bel b1 _ hb1).trans (hcs _ hm1).1;have e4:=(bcell HS1.out.bel b1 _ hb1).trans (hcs _ hm2).1;have hv1:=(hcs _ hm1).2;have hv2:=(hcs _ hm2).2;have i1:(p:Int) % (bs.length:Int)=((p % bs.length:Nat):Int):=by omega
 have i2:((p:Int)*7+3) % (bs.length:Int)=(((p*7+3) % bs.length:Nat):Int):=by rw[Int.natCast_emod];congr 1
 have i3:(p:Int) / (bs.length:Int)=((p / bs.length:Nat):Int):=by rw[Int.natCast_ediv]
 have hdv:p / bs.length≤1000000:=Nat.le_trans (Nat.div_le_self _ _) hp;obtain⟨u1,hu1⟩:∃ u,u=bs.getD (p % bs.length) 0:=⟨_,rfl⟩;obtain⟨u2,hu2⟩:∃ u,u=bs.getD ((p*7+3) % bs.length) 0:=⟨_,rfl⟩;obtain⟨m1,hmm1⟩:∃ m,m=p % bs.length:=⟨_,rfl⟩;obtain⟨m2,hmm2⟩:∃ m,m=(p*7+3) % bs.length:=⟨_,rfl⟩;obtain⟨m3,hmm3⟩:∃ m,m=p / bs.length:=⟨_,rfl⟩;rw[← hu1] at e3 hv1;rw[← hu2] at e4 hv2;rw[← hmm1] at e3 i1 hm1;rw[← hmm2] at e4 i2 hm2;rw[← hmm3] at i3 hdv;have j1:(m1:Int)<bs.length:=by omega
 have j2:(m2:Int)<bs.length:=by omega
 replace hu1:=qh hu1;have Hhu2:=qh hu2;clear hu2;replace hmm1:=qh hmm1;have Hhmm2:=qh hmm2;clear hmm2;have Hhmm3:=qh hmm3;clear hmm3;clear hcs h0 hlt
 go_enter Tryz.func76, Tryz.ntmps76
 go_wp2
 go_quiet (fail)
 go_wp2;have ea:((u1:Int)*131+(u2:Int)*1117+(p:Int)*29+(m3:Int)*53)=((u1*131+u2*1117+p*29+m3*53:Nat):Int):=by omega
 obtain⟨A,hA⟩:=eI (u1*131+u2*1117+p*29+m3*53);have hAl:A<1099511627776:=by omega
 rw[← hA] at ea;have hx:(bits BinOp.xor IntKind.i64 ((u1:Int)*131+(u2:Int)*1117+(p:Int)*29+(m3:Int)*53) (((u1:Int)*131+(u2:Int)*1117+(p:Int)*29+(m3:Int)*53) / 64)).tmod (n:Int)=(((A ^^^ (A / 64)) % n:Nat):Int):=by rw[ea,show((A:Nat):Int) / 64=((A / 64:Nat):Int) by omega,ZjA A (A / 64) hAl (by omega)];exact(Int.ofNat_tmod _ _).symm
 go_ret;exact⟨(A ^^^ (A / 64)) % n,Nat.mod_lt _ (by omega),by rw[← hx];rfl,HS1.out.drewN _⟩
theorem ZhD (bs:List Nat) (vb:Value) (b p n:Nat) (w0 w:World) (X:Ent) (hb:Bytes 0 w0 vb bs) (hlen:bs.length≤2000) (hp:p≤1000000) (hn1:n≤10000) (hS:St w0 w [RdE b vb p,X]) :
  Calls Tryz.prog 74 #[.pointer (some ⟨b,0,none⟩),.int .i64 ((n:Nat):Int)] w fun e w'=>∃ (q:Bool) (p':Nat),p'≤p+1∧e = .returned (.bool q)∧St w0 w' [RdE b vb p',X]:=by
 have HS:=qh hS;have Hb:=qh hb;clear hS hb;by_cases h0:n=0
 ·subst h0
  go_enter Tryz.func74, Tryz.ntmps74
  go_wp2;go_ret;exact⟨_,p,by omega,rfl,HS.out⟩
 have hnI:(0:Int)<n:=by omega
 go_enter Tryz.func74, Tryz.ntmps74
 go_wp2_with fail;refine(ZaG bs vb b p n w0 _ X Hb.out hlen hp (by omega) hn1 HS.out).mono ?_;rintro e w1 ⟨k,hk,rfl,hS1⟩;have HS1:=qh hS1;clear hS1;by_cases hkn:(k:Int)=(n:Int)-1
 ·have g1:((k:Int)==(n:Int)-1)=true:=by rw[hkn];simp
  have g2:((k:Int)=(n:Int)-1)=True:=eq_true hkn;clear hkn;go_wp2;go_ret;exact⟨_,p+1,Nat.le_refl _,rfl,HS1.out⟩
 have g1:((k:Int)==(n:Int)-1)=false:=by rw[beq_eq_false_iff_ne];exact hkn
 have g2:((k:Int)=(n:Int)-1)=False:=eq_false hkn;clear hkn;go_wp2;go_ret;exact⟨_,p+1,Nat.le_refl _,rfl,HS1.out⟩
def pOk (p:Int × Int):Bool:=inB p.1 1 8&&(decide (p.1=3)&&inB p.2 0 2||(!decide (p.1=3)&&decide (p.2=0)))
def Zad (p:Int × Int):Int:=if pOk p=true then(if p.1=1∨p.1=2∨p.1=3 then 0 else if p.1=7∨p.1=8 then 1 else 2) else -1
theorem Za8 (p:Int × Int):-1≤Zad p∧Zad p≤2:=by
 unfold Zad
 split<;>(try split)<;>(try split)<;>omega
theorem ZcK {p:Int × Int} (h:0≤Zad p):pOk p=true:=by
 unfold Zad at h
 split at h
 ·assumption
 omega
def dep (es:List (Int × Int)):Nat→Int
 | 0=>0
 | k+1=>dep es k-Zad (es.getD k (0,0))+1
theorem Zeg (es:List (Int × Int)):∀ k:Nat,-(2*k:Int)≤dep es k∧dep es k≤2*k
 | 0=>by simp[dep]
 | k+1=>by have ih:=Zeg es k;have:=Za8 (es.getD k (0,0));unfold dep;omega
def exAt (es:List (Int × Int)) (k:Nat):Bool:=decide (0≤Zad (es.getD k (0,0)))&&decide (Zad (es.getD k (0,0))≤dep es k)
def exOk (es:List (Int × Int)):Bool:=(List.range es.length).all (exAt es)&&decide (dep es es.length=1)&&decide (es.length≤60)
theorem Za3 {es:List (Int × Int)} (h:exOk es=true):(∀ k,k<es.length→0≤Zad (es.getD k (0,0))∧Zad (es.getD k (0,0))≤dep es k)∧dep es es.length=1∧1≤es.length∧es.length≤60:=by
 simp only[exOk,exAt,Bool.and_eq_true,List.all_eq_true,List.mem_range,decide_eq_true_eq] at h;refine⟨h.1.1,h.1.2,?_,h.2⟩;cases es with
 | nil=>have:=h.1.2;simp[dep] at this
 | cons=>simp
theorem Zkd {es:List (Int × Int)} {k:Nat} (hk:k<es.length) (h:exAt es k=false):exOk es=false:=by
 cases he:exOk es with
 | false=>rfl
 | true =>obtain⟨h1,-⟩:=Za3 he;obtain⟨a,b⟩:=h1 k hk;simp only[exAt,decide_eq_true a,decide_eq_true b,Bool.and_self] at h;cases h
theorem ZoS {es:List (Int × Int)} (h:∀ k,k<es.length→0≤Zad (es.getD k (0,0))∧Zad (es.getD k (0,0))≤dep es k):∀ k,0<k→k≤es.length→1≤dep es k
 | 0,h0,_=>by omega
 | k+1,_,hk=>by have:=h k (by omega);unfold dep;omega
def Zb8 (es:List (Int × Int)) (n a:Nat):Prop:=a<n∧dep es a=dep es n-1∧∀ j,a<j→j<n→dep es j≠dep es n-1
theorem Zm2 {es:List (Int × Int)} {n:Nat} (h:∀ k,k<n→0≤Zad (es.getD k (0,0))) (hn:1≤dep es n):∃ a,Zb8 es n a:=by
 have key:∀ m,m≤n→(∀ j,m≤j→j<n→dep es j≠dep es n-1)→(m=n∨dep es n≤dep es m)→∃ a,Zb8 es n a:=by
  intro m
  induction m with
  | zero =>
   intro _ hj hm;exfalso;have h0:dep es 0=0:=rfl;rcases hm with hm|hm
   ·subst hm;omega
   omega
  | succ m ih =>
   intro hmn hj hm;have hs:dep es (m+1)=dep es m-Zad (es.getD m (0,0))+1:=rfl;have hp:=h m (by omega)
   have hge:dep es n≤dep es (m+1):=by
    rcases hm with hm|hm
    ·rw[hm];exact Int.le_refl _
    exact hm
   by_cases he:dep es m=dep es n-1
   ·exact⟨m,by omega,he,fun j h1 h2=>hj j (by omega) h2⟩
   exact ih (by omega) (fun j h1 h2=>by
    by_cases hjm:j=m
    ·rw[hjm];exact he
    exact hj j (by omega) h2) (Or.inr (by omega))
 exact key n (Nat.le_refl _) (fun j h1 h2=>by omega) (Or.inl rfl)
def Zay (es:List (Int × Int)):Bool:=es.all fun p => !(decide (p.1=6)||decide (p.1=7))
end Go.Proofs.YtfikabecgaappaaGreat
namespace Go.Proofs.YtfikabecgaappaaGreat
open Go.RowKit
theorem Zaz {a b:Int} (h:a≠b):(a==b)=false∧(a=b)=False∧(a != b)=true∧(!(a==b))=true:=by simp[h]
theorem ZdX (k l:Int) (w:World) (r:Bool) (hr:pOk (k,l)=r) :
  Calls Tryz.prog 129 #[.agg #[.int .i64 k,.int .i64 l]] w fun e w'=>e = .returned (.bool r)∧Below w.heap.size w w':=by
 unfold pOk at hr;simp only at hr;cases h1:inB k 1 8
 ·rw[h1,Bool.false_and] at hr;subst hr;have H1:=qh h1;clear h1
  go_enter Tryz.func129, Tryz.ntmps129
  go_wp2_with (go_at_call 71;refine(ZaI _ _ _ _ _ H1.out).mono ?_;rintro e w' ⟨rfl,rfl⟩);go_ret;exact⟨rfl,(Below.refl _ _).alloc (Nat.le_refl _) _⟩
 rw[h1,Bool.true_and] at hr;have H1:=qh h1;clear h1;by_cases h3:k=3
 ·subst h3;cases h2:inB l 0 2
  ·rw[h2] at hr;have hr:false=r:=hr;subst hr;have H2:=qh h2;clear h2
   go_enter Tryz.func129, Tryz.ntmps129
   go_wp2_with (go_at_call 71;(first|(with_reducible refine(ZaI _ _ _ _ _ H1.out).mono ?_)|(with_reducible refine(ZaI _ _ _ _ _ H2.out).mono ?_));rintro e w' ⟨rfl,rfl⟩);go_ret;exact⟨rfl,(Below.refl _ _).alloc (Nat.le_refl _) _⟩
  rw[h2] at hr;have hr:true=r:=hr;subst hr;have H2:=qh h2;clear h2
  go_enter Tryz.func129, Tryz.ntmps129
  go_wp2_with (go_at_call 71;(first|(with_reducible refine(ZaI _ _ _ _ _ H1.out).mono ?_)|(with_reducible refine(ZaI _ _ _ _ _ H2.out).mono ?_));rintro e w' ⟨rfl,rfl⟩);go_ret;exact⟨rfl,(Below.refl _ _).alloc (Nat.le_refl _) _⟩
 obtain⟨q1,q2,q3,q4⟩:=Zaz h3;rw[decide_eq_false h3] at hr;replace h3:=qh h3;by_cases h0:l=0
 ·subst h0;have hr:true=r:=hr;subst hr
  go_enter Tryz.func129, Tryz.ntmps129
  go_wp2_with (go_at_call 71;refine(ZaI _ _ _ _ _ H1.out).mono ?_;rintro e w' ⟨rfl,rfl⟩);go_ret;exact⟨rfl,(Below.refl _ _).alloc (Nat.le_refl _) _⟩
 obtain⟨p1,p2,p3,p4⟩:=Zaz h0;rw[decide_eq_false h0] at hr;have hr:false=r:=hr;subst hr;replace h0:=qh h0
 go_enter Tryz.func129, Tryz.ntmps129
 go_wp2_with (go_at_call 71;refine(ZaI _ _ _ _ _ H1.out).mono ?_;rintro e w' ⟨rfl,rfl⟩);go_ret;exact⟨rfl,(Below.refl _ _).alloc (Nat.le_refl _) _⟩
theorem ZbC (k l:Int) (w:World) (n:Int) (hn:Zad (k,l)=n) :
  Calls Tryz.prog 83 #[.agg #[.int .i64 k,.int .i64 l]] w fun e w'=>e = .returned (.int .i64 n)∧Below w.heap.size w w':=by
 have hS0:=(St.start w).alloc _ rfl #[.int .i64 k,.int .i64 l] 57;have e0:=hS0.cell (v:=.int .i64 k) 0 0 rfl rfl;have e1:=hS0.cell (v:=.int .i64 l) 0 1 rfl rfl;cases h:pOk (k,l)
 ·have hn1:n = -1:=by rw[← hn];unfold Zad;rw[if_neg (by simp[h])]
  subst hn1;have H:=qh h;replace hS0:=qh hS0;clear hn h
  go_enter Tryz.func83, Tryz.ntmps83
  go_wp2_with fail;refine(ZdX k l _ _ H.out).mono ?_;rintro e w1 ⟨rfl,hb1⟩;have HS1:=qh (hS0.out.call hb1);clear hb1;go_wp2;go_ret;exact⟨rfl,HS1.out.bel⟩
 have hk:k=1∨k=2∨k=3∨k=4∨k=5∨k=6∨k=7∨k=8:=by have h':=h;unfold pOk at h';simp only[Bool.and_eq_true] at h';have:=Zc6 h'.1;omega
 have hn1:n=if k=1∨k=2∨k=3 then 0 else if k=7∨k=8 then 1 else 2:=by rw[← hn];unfold Zad;rw[if_pos h]
 have H:=qh h;replace hS0:=qh hS0;clear hn h;rcases hk with rfl|rfl|rfl|rfl|rfl|rfl|rfl|rfl
 all_goals
  simp at hn1;subst hn1
  go_enter Tryz.func83, Tryz.ntmps83
  go_wp2_with fail;refine(ZdX _ l _ _ H.out).mono ?_;rintro e w1 ⟨rfl,hb1⟩;have c0:=(hS0.out.call hb1).cell (v:=.int .i64 _) 0 0 rfl rfl;have HS1:=qh (hS0.out.call hb1);clear hb1;go_wp2;go_ret;exact⟨rfl,HS1.out.bel⟩
theorem ZiL (xs:List (Int × Int)):∀ n:Nat,(xs.take n).flatMap Zag=(xs.flatMap Zag).take (n*2):=by
 induction xs with
 | nil=>intro n;simp
 | cons x l ih =>
  intro n;cases n with
  | zero=>simp
  | succ n =>rw[List.take_succ_cons,List.flatMap_cons,List.flatMap_cons,ih n,show(n+1)*2=n*2+2 by omega];rfl
theorem ZiM (xs:List (Int × Int)):∀ n:Nat,(xs.drop n).flatMap Zag=(xs.flatMap Zag).drop (n*2):=by
 induction xs with
 | nil=>intro n;simp
 | cons x l ih =>
  intro n;cases n with
  | zero=>simp
  | succ n =>rw[List.drop_succ_cons,List.flatMap_cons,ih n,show(n+1)*2=n*2+2 by omega];rfl
theorem Pairs.take {w:World} {a:Option Addr} {len cap:Nat} {xs:List (Int × Int)} (h:Pairs 0 w (.slice a len cap) xs) {n:Nat} (hn:n≤xs.length):Pairs 0 w (.slice a n cap) (xs.take n):=by
 obtain⟨hl,a',cap',hv,h1,h2,h3⟩:=h;simp only[Value.slice.injEq] at hv;obtain⟨rfl,rfl,rfl⟩:=hv;have e:(xs.take n).length=n:=by rw[List.length_take];omega
 unfold Pairs;rw[e];refine⟨by rw[ZiL,List.length_take];omega,a,cap,rfl,by omega,h2,fun hn0 => ?_⟩;obtain⟨b,off,ha,hb,hlt,hc⟩:=h3 (by omega);refine⟨b,off,ha,hb,hlt,fun j hj => ?_⟩;rw[hc j (by omega),ZiL,List.getElem?_take_of_lt hj]
theorem Pairs.drop {w:World} {b off len cap:Nat} {xs:List (Int × Int)} (h:Pairs 0 w (.slice (some ⟨b,off,none⟩) len cap) xs) {n:Nat} (hn:n<xs.length):Pairs 0 w (.slice (some ⟨b,off+n*2,none⟩) (xs.length-n) (cap-n)) (xs.drop n):=by obtain⟨hl,a',cap',hv,h1,h2,h3⟩:=h;simp only[Value.slice.injEq] at hv;obtain⟨rfl,rfl,rfl⟩:=hv;unfold Pairs;rw[List.length_drop];refine⟨by rw[ZiM,List.length_drop];omega,_,_,rfl,by omega,by omega,fun hn0 => ?_⟩;obtain⟨b',off',ha,hb,hlt,hc⟩:=h3 (by omega);simp only[Option.some.injEq,Addr.mk.injEq,and_true] at ha;obtain⟨rfl,rfl⟩:=ha;refine⟨b,off+n*2,rfl,hb,hlt,fun j hj => ?_⟩;rw[show off+n*2+j=off+(n*2+j) by omega,hc _ (by omega),ZiM,List.getElem?_drop]
theorem Zb7 (es:List (Int × Int)) (v:Value) (w:World) (hlen:es.length≤2000000) (h:Pairs 0 w v es) (r:Bool) (hr:exOk es=r) :
  Calls Tryz.prog 36 #[v] w fun e w'=>e = .returned (.bool r)∧Below w.heap.size w w':=by
 obtain⟨a,c,rfl,hc1,hc2,hrd⟩:=h.form;have Hrd:=qh hrd;have Hr:=qh hr;clear h hr hrd
 go_enter Tryz.func36, Tryz.ntmps36
 go_wp2
 go_loopw [3,4] (fun vd i wr=>∃ k:Nat,i = .int .i64 k∧k≤es.length∧vd = .int .i64 (dep es k)∧(∀ j,j<k→exAt es j=true)∧Below w.heap.size w wr) (fun _ i _=>es.length-(intOf i).toNat)
 case atStart=>exact⟨0,rfl,Nat.zero_le _,rfl,fun j hj=>absurd hj (by omega),Below.refl _ _⟩
 case round =>
  obtain⟨k,rfl,hk,rfl,hall,hb⟩:=hrel;have hdi:=Zeg es k;have hds:dep es (k+1)=dep es k-Zad (es.getD k (0,0))+1:=rfl;have hpi:=Za8 (es.getD k (0,0));have hex:exAt es k=(decide (0≤Zad (es.getD k (0,0)))&&decide (Zad (es.getD k (0,0))≤dep es k)):=rfl;have Hall:=qh hall;have Hb:=qh hb;clear hall hb;by_cases hlt:k<es.length
  ·have hlt2:(k:Int)<es.length:=by omega
   obtain⟨b,o,rfl,-,hbl,hcs⟩:=Hrd.out (by omega);obtain⟨g1,g2⟩:=hcs k hlt;have k1:=(bcell Hb.out b _ hbl).trans g1;have k2:=(bcell Hb.out b _ hbl).trans g2;obtain⟨p,hp⟩:=eI (es.getD k (0,0));rw[← hp] at k1 k2 hds hpi hex;obtain⟨p1,p2⟩:=p;simp only at k1 k2;obtain⟨n,hn⟩:=eI (Zad (p1,p2));rw[← hn] at hds hpi hex;obtain⟨D,hD⟩:=eI (dep es k);rw[← hD] at hds hdi hex;rw[← hD];obtain⟨hd1,hd2⟩:=hdi;obtain⟨hp1,hp2⟩:=hpi;have Hds:=qh hds;have Hex:=qh hex;replace hp:=qh hp;replace hn:=qh hn;replace hD:=qh hD;clear hds hex hcs g1 g2;go_wp2_with fail;refine(ZbC p1 p2 _ _ hn.out.symm).mono ?_;rintro e w1 ⟨rfl,hb1⟩;have Hb1:=qh (Hb.out.trans (hb1.mono Hb.out.size));clear hb1 k1 k2;by_cases hn0:n<0
   ·have q1:(n<0)=True:=by simp[hn0]
    have hrf:false=r:=by rw[← Hr.out];exact(Zkd hlt (by rw[Hex.out,decide_eq_false (by omega)];rfl)).symm
    subst hrf;go_wp2;go_ret;exact⟨rfl,Hb1.out⟩
   have q1:(n<0)=False:=by simp;omega
   have hn1:0≤n:=by omega
   clear hn0;by_cases hDn:D<n
   ·have q2:(D<n)=True:=by simp[hDn]
    have hrf:false=r:=by rw[← Hr.out];exact(Zkd hlt (by rw[Hex.out,decide_eq_false (show ¬ n≤D by omega),Bool.and_false])).symm
    subst hrf;go_wp2;go_ret;exact⟨rfl,Hb1.out⟩
   have q2:(D<n)=False:=by simp;omega
   have hDn1:n≤D:=by omega
   clear hDn;go_wp2;go_roundw
   case rel =>
    refine⟨k+1,by go_num,by omega,by rw[Hds.out],fun j hj => ?_,Hb1.out⟩;by_cases e:j=k
    ·rw[e,Hex.out,decide_eq_true hn1,decide_eq_true hDn1];rfl
    exact Hall.out j (by omega)
   case measure=>simp[intOf];omega
  obtain rfl:k=es.length:=by omega
  have hro:exOk es=(decide (dep es es.length=1)&&decide (es.length≤60)):=by unfold exOk;rw[List.all_eq_true.2 (fun j hj=>Hall.out j (List.mem_range.1 hj)),Bool.true_and]
  obtain⟨D,hD⟩:=eI (dep es es.length);rw[← hD] at hro;rw[← hD];rw[Hr.out] at hro;have Hro:=qh hro;replace hD:=qh hD;clear hro hdi hds hpi hex;by_cases hD1:D=1
  ·subst hD1;by_cases h60:es.length≤60
   ·have q1:((es.length:Int)≤60)=True:=by simp;omega
    have hrt:true=r:=by rw[Hro.out,decide_eq_true h60];rfl
    subst hrt;go_wp2;go_ret;exact⟨rfl,Hb.out⟩
   have q1:((es.length:Int)≤60)=False:=by simp;omega
   have hrt:false=r:=by rw[Hro.out,decide_eq_false h60];rfl
   subst hrt;clear h60;go_wp2;go_ret;exact⟨rfl,Hb.out⟩
  obtain⟨q1,q2,q3,q4⟩:=Zaz hD1;have hrt:false=r:=by rw[Hro.out,decide_eq_false hD1];rfl
  subst hrt;clear hD1;go_wp2;go_ret;exact⟨rfl,Hb.out⟩
theorem ZeX (es:List (Int × Int)) (v:Value) (w:World) (hlen:es.length≤1000000) (h:Pairs 0 w v es) (r:Bool) (hr:Zay es=r) :
  Calls Tryz.prog 37 #[v] w fun e w'=>e = .returned (.bool r)∧Below w.heap.size w w':=by
 obtain⟨a,c,rfl,hc1,hc2,hrd⟩:=h.form;have Hrd:=qh hrd;have Hr:=qh hr;clear h hr hrd
 go_enter Tryz.func37, Tryz.ntmps37
 go_wp2
 go_loopw [3] (fun i wr=>∃ k:Nat,i = .int .i64 k∧k≤es.length∧(∀ j,j<k→(es.getD j (0,0)).1≠6∧(es.getD j (0,0)).1≠7)∧Below w.heap.size w wr) (fun i _=>es.length-(intOf i).toNat)
 case atStart=>exact⟨0,rfl,Nat.zero_le _,fun j hj=>absurd hj (by omega),Below.refl _ _⟩
 case round =>
  obtain⟨k,rfl,hk,hall,hb⟩:=hrel;have Hall:=qh hall;have Hb:=qh hb;clear hall hb;by_cases hlt:k<es.length
  ·have hlt2:(k:Int)<es.length:=by omega
   obtain⟨b,o,rfl,-,hbl,hcs⟩:=Hrd.out (by omega);obtain⟨g1,-⟩:=hcs k hlt;have k1:=(bcell Hb.out b _ hbl).trans g1;obtain⟨x,hx⟩:=eI ((es.getD k (0,0)).1);rw[← hx] at k1;have hbad:(x=6∨x=7)→Zay es=false:=fun hbx=>by unfold Zay;rw[List.all_eq_false];refine⟨es.getD k (0,0),ZbE hlt,?_⟩;rw[← hx];rcases hbx with h|h<;>simp[h]
   have Hbad:=qh hbad;replace hx:=qh hx;clear hcs g1 hbad;by_cases h6:x=6
   ·subst h6;have hrf:false=r:=by rw[← Hr.out];exact(Hbad.out (Or.inl rfl)).symm
    subst hrf;go_wp2;go_ret;exact⟨rfl,Hb.out⟩
   obtain⟨q1,q2,q3,q4⟩:=Zaz h6;by_cases h7:x=7
   ·subst h7;have hrf:false=r:=by rw[← Hr.out];exact(Hbad.out (Or.inr rfl)).symm
    subst hrf;clear h6 q1 q2 q3 q4;go_wp2;go_ret;exact⟨rfl,Hb.out⟩
   obtain⟨z1,z2,z3,z4⟩:=Zaz h7;have H6:=qh h6;have H7:=qh h7;clear h6 h7;go_wp2;go_roundw
   case rel =>
    refine⟨k+1,by go_num,by omega,fun j hj => ?_,Hb.out⟩;by_cases e:j=k
    ·rw[e,← hx.out];exact⟨H6.out,H7.out⟩
    exact Hall.out j (by omega)
   case measure=>simp[intOf];omega
  obtain rfl:k=es.length:=by omega
  have hrt:true=r:=by
   rw[← Hr.out]
   symm
   unfold Zay;rw[List.all_eq_true];intro x hx;obtain⟨j,hj,e⟩:=List.getElem_of_mem hx;have:=Hall.out j hj;rw[show es.getD j (0,0)=x by rw[← e];simp[hj]] at this;simpa using this
  subst hrt;go_wp2;go_ret;exact⟨rfl,Hb.out⟩
theorem Zjr (es:List (Int × Int)) (en at':Nat) (v:Value) (w:World) (hlen:es.length≤1000000) (hen:en<es.length) (h:Pairs 0 w v es) (ha:Zb8 es (en+1) at') :
  Calls Tryz.prog 84 #[v,.int .i64 ((en:Nat):Int)] w fun e w'=>e = .returned (.int .i64 ((at':Nat):Int))∧Below w.heap.size w w':=by
 obtain⟨a,c,rfl,hc1,hc2,hrd⟩:=h.form;obtain⟨b,o,rfl,-,hbl,hcs⟩:=hrd (by omega);obtain⟨ha1,ha2,ha3⟩:=ha;have Hcs:=qh hcs;have Ha2:=qh ha2;have Ha3:=qh ha3;have hde:=Zeg es (en+1);obtain⟨hde1,hde2⟩:=hde;obtain⟨E,hE⟩:=eI (dep es (en+1));rw[← hE] at hde1 hde2;replace hE:=qh hE;clear h hcs hrd ha2 ha3
 go_enter Tryz.func84, Tryz.ntmps84
 go_wp2
 go_loopw [5,6] (fun vn i wr=>∃ k:Nat,i = .int .i64 k∧at'≤k∧k≤en∧vn = .int .i64 (1+dep es (k+1)-E)∧Below w.heap.size w wr) (fun _ i _=>(intOf i).toNat)
 case atStart=>exact⟨en,rfl,by omega,Nat.le_refl _,by rw[hE.out];congr 1;omega,Below.refl _ _⟩
 case round =>
  obtain⟨k,rfl,hak,hk,rfl,hb⟩:=hrel;have hlt2:(k:Int)<es.length:=by omega
  have hdi:=Zeg es (k+1);have hdk:=Zeg es k;have hds:dep es (k+1)=dep es k-Zad (es.getD k (0,0))+1:=rfl;have hpi:=Za8 (es.getD k (0,0));obtain⟨g1,g2⟩:=Hcs.out k (by omega);have k1:=(bcell hb b _ hbl).trans g1;have k2:=(bcell hb b _ hbl).trans g2;obtain⟨p,hp⟩:=eI (es.getD k (0,0));rw[← hp] at k1 k2 hds hpi;obtain⟨p1,p2⟩:=p;simp only at k1 k2;obtain⟨n,hn⟩:=eI (Zad (p1,p2));rw[← hn] at hds hpi;obtain⟨D1,hD1⟩:=eI (dep es (k+1));rw[← hD1] at hds hdi;rw[← hD1];obtain⟨D,hD⟩:=eI (dep es k);rw[← hD] at hds hdk;obtain⟨hd1,hd2⟩:=hdi;obtain⟨hd3,hd4⟩:=hdk;obtain⟨hp1,hp2⟩:=hpi;have hsum:1+D1-E-1+n=1+D-E:=by omega
  have Hb:=qh hb;have Hds:=qh hds;have Hsum:=qh hsum;have Hhp:=qh hp;clear hp;have Hhn:=qh hn;clear hn;replace hD:=qh hD;have HhD1:=qh hD1;clear hD1;clear hds hsum g1 g2 hb;go_wp2_with fail;refine(ZbC p1 p2 _ _ Hhn.out.symm).mono ?_;rintro e w1 ⟨rfl,hb1⟩;have Hb1:=qh (Hb.out.trans (hb1.mono Hb.out.size));clear hb1 k1 k2;by_cases hka:k=at'
  ·subst hka;have hz:1+D1-E-1+n=0:=by rw[Hsum.out,hD.out,Ha2.out,← hE.out];omega
   go_wp2;go_ret;exact⟨rfl,Hb1.out⟩
  have hz:1+D1-E-1+n≠0:=by rw[Hsum.out];intro he;have h:=Ha3.out k (by omega) (by omega);rw[← hE.out,← hD.out] at h;omega
  obtain⟨z1,z2,z3,z4⟩:=Zaz hz;have hsm:1+D1-E-1+n=1+dep es ((k-1)+1)-E:=by rw[Hsum.out,show(k-1)+1=k by omega,hD.out]
  have Hsm:=qh hsm;have hk0:1≤k:=by omega
  clear hz hsm;go_wp2;go_roundw
  case rel=>exact⟨k-1,by congr 1;omega,by omega,by omega,by rw[Hsm.out],Hb1.out⟩
  case measure=>simp[intOf];omega
def splits (es:List (Int × Int)) (xs ys:List (Int × Int)):Prop:=(Zad (es.getD (es.length-1) (0,0))=0→xs=[]∧ys=[])∧(Zad (es.getD (es.length-1) (0,0))=1→xs=es.take (es.length-1)∧ys=[]) ∧
 (Zad (es.getD (es.length-1) (0,0))=2→∃ a,Zb8 es (es.length-1) a∧xs=es.take a∧ys=(es.drop a).take (es.length-1-a))
theorem Zlq {es xs ys:List (Int × Int)} (h:splits es xs ys) (h1:1≤es.length) (hn:0≤Zad (es.getD (es.length-1) (0,0))):xs.length<es.length∧ys.length<es.length:=by
 obtain⟨a,b,c⟩:=h;have hi:=Za8 (es.getD (es.length-1) (0,0));have hc:Zad (es.getD (es.length-1) (0,0))=0∨Zad (es.getD (es.length-1) (0,0))=1∨Zad (es.getD (es.length-1) (0,0))=2:=by omega
 rcases hc with h|h|h
 ·obtain⟨rfl,rfl⟩:=a h;simp;omega
 ·obtain⟨rfl,rfl⟩:=b h;simp;omega
 obtain⟨x,hx,rfl,rfl⟩:=c h;have:=hx.1;simp;omega
theorem ZfQ (w:World) (a:Option Addr) {c:Nat} (hc:c≤maxLen):Pairs 0 w (.slice a 0 c) []:=⟨rfl,_,_,rfl,Nat.zero_le _,hc,fun h=>by simp at h⟩
theorem Zjs (es:List (Int × Int)) (v:Value) (w:World) (hok:exOk es=true) (h:Pairs 0 w v es) :
  Calls Tryz.prog 38 #[v] w fun e w'=>∃ vx vy xs ys,splits es xs ys∧e = .returned (.tuple #[vx,vy])∧Pairs 0 w' vx xs∧Pairs 0 w' vy ys∧Below w.heap.size w w':=by
 obtain⟨hall,hd1,hl1,hl60⟩:=Za3 hok;have Hp:=qh h;obtain⟨a,c,rfl,hc1,hc2,hrd⟩:=h.form;obtain⟨b,o,rfl,-,hbl,hcs⟩:=hrd (by omega);obtain⟨m,hm⟩:∃ m,es.length=m+1:=⟨es.length-1,by omega⟩;obtain⟨g1,g2⟩:=hcs m (by omega);have hpn:=hall m (by omega);have hpi:=Za8 (es.getD m (0,0));have hdm:dep es (m+1)=dep es m-Zad (es.getD m (0,0))+1:=rfl;rw[← hm,hd1] at hdm;have hbeg:Zad (es.getD m (0,0))=2→∃ a,Zb8 es m a:=fun h2=>Zm2 (fun k hk=>(hall k (by omega)).1) (by omega)
 have hsp:∀ xs ys,splits es xs ys↔(Zad (es.getD m (0,0))=0→xs=[]∧ys=[])∧(Zad (es.getD m (0,0))=1→xs=es.take m∧ys=[])∧(Zad (es.getD m (0,0))=2→∃ a,Zb8 es m a∧xs=es.take a∧ys=(es.drop a).take (m-a)):=fun xs ys=>by unfold splits;rw[show es.length-1=m by omega]
 obtain⟨p,hp⟩:=eI (es.getD m (0,0));rw[← hp] at g1 g2 hpi hpn hbeg hsp;obtain⟨p1,p2⟩:=p;simp only at g1 g2;obtain⟨n,hn⟩:=eI (Zad (p1,p2));rw[← hn] at hpi hpn hbeg hsp;have hn3:n=0∨n=1∨n=2:=by omega
 have Hbeg:=qh hbeg;have Hsp:=qh hsp;have hml:(m:Int)<es.length:=by omega
 replace hn:=qh hn;have Hhp:=qh hp;clear hp;clear hall hd1 h hok hcs hrd hdm hbeg hsp hpn hpi;have hlen:(es.length:Int)-1=(m:Int):=by omega
 replace hm:=qh hm
 go_enter Tryz.func38, Tryz.ntmps38
 rcases hn3 with rfl|rfl|rfl
 ·go_wp2_with fail;refine(ZbC p1 p2 _ _ hn.out.symm).mono ?_;rintro e w1 ⟨rfl,hb1⟩;have HS:=qh (((((St.start w).call hb1).alloc_ (.cells #[] 57)).alloc_ (.cells #[] 57)).bel);clear hb1;go_wp2;refine bodyPost_ret (v:=.tuple #[.slice (some ⟨w1.heap.size,0,none⟩) 0 0,.slice (some ⟨w1.heap.size+1,0,none⟩) 0 0]) (by simp[results,Tryz.results38,go_sem]) rfl ?_;exact⟨_,_,[],[],(Hsp.out _ _).2 ⟨fun _=>⟨rfl,rfl⟩,fun h=>absurd h (by omega),fun h=>absurd h (by omega)⟩,rfl,ZfQ _ _ (by unfold maxLen;omega),ZfQ _ _ (by unfold maxLen;omega),HS.out⟩
 ·have hcI:(m:Int)≤c:=by omega
  go_wp2_with fail;refine(ZbC p1 p2 _ _ hn.out.symm).mono ?_;rintro e w1 ⟨rfl,hb1⟩;have HS:=qh ((((St.start w).call hb1).alloc_ (.cells #[] 57)).bel);clear hb1;go_wp2;refine bodyPost_ret (v:=.tuple #[.slice (some ⟨b,o,none⟩) m c,.slice (some ⟨w1.heap.size,0,none⟩) 0 0]) (by simp[results,Tryz.results38,go_sem]) rfl ?_;exact⟨_,_,es.take m,[],(Hsp.out _ _).2 ⟨fun h=>absurd h (by omega),fun _=>⟨rfl,rfl⟩,fun h=>absurd h (by omega)⟩,rfl,(Hp.out.below HS.out).take (by have:=hm.out;omega),ZfQ _ _ (by unfold maxLen;omega),HS.out⟩
 obtain⟨at',hat⟩:=Hbeg.out rfl;have ha1:=hat.1;obtain⟨q,hqm⟩:∃ q,m=q+1:=⟨m-1,by omega⟩;have hq:(m:Int)-1=(q:Int):=by omega
 have haI:(at':Int)≤(m:Int):=by omega
 have haC:(at':Int)≤c:=by omega
 have hqC:(m:Int)≤c:=by omega
 rw[hqm] at hat;have Hhqm:=qh hqm;clear hqm;have Hat:=qh hat;clear hat;go_wp2_with fail;refine(ZbC p1 p2 _ _ hn.out.symm).mono ?_;rintro e w1 ⟨rfl,hb1⟩;have HS:=qh ((St.start w).call hb1);clear hb1;go_wp2_with fail;refine(Zjr es q at' _ _ (by have:=hm.out;omega) (by have:=hm.out;have:=Hhqm.out;omega) (Hp.out.below HS.out.bel) Hat.out).mono ?_;rintro e w2 ⟨rfl,hb2⟩;have HS2:=qh (HS.out.call hb2);clear hb2;go_wp2
 go_quiet (fail)
 go_wp2;have HS3:=qh (HS2.out.drewN nq);refine bodyPost_ret (v:=.tuple #[.slice (some ⟨b,o,none⟩) at' c,.slice (some ⟨b,o+at'*2,none⟩) (m-at') (c-at')]) (by simp[results,Tryz.results38,go_sem]) rfl ?_;have hml2:=hm.out
 exact⟨_,_,es.take at',(es.drop at').take (m-at'),(Hsp.out _ _).2 ⟨fun h=>absurd h (by omega),fun h=>absurd h (by omega),fun _=>⟨at',by rw[Hhqm.out];exact Hat.out,rfl,rfl⟩⟩,rfl,
  (Hp.out.below HS3.out.bel).take (by omega),((Hp.out.below HS3.out.bel).drop (by omega)).take (by rw[List.length_drop];omega),HS3.out.bel⟩
end Go.Proofs.YtfikabecgaappaaGreat
