/-
  The walk over the reference's l20Word: a text is drawn, most often a word (weak: some text of at most ten bytes).
  Conditions: the reader is at hand, its bytes read as such.
-/
import Derived.Test.YtfikabecgaappaaGreatPr06Nr
import Derived.Test.YtfikabecgaappaaGreatPr18Wlg
import Derived.Test.YtfikabecgaappaaGreatPr21Lm
set_option maxHeartbeats 8000000
set_option maxRecDepth 100000
namespace Go.Proofs.YtfikabecgaappaaGreat
open Go.RowKit
theorem Zdi (u v:List Nat):txB u++txB v=txB (u++v):=by apply ByteArray.ext;simp[txB,ByteArray.data_append]
theorem ZkB (u:List Nat) {v:ByteArray} {l:List Nat} (hv:v=txB l):txB u++v=txB (u++l):=by rw[hv,Zdi]
theorem ZgO (c:Nat) (hc:c<3):strOfNums [97+(c:Int)]=txB [97+c]:=by
 obtain rfl|rfl|rfl:c=0∨c=1∨c=2:=by omega
 all_goals rfl
theorem Znj (c:Nat) (hc:c<3) (w:World) (b cap:Nat) (h:w.cell? ⟨b,0,none⟩=some (.int .u8 (97+(c:Int)))) :
  (convert 22 9 (.slice (some ⟨b,0,none⟩) 1 cap)).run Tryz.prog w = .ok (.string (txB [97+c])) w:=by
 rw[← ZgO c hc]
 exact run_convert_bytes_arg w 22 5 Tryz.underlying22 Tryz.underlying5 b 0 1 cap [97+(c:Int)] rfl (fun i hi=>by
  obtain rfl:i=0:=by omega
  simpa using h) 9 Tryz.underlying9
theorem Zkv (c:Nat) (hc:c<3):IntKind.u8.wrap (97+(c:Int))=97+(c:Int):=by
 obtain rfl|rfl|rfl:c=0∨c=1∨c=2:=by omega
 all_goals rfl
theorem Zio (u:List Nat) (v:ByteArray) (hu:u.length≤1000) (hv:v.size≤1000):(∀ w':World,(Op.stringOp .add (txB u) v).run Tryz.prog w' = .ok (.string (txB u++v)) w')∧¬ 9223372036854775807<(txB u).size+v.size:=by have h:=ZaE u;exact⟨fun w'=>run_string_add_sum w' _ _ (by omega),by omega⟩
theorem Zhc {l:List Nat} {c:Nat} (h:isT l) (hc:c<256):isT (l++[c]):=fun b hb=>by
 rcases List.mem_append.1 hb with hb|hb
 ·exact h b hb
 rw[List.mem_singleton.1 hb];exact hc
theorem ZbN (bs:List Nat) (vb:Value) (b p n:Nat) (w0 w:World) (X:Ent) (hb:Bytes 0 w0 vb bs) (hlen:bs.length≤2000) (hp:p≤800000) (hn1:n≤10000) (hS:St w0 w [RdE b vb p,X]) :
  Calls Tryz.prog 44 #[.pointer (some ⟨b,0,none⟩),.int .i64 ((n:Nat):Int)] w fun e w'=>∃ (l:List Nat) (p':Nat),isT l∧l.length≤10∧p'≤p+20∧e = .returned (.string (txB l))∧St w0 w' [RdE b vb p',X]:=by
 have Hb:=qh hb;have HS:=qh hS;clear hb hS
 go_enter Tryz.func44, Tryz.ntmps44
 go_wp2_with fail;refine(Zax bs vb b p 9 w0 _ _ Hb.out hlen (by omega) (by omega) (by omega) HS.out).mono ?_;rintro e w1 ⟨k0,hk0,rfl,hS1⟩;have HS1:=qh hS1;clear hS1;go_wp2
 go_loopw [5,6] (fun vs vk wr=>∃ (k pq:Nat) (l:List Nat),vk = .int .i64 k∧vs = .string (txB l)∧l.length+k≤8∧pq+k≤p+9∧isT l∧St w0 wr [RdE b vb pq,X])
  (fun _ vk _=>(intOf vk).toNat)
 case atStart=>exact⟨k0,p+1,[],rfl,rfl,by simp;omega,by omega,(fun b hb=>by cases hb),HS1.out⟩
 case round =>
  obtain⟨k,pq,l,rfl,rfl,hk,hpq,ht,hS⟩:=hrel;have HS2:=qh hS;have Ht:=qh ht;clear hS ht;by_cases hlt:0<k
  ·go_wp2_with fail;refine(Zax bs vb b pq 3 w0 _ _ Hb.out hlen (by omega) (by omega) (by omega) HS2.out).mono ?_;rintro e w2 ⟨c,hc,rfl,hS3⟩;have HS3:=qh (hS3.alloc_ (.cells #[.int .u8 (97+(c:Int))] 5));have hw1:IntKind.i64.wrap (97+(c:Int))=97+(c:Int):=IntWalk.i64_in _ (by omega);have hw2:=Zkv c hc;have hcv:=Znj c hc (w2.alloc (.cells #[.int .u8 (97+(c:Int))] 5)) w2.heap.size 1 (ZgH _ _ _ 0);obtain⟨hadd,hnlt⟩:=Zio l (txB [97+c]) (by omega) (by rw[ZaE];simp);clear hS3;go_wp2;go_roundw
   case rel =>refine⟨k-1,pq+1,l++[97+c],by congr 1;omega,by rw[Zdi],by rw[List.length_append];simp;omega,by omega,Zhc Ht.out (by omega),HS3.out⟩
   case measure=>simp[intOf];omega
  have hz:((0:Int)<(k:Int))=False:=by simp;omega
  have hz2:(0<k)=False:=by simp;omega
  clear hlt;go_wp2_with fail;refine(Zg3 bs vb b pq n w0 _ _ Hb.out hlen (by omega) hn1 HS2.out).mono ?_;rintro e w2 ⟨q,p2,hp2,rfl,hS3⟩;have HS3:=qh hS3;clear hS3;cases q
  ·go_wp2;go_ret;exact⟨l,p2,Ht.out,by omega,by omega,rfl,HS3.out⟩
  obtain⟨hadd1,hnlt1⟩:=Zio l { data:=#[100] } (by omega) (by decide);obtain⟨hadd2,hnlt2⟩:=Zio l { data:=#[65] } (by omega) (by decide);obtain⟨u1,hu1⟩:∃ u1,u1=txB l++{ data:=#[100] }:=⟨_,rfl⟩;obtain⟨u2,hu2⟩:∃ u2,u2=txB l++{ data:=#[65] }:=⟨_,rfl⟩;rw[← hu1] at hadd1;rw[← hu2] at hadd2;have he1:u1=txB (l++[100]):=by rw[hu1];exact ZkB l rfl
  have he2:u2=txB (l++[65]):=by rw[hu2];exact ZkB l rfl
  have HS4:=qh (HS3.out.alloc _ rfl #[.string u1,.string u2,.string { data:=#[97,97,97,97,97,97,97,97,97] }] 9);replace hu1:=qh hu1;have Hhu2:=qh hu2;clear hu2;replace he1:=qh he1;have Hhe2:=qh he2;clear he2;go_wp2_with fail;refine(Zax bs vb b p2 3 w0 _ _ Hb.out hlen (by omega) (by omega) (by omega) (St.pack (A:=[RdE b vb p2]) (R:=[X,Ent.box w2.heap.size #[.string u1,.string u2,.string { data:=#[97,97,97,97,97,97,97,97,97] }] 9]) HS4.out)).mono ?_;rintro e w5 ⟨j,hj,rfl,hSp⟩;have HS5:=qh (St.unpack (A:=[RdE b vb p2]) (A':=[RdE b vb (p2+1)]) (R:=[X,Ent.box w2.heap.size #[.string u1,.string u2,.string { data:=#[97,97,97,97,97,97,97,97,97] }] 9]) HS4.out hSp);have c0:=HS5.out.cell (v:=.string u1) 2 0 rfl rfl;have c1:=HS5.out.cell (v:=.string u2) 2 1 rfl rfl;have c2:=HS5.out.cell (v:=.string { data:=#[97,97,97,97,97,97,97,97,97] }) 2 2 rfl rfl;clear hSp;obtain rfl|rfl|rfl:j=0∨j=1∨j=2:=by omega
  ·go_wp2;go_ret;exact⟨l++[100],p2+1,Zhc Ht.out (by omega),by rw[List.length_append];simp;omega,by omega,by rw[he1.out];rfl,HS5.out.pick [0,1] (by decide)⟩
  ·go_wp2;go_ret;exact⟨l++[65],p2+1,Zhc Ht.out (by omega),by rw[List.length_append];simp;omega,by omega,by rw[Hhe2.out];rfl,HS5.out.pick [0,1] (by decide)⟩
  go_wp2;go_ret;exact⟨[97,97,97,97,97,97,97,97,97],p2+1,(fun b hb=>by simp at hb;omega),by decide,by omega,rfl,HS5.out.pick [0,1] (by decide)⟩
def enA (l:List Nat) (i k:Nat):Int:=if i+1<k∧isA l i=true then((i+1:Nat):Int) else -1
def okA (l:List Nat):Prop:=l.length≤30∧isT l∧∀ i,i<l.length→97≤l.getD i 0∧l.getD i 0≤99
theorem Zol {l:List Nat} (ht:isT l) (h:txM 30 l=true):okA l:=by obtain⟨h1,h2⟩:=Zkx.1 h;exact⟨h2,ht,fun i hi=>h1 _ (ZbO hi)⟩
theorem ZoD {l:List Nat} (h:okA l):isW (lets l):=fun c hc=>by obtain⟨b,hb,rfl⟩:=List.mem_map.1 hc;obtain⟨i,hi,rfl⟩:=List.mem_iff_getElem.1 hb;have:=h.2.2 i hi;rw[List.getD_eq_getElem?_getD,List.getElem?_eq_getElem hi,Option.getD_some] at this;omega
theorem ZiM {l:List Nat} {i:Nat} (hi:i<l.length):(lets l).getD i 0=l.getD i 0-97:=by unfold lets;rw[List.getD_eq_getElem?_getD,List.getElem?_map,List.getElem?_eq_getElem hi,List.getD_eq_getElem?_getD,List.getElem?_eq_getElem hi];rfl
theorem ZmC {w:List Nat} {i k:Nat} (h:i≤k) (hk:k<w.length):seg w i (k+1)=seg w i k++[w.getD k 0]:=by
 unfold seg;have hl:k-i<(w.drop i).length:=by rw[List.length_drop];omega
 rw[show k+1-i=k-i+1 by omega,List.take_succ_eq_append_getElem hl,List.getElem_drop,List.getD_eq_getElem?_getD,List.getElem?_eq_getElem hk];congr 2;simp only[Option.getD_some];congr 1;omega
theorem Zn1 {w:List Nat} (h:isW w) (i k:Nat):isW (seg w i k):=fun c hc=>h c (List.mem_of_mem_drop (List.mem_of_mem_take hc))
def accA (d:DfaD):Prop:=∀ u,isW u→(accD d u=true↔u=[0])
theorem Zmp {d:DfaD} (ha:accA d) {l:List Nat} (hl:okA l) {i k:Nat} (hik:i≤k) (hk:k≤l.length):accD d (seg (lets l) i k)=true↔k=i+1∧isA l i=true:=by
 have hll:(lets l).length=l.length:=by simp[lets]
 rw[ha _ (Zn1 (ZoD hl) i k)];constructor
 ·intro h;have h1:=ZnN (w:=lets l) hik (by omega);rw[h] at h1;have h2:k=i+1:=by simp at h1;omega
  subst h2;have h3:=(ZkN (w:=lets l) (i:=i) (c:=0) (by omega)).1 h;rw[ZiM (by omega)] at h3;have h4:=hl.2.2 i (by omega);exact⟨rfl,decide_eq_true (by omega)⟩
 rintro⟨rfl,h⟩;have h1:=of_decide_eq_true h;refine(ZkN (w:=lets l) (i:=i) (c:=0) (by omega)).2 ?_;rw[ZiM (by omega)];omega
theorem Znf {d:DfaD} (ha:accA d) {l:List Nat} (hl:okA l) {i k:Nat} (hik:i≤k) (hk:k≤l.length):enA l i (k+1)=if accD d (seg (lets l) i k)=true then(k:Int) else enA l i k:=by
 unfold enA;by_cases h:accD d (seg (lets l) i k)=true
 ·obtain⟨h1,h2⟩:=(Zmp ha hl hik hk).1 h;rw[if_pos h,if_pos ⟨by omega,h2⟩,h1]
 rw[if_neg h];by_cases h1:i+1<k∧isA l i=true
 ·rw[if_pos h1,if_pos ⟨by omega,h1.2⟩]
 rw[if_neg h1,if_neg fun h2 => ?_];by_cases h3:k=i+1
 ·exact h ((Zmp ha hl hik hk).2 ⟨h3,h2.2⟩)
 exact h1 ⟨by omega,h2.2⟩
theorem ZhW (d:DfaD) (l:List Nat) (i:Nat) (v:Value) (w:World) (hd:Zae d.next d.ends=true) (ha:accA d) (hl:okA l) (hi:i≤l.length) (h:DfaR 0 w v d) :
  Calls Tryz.prog 169 #[v,.string (txB l),.int .i64 (i:Int)] w fun e w'=>e = .returned (.int .i64 (enA l i (l.length+1)))∧Below w.heap.size w w':=by
 obtain⟨v1,v2,rfl,g1,g2⟩:=h;have hf:=ZaB hd;obtain⟨b1,o1,c1,rfl,hc1,hc2,hb1,hrow⟩:=Zng g1 hd;obtain⟨b2,o2,c2,rfl,hd1,hd2,hb2,hend⟩:=Znm g2 hd;have hsz:=ZaE l;have hll:(lets l).length=l.length:=by simp[lets]
 have hn30:=hl.1;have HS:=qh ((St.start w).alloc w.heap.size rfl #[.slice (some ⟨b1,o1,none⟩) d.next.length c1,.slice (some ⟨b2,o2,none⟩) d.ends.length c2] 37);obtain⟨N,hN⟩:=eI (d.next.length);obtain⟨M,hM⟩:=eI (d.ends.length);have hMN:M=N:=by have:=Zac hd;omega
 subst hMN;obtain⟨n,hn⟩:=eI (l.length);have hN0:0<M:=by rw[hN];exact hf.1
 have hlt3:∀ j c,j<M→c<3→nxD d j c<M∧dnx d (j:Int) c=((nxD d j c:Nat):Int):=fun j c hj hc=>by rw[hN];exact Zbz hf (by omega) hc
 have hen:=fun k (h1:i≤k) (h2:k≤n)=>Znf ha hl h1 (by rw[← hn];exact h2)
 rw[← hN] at hrow hend hc1;rw[← hM] at hd1;rw[← hN,← hM] at HS;rw[← hN,← hM];rw[← hn] at hi hsz hn30;rw[← hn];have Hrow:=qh hrow;have Hend:=qh hend;have Hlt3:=qh hlt3;have Hen:=qh hen;replace hN:=qh hN;replace hM:=qh hM;have Hhn:=qh hn;clear hn;have Hhl:=qh hl;clear hl;have Hhll:=qh hll;clear hll;clear g1 g2 hd hrow hend hlt3 hen hf ha
 go_enter Tryz.func169, Tryz.ntmps169
 go_wp2
 go_loopw [7,8,9] (fun ev sv tv wr=>∃ k st:Nat,tv = .int .i64 (k:Int)∧sv = .int .i64 (st:Int)∧i≤k∧k≤n∧st<M∧(st:Int)=runD d 0 (seg (lets l) i k)∧ev = .int .i64 (enA l i k)∧St w wr [Ent.box w.heap.size #[.slice (some ⟨b1,o1,none⟩) M c1,.slice (some ⟨b2,o2,none⟩) M c2] 37]) (fun _ _ tv _=>n-(intOf tv).toNat)
 case atStart =>refine⟨i,0,rfl,rfl,Nat.le_refl _,hi,hN0,by rw[ZmD];rfl,?_,HS.out⟩;unfold enA;rw[if_neg (by omega)]
 case round =>
  obtain⟨k,st,rfl,rfl,hik,hkn,hst,hrun,rfl,hS⟩:=hrel;have HS1:=qh hS;have hac:accD d (seg (lets l) i k)=enD d st:=by show den d (runD d 0 (seg (lets l) i k))=_;rw[← hrun];show d.ends.getD ((st:Int)).toNat false=d.ends.getD st false;rw[Int.toNat_natCast]
  have hes:=Hen.out k hik hkn;rw[hac] at hes;have e0:=HS1.out.cell (v:=.slice (some ⟨b1,o1,none⟩) M c1) 0 0 rfl rfl;have e1:=HS1.out.cell (v:=.slice (some ⟨b2,o2,none⟩) M c2) 0 1 rfl rfl;have r1:=(bcell HS1.out.bel b2 _ hb2).trans (Hend.out st hst);have hstI:(st:Int)<(M:Int):=by omega
  obtain⟨x,hx⟩:=eJ (enA l i k);obtain⟨x',hx'⟩:=eJ (enA l i (k+1));rw[hx'] at hes;rw[hx] at hes;rw[hx];obtain⟨z,hz⟩:=eJ (enD d st);rw[hz] at hes r1;have Hes:=qh hes;have Hhrun:=qh hrun;clear hrun;have Hhac:=qh hac;clear hac;have Hhx:=qh hx;clear hx;have Hhx':=qh hx';clear hx';have Hhz:=qh hz;clear hz;clear hS hes HS
  go_upto_if 17 with fail
  go_cut [7] from 18 to 33 (fun ev wc=>ev = .int .i64 x'∧St w wc [Ent.box w.heap.size #[.slice (some ⟨b1,o1,none⟩) M c1,.slice (some ⟨b2,o2,none⟩) M c2] 37])
  case first =>
   cases z with
   | true =>go_wp2_with fail;go_meet;exact⟨by rw[Hes.out];rfl,HS1.out⟩
   | false =>go_wp2_with fail;go_meet;exact⟨by rw[Hes.out];rfl,HS1.out⟩
  case rest =>
   obtain⟨rfl,hS⟩:=hcut;have HS2:=qh hS;clear hS HS1 e0 e1 r1;by_cases hkl:k=n
   ·subst hkl;go_wp2_with fail;go_ret;exact⟨Zdz Hhx'.out.symm,HS2.out.bel⟩
   have hkI:¬ (k:Int)=(n:Int):=by omega
   have hkI2:(k:Int)<(n:Int):=by omega
   obtain⟨q1,q2,q3,q4⟩:=Zau hkI;have hwk:IntKind.i64.wrap ((k:Int)+1)=(k:Int)+1:=IntWalk.i64_in _ (by omega);have hkl2:k<l.length:=by have:=Hhn.out;omega
   obtain⟨h97,h99⟩:=Hhl.out.2.2 k hkl2;have hlet:=fun (u:World)=>ZdD l k hkl2 Hhl.out.2.1 h97 u
   have hla:=ZiM hkl2;have hsg:=ZmC (w:=lets l) hik (by have:=Hhll.out;omega);rw[hla] at hsg;obtain⟨c,hc⟩:=eI (l.getD k 0-97);rw[← hc] at hlet hsg;have hc3:c<3:=by omega
   have hc3I:(c:Int)<3:=by omega
   obtain⟨q,t0,s0,hq,hs1,hs2,hqb,hcs⟩:=Hrow.out st hst;obtain⟨hnx,hdx⟩:=Hlt3.out st c hst hc3;have e0:=HS2.out.cell (v:=.slice (some ⟨b1,o1,none⟩) M c1) 0 0 rfl rfl;have r0:=(bcell HS2.out.bel b1 _ hb1).trans hq;have r1:=(bcell HS2.out.bel q _ hqb).trans (hcs c hc3);have hrn:((nxD d st c:Nat):Int)=runD d 0 (seg (lets l) i (k+1)):=by rw[hsg,Zdy,← Hhrun.out,← hdx];rfl
   obtain⟨y,hy⟩:=eI (nxD d st c);rw[← hy] at hnx r1 hrn;have Hlet:=qh hlet;have Hhrn:=qh hrn;clear hrn;have Hhy:=qh hy;clear hy;have Hhdx:=qh hdx;clear hdx;have Hhsg:=qh hsg;clear hsg;have Hhla:=qh hla;clear hla;have Hhc:=qh hc;clear hc;clear hlet hcs hq;go_wp2_with fail
   go_quiet ((go_at_call 63;with_reducible exact ZgW (Hlet.out _)))
   go_wp2;go_roundw
   case rel=>exact⟨k+1,y,by go_num,rfl,by omega,by omega,hnx,Hhrn.out,by rw[Hhx'.out],HS2.out.drewN _⟩
   case measure=>simp[intOf]<;>omega
def fndA (l:List Nat) (i:Nat) (o:Option Nat):Prop:=(∃ j,o=some j∧i≤j∧j<l.length∧isA l j=true∧∀ q,i≤q→q<j→isA l q=false)∨(o=none∧∀ q,i≤q→q<l.length→isA l q=false)
def spV (o:Option Nat):Value:=match o with
 | some j => .tuple #[.agg #[.int .i64 (j:Int),.int .i64 ((j+1:Nat):Int)],.bool true]
 | none => .tuple #[.agg #[.int .i64 0,.int .i64 0],.bool false]
theorem ZlR (d:DfaD) (l:List Nat) (i:Nat) (v:Value) (w:World) (hd:Zae d.next d.ends=true) (ha:accA d) (hl:okA l) (hi:i≤l.length) (h:DfaR 0 w v d) :
  Calls Tryz.prog 122 #[v,.string (txB l),.int .i64 (i:Int)] w fun e w'=>∃ o,fndA l i o∧e = .returned (spV o)∧Below w.heap.size w w':=by
 obtain⟨v1,v2,hv,-⟩:=id h;subst hv;have hsz:=ZaE l;have hn30:=hl.1;have HS:=qh (((St.start w).alloc w.heap.size rfl #[v1,v2] 37).alloc (w.heap.size+1) (by simp) #[.int .i64 0,.int .i64 0] 100);obtain⟨n,hn⟩:=eI (l.length);have hlg:=fun (j:Nat) (u:World) (hj:j≤n) (hb:Below w.heap.size w u)=>ZhW d l j (.agg #[v1,v2]) u hd ha hl (by omega) (h.below hb)
 rw[← hn] at hi hsz hn30 hlg;have Hlg:=qh hlg;replace hn:=qh hn;replace hl:=qh hl;clear hlg hd ha h
 go_enter Tryz.func122, Tryz.ntmps122
 go_wp2
 go_loopw [2] (fun fv wr=>∃ j:Nat,fv = .int .i64 (j:Int)∧i≤j∧j≤n+1∧(∀ q,i≤q→q<j→q<n→isA l q=false)∧St w wr [Ent.box w.heap.size #[v1,v2] 37,Ent.box (w.heap.size+1) #[.int .i64 0,.int .i64 0] 100]) (fun fv _=>n+1-(intOf fv).toNat)
 case atStart=>exact⟨i,rfl,Nat.le_refl _,by omega,fun q h1 h2 _=>by omega,HS.out⟩
 case round =>
  obtain⟨j,rfl,hij,hjn,hno,hS⟩:=hrel;have HS1:=qh hS;have Hno:=qh hno;have e0:=HS1.out.cell (v:=v1) 0 0 rfl rfl;have e1:=HS1.out.cell (v:=v2) 0 1 rfl rfl;clear hS hno HS;by_cases hjl:j≤n
  ·have hjI:(j:Int)≤(n:Int):=by omega
   have hwj:IntKind.i64.wrap ((j:Int)+1)=(j:Int)+1:=IntWalk.i64_in _ (by omega);have hlj:=fun u hb=>Hlg.out j u hjl hb
   cases hz:isA l j with
   | true =>
    by_cases hjn2:j<n
    ·have hen:enA l j (n+1)=((j+1:Nat):Int):=if_pos ⟨by omega,hz⟩;rw[hen] at hlj;have hj0:(0:Int)≤((j+1:Nat):Int):=by omega
     obtain⟨t,ht⟩:∃ t:Nat,t=j+1:=⟨_,rfl⟩;rw[← ht] at hlj hj0;have Hlj:=qh hlj;have hjl2:j<l.length:=by have:=hn.out;omega
     have Hhz:=qh hz;clear hz;have Hht:=qh ht;clear ht;clear hlj hen
     as_aux_lemma =>
     go_wp2_with fail;refine(Hlj.out _ HS1.out.bel).mono ?_;rintro e w2 ⟨rfl,hb2⟩;have HS2:=qh (HS1.out.call hb2);have f0:=HS2.out.fr 1 0 rfl;have f1:=HS2.out.fr 1 1 rfl;have k0:=HS2.out.cell (v:=.int .i64 0) 1 0 rfl rfl;have k1:=HS2.out.cell (v:=.int .i64 0) 1 1 rfl rfl;clear hb2 e0 e1;go_wp2;have hq:=(HS2.out.set 1 rfl 0 (.int .i64 (j:Int))).set 1 rfl 1 (.int .i64 (t:Int));have q0:=hq.cell (v:=.int .i64 (j:Int)) 1 0 rfl rfl;have q1:=hq.cell (v:=.int .i64 (t:Int)) 1 1 rfl rfl;refine bodyPost_ret (v:=.tuple #[.agg #[.int .i64 (j:Int),.int .i64 (t:Int)],.bool true]) (by simp[results,Tryz.results122,go_sem,q0,q1]) rfl ?_;refine⟨some j,.inl ⟨j,rfl,hij,hjl2,Hhz.out,fun q h1 h2=>Hno.out q h1 h2 (by omega)⟩,?_,hq.bel⟩;rw[Hht.out];rfl
    have hen:enA l j (n+1) = -1:=if_neg (by omega);rw[hen] at hlj;have Hlj:=qh hlj;clear hlj hen
    as_aux_lemma =>
    go_wp2_with fail;refine(Hlj.out _ HS1.out.bel).mono ?_;rintro e w2 ⟨rfl,hb2⟩;have HS2:=qh (HS1.out.call hb2);clear hb2 e0 e1;go_wp2;go_roundw
    case rel=>exact⟨j+1,by go_num,by omega,by omega,fun q h1 h2 h3=>Hno.out q h1 (by omega) h3,HS2.out⟩
    case measure=>simp[intOf]<;>omega
   | false =>
    have hen:enA l j (n+1) = -1:=if_neg (fun h=>by rw[hz] at h;cases h.2);rw[hen] at hlj;have Hlj:=qh hlj;have Hhz:=qh hz;clear hz;clear hlj hen
    as_aux_lemma =>
    go_wp2_with fail;refine(Hlj.out _ HS1.out.bel).mono ?_;rintro e w2 ⟨rfl,hb2⟩;have HS2:=qh (HS1.out.call hb2);clear hb2 e0 e1;go_wp2;go_roundw
    case rel =>
     refine⟨j+1,by go_num,by omega,by omega,fun q h1 h2 h3 => ?_,HS2.out⟩;by_cases hqj:q<j
     ·exact Hno.out q h1 hqj h3
     obtain rfl:q=j:=by omega
     exact Hhz.out
    case measure=>simp[intOf]<;>omega
  have hjI:¬ (j:Int)≤(n:Int):=by omega
  have f0:=HS1.out.fr 1 0 rfl;have f1:=HS1.out.fr 1 1 rfl;have k0:=HS1.out.cell (v:=.int .i64 0) 1 0 rfl rfl;have k1:=HS1.out.cell (v:=.int .i64 0) 1 1 rfl rfl
  as_aux_lemma =>
  go_wp2;have hq:=(HS1.out.set 1 rfl 0 (.int .i64 0)).set 1 rfl 1 (.int .i64 0);have q0:=hq.cell (v:=.int .i64 0) 1 0 rfl rfl;have q1:=hq.cell (v:=.int .i64 0) 1 1 rfl rfl;refine bodyPost_ret (v:=.tuple #[.agg #[.int .i64 0,.int .i64 0],.bool false]) (by simp[results,Tryz.results122,go_sem,q0,q1]) rfl ?_;exact⟨none,.inr ⟨rfl,fun q h1 h2=>Hno.out q h1 (by have:=hn.out;omega) (by rw[hn.out];exact h2)⟩,rfl,hq.bel⟩
theorem Tryz.infoSpan:(Tryz.prog.info? 100).map (fun i=>(i.zero,i.size,i.bytes))=some (some (.agg #[.int .i64 0,.int .i64 0]),2,16):=by kernel_rfl
def spsA (l:List Nat) (f g:Nat):List (Int × Int):=(posA l f g).map fun (j:Nat)=>((j:Int),(((j+1:Nat)):Int))
theorem Zib (d:DfaD) (l:List Nat) (v:Value) (w:World) (hd:Zae d.next d.ends=true) (ha:accA d) (hl:okA l) (h:DfaR 0 w v d) :
  Calls Tryz.prog 73 #[v,.string (txB l)] w fun e w'=>∃ a c,e = .returned (.slice a (spsA l 0 l.length).length c)∧St w w' [Ent.row 100 2 (.slice a (spsA l 0 l.length).length c) (spsA l 0 l.length).length ((spsA l 0 l.length).flatMap Zag)]:=by
 obtain⟨v1,v2,hv,-⟩:=id h;subst hv;obtain⟨i0,hi,hz0,hz1,hz2⟩:=info_parts Tryz.infoSpan;have hn30:=hl.1;have HS:=qh (((St.start w).alloc w.heap.size rfl #[v1,v2] 37).nilRow 100 2);obtain⟨n,hn⟩:=eI (l.length);have hfd:=fun (j:Nat) (u:World) (hj:j≤n) (hb:Below w.heap.size w u)=>ZlR d l j (.agg #[v1,v2]) u hd ha hl (by omega) (h.below hb)
 rw[← hn] at hn30;rw[← hn];have Hfd:=qh hfd;replace hn:=qh hn;replace hl:=qh hl;replace hi:=qh hi;have Hhz0:=qh hz0;clear hz0;have Hhz1:=qh hz1;clear hz1;have Hhz2:=qh hz2;clear hz2;clear hfd hd ha h
 go_enter Tryz.func73, Tryz.ntmps73
 go_wp2
 go_loopw [5,6] (fun lv fv wr=>∃ (f c:Nat) (a:Option Addr) (ps:List (Int × Int)),fv = .int .i64 (f:Int)∧lv = .slice a ps.length c∧ps=spsA l 0 f∧ps.length≤f∧f≤n∧St w wr [Ent.box w.heap.size #[v1,v2] 37,Ent.row 100 2 (.slice a ps.length c) ps.length (ps.flatMap Zag)]) (fun _ fv _=>n+1-(intOf fv).toNat)
 case atStart=>exact⟨0,0,none,[],rfl,rfl,rfl,Nat.le_refl _,Nat.zero_le _,HS.out⟩
 case round =>
  obtain⟨f,c,a,ps,rfl,rfl,hps,hpl,hfn,hS⟩:=hrel;have HS1:=qh hS;have e0:=HS1.out.cell (v:=v1) 0 0 rfl rfl;have e1:=HS1.out.cell (v:=v2) 0 1 rfl rfl;have Hhps:=qh hps;clear hps;clear hS HS;go_wp2_with fail;refine(Hfd.out f _ hfn HS1.out.bel).mono ?_;rintro e w2 ⟨o,ho,rfl,hb2⟩;have HS2:=qh (HS1.out.call hb2);clear hb2 e0 e1;rcases ho with⟨j,rfl,hfj,hjl,hjA,hno⟩|⟨rfl,hno⟩
  ·have hjn:j<n:=by rw[hn.out];exact hjl
   have hst:spsA l 0 (j+1)=ps++[((j:Int),((j+1:Nat):Int))]:=by unfold spsA;rw[Zcv l (show 0≤j by omega) (show j≤j+1 by omega),Zcv l (show 0≤f by omega) hfj,ZgZ hno,Zk1 hjA,List.append_nil,List.map_append,Hhps.out];rfl
   have hjj:((j:Int)==((j+1:Nat):Int))=false:=by simp;omega
   obtain⟨t,ht⟩:∃ t:Nat,t=j+1:=⟨_,rfl⟩;have hjt:¬ (j:Int)=(t:Int):=by omega
   obtain⟨p1,p2,p3,p4⟩:=Zau hjt;rw[← ht] at hst;have HSa:=qh ((HS2.out.alloc w2.heap.size rfl #[.int .i64 (j:Int),.int .i64 (t:Int)] 100).alloc (w2.heap.size+1) (by simp) #[.int .i64 (j:Int),.int .i64 (t:Int)] 100);have HSb:=qh (HSa.out.boxrow 3 1 2 [.int .i64 (j:Int),.int .i64 (t:Int)] rfl rfl (by unfold maxLen;omega));have e0:=HSa.out.cell (v:=.int .i64 (j:Int)) 2 0 rfl rfl;have e1:=HSa.out.cell (v:=.int .i64 (t:Int)) 2 1 rfl rfl;have Hst:=qh hst;have hpn:ps.length≤100:=by omega
   have Hht:=qh ht;clear ht;clear hst hno hjj HS1;unfold spV
   dsimp only
   rw[← Hht.out];go_wp2_with (at_builtin;refine Zal _ rfl _ _ _ rfl _ 100 i0 (.agg #[.int .i64 0,.int .i64 0]) 2 16 Tryz.underlying97 hi.out Hhz0.out Hhz1.out Hhz2.out rfl (by omega) _ ps.length _ rfl (HSa.out.row 1 rfl) _ 1 [.int .i64 (j:Int),.int .i64 (t:Int)] rfl ((Zaa (HSb.out.row 3 rfl)).sl (by omega) |>.mono (Nat.zero_le _)) Zei (by unfold maxLen;omega) (by omega) HSa.out.size ?_;intro a7 c7 w7 hown hgrow hat;have HS7:=qh ((HSa.out.appS 1 rfl hown hgrow hat).pick [0,1,2] (by decide));have q0:=HS7.out.cell (v:=.int .i64 (j:Int)) 2 0 rfl rfl;have q1:=HS7.out.cell (v:=.int .i64 (t:Int)) 2 1 rfl rfl;clear hown hgrow hat e0 e1);go_roundw
   case rel =>refine⟨t,c7,a7,ps++[((j:Int),(t:Int))],rfl,by rw[List.length_append];rfl,by rw[Hht.out];rw[Hht.out] at Hst;exact Hst.out.symm,by rw[List.length_append,List.length_singleton];have:=Hht.out;omega,by have:=Hht.out;omega,?_⟩;rw[List.flatMap_append,List.length_append];exact HS7.out.pick [0,1] (by decide)
   case measure =>have h1:=Hht.out;simp[intOf];omega
  have hall:ps=spsA l 0 n:=by rw[Hhps.out];unfold spsA;rw[Zcv l (show 0≤f by omega) hfn,ZgZ (f:=f) (g:=n) (fun q h1 h2=>hno q h1 (by rw[← hn.out];exact h2)),List.append_nil]
  replace hall:=qh hall;clear hno HS1;unfold spV
  dsimp only
  go_wp2;go_ret;rw[← hall.out];exact⟨a,c,rfl,(HS2.out.alloc_ (.cells #[.int .i64 0,.int .i64 0] 100)).pick [1] (by decide)⟩
theorem Zky (l:List Nat) (i j:Nat):(txB l).extract i j=txB ((l.take j).drop i):=by apply ByteArray.ext;simp only[txB,ByteArray.data_extract,List.map_drop,List.map_take,List.extract_toArray,List.extract_eq_take_drop];rw[List.drop_take]
theorem Zni (l:List Nat) (i j:Nat) (hi:i≤j) (hj:j≤l.length):∀ w':World,(Instr.slice 9 (.string (txB l)) (some (.int .i64 (i:Int))) (some (.int .i64 (j:Int))) none).run Tryz.prog w' = .ok (.string (txB ((l.take j).drop i))) w':=fun w'=>by have hs:(txB l).size=l.length:=ZaE l;rw[run_slice_string_if w' 9 (txB l) .i64 .i64 i j Tryz.underlying9,if_pos (by omega),if_pos (by omega),Int.toNat_natCast,Int.toNat_natCast,Zky]
theorem ZkA (l:List Nat) (k:Nat):(txB l).extract k (txB l).size=txB (l.drop k):=by apply ByteArray.ext;rw[ZaE];simp only[txB,ByteArray.data_extract,List.map_drop,List.extract_toArray,List.extract_eq_take_drop];rw[List.take_of_length_le (by simp)]
theorem Zl1 (l:List Nat) (k:Nat) (hk:k≤l.length):∀ w':World,(Instr.slice 9 (.string (txB l)) (some (.int .i64 (k:Int))) none none).run Tryz.prog w' = .ok (.string (txB (l.drop k))) w':=fun w'=>by rw[run_slice_string_l w' 9 (txB l) Tryz.underlying9 .i64 k (by omega) (by rw[ZaE];omega),Int.toNat_natCast,ZkA]
theorem Zi5 (u v:List Nat) (hu:u.length≤1000) (hv:v.length≤1000):(∀ w':World,(Op.stringOp .add (txB u) (txB v)).run Tryz.prog w' = .ok (.string (txB (u++v))) w')∧¬ 9223372036854775807<(txB u).size+(txB v).size:=by rw[← Zdi];exact Zio u (txB v) hu (by rw[ZaE];exact hv)
theorem ZkU {wt:List Nat} (hw:wt.length≤1):∀ l:List Nat,(rpA wt l).length≤l.length
 | []=>Nat.le_refl _
 | c::l=>by
  have h1:=ZkU hw l;show((if c=97 then wt else [c])++rpA wt l).length≤_;rw[List.length_append,List.length_cons]
  split
  ·omega
  simp;omega
theorem ZeB (d:DfaD) (l wt:List Nat) (v:Value) (w:World) (hd:Zae d.next d.ends=true) (ha:accA d) (ht:isT l) (htx:txM 30 l=true) (hwt:isT wt) (hww:wdOk wt=true) (hw1:wt.length≤1) (h:DfaR 0 w v d) :
  Calls Tryz.prog 27 #[v,.string (txB l),.string (txB wt)] w fun e w'=>e = .returned (.string (txB (rpA wt l)))∧Below w.heap.size w w':=by
 have hl:=Zol ht htx;have H:=qh h;obtain⟨v1,v2,hv,-⟩:=id h;subst hv;have hn30:=hl.1;have hsz:=ZaE l;have HS:=qh ((St.start w).alloc w.heap.size rfl #[v1,v2] 37);have hfa:=fun (u:World) (hb:Below w.heap.size w u)=>Zib d l (.agg #[v1,v2]) u hd ha hl (h.below hb)
 have hdv:=fun (u:World) (hb:Below w.heap.size w u)=>ZeP d (.agg #[v1,v2]) u (h.below hb) true hd
 have htv:=fun (u:World)=>Zep l u ht (by omega) true htx
 have hwv:=fun (u:World)=>Zcz wt u hwt (by omega) true hww
 obtain⟨n,hn⟩:=eI (l.length);obtain⟨m,hm⟩:=eI ((spsA l 0 n).length);have hmp:m=(posA l 0 n).length:=by rw[hm];unfold spsA;rw[List.length_map]
 rw[← hn] at hfa hn30 hsz;rw[← hm] at hfa;have Hfa:=qh hfa;have Hdv:=qh hdv;have Htv:=qh htv;have Hwv:=qh hwv;have hmn:m≤n:=by rw[hmp];unfold posA;exact Nat.le_trans (List.length_filter_le _ _) (by rw[List.length_range'];omega)
 replace hn:=qh hn;replace hm:=qh hm;have Hhmp:=qh hmp;clear hmp;replace hl:=qh hl;clear hfa hdv htv hwv hd ha h;have e0:=HS.out.cell (v:=v1) 0 0 rfl rfl;have e1:=HS.out.cell (v:=v2) 0 1 rfl rfl
 go_enter Tryz.func27, Tryz.ntmps27
 go_wp2_with fail;refine(Hdv.out _ HS.out.bel).mono ?_;rintro e w1 ⟨rfl,hb1⟩;have HS1:Hid (St w w1 [Ent.box w.heap.size #[v1,v2] 37]):=qh (HS.out.call hb1);clear hb1 e0 e1 HS;have e0:=HS1.out.cell (v:=v1) 0 0 rfl rfl;have e1:=HS1.out.cell (v:=v2) 0 1 rfl rfl
 go_wp2_with (first
  | (go_at_call 72;refine(Htv.out _).mono ?_;rintro e w' ⟨rfl,rfl⟩)
  | (go_at_call 52;refine(Hwv.out _).mono ?_;rintro e w' ⟨rfl,rfl⟩))
 refine(Hfa.out _ HS1.out.bel).mono ?_;rintro e w2 ⟨a,c,rfl,hS2⟩;have hPr:Pairs 0 w2 (.slice a m c) (spsA l 0 n):=by have:=hS2.row 0 rfl;rw[hm.out] at this ⊢;exact ZaG this
 obtain⟨a',c',he,hc1,hc2,hrd⟩:=hPr.form;rw[← hm.out] at he hc1 hrd;simp only[Value.slice.injEq,true_and] at he;obtain⟨rfl,rfl⟩:=he;have HS2:=qh (((St.start w).call HS1.out.bel).call hS2.bel);have Hrd:=qh hrd;clear hS2 hPr hrd e0 e1 HS1;go_wp2
 go_loopw [7,8,28] (fun ov fv cv wr=>∃ k f:Nat,cv = .int .i64 (k:Int)∧fv = .int .i64 (f:Int)∧f≤n∧k=(posA l 0 f).length∧ov = .string (txB (rpA wt (l.take f)))∧St w2 wr []) (fun _ _ cv _=>m-(intOf cv).toNat)
 case atStart=>exact⟨0,0,rfl,rfl,Nat.zero_le _,rfl,rfl,St.start _⟩
 case round =>
  obtain⟨k,f,rfl,rfl,hf,hk,rfl,hS⟩:=hrel;have HS3:=qh hS;have hsp:=Zcv l (show 0≤f by omega) hf;have hlen:m=k+(posA l f n).length:=by rw[Hhmp.out,hsp,List.length_append,← hk]
  clear hS;have hol:=ZkU hw1 (l.take f);rw[List.length_take] at hol;cases hq:posA l f n with
  | nil =>
   rw[hq] at hlen;have hkm:¬ (k:Int)<(m:Int):=by simp at hlen;omega
   have hno:∀ q,f≤q→q<l.length→isA l q=false:=fun q h1 h2=>by have:=List.filter_eq_nil_iff.1 hq q (by rw[List.mem_range'_1];have:=hn.out;omega);simpa using this
   have hend:=ZnP (wt:=wt) (l:=l) (f:=f) (by rw[← hn.out];exact hf) hno;have hcut:=Zl1 l f (by rw[← hn.out];exact hf);have hadd:=Zi5 (rpA wt (l.take f)) (l.drop f) (by have:=hn.out;omega) (by rw[List.length_drop];have:=hn.out;omega);obtain⟨o,ho⟩:=eI (rpA wt (l.take f));obtain⟨r,hr⟩:=eI (l.drop f);rw[← ho,← hr] at hend hadd;rw[← hr] at hcut;rw[← ho];obtain⟨ha1,ha2⟩:=hadd;have hfs:(f:Int)≤(n:Int):=by omega
   replace hend:=qh hend;have Hho:=qh ho;clear ho;have Hhr:=qh hr;clear hr;have Hhq:=qh hq;clear hq;have Hhsp:=qh hsp;clear hsp;have Hhk:=qh hk;clear hk;clear hno
   as_aux_lemma =>
   go_wp2;go_ret;exact⟨by show Ending.returned (.string (txB (o++r)))=_;rw[hend.out],HS2.out.bel.trans (HS3.out.bel.mono HS2.out.bel.size)⟩
  | cons j rest =>
   obtain⟨h1,h2,h3,h4⟩:=Zju (isA l) (n-f) f j rest hq;have hjn:j<n:=by omega
   have hkm:k<m:=by rw[hlen,hq];simp
   have hkI:(k:Int)<(m:Int):=by omega
   have hwk:IntKind.i64.wrap ((k:Int)+1)=(k:Int)+1:=IntWalk.i64_in _ (by omega);have hstep:=ZmG (wt:=wt) (l:=l) h1 (by rw[← hn.out];exact hjn) h3 h4;have hk1:k+1=(posA l 0 (j+1)).length:=by rw[Zcv l (show 0≤j by omega) (show j≤j+1 by omega),Zcv l (show 0≤f by omega) h1,ZgZ h4,Zk1 h3,List.append_nil,List.length_append,← hk];rfl
   have hget:(spsA l 0 n).getD k (0,0)=((j:Int),((j+1:Nat):Int)):=by unfold spsA;rw[hsp,hq,List.map_append,List.getD_eq_getElem?_getD,List.getElem?_append_right (by rw[List.length_map];omega),List.length_map,← hk,Nat.sub_self];rfl
   obtain⟨b,oo,rfl,-,hbl,hcs⟩:=Hrd.out (by omega);obtain⟨g1,g2⟩:=hcs k hkm;rw[hget] at g1 g2;simp only at g1 g2;have k1:=(bcell HS3.out.bel b _ hbl).trans g1;have k2:=(bcell HS3.out.bel b _ hbl).trans g2;obtain⟨t,ht'⟩:∃ t:Nat,t=j+1:=⟨_,rfl⟩;rw[← ht'] at k2 hk1 hstep;have hcut:=Zni l f j h1 (by rw[← hn.out];omega);have hPl:((l.take j).drop f).length≤100:=by rw[List.length_drop,List.length_take];omega
   obtain⟨P,hP⟩:=eI ((l.take j).drop f);obtain⟨o,ho⟩:=eI (rpA wt (l.take f));rw[← hP] at hcut hPl hstep;rw[← ho] at hstep hol;rw[← ho];obtain⟨ha1,ha2⟩:=Zi5 P wt (by omega) (by omega);obtain⟨ha3,ha4⟩:=Zi5 o (P++wt) (by omega) (by rw[List.length_append];omega);have hfj:(f:Int)≤(j:Int):=by omega
   have hjs:(j:Int)≤(n:Int):=by omega
   have HS4:=qh (HS3.out.alloc wr.heap.size rfl #[.int .i64 (j:Int),.int .i64 (t:Int)] 100);have e0:=HS4.out.cell (v:=.int .i64 (j:Int)) 0 0 rfl rfl;have e1:=HS4.out.cell (v:=.int .i64 (t:Int)) 0 1 rfl rfl;have Hstep:=qh hstep;have Hhk1:=qh hk1;clear hk1;replace hP:=qh hP;have Hho:=qh ho;clear ho;have Hhq:=qh hq;clear hq;have Hhsp:=qh hsp;clear hsp;have Hhget:=qh hget;clear hget;have Hhk:=qh hk;clear hk;have Hht':=qh ht';clear ht';clear hstep hcs g1 g2 h4
   as_aux_lemma =>
   go_wp2;go_roundw
   case rel=>exact⟨k+1,t,by go_num,rfl,by have:=Hht'.out;omega,Hhk1.out,by rw[Hstep.out],HS4.out.pick [] (by decide)⟩
   case measure=>simp[intOf];omega
def wxK (l:List Nat):Nat→List (Int × Int)
 | 0=>[]
 | k+1=>wxK l k++[(3,((l.getD k 0-97:Nat):Int))]++(if k=0 then [] else [(4,0)])
def Zby (l:List Nat):List (Int × Int):=if wdOk l=true then(if l.length=0 then [(2,0)] else wxK l l.length) else []
theorem Zip (l:List Nat):∀ k,(wxK l k).length≤2*k
 | 0=>Nat.le_refl _
 | k+1=>by
  have:=Zip l k;unfold wxK;rw[List.length_append,List.length_append,List.length_singleton]
  split<;>simp<;>omega
theorem ZdI (d:DfaD) (v:Value) (w:World) (h:DfaR 0 w v d) (r:Bool) (hr:Zae d.next d.ends=r) :
  Calls Tryz.prog 183 #[v] w fun e w'=>e = .returned (.bool r)∧Below w.heap.size w w':=by
 obtain⟨v1,v2,rfl,q1,q2⟩:=h;exact ZcU d.next d.ends v1 v2 w q1 q2 r hr
theorem Sl.keptJ {B B':Nat} {w w':World} {v:Value} {n size:Nat} {cs:List Value} (h:Sl B w v n size cs) (hB:B'≤B) (hs:w.heap.size≤w'.heap.size) (hk:∀ k,B≤k→k<w.heap.size→w'.heap[k]? = w.heap[k]?):Sl B' w' v n size cs:=by obtain⟨hl,a,cap,hv,h1,h2,h3⟩:=h;refine⟨hl,a,cap,hv,h1,h2,fun hn => ?_⟩;obtain⟨b,off,ha,hb,hlt,hc⟩:=h3 hn;refine⟨b,off,ha,by omega,by omega,fun j hj => ?_⟩;rw[← hc j hj];exact World.cell?_of_block (hk b hb hlt)
theorem Sl.drop1 {B:Nat} {w:World} {b off n cap:Nat} {cs:List Value} (h:Sl B w (.slice (some ⟨b,off,none⟩) n cap) n 1 cs) (hn:0<n):Sl B w (.slice (some ⟨b,off+1,none⟩) (n-1) (cap-1)) (n-1) 1 (cs.drop 1):=by obtain⟨hl,a',cap',hv,h1,h2,h3⟩:=h;simp only[Value.slice.injEq] at hv;obtain⟨rfl,-,rfl⟩:=hv;refine⟨by rw[List.length_drop];omega,_,_,rfl,by omega,by omega,fun hn0 => ?_⟩;obtain⟨b',off',ha,hb,hlt,hc⟩:=h3 (by omega);simp only[Option.some.injEq,Addr.mk.injEq,and_true] at ha;obtain⟨rfl,rfl⟩:=ha;refine⟨b,off+1,rfl,hb,hlt,fun j hj => ?_⟩;rw[show off+1+j=off+(1+j) by omega,hc _ (by omega),List.getElem?_drop]
def DfaE (w w':World):Ent:=⟨fun k=>w.heap.size≤k∧k<w'.heap.size,fun u=>∀ k,w.heap.size≤k→k<w'.heap.size→u.heap[k]? = w'.heap[k]?,fun _ _ h hk k h1 h2=>(hk k ⟨h1,h2⟩).trans (h k h1 h2)⟩
theorem St.dfaE {w0 w w':World} {L:List Ent} (h:St w0 w L) (hb:Below w.heap.size w w'):St w0 w' (L++[DfaE w w']):=h.add hb _ (fun _ _ _=>rfl) fun _ hk=>hk
structure DfaH (E:Ent) (v1 v2:Value) (vs:List Value) (D:DfaD):Prop where
 rd:∀ w,E.holds w→(∀ k,E.foot k→k<w.heap.size)→Sl 0 w v1 D.next.length 1 vs∧(∀ i,i<D.next.length→Ints 0 w (vs.getD i undef) (D.next.getD i []))∧Bools 0 w v2 D.ends
theorem DfaH.at {w0 w:World} {L:List Ent} {E:Ent} {v1 v2:Value} {vs:List Value} {D:DfaD} (h:DfaH E v1 v2 vs D) (hS:St w0 w L) (i:Nat) (hx:L[i]? = some E):Sl 0 w v1 D.next.length 1 vs∧(∀ i,i<D.next.length→Ints 0 w (vs.getD i undef) (D.next.getD i []))∧Bools 0 w v2 D.ends :=
 h.rd w (hS.has i _ hx).1 fun k hk=>((hS.has i _ hx).2 k hk).2
theorem DfaH.r {w0 w:World} {L:List Ent} {E:Ent} {v1 v2:Value} {vs:List Value} {D:DfaD} (h:DfaH E v1 v2 vs D) (hS:St w0 w L) (i:Nat) (hx:L[i]? = some E):DfaR 0 w (.agg #[v1,v2]) D:=by obtain⟨h1,h2,h3⟩:=h.at hS i hx;exact⟨v1,v2,rfl,⟨vs,h1,h2⟩,h3⟩
theorem ZlY {w w':World} {v1 v2:Value} {D:DfaD} (h:DfaR w.heap.size w' (.agg #[v1,v2]) D) (hn:0<D.next.length):∃ vs,DfaH (DfaE w w') v1 v2 vs D:=by
 obtain⟨_,_,hv,⟨vs,h1,h2⟩,h3⟩:=h;simp only[Value.agg.injEq,Array.mk.injEq,List.cons.injEq,and_true] at hv;obtain⟨rfl,rfl⟩:=hv;have hlt:w.heap.size<w'.heap.size:=by obtain⟨-,a,cap,-,-,-,h4⟩:=h1;obtain⟨b,off,-,h5,h6,-⟩:=h4 (by omega);omega
 refine⟨vs,⟨fun u hu hf => ?_⟩⟩;have hs:w'.heap.size≤u.heap.size:=by have:w'.heap.size-1<u.heap.size:=hf (w'.heap.size-1) (show w.heap.size≤w'.heap.size-1∧w'.heap.size-1<w'.heap.size by omega);omega
 exact⟨h1.keptJ (Nat.zero_le _) hs hu,fun i hi=>Sl.keptJ (h2 i hi) (Nat.zero_le _) hs hu,Sl.keptJ h3 (Nat.zero_le _) hs hu⟩
theorem ZlX (es e e':Nat) (v1 v2:Value) (vs:List Value) (D:DfaD):DfaH (Ent.all [Ent.rows es e v1 vs (D.next.map intCells),Ent.row e' 1 v2 D.ends.length (boolCells D.ends)]) v1 v2 vs D:=by
 refine⟨fun w h _ => ?_⟩;have h1:(Ent.rows es e v1 vs (D.next.map intCells)).holds w:=h _ (by simp);have h2:(Ent.row e' 1 v2 D.ends.length (boolCells D.ends)).holds w:=h _ (by simp);obtain⟨p1,p2,-⟩:=h1;rw[List.length_map] at p1 p2;refine⟨Sl.mono ((Zaa p1).sl (by omega)) (Nat.zero_le _),fun i hi => ?_,Sl.mono ((Zaa h2).sl (by omega)) (Nat.zero_le _)⟩;have:=p2 i hi;have e1:(D.next.map intCells).getD i []=intCells (D.next.getD i []):=by simp[hi]
 rw[e1] at this;have h3:=(Zaa this).sl (by omega);rw[show(intCells (D.next.getD i [])).length=(D.next.getD i []).length by simp[intCells]] at h3;exact Sl.mono h3 (Nat.zero_le _)
theorem DfaH.tailE {E:Ent} {v1:Value} {b o n c:Nat} {vs:List Value} {D:DfaD} (h:DfaH E v1 (.slice (some ⟨b,o,none⟩) n c) vs D) (hn:n=D.ends.length) (h0:0<n):DfaH E v1 (.slice (some ⟨b,o+1,none⟩) (n-1) (c-1)) vs ⟨D.next,D.ends.drop 1⟩:=by subst hn;refine⟨fun w h1 h2 => ?_⟩;obtain⟨p1,p2,p3⟩:=h.rd w h1 h2;refine⟨p1,p2,?_⟩;have h4:=Sl.drop1 p3 h0;show Sl 0 w _ (D.ends.drop 1).length 1 (boolCells (D.ends.drop 1));rw[List.length_drop,show boolCells (D.ends.drop 1)=(boolCells D.ends).drop 1 by simp[boolCells]];exact h4
theorem DfaH.noE {E:Ent} {v1 v2:Value} {a:Option Addr} {vs:List Value} {D:DfaD} (h:DfaH E v1 v2 vs D):DfaH E v1 (.slice a 0 0) vs ⟨D.next,[]⟩ :=
 ⟨fun w h1 h2=>⟨(h.rd w h1 h2).1,(h.rd w h1 h2).2.1,⟨rfl,a,0,rfl,Nat.le_refl _,Nat.zero_le _,fun h=>absurd h (by simp)⟩⟩⟩
theorem DfaH.one {E:Ent} {v1 v2:Value} {vs:List Value} {D:DfaD} (h:DfaH E v1 v2 vs D) {es e m:Nat} {v rv:Value} {row:List Int} (hm:m=row.length):DfaH (Ent.all [E,Ent.row es 1 v 1 [rv],Ent.row e 1 rv m (intCells row)]) v v2 [rv] ⟨[row],D.ends⟩:=by
 subst hm;refine⟨fun w h1 h2 => ?_⟩;have g1:E.holds w:=h1 _ (by simp);have g2:(Ent.row es 1 v 1 [rv]).holds w:=h1 _ (by simp);have g3:(Ent.row e 1 rv row.length (intCells row)).holds w:=h1 _ (by simp);obtain⟨-,-,p3⟩:=h.rd w g1 fun k hk=>h2 k ⟨E,by simp,hk⟩
 refine⟨Sl.mono ((Zaa g2).sl (by omega)) (Nat.zero_le _),fun i hi => ?_,p3⟩;have hi:i<1:=hi;obtain rfl:i=0:=by omega
 exact Sl.mono ((Zaa g3).sl (by omega)) (Nat.zero_le _)
theorem Znt (w:World) (a:Option Addr):Sl 0 w (.slice a 0 0) 0 1 []:=⟨rfl,a,0,rfl,Nat.le_refl _,Nat.zero_le _,fun h=>absurd h (by simp)⟩
theorem DfaH.head {E:Ent} {v1 v2:Value} {vs:List Value} {D:DfaD} (h:DfaH E v1 v2 vs D) (h0:0<D.next.length) {es e n m:Nat} {v rv:Value} {row:List Int} (hn:n=1+(D.next.length-1)) (hm:m=row.length):DfaH (Ent.all [E,Ent.row es 1 v n (rv::vs.drop 1),Ent.row e 1 rv m (intCells row)]) v v2 (rv::vs.drop 1) ⟨row::D.next.drop 1,D.ends⟩:=by
 subst hm;refine⟨fun w h1 h2 => ?_⟩;have g1:E.holds w:=h1 _ (by simp);have g2:(Ent.row es 1 v n (rv::vs.drop 1)).holds w:=h1 _ (by simp);have g3:(Ent.row e 1 rv row.length (intCells row)).holds w:=h1 _ (by simp);obtain⟨p1,p2,p3⟩:=h.rd w g1 fun k hk=>h2 k ⟨E,by simp,hk⟩
 have hl:(row::D.next.drop 1).length=n:=by simp;omega
 refine⟨?_,fun i hi => ?_,p3⟩
 ·show Sl 0 w v (row::D.next.drop 1).length 1 _;rw[hl];exact Sl.mono ((Zaa g2).sl (by omega)) (Nat.zero_le _)
 cases i with
 | zero=>exact Sl.mono ((Zaa g3).sl (by omega)) (Nat.zero_le _)
 | succ i =>
  have hi:i+1<(row::D.next.drop 1).length:=hi;simp only[List.length_cons,List.length_drop] at hi;have:=p2 (i+1) (by omega);have e1:(rv::vs.drop 1).getD (i+1) undef=vs.getD (i+1) undef:=by simp
  have e2:(row::D.next.drop 1).getD (i+1) []=D.next.getD (i+1) []:=by simp
  show Ints 0 w ((rv::vs.drop 1).getD (i+1) undef) ((row::D.next.drop 1).getD (i+1) []);rw[e1,e2];exact this
theorem ZlW:DfaH Ent.nil (.slice none 0 0) (.slice none 0 0) [] ⟨[],[]⟩ :=
 ⟨fun _ _ _=>⟨⟨rfl,none,0,rfl,Nat.le_refl _,Nat.zero_le _,fun h=>absurd h (by simp)⟩,fun i hi=>absurd hi (by simp),⟨rfl,none,0,rfl,Nat.le_refl _,Nat.zero_le _,fun h=>absurd h (by simp)⟩⟩⟩
structure SmallD (D:DfaD):Prop where
 n:D.next.length≤40
 e:D.ends.length≤40
 r:∀ x∈D.next,x.length≤3
theorem ZkM {D:DfaD} (h:Zae D.next D.ends=true):SmallD D:=by have hl:=Zac h;refine⟨hl.2.1,by omega,fun x hx => ?_⟩;obtain⟨i,hi,rfl⟩:=List.getElem_of_mem hx;have:=(ZaD h hi).1;rw[Za1 hi] at this;omega
def dif (a b:Nat→Nat) (j k:Nat):Bool:=decide (a j=a k) != decide (b j=b k)
def difs (a b:Nat→Nat) (k m:Nat):Bool:=(List.range m).any fun j=>dif a b j k
def difK (a b:Nat→Nat) (k:Nat):Bool:=(List.range k).any fun x=>difs a b x x
theorem ZlU (a b:Nat→Nat) (k m:Nat):difs a b k (m+1)=(difs a b k m||dif a b m k):=by unfold difs;rw[List.range_succ,List.any_append];simp
theorem ZlV (a b:Nat→Nat) (k:Nat):difK a b (k+1)=(difK a b k||difs a b k k):=by unfold difK;rw[List.range_succ,List.any_append];simp
theorem Zkm {a b:Nat→Nat} {n:Nat}:difK a b n=false↔∀ k j,k<n→j<k→(a j=a k↔b j=b k):=by
 constructor
 ·intro h k j hk hj;have h1:difs a b k k=false:=by simpa using List.any_eq_false.1 h k (List.mem_range.2 hk)
  have h2:dif a b j k=false:=by simpa using List.any_eq_false.1 h1 j (List.mem_range.2 hj)
  simpa [dif] using h2
 intro h;refine List.any_eq_false.2 fun k hk => ?_
 simp only[Bool.not_eq_true];refine List.any_eq_false.2 fun j hj => ?_
 simp only[Bool.not_eq_true];have:=h k j (List.mem_range.1 hk) (List.mem_range.1 hj);simpa [dif] using this
def apart (n:Nat) (cl:Nat→Nat):Nat:=((List.range (n*n)).filter fun x=>decide (cl (x / n)≠cl (x % n))).length
theorem ZjP (n:Nat) (cl:Nat→Nat):apart n cl≤n*n:=by have:=List.length_filter_le (fun x=>decide (cl (x / n)≠cl (x % n))) (List.range (n*n));simpa [apart] using this
theorem Zkr {n:Nat} {nx:Nat→Nat→Nat} {cl:Nat→Nat} {j k:Nat} (hj:j<n) (hk:k<n) (h0:cl j=cl k) (h1:Zao n nx cl j≠Zao n nx cl k):apart n cl<apart n (Zao n nx cl):=by
 have hn:0<n:=by omega
 have e1:(k+n*j) / n=j:=by rw[Nat.add_mul_div_left _ _ hn,Nat.div_eq_of_lt hk,Nat.zero_add]
 have e2:(k+n*j) % n=k:=by rw[Nat.add_mul_mod_self_left,Nat.mod_eq_of_lt hk]
 refine Zda (a:=k+n*j) (by rw[e1,e2];simpa using h0) (by rw[e1,e2];simpa using h1) ?_ fun x hx h => ?_
 ·rw[List.mem_range]
  have:n*j+n≤n*n:=by
   have:=Nat.mul_le_mul_left n (show j+1≤n by omega)
   rwa [Nat.mul_add,Nat.mul_one] at this
  omega
 have hx:=List.mem_range.1 hx;have h2:x / n<n:=(Nat.div_lt_iff_lt_mul hn).2 hx;have h3:x % n<n:=Nat.mod_lt _ hn;simp only[decide_eq_true_eq] at h ⊢;intro he;exact h ((Zat nx).1 ((Zbq h2 h3).1 he)).1
theorem Zi4 {n:Nat} {nx:Nat→Nat→Nat} {en:Nat→Bool} (hnx:∀ s c,s<n→c<3→nx s c<n) {i:Nat} (h:¬ stays n nx en i):apart n (clR n nx en i)<apart n (clR n nx en (i+1)):=by
 have hp:=Zgj hnx en i;have hex:∃ k j,k<n∧j<k∧¬ (clR n nx en i j=clR n nx en i k↔clR n nx en (i+1) j=clR n nx en (i+1) k):=by apply Classical.byContradiction;intro hc;refine h (hp.2 fun k j hk hj => ?_);apply Classical.byContradiction;intro hcx;exact hc ⟨k,j,hk,hj,hcx⟩
 obtain⟨k,j,hk,hj,hne⟩:=hex;have hdown:clR n nx en (i+1) j=clR n nx en (i+1) k→clR n nx en i j=clR n nx en i k:=fun he=>((Zat nx).1 ((Zbq (by omega) hk).1 he)).1
 by_cases h0:clR n nx en i j=clR n nx en i k
 ·refine Zkr (j:=j) (k:=k) (by omega) hk h0 fun h1=>hne ⟨fun _=>h1,fun _=>h0⟩
 exact absurd ⟨fun h1=>absurd h1 h0,fun h1=>absurd (hdown h1) h0⟩ hne
def Zml (w:World) (b n:Nat):Nat:=((List.range (n*n)).filter fun x=>decide (Zj3 w b (x / n)≠Zj3 w b (x % n))).length
theorem Zin {w:World} {b n:Nat} {cl:Nat→Nat} (h:∀ s,s<n→w.cell? ⟨b,s,none⟩=some (.int .i64 ((cl s:Nat):Int))):Zml w b n=apart n cl:=by
 unfold Zml apart;congr 1;refine List.filter_congr fun x hx => ?_
 have hx:=List.mem_range.1 hx
 have hn:0<n:=by
  rcases Nat.eq_zero_or_pos n with e|e
  ·rw[e] at hx;simp at hx
  exact e
 rw[ZcS (h _ ((Nat.div_lt_iff_lt_mul hn).2 hx)),ZcS (h _ (Nat.mod_lt _ hn))]
theorem ZmB {l:List Value} {k:Nat} {x y:Value} (h:l.length=k):(l++[x]).set k y=l++[y]:=by rw[List.set_append_right _ _ (by omega),show k-l.length=0 by omega];rfl
end Go.Proofs.YtfikabecgaappaaGreat
