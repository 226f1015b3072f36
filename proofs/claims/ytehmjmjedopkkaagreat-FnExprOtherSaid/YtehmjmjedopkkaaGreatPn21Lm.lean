/-
  The walk over the reference's l20Make: an expression is drawn; how many parts and draws at most.
  Conditions: the reader is among the things that the call owns; the depth is at most 3.
-/
import Derived.Test.YtehmjmjedopkkaaGreatPn20Dr
set_option maxHeartbeats 16000000
set_option maxRecDepth 100000
namespace Go.Proofs.YtehmjmjedopkkaaGreat
open Go.RowKit
def FL:Nat→Nat
 | 0=>1
 | d+1=>2*FL d+1
def FG:Nat→Nat
 | 0=>2
 | d+1=>2*FG d+3
theorem Zhc:∀ d,1≤FL d
 | 0=>Nat.le_refl _
 | d+1=>by unfold FL;omega
theorem ZoL:∀ d,2≤FG d
 | 0=>Nat.le_refl _
 | d+1=>by unfold FG;have:=ZoL d;omega
theorem Zov {d:Nat} (h:d≤3):FL d≤15∧FG d≤37:=by
 obtain rfl|rfl|rfl|rfl:d=0∨d=1∨d=2∨d=3:=by omega
 all_goals decide
theorem Zb0 {a b:Int} (h:a=b):(a==b)=true∧(a=b)=True∧(a != b)=false:=by simp[h]
theorem Zex {x y:Int}:∀ u∈[Value.int .i64 x,Value.int .i64 y],u.oneCell'=true:=by intro u hu;simp at hu;rcases hu with rfl|rfl<;>rfl
theorem Zam {w:World} {B e:Nat} {v:Value} {xs:List (Int × Int)} (hr:w.ownsRow B e 2 v xs.length (xs.flatMap Zab)):Pairs 0 w v xs :=
 ((Zaa hr).sl (by omega)).mono (Nat.zero_le _)
theorem Tryz.infoPt:(Tryz.prog.info? 55).map (fun i=>(i.zero,i.size,i.bytes))=some (some (.agg #[.int .i64 0,.int .i64 0]),2,16):=by kernel_rfl
def Zdr (a:Option Addr) (c:Nat) (es:List (Int × Int)):Ent:=Ent.row 55 2 (.slice a es.length c) es.length (es.flatMap Zab)
theorem Zki (bs:List Nat) (vb:Value) (b:Nat) (w0:World) (hb:Bytes 0 w0 vb bs) (hlen:bs.length≤2000):∀ (d:Nat),d≤3→∀ (plain:Bool) (p:Nat) (w:World) (X:Ent),p+FG d≤1000000→St w0 w [RdE b vb p,X] →
  Calls Tryz.prog 44 #[.pointer (some ⟨b,0,none⟩),.int .i64 ((d:Nat):Int),.bool plain] w fun e w'=>∃ (a:Option Addr) (c:Nat) (es:List (Int × Int)) (p':Nat),1≤es.length∧es.length≤FL d∧p'≤p+FG d∧e = .returned (.slice a es.length c)∧St w0 w' [RdE b vb p',X,Zdr a c es]:=by
 have Hb:=qh hb;obtain⟨i0,hi,hz0,hz1,hz2⟩:=info_parts Tryz.infoPt;replace hi:=qh hi;have Hhz0:=qh hz0;clear hz0;have Hhz1:=qh hz1;clear hz1;have Hhz2:=qh hz2;clear hz2;clear hb;intro d
 induction d with
 | zero =>
  intro hd plain p w X hp hS;have hp:p+2≤1000000:=hp;have HS:=qh hS;clear hS
  go_enter Tryz.func44, Tryz.ntmps44
  go_wp2_with fail;refine(Zaz bs vb b (p) 9 w0 _ X Hb.out hlen (by omega) (by omega) (by omega) HS.out).mono ?_;rintro e w2 ⟨k,hk,rfl,hS2⟩;by_cases hk0:(k:Int)=0
  ·obtain⟨q1,q2,q3⟩:=Zb0 hk0;have HS3:=qh ((hS2.alloc _ rfl #[.int .i64 2,.int .i64 0] 55).boxrow 2 1 2 [.int .i64 2,.int .i64 0] rfl rfl (by unfold maxLen;omega));clear hS2 HS hk0;go_wp2;go_ret;exact⟨_,_,[(2,0)],p+1,(by simp),Zhc _,by unfold FG;omega,rfl,HS3.out⟩
  obtain⟨q1,q2,q3,-⟩:=Zan hk0;by_cases hk1:(k:Int)=1
  ·obtain⟨z1,z2,z3⟩:=Zb0 hk1;have hS3:=hS2.alloc _ rfl #[.int .i64 1,.int .i64 2,.int .i64 3] 3;have hS4:=St.pack (A:=[RdE b vb (p+1)]) (R:=[X,Ent.box w2.heap.size #[.int .i64 1,.int .i64 2,.int .i64 3] 3]) hS3;have HS3:=qh hS3;have HS4:=qh hS4;clear hS2 hS3 hS4 HS hk0 hk1;go_wp2_with fail;refine(Zaz bs vb b (p+1) 3 w0 _ _ Hb.out hlen (by omega) (by omega) (by omega) HS4.out).mono ?_;rintro e w3 ⟨k2,hk2,rfl,hS5⟩;have hS6:=St.unpack (A:=[RdE b vb (p+1)]) (A':=[RdE b vb (p+1+1)]) (R:=[X,Ent.box w2.heap.size #[.int .i64 1,.int .i64 2,.int .i64 3] 3]) HS3.out hS5
   obtain⟨kv,hkv⟩:∃ kv:Int,(#[.int .i64 1,.int .i64 2,.int .i64 3]:Array Value)[k2]? = some (.int .i64 kv):=by
    obtain rfl|rfl|rfl:k2=0∨k2=1∨k2=2:=by omega
    all_goals exact⟨_,rfl⟩
   have e5:=hS6.cell (v:=.int .i64 kv) 2 k2 rfl hkv;have hk2I:(k2:Int)<3:=by omega
   have HS7:=qh (((hS6.alloc _ rfl #[.int .i64 kv,.int .i64 0] 55).boxrow 3 1 2 [.int .i64 kv,.int .i64 0] rfl rfl (by unfold maxLen;omega)).pick [0,1,3] (by decide));clear hS5 hS6 hkv;go_wp2;go_ret;exact⟨_,_,[(kv,0)],p+1+1,(by simp),Zhc _,by unfold FG;omega,rfl,HS7.out⟩
  obtain⟨z1,z2,z3,-⟩:=Zan hk1;have HS3:=qh hS2;clear hS2 HS hk0 hk1;go_wp2_with fail;refine(Zaz bs vb b (p+1) 3 w0 _ X Hb.out hlen (by omega) (by omega) (by omega) HS3.out).mono ?_;rintro e w3 ⟨k2,hk2,rfl,hS5⟩;have HS7:=qh ((hS5.alloc _ rfl #[.int .i64 3,.int .i64 ((k2:Nat):Int)] 55).boxrow 2 1 2 [.int .i64 3,.int .i64 ((k2:Nat):Int)] rfl rfl (by unfold maxLen;omega));clear hS5;go_wp2;go_ret;exact⟨_,_,[(3,((k2:Nat):Int))],p+1+1,(by simp),Zhc _,by unfold FG;omega,rfl,HS7.out⟩
 | succ d ih =>
  intro hd plain p w X hp hS;have HS0:=qh hS;clear hS;have hsm:=Zov (d:=d) (by omega);have hp:p+(2*FG d+3)≤1000000:=hp;have hF2:=ZoL d;obtain⟨D,hD⟩:=eI (d+1);rw[← hD];have hD0:(D:Int)≠0:=by omega
  obtain⟨y1,y2,y3,y4⟩:=Zan hD0;have hD1:(D:Int)-1=(d:Int):=by omega
  have hfl:FL D=FL (d+1):=by rw[hD]
  have hfg:FG D=FG (d+1):=by rw[hD]
  rw[hfl,hfg];replace hD:=qh hD;clear hD0 hfl hfg
  go_enter Tryz.func44, Tryz.ntmps44
  go_wp2_with fail;refine(Zaz bs vb b p 4 w0 _ X Hb.out hlen (by omega) (by omega) (by omega) HS0.out).mono ?_;rintro e w1 ⟨k0,hk0',rfl,hS1⟩;have HS:=qh hS1;clear hS1 HS0;by_cases hkz:(k0:Int)=0
  ·obtain⟨x1,x2,x3⟩:=Zb0 hkz;clear hkz;go_wp2_with fail;refine(Zaz bs vb b (p+1) 9 w0 _ X Hb.out hlen (by omega) (by omega) (by omega) HS.out).mono ?_;rintro e w2 ⟨k,hk,rfl,hS2⟩;by_cases hk0:(k:Int)=0
   ·obtain⟨q1,q2,q3⟩:=Zb0 hk0;have HS3:=qh ((hS2.alloc _ rfl #[.int .i64 2,.int .i64 0] 55).boxrow 2 1 2 [.int .i64 2,.int .i64 0] rfl rfl (by unfold maxLen;omega));clear hS2 HS hk0;go_wp2;go_ret;exact⟨_,_,[(2,0)],p+1+1,(by simp),Zhc _,by unfold FG;omega,rfl,HS3.out⟩
   obtain⟨q1,q2,q3,-⟩:=Zan hk0;by_cases hk1:(k:Int)=1
   ·obtain⟨z1,z2,z3⟩:=Zb0 hk1;have hS3:=hS2.alloc _ rfl #[.int .i64 1,.int .i64 2,.int .i64 3] 3;have hS4:=St.pack (A:=[RdE b vb (p+1+1)]) (R:=[X,Ent.box w2.heap.size #[.int .i64 1,.int .i64 2,.int .i64 3] 3]) hS3;have HS3:=qh hS3;have HS4:=qh hS4;clear hS2 hS3 hS4 HS hk0 hk1;go_wp2_with fail;refine(Zaz bs vb b (p+1+1) 3 w0 _ _ Hb.out hlen (by omega) (by omega) (by omega) HS4.out).mono ?_;rintro e w3 ⟨k2,hk2,rfl,hS5⟩;have hS6:=St.unpack (A:=[RdE b vb (p+1+1)]) (A':=[RdE b vb (p+1+1+1)]) (R:=[X,Ent.box w2.heap.size #[.int .i64 1,.int .i64 2,.int .i64 3] 3]) HS3.out hS5
    obtain⟨kv,hkv⟩:∃ kv:Int,(#[.int .i64 1,.int .i64 2,.int .i64 3]:Array Value)[k2]? = some (.int .i64 kv):=by
     obtain rfl|rfl|rfl:k2=0∨k2=1∨k2=2:=by omega
     all_goals exact⟨_,rfl⟩
    have e5:=hS6.cell (v:=.int .i64 kv) 2 k2 rfl hkv;have hk2I:(k2:Int)<3:=by omega
    have HS7:=qh (((hS6.alloc _ rfl #[.int .i64 kv,.int .i64 0] 55).boxrow 3 1 2 [.int .i64 kv,.int .i64 0] rfl rfl (by unfold maxLen;omega)).pick [0,1,3] (by decide));clear hS5 hS6 hkv;go_wp2;go_ret;exact⟨_,_,[(kv,0)],p+1+1+1,(by simp),Zhc _,by unfold FG;omega,rfl,HS7.out⟩
   obtain⟨z1,z2,z3,-⟩:=Zan hk1;have HS3:=qh hS2;clear hS2 HS hk0 hk1;go_wp2_with fail;refine(Zaz bs vb b (p+1+1) 3 w0 _ X Hb.out hlen (by omega) (by omega) (by omega) HS3.out).mono ?_;rintro e w3 ⟨k2,hk2,rfl,hS5⟩;have HS7:=qh ((hS5.alloc _ rfl #[.int .i64 3,.int .i64 ((k2:Nat):Int)] 55).boxrow 2 1 2 [.int .i64 3,.int .i64 ((k2:Nat):Int)] rfl rfl (by unfold maxLen;omega));clear hS5;go_wp2;go_ret;exact⟨_,_,[(3,((k2:Nat):Int))],p+1+1+1,(by simp),Zhc _,by unfold FG;omega,rfl,HS7.out⟩
  obtain⟨x1,x2,x3,-⟩:=Zan hkz;clear hkz;have hS3:=HS.out.alloc _ rfl #[.int .i64 4,.int .i64 4,.int .i64 4,.int .i64 5,.int .i64 5,.int .i64 8,.int .i64 8,.int .i64 6,.int .i64 7] 3;have hS4:=St.pack (A:=[RdE b vb (p+1)]) (R:=[X,Ent.box w1.heap.size #[.int .i64 4,.int .i64 4,.int .i64 4,.int .i64 5,.int .i64 5,.int .i64 8,.int .i64 8,.int .i64 6,.int .i64 7] 3]) hS3;have HS3:=qh hS3;have HS4:=qh hS4;clear hS3 hS4 HS;go_wp2_with fail;refine(Zaz bs vb b (p+1) 9 w0 _ _ Hb.out hlen (by omega) (by omega) (by omega) HS4.out).mono ?_;rintro e w3 ⟨k2,hk2,rfl,hS5⟩;have hS6:=St.unpack (A:=[RdE b vb (p+1)]) (A':=[RdE b vb (p+1+1)]) (R:=[X,Ent.box w1.heap.size #[.int .i64 4,.int .i64 4,.int .i64 4,.int .i64 5,.int .i64 5,.int .i64 8,.int .i64 8,.int .i64 6,.int .i64 7] 3]) HS3.out hS5
  obtain⟨kv,hkv,hkk⟩:∃ kv:Int,(#[.int .i64 4,.int .i64 4,.int .i64 4,.int .i64 5,.int .i64 5,.int .i64 8,.int .i64 8,.int .i64 6,.int .i64 7]:Array Value)[k2]? = some (.int .i64 kv)∧(kv=4∨kv=5∨kv=6∨kv=7∨kv=8):=by
   obtain rfl|rfl|rfl|rfl|rfl|rfl|rfl|rfl|rfl:k2=0∨k2=1∨k2=2∨k2=3∨k2=4∨k2=5∨k2=6∨k2=7∨k2=8:=by omega
   all_goals exact⟨_,rfl,by decide⟩
  have e5:=hS6.cell (v:=.int .i64 kv) 2 k2 rfl hkv;have hk2I:(k2:Int)<9:=by omega
  have HSn:=qh (hS6.pick [0,1] (by decide));clear hS5 hS6 hkv HS3 HS4;by_cases hC:plain=true∧(kv=6∨kv=7)
  ·obtain⟨rfl,hC⟩:=hC;rcases hC with rfl|rfl
   all_goals
    go_wp2_with fail;refine(ih (by omega) true (p+1+1) _ X (by omega) HSn.out).mono ?_;rintro e w4 ⟨a,c,es,p4,-,hel,hp4,rfl,hS4⟩;have hS5:=St.pack (A:=[RdE b vb p4]) (R:=[X,Zdr a c es]) hS4;have HS4:=qh hS4;have HS5:=qh hS5;clear hS4 hS5;go_wp2_with fail;refine(Zaz bs vb b p4 9 w0 _ _ Hb.out hlen (by omega) (by omega) (by omega) HS5.out).mono ?_;rintro e w5 ⟨k3,hk3,rfl,hS6⟩;have hS7:=St.unpack (A:=[RdE b vb p4]) (A':=[RdE b vb (p4+1)]) (R:=[X,Zdr a c es]) HS4.out hS6;by_cases hk0:(k3:Int)=0
    ·obtain⟨q1,q2,q3⟩:=Zb0 hk0;have hR:=hS7.row 2 rfl;have HR:=qh hR;have HSl:=qh (Zam hR);have HS7:=qh hS7;clear hS6 hS7 hR hk0 HS4 HS5
     go_wp2_with (first|(at_builtin;refine Zaj _ rfl _ _ _ rfl _ 55 i0 (.agg #[.int .i64 0,.int .i64 0]) 2 16 Tryz.underlying23 hi.out Hhz0.out Hhz1.out Hhz2.out rfl (by omega) (.slice a es.length c) es.length (es.flatMap Zab) rfl HR.out (.slice a es.length c) es.length (es.flatMap Zab) rfl HSl.out ZcE (by unfold maxLen;omega) (by omega) HS7.out.size ?_;intro a6 c6 w6 hown6 hgrow6 hat6;have hSz:=HS7.out.appS 2 rfl hown6 hgrow6 hat6;rw[← List.flatMap_append,← List.length_append] at hSz;have HSz:=qh hSz;rw[← List.length_append];clear hown6 hgrow6 hat6 hSz;obtain⟨E,hEE⟩:=eI (es++es);obtain⟨pz,hpp⟩:=eI (p4+1);obtain⟨wz,hwz⟩:∃ wz:World,wz=w6:=⟨_,rfl⟩;have hEl:E.length+1≤FL (d+1):=(by rw[hEE,List.length_append];unfold FL;omega);have hpz:pz≤p+FG (d+1):=(by rw[hpp];unfold FG;omega);have hEs:E.length≤100:=(by rw[hEE,List.length_append];omega);rw[← hEE,← hwz,← hpp] at HSz;rw[← hEE,← hwz];have hSa:=HSz.out.alloc_ (.cells #[.int .i64 4,.int .i64 0] 55);have HRz:=qh (hSa.row 2 rfl);have HSa:=qh hSa;have HhEE:=qh hEE;clear hEE;have Hhpp:=qh hpp;clear hpp;have Hhwz:=qh hwz;clear hwz;clear hSa HSz)|(at_builtin;refine wpList_append_lies _ rfl _ _ _ rfl _ 55 i0 (.agg #[.int .i64 0,.int .i64 0]) 2 16 Tryz.underlying23 hi.out Hhz0.out Hhz1.out Hhz2.out rfl (by omega) _ E.length _ rfl HRz.out ⟨wz.heap.size,0,none⟩ 1 1 [.int .i64 4,.int .i64 0] rfl rfl (World.news_of_block (heap_alloc_new wz _)) Zex (by omega) (by unfold maxLen;omega) (by omega) HSa.out.size _ rfl ?_;intro g7 c7 w7 hown7 hgrow7 hat7 hlt7;have HSf:=qh (HSa.out.app 2 rfl hown7 hgrow7 hat7);clear hown7 hgrow7 hat7 hlt7))
     go_ret;refine⟨some ⟨g7,0,none⟩,c7,E++[(4,0)],pz,(by simp),by rw[List.length_append];exact hEl,hpz,by rw[List.length_append];rfl,?_⟩;unfold Zdr;rw[List.length_append,List.flatMap_append];exact HSf.out
    obtain⟨q1,q2,q3,-⟩:=Zan hk0;have hS8:=St.pack (A:=[RdE b vb (p4+1)]) (R:=[X,Zdr a c es]) hS7;have HS7:=qh hS7;have HS8:=qh hS8;clear hS6 hS7 hS8 hk0 HS4 HS5;go_wp2_with fail;refine(ih (by omega) true (p4+1) _ _ (by omega) HS8.out).mono ?_;rintro e w8 ⟨a2,c2,es2,p8,-,hel2,hp8,rfl,hS9⟩;have hSA:=(St.unpack (A:=[RdE b vb (p4+1)]) (A':=[RdE b vb p8,Zdr a2 c2 es2]) (R:=[X,Zdr a c es]) HS7.out (hS9.pick [0,2,1] (by decide))).pick [0,2,3,1] (by decide);have hR:=hSA.row 2 rfl;have HR:=qh hR;have HSl:=qh (Zam (hSA.row 3 rfl));have HSA:=qh hSA;clear hS9 hSA hR HS7 HS8
    go_wp2_with (first|(at_builtin;refine Zaj _ rfl _ _ _ rfl _ 55 i0 (.agg #[.int .i64 0,.int .i64 0]) 2 16 Tryz.underlying23 hi.out Hhz0.out Hhz1.out Hhz2.out rfl (by omega) (.slice a es.length c) es.length (es.flatMap Zab) rfl HR.out (.slice a2 es2.length c2) es2.length (es2.flatMap Zab) rfl HSl.out ZcE (by unfold maxLen;omega) (by omega) HSA.out.size ?_;intro a6 c6 w6 hown6 hgrow6 hat6;have hSz:=(HSA.out.appS 2 rfl hown6 hgrow6 hat6).pick [0,1,2] (by decide);rw[← List.flatMap_append,← List.length_append] at hSz;have HSz:=qh hSz;rw[← List.length_append];clear hown6 hgrow6 hat6 hSz;obtain⟨E,hEE⟩:=eI (es++es2);obtain⟨pz,hpp⟩:=eI p8;obtain⟨wz,hwz⟩:∃ wz:World,wz=w6:=⟨_,rfl⟩;have hEl:E.length+1≤FL (d+1):=(by rw[hEE,List.length_append];unfold FL;omega);have hpz:pz≤p+FG (d+1):=(by rw[hpp];unfold FG;omega);have hEs:E.length≤100:=(by rw[hEE,List.length_append];omega);rw[← hEE,← hwz,← hpp] at HSz;rw[← hEE,← hwz];have hSa:=HSz.out.alloc_ (.cells #[.int .i64 4,.int .i64 0] 55);have HRz:=qh (hSa.row 2 rfl);have HSa:=qh hSa;have HhEE:=qh hEE;clear hEE;have Hhpp:=qh hpp;clear hpp;have Hhwz:=qh hwz;clear hwz;clear hSa HSz)|(at_builtin;refine wpList_append_lies _ rfl _ _ _ rfl _ 55 i0 (.agg #[.int .i64 0,.int .i64 0]) 2 16 Tryz.underlying23 hi.out Hhz0.out Hhz1.out Hhz2.out rfl (by omega) _ E.length _ rfl HRz.out ⟨wz.heap.size,0,none⟩ 1 1 [.int .i64 4,.int .i64 0] rfl rfl (World.news_of_block (heap_alloc_new wz _)) Zex (by omega) (by unfold maxLen;omega) (by omega) HSa.out.size _ rfl ?_;intro g7 c7 w7 hown7 hgrow7 hat7 hlt7;have HSf:=qh (HSa.out.app 2 rfl hown7 hgrow7 hat7);clear hown7 hgrow7 hat7 hlt7))
    go_ret;refine⟨some ⟨g7,0,none⟩,c7,E++[(4,0)],pz,(by simp),by rw[List.length_append];exact hEl,hpz,by rw[List.length_append];rfl,?_⟩;unfold Zdr;rw[List.length_append,List.flatMap_append];exact HSf.out
  by_cases h8:kv=7∨kv=8
  ·obtain⟨z1,z2,z3,z4⟩:=Zan (show kv≠6 by omega);by_cases h7:kv=7
   rotate_left
   obtain⟨u1,u2,u3⟩:=Zb0 (show kv=8 by omega);obtain⟨t1,t2,t3,t4⟩:=Zan h7;cases plain
   rotate_left 2
   obtain⟨u1,u2,u3⟩:=Zb0 h7;obtain⟨t1,t2,t3,t4⟩:=Zan (show kv≠8 by omega)
   obtain rfl:plain=false:=by
    cases plain with
    | false=>rfl
    | true=>exact absurd ⟨rfl,.inr h7⟩ hC
   all_goals
    clear hkk hC h8 h7;go_wp2_with fail;refine(ih (by omega) _ (p+1+1) _ X (by omega) HSn.out).mono ?_;rintro e w4 ⟨a,c,es,p4,-,hel,hp4,rfl,hS4⟩;obtain⟨E,hEE⟩:=eI es;obtain⟨pz,hpp⟩:=eI p4;obtain⟨wz,hwz⟩:∃ wz:World,wz=w4:=⟨_,rfl⟩;subst hEE;subst hpp;subst hwz;have hEl:E.length+1≤FL (d+1):=by unfold FL;omega
    have hpz:pz≤p+FG (d+1):=by unfold FG;omega
    have HSz:=qh hS4;clear hS4;have hSa:=HSz.out.alloc_ (.cells #[.int .i64 kv,.int .i64 0] 55);have HRz:=qh (hSa.row 2 rfl);have HSa:=qh hSa;clear hSa HSz;go_wp2_with (at_builtin;refine wpList_append_lies _ rfl _ _ _ rfl _ 55 i0 (.agg #[.int .i64 0,.int .i64 0]) 2 16 Tryz.underlying23 hi.out Hhz0.out Hhz1.out Hhz2.out rfl (by omega) _ E.length _ rfl HRz.out ⟨wz.heap.size,0,none⟩ 1 1 [.int .i64 kv,.int .i64 0] rfl rfl (World.news_of_block (heap_alloc_new wz _)) Zex (by omega) (by unfold maxLen;omega) (by omega) HSa.out.size _ rfl ?_;intro g7 c7 w7 hown7 hgrow7 hat7 hlt7;have HSf:=qh (HSa.out.app 2 rfl hown7 hgrow7 hat7);clear hown7 hgrow7 hat7 hlt7);go_ret;refine⟨some ⟨g7,0,none⟩,c7,E++[(kv,0)],pz,(by simp),by rw[List.length_append];exact hEl,hpz,by rw[List.length_append];rfl,?_⟩;unfold Zdr;rw[List.length_append,List.flatMap_append];exact HSf.out
  obtain⟨u1,u2,u3,u4⟩:=Zan (show kv≠8 from fun h=>h8 (.inr h));obtain⟨t1,t2,t3,t4⟩:=Zan (show kv≠7 from fun h=>h8 (.inl h))
  have h6:plain=false∨kv≠6:=by
   cases plain with
   | false=>exact .inl rfl
   | true=>exact .inr fun h=>hC ⟨rfl,.inl h⟩
  rcases h6 with rfl|n6
  rotate_left
  obtain⟨z1,z2,z3,z4⟩:=Zan n6;cases plain
  all_goals
   clear hkk hC h8;go_wp2_with fail;refine(ih (by omega) _ (p+1+1) _ X (by omega) HSn.out).mono ?_;rintro e w4 ⟨a,c,es,p4,-,hel,hp4,rfl,hS4⟩;have hS5:=St.pack (A:=[RdE b vb p4]) (R:=[X,Zdr a c es]) hS4;have HS4:=qh hS4;have HS5:=qh hS5;clear hS4 hS5;go_wp2_with fail;refine(Zaz bs vb b p4 9 w0 _ _ Hb.out hlen (by omega) (by omega) (by omega) HS5.out).mono ?_;rintro e w5 ⟨k3,hk3,rfl,hS6⟩;have hS7:=St.unpack (A:=[RdE b vb p4]) (A':=[RdE b vb (p4+1)]) (R:=[X,Zdr a c es]) HS4.out hS6;by_cases hk0:(k3:Int)=0
   ·obtain⟨q1,q2,q3⟩:=Zb0 hk0;have hR:=hS7.row 2 rfl;have HR:=qh hR;have HSl:=qh (Zam hR);have HS7:=qh hS7;clear hS6 hS7 hR hk0 HS4 HS5
    go_wp2_with (first|(at_builtin;refine Zaj _ rfl _ _ _ rfl _ 55 i0 (.agg #[.int .i64 0,.int .i64 0]) 2 16 Tryz.underlying23 hi.out Hhz0.out Hhz1.out Hhz2.out rfl (by omega) (.slice a es.length c) es.length (es.flatMap Zab) rfl HR.out (.slice a es.length c) es.length (es.flatMap Zab) rfl HSl.out ZcE (by unfold maxLen;omega) (by omega) HS7.out.size ?_;intro a6 c6 w6 hown6 hgrow6 hat6;have hSz:=HS7.out.appS 2 rfl hown6 hgrow6 hat6;rw[← List.flatMap_append,← List.length_append] at hSz;have HSz:=qh hSz;rw[← List.length_append];clear hown6 hgrow6 hat6 hSz;obtain⟨E,hEE⟩:=eI (es++es);obtain⟨pz,hpp⟩:=eI (p4+1);obtain⟨wz,hwz⟩:∃ wz:World,wz=w6:=⟨_,rfl⟩;have hEl:E.length+1≤FL (d+1):=(by rw[hEE,List.length_append];unfold FL;omega);have hpz:pz≤p+FG (d+1):=(by rw[hpp];unfold FG;omega);have hEs:E.length≤100:=(by rw[hEE,List.length_append];omega);rw[← hEE,← hwz,← hpp] at HSz;rw[← hEE,← hwz];have hSa:=HSz.out.alloc_ (.cells #[.int .i64 kv,.int .i64 0] 55);have HRz:=qh (hSa.row 2 rfl);have HSa:=qh hSa;have HhEE:=qh hEE;clear hEE;have Hhpp:=qh hpp;clear hpp;have Hhwz:=qh hwz;clear hwz;clear hSa HSz)|(at_builtin;refine wpList_append_lies _ rfl _ _ _ rfl _ 55 i0 (.agg #[.int .i64 0,.int .i64 0]) 2 16 Tryz.underlying23 hi.out Hhz0.out Hhz1.out Hhz2.out rfl (by omega) _ E.length _ rfl HRz.out ⟨wz.heap.size,0,none⟩ 1 1 [.int .i64 kv,.int .i64 0] rfl rfl (World.news_of_block (heap_alloc_new wz _)) Zex (by omega) (by unfold maxLen;omega) (by omega) HSa.out.size _ rfl ?_;intro g7 c7 w7 hown7 hgrow7 hat7 hlt7;have HSf:=qh (HSa.out.app 2 rfl hown7 hgrow7 hat7);clear hown7 hgrow7 hat7 hlt7))
    go_ret;refine⟨some ⟨g7,0,none⟩,c7,E++[(kv,0)],pz,(by simp),by rw[List.length_append];exact hEl,hpz,by rw[List.length_append];rfl,?_⟩;unfold Zdr;rw[List.length_append,List.flatMap_append];exact HSf.out
   obtain⟨q1,q2,q3,-⟩:=Zan hk0;have hS8:=St.pack (A:=[RdE b vb (p4+1)]) (R:=[X,Zdr a c es]) hS7;have HS7:=qh hS7;have HS8:=qh hS8;clear hS6 hS7 hS8 hk0 HS4 HS5;go_wp2_with fail;refine(ih (by omega) _ (p4+1) _ _ (by omega) HS8.out).mono ?_;rintro e w8 ⟨a2,c2,es2,p8,-,hel2,hp8,rfl,hS9⟩;have hSA:=(St.unpack (A:=[RdE b vb (p4+1)]) (A':=[RdE b vb p8,Zdr a2 c2 es2]) (R:=[X,Zdr a c es]) HS7.out (hS9.pick [0,2,1] (by decide))).pick [0,2,3,1] (by decide);have hR:=hSA.row 2 rfl;have HR:=qh hR;have HSl:=qh (Zam (hSA.row 3 rfl));have HSA:=qh hSA;clear hS9 hSA hR HS7 HS8
   go_wp2_with (first|(at_builtin;refine Zaj _ rfl _ _ _ rfl _ 55 i0 (.agg #[.int .i64 0,.int .i64 0]) 2 16 Tryz.underlying23 hi.out Hhz0.out Hhz1.out Hhz2.out rfl (by omega) (.slice a es.length c) es.length (es.flatMap Zab) rfl HR.out (.slice a2 es2.length c2) es2.length (es2.flatMap Zab) rfl HSl.out ZcE (by unfold maxLen;omega) (by omega) HSA.out.size ?_;intro a6 c6 w6 hown6 hgrow6 hat6;have hSz:=(HSA.out.appS 2 rfl hown6 hgrow6 hat6).pick [0,1,2] (by decide);rw[← List.flatMap_append,← List.length_append] at hSz;have HSz:=qh hSz;rw[← List.length_append];clear hown6 hgrow6 hat6 hSz;obtain⟨E,hEE⟩:=eI (es++es2);obtain⟨pz,hpp⟩:=eI p8;obtain⟨wz,hwz⟩:∃ wz:World,wz=w6:=⟨_,rfl⟩;have hEl:E.length+1≤FL (d+1):=(by rw[hEE,List.length_append];unfold FL;omega);have hpz:pz≤p+FG (d+1):=(by rw[hpp];unfold FG;omega);have hEs:E.length≤100:=(by rw[hEE,List.length_append];omega);rw[← hEE,← hwz,← hpp] at HSz;rw[← hEE,← hwz];have hSa:=HSz.out.alloc_ (.cells #[.int .i64 kv,.int .i64 0] 55);have HRz:=qh (hSa.row 2 rfl);have HSa:=qh hSa;have HhEE:=qh hEE;clear hEE;have Hhpp:=qh hpp;clear hpp;have Hhwz:=qh hwz;clear hwz;clear hSa HSz)|(at_builtin;refine wpList_append_lies _ rfl _ _ _ rfl _ 55 i0 (.agg #[.int .i64 0,.int .i64 0]) 2 16 Tryz.underlying23 hi.out Hhz0.out Hhz1.out Hhz2.out rfl (by omega) _ E.length _ rfl HRz.out ⟨wz.heap.size,0,none⟩ 1 1 [.int .i64 kv,.int .i64 0] rfl rfl (World.news_of_block (heap_alloc_new wz _)) Zex (by omega) (by unfold maxLen;omega) (by omega) HSa.out.size _ rfl ?_;intro g7 c7 w7 hown7 hgrow7 hat7 hlt7;have HSf:=qh (HSa.out.app 2 rfl hown7 hgrow7 hat7);clear hown7 hgrow7 hat7 hlt7))
   go_ret;refine⟨some ⟨g7,0,none⟩,c7,E++[(kv,0)],pz,(by simp),by rw[List.length_append];exact hEl,hpz,by rw[List.length_append];rfl,?_⟩;unfold Zdr;rw[List.length_append,List.flatMap_append];exact HSf.out
end Go.Proofs.YtehmjmjedopkkaaGreat
