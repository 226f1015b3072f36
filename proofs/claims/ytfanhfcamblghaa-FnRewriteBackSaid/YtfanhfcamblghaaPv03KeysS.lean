/-
  The walk over the reference's l20Make: an expression is drawn; how many parts and draws at most.
  Conditions: the reader is among the things that the call owns; the depth is at most 3.
-/
import Derived.Test.YtfanhfcamblghaaPv02Nk
set_option maxHeartbeats 16000000
set_option maxRecDepth 100000
namespace Go.Proofs.Ytfanhfcamblghaa
open Go.RowKit
def FL:Nat→Nat
 | 0=>1
 | d+1=>2*FL d+1
def FG:Nat→Nat
 | 0=>2
 | d+1=>2*FG d+3
theorem Zfd:∀ d,1≤FL d
 | 0=>Nat.le_refl _
 | d+1=>by unfold FL;omega
theorem ZkW:∀ d,2≤FG d
 | 0=>Nat.le_refl _
 | d+1=>by unfold FG;have:=ZkW d;omega
theorem ZkA {d:Nat} (h:d≤3):FL d≤15∧FG d≤37:=by
 obtain rfl|rfl|rfl|rfl:d=0∨d=1∨d=2∨d=3:=by omega
 all_goals decide
theorem Za4 {a b:Int} (h:a=b):(a==b)=true∧(a=b)=True∧(a != b)=false:=by simp[h]
theorem Zd9 {x y:Int}:∀ u∈[Value.int .i64 x,Value.int .i64 y],u.oneCell'=true:=by intro u hu;simp at hu;rcases hu with rfl|rfl<;>rfl
theorem ZbJ {w:World} {B e:Nat} {v:Value} {xs:List (Int × Int)} (hr:w.ownsRow B e 2 v xs.length (xs.flatMap Zah)):Pairs 0 w v xs :=
 ((Zaa hr).sl (by omega)).mono (Nat.zero_le _)
theorem Try.infoPt:(Try.prog.info? 72).map (fun i=>(i.zero,i.size,i.bytes))=some (some (.agg #[.int .i64 0,.int .i64 0]),2,16):=by kernel_rfl
def ZcB (a:Option Addr) (c:Nat) (es:List (Int × Int)):Ent:=Ent.row 72 2 (.slice a es.length c) es.length (es.flatMap Zah)
theorem Zkd (bs:List Nat) (vb:Value) (b:Nat) (w0:World) (hb:Bytes 0 w0 vb bs) (hlen:bs.length≤2000):∀ (d:Nat),d≤3→∀ (plain:Bool) (p:Nat) (w:World) (X:Ent),p+FG d≤1000000→St w0 w [RdE b vb p,X] →
  Calls Try.prog 84 #[.pointer (some ⟨b,0,none⟩),.int .i64 ((d:Nat):Int),.bool plain] w fun e w'=>∃ (a:Option Addr) (c:Nat) (es:List (Int × Int)) (p':Nat),1≤es.length∧es.length≤FL d∧p'≤p+FG d∧e = .returned (.slice a es.length c)∧St w0 w' [RdE b vb p',X,ZcB a c es]:=by
 have Hb:=qh hb;obtain⟨i0,hi,hz0,hz1,hz2⟩:=info_parts Try.infoPt;replace hi:=qh hi;have Hhz0:=qh hz0;clear hz0;have Hhz1:=qh hz1;clear hz1;have Hhz2:=qh hz2;clear hz2;clear hb;intro d
 induction d with
 | zero =>
  intro hd plain p w X hp hS;have hp:p+2≤1000000:=hp;have HS:=qh hS;clear hS
  go_enter Try.func84, Try.ntmps84
  go_wp2_with fail;refine(Zar bs vb b (p) 9 w0 _ X Hb.out hlen (by omega) (by omega) (by omega) HS.out).mono ?_;rintro e w2 ⟨k,hk,rfl,hS2⟩;by_cases hk0:(k:Int)=0
  ·obtain⟨q1,q2,q3⟩:=Za4 hk0;have HS3:=qh ((hS2.alloc _ rfl #[.int .i64 2,.int .i64 0] 72).boxrow 2 1 2 [.int .i64 2,.int .i64 0] rfl rfl (by unfold maxLen;omega));clear hS2 HS hk0;go_wp2;go_ret;exact⟨_,_,[(2,0)],p+1,(by simp),Zfd _,by unfold FG;omega,rfl,HS3.out⟩
  obtain⟨q1,q2,q3,-⟩:=Zaq hk0;by_cases hk1:(k:Int)=1
  ·obtain⟨z1,z2,z3⟩:=Za4 hk1;have hS3:=hS2.alloc _ rfl #[.int .i64 1,.int .i64 2,.int .i64 3] 3;have hS4:=St.pack (A:=[RdE b vb (p+1)]) (R:=[X,Ent.box w2.heap.size #[.int .i64 1,.int .i64 2,.int .i64 3] 3]) hS3;have HS3:=qh hS3;have HS4:=qh hS4;clear hS2 hS3 hS4 HS hk0 hk1;go_wp2_with fail;refine(Zar bs vb b (p+1) 3 w0 _ _ Hb.out hlen (by omega) (by omega) (by omega) HS4.out).mono ?_;rintro e w3 ⟨k2,hk2,rfl,hS5⟩;have hS6:=St.unpack (A:=[RdE b vb (p+1)]) (A':=[RdE b vb (p+1+1)]) (R:=[X,Ent.box w2.heap.size #[.int .i64 1,.int .i64 2,.int .i64 3] 3]) HS3.out hS5
   obtain⟨kv,hkv⟩:∃ kv:Int,(#[.int .i64 1,.int .i64 2,.int .i64 3]:Array Value)[k2]? = some (.int .i64 kv):=by
    obtain rfl|rfl|rfl:k2=0∨k2=1∨k2=2:=by omega
    all_goals exact⟨_,rfl⟩
   have e5:=hS6.cell (v:=.int .i64 kv) 2 k2 rfl hkv;have hk2I:(k2:Int)<3:=by omega
   have HS7:=qh (((hS6.alloc _ rfl #[.int .i64 kv,.int .i64 0] 72).boxrow 3 1 2 [.int .i64 kv,.int .i64 0] rfl rfl (by unfold maxLen;omega)).pick [0,1,3] (by decide));clear hS5 hS6 hkv;go_wp2;go_ret;exact⟨_,_,[(kv,0)],p+1+1,(by simp),Zfd _,by unfold FG;omega,rfl,HS7.out⟩
  obtain⟨z1,z2,z3,-⟩:=Zaq hk1;have HS3:=qh hS2;clear hS2 HS hk0 hk1;go_wp2_with fail;refine(Zar bs vb b (p+1) 3 w0 _ X Hb.out hlen (by omega) (by omega) (by omega) HS3.out).mono ?_;rintro e w3 ⟨k2,hk2,rfl,hS5⟩;have HS7:=qh ((hS5.alloc _ rfl #[.int .i64 3,.int .i64 ((k2:Nat):Int)] 72).boxrow 2 1 2 [.int .i64 3,.int .i64 ((k2:Nat):Int)] rfl rfl (by unfold maxLen;omega));clear hS5;go_wp2;go_ret;exact⟨_,_,[(3,((k2:Nat):Int))],p+1+1,(by simp),Zfd _,by unfold FG;omega,rfl,HS7.out⟩
 | succ d ih =>
  intro hd plain p w X hp hS;have HS0:=qh hS;clear hS;have hsm:=ZkA (d:=d) (by omega);have hp:p+(2*FG d+3)≤1000000:=hp;have hF2:=ZkW d;obtain⟨D,hD⟩:=eI (d+1);rw[← hD];have hD0:(D:Int)≠0:=by omega
  obtain⟨y1,y2,y3,y4⟩:=Zaq hD0;have hD1:(D:Int)-1=(d:Int):=by omega
  have hfl:FL D=FL (d+1):=by rw[hD]
  have hfg:FG D=FG (d+1):=by rw[hD]
  rw[hfl,hfg];replace hD:=qh hD;clear hD0 hfl hfg
  go_enter Try.func84, Try.ntmps84
  go_wp2_with fail;refine(Zar bs vb b p 4 w0 _ X Hb.out hlen (by omega) (by omega) (by omega) HS0.out).mono ?_;rintro e w1 ⟨k0,hk0',rfl,hS1⟩;have HS:=qh hS1;clear hS1 HS0;by_cases hkz:(k0:Int)=0
  ·obtain⟨x1,x2,x3⟩:=Za4 hkz;clear hkz;go_wp2_with fail;refine(Zar bs vb b (p+1) 9 w0 _ X Hb.out hlen (by omega) (by omega) (by omega) HS.out).mono ?_;rintro e w2 ⟨k,hk,rfl,hS2⟩;by_cases hk0:(k:Int)=0
   ·obtain⟨q1,q2,q3⟩:=Za4 hk0;have HS3:=qh ((hS2.alloc _ rfl #[.int .i64 2,.int .i64 0] 72).boxrow 2 1 2 [.int .i64 2,.int .i64 0] rfl rfl (by unfold maxLen;omega));clear hS2 HS hk0;go_wp2;go_ret;exact⟨_,_,[(2,0)],p+1+1,(by simp),Zfd _,by unfold FG;omega,rfl,HS3.out⟩
   obtain⟨q1,q2,q3,-⟩:=Zaq hk0;by_cases hk1:(k:Int)=1
   ·obtain⟨z1,z2,z3⟩:=Za4 hk1;have hS3:=hS2.alloc _ rfl #[.int .i64 1,.int .i64 2,.int .i64 3] 3;have hS4:=St.pack (A:=[RdE b vb (p+1+1)]) (R:=[X,Ent.box w2.heap.size #[.int .i64 1,.int .i64 2,.int .i64 3] 3]) hS3;have HS3:=qh hS3;have HS4:=qh hS4;clear hS2 hS3 hS4 HS hk0 hk1;go_wp2_with fail;refine(Zar bs vb b (p+1+1) 3 w0 _ _ Hb.out hlen (by omega) (by omega) (by omega) HS4.out).mono ?_;rintro e w3 ⟨k2,hk2,rfl,hS5⟩;have hS6:=St.unpack (A:=[RdE b vb (p+1+1)]) (A':=[RdE b vb (p+1+1+1)]) (R:=[X,Ent.box w2.heap.size #[.int .i64 1,.int .i64 2,.int .i64 3] 3]) HS3.out hS5
    obtain⟨kv,hkv⟩:∃ kv:Int,(#[.int .i64 1,.int .i64 2,.int .i64 3]:Array Value)[k2]? = some (.int .i64 kv):=by
     obtain rfl|rfl|rfl:k2=0∨k2=1∨k2=2:=by omega
     all_goals exact⟨_,rfl⟩
    have e5:=hS6.cell (v:=.int .i64 kv) 2 k2 rfl hkv;have hk2I:(k2:Int)<3:=by omega
    have HS7:=qh (((hS6.alloc _ rfl #[.int .i64 kv,.int .i64 0] 72).boxrow 3 1 2 [.int .i64 kv,.int .i64 0] rfl rfl (by unfold maxLen;omega)).pick [0,1,3] (by decide));clear hS5 hS6 hkv;go_wp2;go_ret;exact⟨_,_,[(kv,0)],p+1+1+1,(by simp),Zfd _,by unfold FG;omega,rfl,HS7.out⟩
   obtain⟨z1,z2,z3,-⟩:=Zaq hk1;have HS3:=qh hS2;clear hS2 HS hk0 hk1;go_wp2_with fail;refine(Zar bs vb b (p+1+1) 3 w0 _ X Hb.out hlen (by omega) (by omega) (by omega) HS3.out).mono ?_;rintro e w3 ⟨k2,hk2,rfl,hS5⟩;have HS7:=qh ((hS5.alloc _ rfl #[.int .i64 3,.int .i64 ((k2:Nat):Int)] 72).boxrow 2 1 2 [.int .i64 3,.int .i64 ((k2:Nat):Int)] rfl rfl (by unfold maxLen;omega));clear hS5;go_wp2;go_ret;exact⟨_,_,[(3,((k2:Nat):Int))],p+1+1+1,(by simp),Zfd _,by unfold FG;omega,rfl,HS7.out⟩
  obtain⟨x1,x2,x3,-⟩:=Zaq hkz;clear hkz;have hS3:=HS.out.alloc _ rfl #[.int .i64 4,.int .i64 4,.int .i64 4,.int .i64 5,.int .i64 5,.int .i64 8,.int .i64 8,.int .i64 6,.int .i64 7] 3;have hS4:=St.pack (A:=[RdE b vb (p+1)]) (R:=[X,Ent.box w1.heap.size #[.int .i64 4,.int .i64 4,.int .i64 4,.int .i64 5,.int .i64 5,.int .i64 8,.int .i64 8,.int .i64 6,.int .i64 7] 3]) hS3;have HS3:=qh hS3;have HS4:=qh hS4;clear hS3 hS4 HS;go_wp2_with fail;refine(Zar bs vb b (p+1) 9 w0 _ _ Hb.out hlen (by omega) (by omega) (by omega) HS4.out).mono ?_;rintro e w3 ⟨k2,hk2,rfl,hS5⟩;have hS6:=St.unpack (A:=[RdE b vb (p+1)]) (A':=[RdE b vb (p+1+1)]) (R:=[X,Ent.box w1.heap.size #[.int .i64 4,.int .i64 4,.int .i64 4,.int .i64 5,.int .i64 5,.int .i64 8,.int .i64 8,.int .i64 6,.int .i64 7] 3]) HS3.out hS5
  obtain⟨kv,hkv,hkk⟩:∃ kv:Int,(#[.int .i64 4,.int .i64 4,.int .i64 4,.int .i64 5,.int .i64 5,.int .i64 8,.int .i64 8,.int .i64 6,.int .i64 7]:Array Value)[k2]? = some (.int .i64 kv)∧(kv=4∨kv=5∨kv=6∨kv=7∨kv=8):=by
   obtain rfl|rfl|rfl|rfl|rfl|rfl|rfl|rfl|rfl:k2=0∨k2=1∨k2=2∨k2=3∨k2=4∨k2=5∨k2=6∨k2=7∨k2=8:=by omega
   all_goals exact⟨_,rfl,by decide⟩
  have e5:=hS6.cell (v:=.int .i64 kv) 2 k2 rfl hkv;have hk2I:(k2:Int)<9:=by omega
  have HSn:=qh (hS6.pick [0,1] (by decide));clear hS5 hS6 hkv HS3 HS4;by_cases hC:plain=true∧(kv=6∨kv=7)
  ·obtain⟨rfl,hC⟩:=hC;rcases hC with rfl|rfl
   all_goals
    go_wp2_with fail;refine(ih (by omega) true (p+1+1) _ X (by omega) HSn.out).mono ?_;rintro e w4 ⟨a,c,es,p4,-,hel,hp4,rfl,hS4⟩;have hS5:=St.pack (A:=[RdE b vb p4]) (R:=[X,ZcB a c es]) hS4;have HS4:=qh hS4;have HS5:=qh hS5;clear hS4 hS5;go_wp2_with fail;refine(Zar bs vb b p4 9 w0 _ _ Hb.out hlen (by omega) (by omega) (by omega) HS5.out).mono ?_;rintro e w5 ⟨k3,hk3,rfl,hS6⟩;have hS7:=St.unpack (A:=[RdE b vb p4]) (A':=[RdE b vb (p4+1)]) (R:=[X,ZcB a c es]) HS4.out hS6;by_cases hk0:(k3:Int)=0
    ·obtain⟨q1,q2,q3⟩:=Za4 hk0;have hR:=hS7.row 2 rfl;have HR:=qh hR;have HSl:=qh (ZbJ hR);have HS7:=qh hS7;clear hS6 hS7 hR hk0 HS4 HS5
     go_wp2_with (first|(at_builtin;refine ZaF _ rfl _ _ _ rfl _ 72 i0 (.agg #[.int .i64 0,.int .i64 0]) 2 16 Try.underlying23 hi.out Hhz0.out Hhz1.out Hhz2.out rfl (by omega) (.slice a es.length c) es.length (es.flatMap Zah) rfl HR.out (.slice a es.length c) es.length (es.flatMap Zah) rfl HSl.out Zhy (by unfold maxLen;omega) (by omega) HS7.out.size ?_;intro a6 c6 w6 hown6 hgrow6 hat6;have hSz:=HS7.out.appS 2 rfl hown6 hgrow6 hat6;rw[← List.flatMap_append,← List.length_append] at hSz;have HSz:=qh hSz;rw[← List.length_append];clear hown6 hgrow6 hat6 hSz;obtain⟨E,hEE⟩:=eI (es++es);obtain⟨pz,hpp⟩:=eI (p4+1);obtain⟨wz,hwz⟩:∃ wz:World,wz=w6:=⟨_,rfl⟩;have hEl:E.length+1≤FL (d+1):=(by rw[hEE,List.length_append];unfold FL;omega);have hpz:pz≤p+FG (d+1):=(by rw[hpp];unfold FG;omega);have hEs:E.length≤100:=(by rw[hEE,List.length_append];omega);rw[← hEE,← hwz,← hpp] at HSz;rw[← hEE,← hwz];have hSa:=HSz.out.alloc_ (.cells #[.int .i64 4,.int .i64 0] 72);have HRz:=qh (hSa.row 2 rfl);have HSa:=qh hSa;have HhEE:=qh hEE;clear hEE;have Hhpp:=qh hpp;clear hpp;have Hhwz:=qh hwz;clear hwz;clear hSa HSz)|(at_builtin;refine wpList_append_lies _ rfl _ _ _ rfl _ 72 i0 (.agg #[.int .i64 0,.int .i64 0]) 2 16 Try.underlying23 hi.out Hhz0.out Hhz1.out Hhz2.out rfl (by omega) _ E.length _ rfl HRz.out ⟨wz.heap.size,0,none⟩ 1 1 [.int .i64 4,.int .i64 0] rfl rfl (World.news_of_block (heap_alloc_new wz _)) Zd9 (by omega) (by unfold maxLen;omega) (by omega) HSa.out.size _ rfl ?_;intro g7 c7 w7 hown7 hgrow7 hat7 hlt7;have HSf:=qh (HSa.out.app 2 rfl hown7 hgrow7 hat7);clear hown7 hgrow7 hat7 hlt7))
     go_ret;refine⟨some ⟨g7,0,none⟩,c7,E++[(4,0)],pz,(by simp),by rw[List.length_append];exact hEl,hpz,by rw[List.length_append];rfl,?_⟩;unfold ZcB;rw[List.length_append,List.flatMap_append];exact HSf.out
    obtain⟨q1,q2,q3,-⟩:=Zaq hk0;have hS8:=St.pack (A:=[RdE b vb (p4+1)]) (R:=[X,ZcB a c es]) hS7;have HS7:=qh hS7;have HS8:=qh hS8;clear hS6 hS7 hS8 hk0 HS4 HS5;go_wp2_with fail;refine(ih (by omega) true (p4+1) _ _ (by omega) HS8.out).mono ?_;rintro e w8 ⟨a2,c2,es2,p8,-,hel2,hp8,rfl,hS9⟩;have hSA:=(St.unpack (A:=[RdE b vb (p4+1)]) (A':=[RdE b vb p8,ZcB a2 c2 es2]) (R:=[X,ZcB a c es]) HS7.out (hS9.pick [0,2,1] (by decide))).pick [0,2,3,1] (by decide);have hR:=hSA.row 2 rfl;have HR:=qh hR;have HSl:=qh (ZbJ (hSA.row 3 rfl));have HSA:=qh hSA;clear hS9 hSA hR HS7 HS8
    go_wp2_with (first|(at_builtin;refine ZaF _ rfl _ _ _ rfl _ 72 i0 (.agg #[.int .i64 0,.int .i64 0]) 2 16 Try.underlying23 hi.out Hhz0.out Hhz1.out Hhz2.out rfl (by omega) (.slice a es.length c) es.length (es.flatMap Zah) rfl HR.out (.slice a2 es2.length c2) es2.length (es2.flatMap Zah) rfl HSl.out Zhy (by unfold maxLen;omega) (by omega) HSA.out.size ?_;intro a6 c6 w6 hown6 hgrow6 hat6;have hSz:=(HSA.out.appS 2 rfl hown6 hgrow6 hat6).pick [0,1,2] (by decide);rw[← List.flatMap_append,← List.length_append] at hSz;have HSz:=qh hSz;rw[← List.length_append];clear hown6 hgrow6 hat6 hSz;obtain⟨E,hEE⟩:=eI (es++es2);obtain⟨pz,hpp⟩:=eI p8;obtain⟨wz,hwz⟩:∃ wz:World,wz=w6:=⟨_,rfl⟩;have hEl:E.length+1≤FL (d+1):=(by rw[hEE,List.length_append];unfold FL;omega);have hpz:pz≤p+FG (d+1):=(by rw[hpp];unfold FG;omega);have hEs:E.length≤100:=(by rw[hEE,List.length_append];omega);rw[← hEE,← hwz,← hpp] at HSz;rw[← hEE,← hwz];have hSa:=HSz.out.alloc_ (.cells #[.int .i64 4,.int .i64 0] 72);have HRz:=qh (hSa.row 2 rfl);have HSa:=qh hSa;have HhEE:=qh hEE;clear hEE;have Hhpp:=qh hpp;clear hpp;have Hhwz:=qh hwz;clear hwz;clear hSa HSz)|(at_builtin;refine wpList_append_lies _ rfl _ _ _ rfl _ 72 i0 (.agg #[.int .i64 0,.int .i64 0]) 2 16 Try.underlying23 hi.out Hhz0.out Hhz1.out Hhz2.out rfl (by omega) _ E.length _ rfl HRz.out ⟨wz.heap.size,0,none⟩ 1 1 [.int .i64 4,.int .i64 0] rfl rfl (World.news_of_block (heap_alloc_new wz _)) Zd9 (by omega) (by unfold maxLen;omega) (by omega) HSa.out.size _ rfl ?_;intro g7 c7 w7 hown7 hgrow7 hat7 hlt7;have HSf:=qh (HSa.out.app 2 rfl hown7 hgrow7 hat7);clear hown7 hgrow7 hat7 hlt7))
    go_ret;refine⟨some ⟨g7,0,none⟩,c7,E++[(4,0)],pz,(by simp),by rw[List.length_append];exact hEl,hpz,by rw[List.length_append];rfl,?_⟩;unfold ZcB;rw[List.length_append,List.flatMap_append];exact HSf.out
  by_cases h8:kv=7∨kv=8
  ·obtain⟨z1,z2,z3,z4⟩:=Zaq (show kv≠6 by omega);by_cases h7:kv=7
   rotate_left
   obtain⟨u1,u2,u3⟩:=Za4 (show kv=8 by omega);obtain⟨t1,t2,t3,t4⟩:=Zaq h7;cases plain
   rotate_left 2
   obtain⟨u1,u2,u3⟩:=Za4 h7;obtain⟨t1,t2,t3,t4⟩:=Zaq (show kv≠8 by omega)
   obtain rfl:plain=false:=by
    cases plain with
    | false=>rfl
    | true=>exact absurd ⟨rfl,.inr h7⟩ hC
   all_goals
    clear hkk hC h8 h7;go_wp2_with fail;refine(ih (by omega) _ (p+1+1) _ X (by omega) HSn.out).mono ?_;rintro e w4 ⟨a,c,es,p4,-,hel,hp4,rfl,hS4⟩;obtain⟨E,hEE⟩:=eI es;obtain⟨pz,hpp⟩:=eI p4;obtain⟨wz,hwz⟩:∃ wz:World,wz=w4:=⟨_,rfl⟩;subst hEE;subst hpp;subst hwz;have hEl:E.length+1≤FL (d+1):=by unfold FL;omega
    have hpz:pz≤p+FG (d+1):=by unfold FG;omega
    have HSz:=qh hS4;clear hS4;have hSa:=HSz.out.alloc_ (.cells #[.int .i64 kv,.int .i64 0] 72);have HRz:=qh (hSa.row 2 rfl);have HSa:=qh hSa;clear hSa HSz;go_wp2_with (at_builtin;refine wpList_append_lies _ rfl _ _ _ rfl _ 72 i0 (.agg #[.int .i64 0,.int .i64 0]) 2 16 Try.underlying23 hi.out Hhz0.out Hhz1.out Hhz2.out rfl (by omega) _ E.length _ rfl HRz.out ⟨wz.heap.size,0,none⟩ 1 1 [.int .i64 kv,.int .i64 0] rfl rfl (World.news_of_block (heap_alloc_new wz _)) Zd9 (by omega) (by unfold maxLen;omega) (by omega) HSa.out.size _ rfl ?_;intro g7 c7 w7 hown7 hgrow7 hat7 hlt7;have HSf:=qh (HSa.out.app 2 rfl hown7 hgrow7 hat7);clear hown7 hgrow7 hat7 hlt7);go_ret;refine⟨some ⟨g7,0,none⟩,c7,E++[(kv,0)],pz,(by simp),by rw[List.length_append];exact hEl,hpz,by rw[List.length_append];rfl,?_⟩;unfold ZcB;rw[List.length_append,List.flatMap_append];exact HSf.out
  obtain⟨u1,u2,u3,u4⟩:=Zaq (show kv≠8 from fun h=>h8 (.inr h));obtain⟨t1,t2,t3,t4⟩:=Zaq (show kv≠7 from fun h=>h8 (.inl h))
  have h6:plain=false∨kv≠6:=by
   cases plain with
   | false=>exact .inl rfl
   | true=>exact .inr fun h=>hC ⟨rfl,.inl h⟩
  rcases h6 with rfl|n6
  rotate_left
  obtain⟨z1,z2,z3,z4⟩:=Zaq n6;cases plain
  all_goals
   clear hkk hC h8;go_wp2_with fail;refine(ih (by omega) _ (p+1+1) _ X (by omega) HSn.out).mono ?_;rintro e w4 ⟨a,c,es,p4,-,hel,hp4,rfl,hS4⟩;have hS5:=St.pack (A:=[RdE b vb p4]) (R:=[X,ZcB a c es]) hS4;have HS4:=qh hS4;have HS5:=qh hS5;clear hS4 hS5;go_wp2_with fail;refine(Zar bs vb b p4 9 w0 _ _ Hb.out hlen (by omega) (by omega) (by omega) HS5.out).mono ?_;rintro e w5 ⟨k3,hk3,rfl,hS6⟩;have hS7:=St.unpack (A:=[RdE b vb p4]) (A':=[RdE b vb (p4+1)]) (R:=[X,ZcB a c es]) HS4.out hS6;by_cases hk0:(k3:Int)=0
   ·obtain⟨q1,q2,q3⟩:=Za4 hk0;have hR:=hS7.row 2 rfl;have HR:=qh hR;have HSl:=qh (ZbJ hR);have HS7:=qh hS7;clear hS6 hS7 hR hk0 HS4 HS5
    go_wp2_with (first|(at_builtin;refine ZaF _ rfl _ _ _ rfl _ 72 i0 (.agg #[.int .i64 0,.int .i64 0]) 2 16 Try.underlying23 hi.out Hhz0.out Hhz1.out Hhz2.out rfl (by omega) (.slice a es.length c) es.length (es.flatMap Zah) rfl HR.out (.slice a es.length c) es.length (es.flatMap Zah) rfl HSl.out Zhy (by unfold maxLen;omega) (by omega) HS7.out.size ?_;intro a6 c6 w6 hown6 hgrow6 hat6;have hSz:=HS7.out.appS 2 rfl hown6 hgrow6 hat6;rw[← List.flatMap_append,← List.length_append] at hSz;have HSz:=qh hSz;rw[← List.length_append];clear hown6 hgrow6 hat6 hSz;obtain⟨E,hEE⟩:=eI (es++es);obtain⟨pz,hpp⟩:=eI (p4+1);obtain⟨wz,hwz⟩:∃ wz:World,wz=w6:=⟨_,rfl⟩;have hEl:E.length+1≤FL (d+1):=(by rw[hEE,List.length_append];unfold FL;omega);have hpz:pz≤p+FG (d+1):=(by rw[hpp];unfold FG;omega);have hEs:E.length≤100:=(by rw[hEE,List.length_append];omega);rw[← hEE,← hwz,← hpp] at HSz;rw[← hEE,← hwz];have hSa:=HSz.out.alloc_ (.cells #[.int .i64 kv,.int .i64 0] 72);have HRz:=qh (hSa.row 2 rfl);have HSa:=qh hSa;have HhEE:=qh hEE;clear hEE;have Hhpp:=qh hpp;clear hpp;have Hhwz:=qh hwz;clear hwz;clear hSa HSz)|(at_builtin;refine wpList_append_lies _ rfl _ _ _ rfl _ 72 i0 (.agg #[.int .i64 0,.int .i64 0]) 2 16 Try.underlying23 hi.out Hhz0.out Hhz1.out Hhz2.out rfl (by omega) _ E.length _ rfl HRz.out ⟨wz.heap.size,0,none⟩ 1 1 [.int .i64 kv,.int .i64 0] rfl rfl (World.news_of_block (heap_alloc_new wz _)) Zd9 (by omega) (by unfold maxLen;omega) (by omega) HSa.out.size _ rfl ?_;intro g7 c7 w7 hown7 hgrow7 hat7 hlt7;have HSf:=qh (HSa.out.app 2 rfl hown7 hgrow7 hat7);clear hown7 hgrow7 hat7 hlt7))
    go_ret;refine⟨some ⟨g7,0,none⟩,c7,E++[(kv,0)],pz,(by simp),by rw[List.length_append];exact hEl,hpz,by rw[List.length_append];rfl,?_⟩;unfold ZcB;rw[List.length_append,List.flatMap_append];exact HSf.out
   obtain⟨q1,q2,q3,-⟩:=Zaq hk0;have hS8:=St.pack (A:=[RdE b vb (p4+1)]) (R:=[X,ZcB a c es]) hS7;have HS7:=qh hS7;have HS8:=qh hS8;clear hS6 hS7 hS8 hk0 HS4 HS5;go_wp2_with fail;refine(ih (by omega) _ (p4+1) _ _ (by omega) HS8.out).mono ?_;rintro e w8 ⟨a2,c2,es2,p8,-,hel2,hp8,rfl,hS9⟩;have hSA:=(St.unpack (A:=[RdE b vb (p4+1)]) (A':=[RdE b vb p8,ZcB a2 c2 es2]) (R:=[X,ZcB a c es]) HS7.out (hS9.pick [0,2,1] (by decide))).pick [0,2,3,1] (by decide);have hR:=hSA.row 2 rfl;have HR:=qh hR;have HSl:=qh (ZbJ (hSA.row 3 rfl));have HSA:=qh hSA;clear hS9 hSA hR HS7 HS8
   go_wp2_with (first|(at_builtin;refine ZaF _ rfl _ _ _ rfl _ 72 i0 (.agg #[.int .i64 0,.int .i64 0]) 2 16 Try.underlying23 hi.out Hhz0.out Hhz1.out Hhz2.out rfl (by omega) (.slice a es.length c) es.length (es.flatMap Zah) rfl HR.out (.slice a2 es2.length c2) es2.length (es2.flatMap Zah) rfl HSl.out Zhy (by unfold maxLen;omega) (by omega) HSA.out.size ?_;intro a6 c6 w6 hown6 hgrow6 hat6;have hSz:=(HSA.out.appS 2 rfl hown6 hgrow6 hat6).pick [0,1,2] (by decide);rw[← List.flatMap_append,← List.length_append] at hSz;have HSz:=qh hSz;rw[← List.length_append];clear hown6 hgrow6 hat6 hSz;obtain⟨E,hEE⟩:=eI (es++es2);obtain⟨pz,hpp⟩:=eI p8;obtain⟨wz,hwz⟩:∃ wz:World,wz=w6:=⟨_,rfl⟩;have hEl:E.length+1≤FL (d+1):=(by rw[hEE,List.length_append];unfold FL;omega);have hpz:pz≤p+FG (d+1):=(by rw[hpp];unfold FG;omega);have hEs:E.length≤100:=(by rw[hEE,List.length_append];omega);rw[← hEE,← hwz,← hpp] at HSz;rw[← hEE,← hwz];have hSa:=HSz.out.alloc_ (.cells #[.int .i64 kv,.int .i64 0] 72);have HRz:=qh (hSa.row 2 rfl);have HSa:=qh hSa;have HhEE:=qh hEE;clear hEE;have Hhpp:=qh hpp;clear hpp;have Hhwz:=qh hwz;clear hwz;clear hSa HSz)|(at_builtin;refine wpList_append_lies _ rfl _ _ _ rfl _ 72 i0 (.agg #[.int .i64 0,.int .i64 0]) 2 16 Try.underlying23 hi.out Hhz0.out Hhz1.out Hhz2.out rfl (by omega) _ E.length _ rfl HRz.out ⟨wz.heap.size,0,none⟩ 1 1 [.int .i64 kv,.int .i64 0] rfl rfl (World.news_of_block (heap_alloc_new wz _)) Zd9 (by omega) (by unfold maxLen;omega) (by omega) HSa.out.size _ rfl ?_;intro g7 c7 w7 hown7 hgrow7 hat7 hlt7;have HSf:=qh (HSa.out.app 2 rfl hown7 hgrow7 hat7);clear hown7 hgrow7 hat7 hlt7))
   go_ret;refine⟨some ⟨g7,0,none⟩,c7,E++[(kv,0)],pz,(by simp),by rw[List.length_append];exact hEl,hpz,by rw[List.length_append];rfl,?_⟩;unfold ZcB;rw[List.length_append,List.flatMap_append];exact HSf.out
def txB (l:List Nat):ByteArray:=⟨(l.map UInt8.ofNat).toArray⟩
def isT (l:List Nat):Prop:=∀ b∈l,b<256
theorem Zba (l:List Nat):(txB l).size=l.length:=by simp[txB,ByteArray.size]
theorem Zbg {l:List Nat} {i:Nat} (hi:i<l.length):l.getD i 0∈l:=by rw[List.getD_eq_getElem?_getD,List.getElem?_eq_getElem hi];exact List.getElem_mem hi
theorem Zlo {l:List Nat} {i:Nat} (hi:i<l.length) (ht:isT l) (h:i<(txB l).size):(((txB l)[i]'h).toNat:Int)=(l.getD i 0:Nat):=by
 have hc:l.getD i 0<256:=ht _ (Zbg hi);have e:(txB l)[i]'h=UInt8.ofNat (l.getD i 0):=by show(txB l).data[i]=_;simp[txB,hi]
 rw[e,UInt8.toNat_ofNat'];omega
theorem Zcg {l:List Nat} {i:Nat} (hi:i<l.length) (ht:isT l) (w:World):(Instr.index 9 (.string (txB l)) (.int .i64 (i:Int))).run Try.prog w = .ok (.int .u8 ((l.getD i 0:Nat):Int)) w:=by have hs:(txB l).size=l.length:=Zba l;rw[run_index_string w 9 (txB l) .i64 i Try.underlying9,dif_pos (by omega)];congr 2;exact Zlo hi ht _
def okT (l:List Nat) (k:Nat):Bool:=(List.range k).all fun i=>inB ((l.getD i 0:Nat):Int) 97 99
def wdOk (l:List Nat):Bool:=okT l l.length&&decide (l.length≤8)
theorem ZdR {l:List Nat} {k:Nat} (h:okT l k=true) (h1:inB ((l.getD k 0:Nat):Int) 97 99=true):okT l (k+1)=true:=Zh8 h h1
theorem Zi4 {l:List Nat} {k:Nat} (hk:k<l.length) (h1:inB ((l.getD k 0:Nat):Int) 97 99=false):wdOk l=false:=by
 unfold wdOk okT;have:((List.range l.length).all fun i=>inB ((l.getD i 0:Nat):Int) 97 99)=false:=by rw[List.all_eq_false];exact⟨k,List.mem_range.2 hk,by rw[h1];simp⟩
 rw[this];rfl
theorem ZeJ (l:List Nat) (w:World) (ht:isT l) (hl:l.length≤2000000) (r:Bool) (hr:wdOk l=r) :
  Calls Try.prog 97 #[.string (txB l),.int .i64 8] w fun e w'=>e = .returned (.bool r)∧w=w':=by
 have hs:(txB l).size=l.length:=Zba l;replace hr:=qh hr;have Hht:=qh ht;clear ht
 go_enter Try.func97, Try.ntmps97
 go_wp2
 go_loopw [8] (fun i wr=>∃ k:Nat,i = .int .i64 k∧k≤l.length∧okT l k=true∧w=wr) (fun i _=>l.length-(intOf i).toNat)
 case atStart=>exact⟨0,rfl,Nat.zero_le _,rfl,rfl⟩
 case round =>
  obtain⟨k,rfl,hk,hok,rfl⟩:=hrel;by_cases hlt:k<l.length
  ·have hkl:(k:Int)<l.length:=by omega
   have hrun:=Zcg hlt Hht.out;have hb:=Hht.out _ (Zbg hlt);obtain⟨c,hcc⟩:=eI (l.getD k 0);rw[← hcc] at hrun hb;have hw9:IntKind.i64.wrap (c:Int)=(c:Int):=IntWalk.i64_in _ (by omega);have Hhok:=qh hok;clear hok;replace hcc:=qh hcc;cases hin:inB (c:Int) 97 99
   ·have Hhin:=qh hin;clear hin;go_wp2_with (go_at_call 48;refine(ZaG _ _ _ _ _ Hhin.out).mono ?_;rintro e w' ⟨rfl,rfl⟩);go_ret;exact⟨by rw[← hr.out,Zi4 hlt (by rw[← hcc.out];exact Hhin.out)];rfl,rfl⟩
   have Hhin:=qh hin;clear hin;go_wp2_with (go_at_call 48;refine(ZaG _ _ _ _ _ Hhin.out).mono ?_;rintro e w' ⟨rfl,rfl⟩);go_roundw
   case rel=>exact⟨k+1,by go_num,by omega,ZdR Hhok.out (by rw[← hcc.out];exact Hhin.out),trivial⟩
   case measure=>simp[intOf];omega
  obtain rfl:k=l.length:=by omega
  have hrr:decide ((l.length:Int)≤8)=r:=by rw[← hr.out];unfold wdOk;rw[hok,Bool.true_and];exact decide_eq_decide.2 (by omega)
  have Hhok:=qh hok;clear hok;have Hhrr:=qh hrr;clear hrr;go_wp2;go_ret;exact⟨by rw[← Hhrr.out];rfl,rfl⟩
theorem Zbl (l:List Nat) (w:World) (ht:isT l) (hl:l.length≤2000000) (r:Bool) (hr:wdOk l=r) :
  Calls Try.prog 53 #[.string (txB l)] w fun e w'=>e = .returned (.bool r)∧w=w':=by
 replace hr:=qh hr;have Hht:=qh ht;clear ht
 go_enter Try.func53, Try.ntmps53
 go_wp2_with (go_at_call 97;refine(ZeJ l _ Hht.out hl _ hr.out).mono ?_;rintro e w' ⟨rfl,rfl⟩);go_ret;exact⟨rfl,rfl⟩
theorem Zbi (l:List Nat) (w:World) (ht:isT l) (hl:l.length≤2000000) (r:Bool) (hr:wdOk l=r) :
  Calls Try.prog 26 #[.string (txB l)] w fun e w'=>e = .returned (.bool r)∧w=w':=by
 have hs:(txB l).size=l.length:=Zba l;replace hr:=qh hr;have Hht:=qh ht;clear ht
 go_enter Try.func26, Try.ntmps26
 go_wp2
 go_loopw [3] (fun i wr=>∃ k:Nat,i = .int .i64 k∧k≤l.length∧okT l k=true∧w=wr) (fun i _=>l.length-(intOf i).toNat)
 case atStart=>exact⟨0,rfl,Nat.zero_le _,rfl,rfl⟩
 case round =>
  obtain⟨k,rfl,hk,hok,rfl⟩:=hrel;by_cases hlt:k<l.length
  ·have hkl:(k:Int)<l.length:=by omega
   have hrun:=Zcg hlt Hht.out;have hb:=Hht.out _ (Zbg hlt);obtain⟨c,hcc⟩:=eI (l.getD k 0);rw[← hcc] at hrun hb;have hw9:IntKind.i64.wrap (c:Int)=(c:Int):=IntWalk.i64_in _ (by omega);have Hhok:=qh hok;clear hok;replace hcc:=qh hcc;cases hin:inB (c:Int) 97 99
   ·have Hhin:=qh hin;clear hin;go_wp2_with (go_at_call 80;refine(ZaA _ _ _ _ _ Hhin.out).mono ?_;rintro e w' ⟨rfl,rfl⟩);go_ret;exact⟨by rw[← hr.out,Zi4 hlt (by rw[← hcc.out];exact Hhin.out)];rfl,rfl⟩
   have Hhin:=qh hin;clear hin;go_wp2_with (go_at_call 80;refine(ZaA _ _ _ _ _ Hhin.out).mono ?_;rintro e w' ⟨rfl,rfl⟩);go_roundw
   case rel=>exact⟨k+1,by go_num,by omega,ZdR Hhok.out (by rw[← hcc.out];exact Hhin.out),trivial⟩
   case measure=>simp[intOf];omega
  obtain rfl:k=l.length:=by omega
  have hrr:decide ((l.length:Int)≤8)=r:=by rw[← hr.out];unfold wdOk;rw[hok,Bool.true_and];exact decide_eq_decide.2 (by omega)
  have Hhok:=qh hok;clear hok;have Hhrr:=qh hrr;clear hrr;go_wp2;go_ret;exact⟨by rw[← Hhrr.out];rfl,rfl⟩
theorem ZcV (l:List Nat) (i:Nat) (hi:i<l.length) (ht:isT l) (hlo:97≤l.getD i 0) (w:World):Calls Try.prog 93 #[.string (txB l),.int .i64 i] w fun e w'=>e = .returned (.int .i64 ((l.getD i 0-97:Nat):Int))∧w=w':=by
 have hb:=ht _ (Zbg hi);have hrun:=Zcg hi ht;obtain⟨c,hcc⟩:=eI (l.getD i 0-97);have hc2:((l.getD i 0:Nat):Int)=97+(c:Int):=by omega
 rw[hc2] at hrun;rw[← hcc]
 have hw8:IntKind.u8.wrap (97+(c:Int)-97)=(c:Int):=by
  have:97+(c:Int)-97=(c:Int):=by omega
  rw[this];exact IntWalk.u8_in _ (by omega)
 have hw9:IntKind.i64.wrap (c:Int)=(c:Int):=IntWalk.i64_in _ (by omega);replace hcc:=qh hcc;clear hc2 hlo hb
 go_enter Try.func93, Try.ntmps93
 go_wp2;go_ret;exact⟨rfl,rfl⟩
def shF:Nat→Nat
 | 0=>0
 | k+1=>shF k+3 ^ k
theorem ZiT {k:Nat} (h:k≤9):3 ^ k≤19683:=Nat.pow_le_pow_right (by omega) h
theorem ZkE:∀ k,shF k≤3 ^ k
 | 0=>by decide
 | k+1=>by show shF k+3 ^ k≤3 ^ (k+1);have:=ZkE k;rw[Nat.pow_succ];omega
theorem ZgI (n:Nat) (w:World) (hn:n≤9):Calls Try.prog 127 #[.int .i64 n] w fun e w'=>e = .returned (.int .i64 ((3 ^ n:Nat):Int))∧w=w':=by
 go_enter Try.func127, Try.ntmps127
 go_wp2
 go_loopw [3,5] (fun p i wr=>∃ k q:Nat,i = .int .i64 k∧p = .int .i64 q∧k≤n∧3 ^ k=q∧w=wr) (fun _ i _=>n-(intOf i).toNat)
 case atStart=>exact⟨0,1,rfl,rfl,Nat.zero_le _,rfl,rfl⟩
 case round =>
  obtain⟨k,q,rfl,rfl,hk,hq,rfl⟩:=hrel;have hq2:=ZiT (k:=k) (by omega);rw[hq] at hq2;by_cases hlt:k<n
  ·have hkl:(k:Int)<n:=by omega
   replace hq:=qh hq;go_wp2;go_roundw
   case rel=>exact⟨k+1,q*3,by go_num,by go_num,by omega,by rw[Nat.pow_succ,hq.out],trivial⟩
   case measure=>simp[intOf];omega
  obtain rfl:k=n:=by omega
  replace hq:=qh hq;go_wp2;go_ret;exact⟨by rw[hq.out];rfl,rfl⟩
theorem ZgN (n:Nat) (w:World) (hn:n≤9):Calls Try.prog 94 #[.int .i64 n] w fun e w'=>e = .returned (.int .i64 ((shF n:Nat):Int))∧w=w':=by
 go_enter Try.func94, Try.ntmps94
 go_wp2
 go_loopw [3,6] (fun p i wr=>∃ k q:Nat,i = .int .i64 k∧p = .int .i64 q∧k≤n∧shF k=q∧w=wr) (fun _ i _=>n-(intOf i).toNat)
 case atStart=>exact⟨0,0,rfl,rfl,Nat.zero_le _,rfl,rfl⟩
 case round =>
  obtain⟨k,q,rfl,rfl,hk,hq,rfl⟩:=hrel;have hq2:=ZiT (k:=k) (by omega);have hq3:=ZkE k;rw[hq] at hq3;obtain⟨t,hT⟩:=eJ (3 ^ k);rw[hT] at hq2 hq3;by_cases hlt:k<n
  ·have hkl:(k:Int)<n:=by omega
   replace hq:=qh hq;replace hT:=qh hT;go_wp2_with (go_at_call 127;refine(ZgI k _ (by omega)).mono ?_;rintro e w' ⟨rfl,rfl⟩;rw[hT.out]);go_roundw
   case rel=>exact⟨k+1,q+t,by go_num,by go_num,by omega,by rw[← hq.out,← hT.out];rfl,trivial⟩
   case measure=>simp[intOf];omega
  obtain rfl:k=n:=by omega
  replace hq:=qh hq;replace hT:=qh hT;go_wp2;go_ret;exact⟨by rw[hq.out];rfl,rfl⟩
theorem Zh7 (w:World):Calls Try.prog 46 #[.string { data:=#[97,98] }] w fun e w'=>e = .returned (.int .i64 5)∧w=w':=by
 have hab:({ data:=#[97,98] }:ByteArray)=txB [97,98]:=rfl;have hab2:isT [97,98]:=fun b hb=>by simp at hb;omega
 have hsz:(txB [97,98]).size=2:=rfl;have l0:=fun w=>ZcV [97,98] 0 (by decide) hab2 (by decide) w
 have l1:=fun w=>ZcV [97,98] 1 (by decide) hab2 (by decide) w
 have sh:∀ w,Calls Try.prog 94 #[.int .i64 2] w fun e w'=>e = .returned (.int .i64 4)∧w=w':=fun w=>ZgN 2 w (by omega)
 have hv:=fun w=>Zbl [97,98] w hab2 (by decide) true rfl
 rw[hab];have L0:=qh l0;have L1:=qh l1;have Sh:=qh sh;have Hv:=qh hv;clear l0 l1 sh hab hab2 hv
 go_enter Try.func46, Try.ntmps46
 go_wp2_with (go_at_call 53;refine(Hv.out _).mono ?_;rintro e w' ⟨rfl,rfl⟩)
 go_loopw [3,10] (fun n i wr=>∃ k q:Nat,i = .int .i64 k∧n = .int .i64 q∧k≤2∧q≤1∧(k<2→q=0)∧(k=2→q=1)∧w=wr) (fun _ i _=>2-(intOf i).toNat)
 case atStart=>exact⟨0,0,rfl,rfl,by omega,by omega,fun _=>rfl,fun h=>by omega,rfl⟩
 case round =>
  obtain⟨k,q,rfl,rfl,hk,hq1,hq2,hq3,rfl⟩:=hrel;obtain rfl|rfl|rfl:k=0∨k=1∨k=2:=by omega
  ·obtain rfl:=hq2 (by omega);clear hq1 hq2 hq3 hk;go_wp2_with (go_at_call 93;refine(L0.out _).mono ?_;rintro e w' ⟨rfl,rfl⟩);go_roundw
   case rel=>exact⟨1,0,rfl,rfl,by omega,by omega,fun _=>rfl,fun h=>by omega,trivial⟩
   case measure=>simp[intOf]
  ·obtain rfl:=hq2 (by omega);clear hq1 hq2 hq3 hk;go_wp2_with (go_at_call 93;refine(L1.out _).mono ?_;rintro e w' ⟨rfl,rfl⟩);go_roundw
   case rel=>exact⟨2,1,rfl,rfl,by omega,by omega,fun h=>by omega,fun _=>rfl,trivial⟩
   case measure=>simp[intOf]
  obtain rfl:=hq3 rfl;clear hq1 hq2 hq3 hk;go_wp2_with (go_at_call 94;refine(Sh.out _).mono ?_;rintro e w' ⟨rfl,rfl⟩);go_ret;exact⟨rfl,rfl⟩
theorem ZjR (w:World):Calls Try.prog 10 #[] w fun e w'=>e = .returned (.bool true)∧w=w':=by
 go_enter Try.func10, Try.ntmps10
 go_wp2_with (go_at_call 46;refine(Zh7 _).mono ?_;rintro e w' ⟨rfl,rfl⟩);go_ret;exact⟨rfl,rfl⟩
theorem Zdi (u v:List Nat):txB u++txB v=txB (u++v):=by apply ByteArray.ext;simp[txB,ByteArray.data_append]
theorem ZiD (u:List Nat) {v:ByteArray} {l:List Nat} (hv:v=txB l):txB u++v=txB (u++l):=by rw[hv,Zdi]
theorem Zfg (c:Nat) (hc:c<3):strOfNums [97+(c:Int)]=txB [97+c]:=by
 obtain rfl|rfl|rfl:c=0∨c=1∨c=2:=by omega
 all_goals rfl
theorem Zkw (c:Nat) (hc:c<3) (w:World) (b cap:Nat) (h:w.cell? ⟨b,0,none⟩=some (.int .u8 (97+(c:Int)))) :
  (convert 22 9 (.slice (some ⟨b,0,none⟩) 1 cap)).run Try.prog w = .ok (.string (txB [97+c])) w:=by
 rw[← Zfg c hc]
 exact run_convert_bytes_arg w 22 5 Try.underlying22 Try.underlying5 b 0 1 cap [97+(c:Int)] rfl (fun i hi=>by
  obtain rfl:i=0:=by omega
  simpa using h) 9 Try.underlying9
theorem ZiA (c:Nat) (hc:c<3):IntKind.u8.wrap (97+(c:Int))=97+(c:Int):=by
 obtain rfl|rfl|rfl:c=0∨c=1∨c=2:=by omega
 all_goals rfl
theorem ZhY (u:List Nat) (v:ByteArray) (hu:u.length≤1000) (hv:v.size≤1000):(∀ w':World,(Op.stringOp .add (txB u) v).run Try.prog w' = .ok (.string (txB u++v)) w')∧¬ 9223372036854775807<(txB u).size+v.size:=by have h:=Zba u;exact⟨fun w'=>run_string_add_sum w' _ _ (by omega),by omega⟩
theorem Zfy {l:List Nat} {c:Nat} (h:isT l) (hc:c<256):isT (l++[c]):=fun b hb=>by
 rcases List.mem_append.1 hb with hb|hb
 ·exact h b hb
 rw[List.mem_singleton.1 hb];exact hc
theorem ZdI (bs:List Nat) (vb:Value) (b p n:Nat) (w0 w:World) (X:Ent) (hb:Bytes 0 w0 vb bs) (hlen:bs.length≤2000) (hp:p≤800000) (hn1:n≤10000) (hS:St w0 w [RdE b vb p,X]) :
  Calls Try.prog 47 #[.pointer (some ⟨b,0,none⟩),.int .i64 ((n:Nat):Int)] w fun e w'=>∃ (l:List Nat) (p':Nat),isT l∧l.length≤10∧p'≤p+20∧e = .returned (.string (txB l))∧St w0 w' [RdE b vb p',X]:=by
 have Hb:=qh hb;have HS:=qh hS;clear hb hS
 go_enter Try.func47, Try.ntmps47
 go_wp2_with fail;refine(Zar bs vb b p 9 w0 _ _ Hb.out hlen (by omega) (by omega) (by omega) HS.out).mono ?_;rintro e w1 ⟨k0,hk0,rfl,hS1⟩;have HS1:=qh hS1;clear hS1;go_wp2
 go_loopw [5,6] (fun vs vk wr=>∃ (k pq:Nat) (l:List Nat),vk = .int .i64 k∧vs = .string (txB l)∧l.length+k≤8∧pq+k≤p+9∧isT l∧St w0 wr [RdE b vb pq,X])
  (fun _ vk _=>(intOf vk).toNat)
 case atStart=>exact⟨k0,p+1,[],rfl,rfl,by simp;omega,by omega,(fun b hb=>by cases hb),HS1.out⟩
 case round =>
  obtain⟨k,pq,l,rfl,rfl,hk,hpq,ht,hS⟩:=hrel;have HS2:=qh hS;have Ht:=qh ht;clear hS ht;by_cases hlt:0<k
  ·go_wp2_with fail;refine(Zar bs vb b pq 3 w0 _ _ Hb.out hlen (by omega) (by omega) (by omega) HS2.out).mono ?_;rintro e w2 ⟨c,hc,rfl,hS3⟩;have HS3:=qh (hS3.alloc_ (.cells #[.int .u8 (97+(c:Int))] 5));have hw1:IntKind.i64.wrap (97+(c:Int))=97+(c:Int):=IntWalk.i64_in _ (by omega);have hw2:=ZiA c hc;have hcv:=Zkw c hc (w2.alloc (.cells #[.int .u8 (97+(c:Int))] 5)) w2.heap.size 1 (Zfc _ _ _ 0);obtain⟨hadd,hnlt⟩:=ZhY l (txB [97+c]) (by omega) (by rw[Zba];simp);clear hS3;go_wp2;go_roundw
   case rel =>refine⟨k-1,pq+1,l++[97+c],by congr 1;omega,by rw[Zdi],by rw[List.length_append];simp;omega,by omega,Zfy Ht.out (by omega),HS3.out⟩
   case measure=>simp[intOf];omega
  have hz:((0:Int)<(k:Int))=False:=by simp;omega
  have hz2:(0<k)=False:=by simp;omega
  clear hlt;go_wp2_with fail;refine(Zfr bs vb b pq n w0 _ _ Hb.out hlen (by omega) hn1 HS2.out).mono ?_;rintro e w2 ⟨q,p2,hp2,rfl,hS3⟩;have HS3:=qh hS3;clear hS3;cases q
  ·go_wp2;go_ret;exact⟨l,p2,Ht.out,by omega,by omega,rfl,HS3.out⟩
  obtain⟨hadd1,hnlt1⟩:=ZhY l { data:=#[100] } (by omega) (by decide);obtain⟨hadd2,hnlt2⟩:=ZhY l { data:=#[65] } (by omega) (by decide);obtain⟨u1,hu1⟩:∃ u1,u1=txB l++{ data:=#[100] }:=⟨_,rfl⟩;obtain⟨u2,hu2⟩:∃ u2,u2=txB l++{ data:=#[65] }:=⟨_,rfl⟩;rw[← hu1] at hadd1;rw[← hu2] at hadd2;have he1:u1=txB (l++[100]):=by rw[hu1];exact ZiD l rfl
  have he2:u2=txB (l++[65]):=by rw[hu2];exact ZiD l rfl
  have HS4:=qh (HS3.out.alloc _ rfl #[.string u1,.string u2,.string { data:=#[97,97,97,97,97,97,97,97,97] }] 9);replace hu1:=qh hu1;have Hhu2:=qh hu2;clear hu2;replace he1:=qh he1;have Hhe2:=qh he2;clear he2;go_wp2_with fail;refine(Zar bs vb b p2 3 w0 _ _ Hb.out hlen (by omega) (by omega) (by omega) (St.pack (A:=[RdE b vb p2]) (R:=[X,Ent.box w2.heap.size #[.string u1,.string u2,.string { data:=#[97,97,97,97,97,97,97,97,97] }] 9]) HS4.out)).mono ?_;rintro e w5 ⟨j,hj,rfl,hSp⟩;have HS5:=qh (St.unpack (A:=[RdE b vb p2]) (A':=[RdE b vb (p2+1)]) (R:=[X,Ent.box w2.heap.size #[.string u1,.string u2,.string { data:=#[97,97,97,97,97,97,97,97,97] }] 9]) HS4.out hSp);have c0:=HS5.out.cell (v:=.string u1) 2 0 rfl rfl;have c1:=HS5.out.cell (v:=.string u2) 2 1 rfl rfl;have c2:=HS5.out.cell (v:=.string { data:=#[97,97,97,97,97,97,97,97,97] }) 2 2 rfl rfl;clear hSp;obtain rfl|rfl|rfl:j=0∨j=1∨j=2:=by omega
  ·go_wp2;go_ret;exact⟨l++[100],p2+1,Zfy Ht.out (by omega),by rw[List.length_append];simp;omega,by omega,by rw[he1.out];rfl,HS5.out.pick [0,1] (by decide)⟩
  ·go_wp2;go_ret;exact⟨l++[65],p2+1,Zfy Ht.out (by omega),by rw[List.length_append];simp;omega,by omega,by rw[Hhe2.out];rfl,HS5.out.pick [0,1] (by decide)⟩
  go_wp2;go_ret;exact⟨[97,97,97,97,97,97,97,97,97],p2+1,(fun b hb=>by simp at hb;omega),by decide,by omega,rfl,HS5.out.pick [0,1] (by decide)⟩
theorem Zg5 (bs:List Nat) (vb:Value) (b p n:Nat) (w0 w:World) (X:Ent) (hb:Bytes 0 w0 vb bs) (hlen:bs.length≤2000) (hp:p≤10000) (hn1:n≤10000) (hS:St w0 w [RdE b vb p,X]) :
  Calls Try.prog 47 #[.pointer (some ⟨b,0,none⟩),.int .i64 ((n:Nat):Int)] w fun e w'=>∃ (l:List Nat) (p':Nat),isT l∧l.length≤10∧e = .returned (.string (txB l))∧St w0 w' [RdE b vb p',X] :=
 (ZdI bs vb b p n w0 w X hb hlen (by omega) hn1 hS).mono fun _ _ ⟨l,p',h1,h2,_,h4,h5⟩=>⟨l,p',h1,h2,h4,h5⟩
theorem Zgx (bs:List Nat) (v:Value) (w:World) (hb:Bytes 0 w v bs) (hlen:bs.length≤100000000) :
  Calls Try.prog 11 #[v] w fun e w'=>∃ l:List Nat,isT l∧l.length≤10∧e = .returned (.string (txB l))∧Below w.heap.size w w':=by
 have Hb:=qh hb;clear hb
 go_enter Try.func11, Try.ntmps11
 go_wp2_with fail;refine(Zj8 bs v _ Hb.out hlen).mono ?_;rintro e w1 ⟨vb,bs',hl',hB,rfl,hS'⟩;have HB:=qh hB;have HS1:=qh hS';clear hB hS';go_wp2_with fail;refine(Zg5 bs' vb w.heap.size 0 9 w w1 _ HB.out hl' (by omega) (by omega) (St.pack (A:=[RdE w.heap.size vb 0]) (R:=[]) HS1.out)).mono ?_;rintro e w2 ⟨l,p',ht,hl,rfl,hS2⟩;have HS2:=qh hS2;have Ht:=qh ht;clear hS2 ht;go_wp2;go_ret;exact⟨l,Ht.out,hl,rfl,HS2.out.bel⟩
def BoolSS (B:Nat) (w:World) (v:Value) (xss:List (List Bool)):Prop :=
 ∃ vs:List Value,Sl B w v xss.length 1 vs∧∀ i,i<xss.length→Bools B w (vs.getD i undef) (xss.getD i [])
theorem BoolSS.below {B:Nat} {w w':World} {v:Value} {xss:List (List Bool)} (h:BoolSS B w v xss) (he:Below w.heap.size w w'):BoolSS B w' v xss:=by obtain⟨vs,h1,h2⟩:=h;exact⟨vs,h1.below he,fun i hi=>(h2 i hi).below he⟩
theorem BoolSS.form {B:Nat} {w:World} {v:Value} {xss:List (List Bool)} (h:BoolSS B w v xss):∃ a cap,v = .slice a xss.length cap∧xss.length≤cap∧cap≤9223372036854775807 ∧
  (0<xss.length→∃ b off,a=some ⟨b,off,none⟩∧b<w.heap.size∧∀ i,i<xss.length→∃ a' cap',w.cell? ⟨b,off+i,none⟩=some (.slice a' (xss.getD i []).length cap')∧Bools B w (.slice a' (xss.getD i []).length cap') (xss.getD i [])):=by
 obtain⟨vs,⟨hl,a,cap,hv,h1,h2,h3⟩,hr⟩:=h;refine⟨a,cap,hv,h1,h2,fun hn => ?_⟩;obtain⟨b,off,ha,hb,hlt,hc⟩:=h3 hn;refine⟨b,off,ha,hlt,fun i hi => ?_⟩;obtain⟨a',cap',hv',-⟩:=(hr i hi).form;refine⟨a',cap',?_,?_⟩
 ·rw[hc i (by omega),← hv'];simp at hl;simp[show i<vs.length by omega]
 rw[← hv'];exact hr i hi
theorem St.boolSS {w0 w:World} {L:List Ent} (h:St w0 w L) (i:Nat) {es e:Nat} {v:Value} {vs:List Value} {xss:List (List Bool)} (hx:L[i]? = some (Ent.rows es e v vs (xss.map boolCells))):BoolSS 0 w v xss:=by
 obtain⟨p1,p2,-⟩:=h.rows i hx;rw[List.length_map] at p1 p2;refine⟨vs,((Zaa p1).sl (by omega)).mono (Nat.zero_le _),fun i hi => ?_⟩;have:=p2 i hi;have e1:(xss.map boolCells).getD i []=boolCells (xss.getD i []):=by simp[hi]
 rw[e1] at this;have:=((Zaa this).sl (by omega)).mono (Nat.zero_le _);simpa [Bools] using this
theorem St.bools {w0 w:World} {L:List Ent} (h:St w0 w L) (i:Nat) {e:Nat} {v:Value} {xs:List Bool} {n:Nat} (hx:L[i]? = some (Ent.row e 1 v n (boolCells xs))):Bools 0 w v xs:=by
 have hr:=h.row i hx;have e1:n=xs.length:=by have:=hr.1;simp at this;omega
 subst e1;exact((Zaa hr).sl (by omega)).mono (Nat.zero_le _)
theorem St.intsR {w0 w:World} {L:List Ent} (h:St w0 w L) (i:Nat) {e:Nat} {v:Value} {xs:List Int} {n:Nat} (hx:L[i]? = some (Ent.row e 1 v n (intCells xs))):Ints 0 w v xs:=by
 have hr:=h.row i hx;have e1:n=xs.length:=by have:=hr.1;simp at this;omega
 subst e1;exact((Zaa hr).sl (by omega)).mono (Nat.zero_le _)
theorem ZgG {w:World} {B e n:Nat} {v:Value} {xs:List Bool} (hr:w.ownsRow B e 1 v n (boolCells xs)):Bools 0 w v xs:=by
 have e1:n=xs.length:=by have:=hr.1;simp at this;omega
 subst e1;exact((Zaa hr).sl (by omega)).mono (Nat.zero_le _)
theorem ZaB {w:World} {B e n:Nat} {v:Value} {xs:List Bool} (hr:w.ownsRow B e 1 v n (boolCells xs)):Bools B w v xs:=by
 have e1:n=xs.length:=by have:=hr.1;simp at this;omega
 subst e1;exact(Zaa hr).sl (by omega)
theorem Zei {w:World} {B e n:Nat} {v:Value} {xs:List Int} (hr:w.ownsRow B e 1 v n (intCells xs)):Ints 0 w v xs:=by
 have e1:n=xs.length:=by have:=hr.1;simp at this;omega
 subst e1;exact((Zaa hr).sl (by omega)).mono (Nat.zero_le _)
theorem St.rowAt {w0 w:World} {L:List Ent} (h:St w0 w L) (i:Nat) {es e g n cap:Nat} {vs:List Value} {css:List (List Value)} (hx:L[i]? = some (Ent.rows es e (.slice (some ⟨g,0,none⟩) n cap) vs css)) (hn:css.length=n) {k:Nat} (hk:k<n) :
  ∃ a c,w.cell? ⟨g,k,none⟩=some (.slice a (css.getD k []).length c)∧w.ownsRow w0.heap.size e 1 (.slice a (css.getD k []).length c) (css.getD k []).length (css.getD k [])∧(css.getD k []).length≤c∧c≤9223372036854775807∧n≤cap∧cap≤9223372036854775807∧g<w.heap.size:=by
 obtain⟨p1,p2,-⟩:=h.rows i hx;subst hn;have hv:vs.length=css.length:=by have:=p1.1;omega
 have h2:=p2 k hk;have hc:=p1.cellAt k (by omega);have hgl:=(p1.lt g rfl).2
 obtain⟨a,c,hva,h3,h4⟩:∃ a c,vs.getD k undef = .slice a (css.getD k []).length c∧(css.getD k []).length≤c∧c≤9223372036854775807:=by
  rcases h2.2 with⟨h5,h6⟩|⟨g',cap',cur,h5,-,-,h6,h7,-⟩
  ·exact⟨none,0,by rw[h5,h6],by omega,by omega⟩
  exact⟨_,_,h5,h6,h7⟩
 rw[hva] at h2;refine⟨a,c,?_,h2,h3,h4,?_⟩
 ·rw[hc,← hva];simp[show k<vs.length by omega]
 rcases p1.2 with⟨h5,-⟩|⟨g',cap',cur,h5,-,-,h6,h7,-⟩
 ·cases h5
 simp only[Value.slice.injEq,true_and] at h5;obtain⟨-,rfl⟩:=h5;exact⟨h6,h7,hgl⟩
theorem Zik (xs ys:List Bool) (n:Nat) (v1 v2:Value) (w:World) (hx:xs.length=n) (hy:ys.length=n) (h1:Bools 0 w v1 xs) (h2:Bools 0 w v2 ys) (r:Bool) (hr:decide (xs=ys)=r) :
  Calls Try.prog 167 #[v1,v2] w fun e w'=>e = .returned (.bool r)∧Below w.heap.size w w':=by
 obtain⟨a1,c1,rfl,hc1,hm1,hr1⟩:=h1.form;obtain⟨a2,c2,rfl,hc2,hm2,hr2⟩:=h2.form;rw[hx] at hc1 hr1;rw[hy] at hc2 hr2;rw[hx,hy];replace hx:=qh hx;have Hhy:=qh hy;clear hy;replace hr:=qh hr;clear h1 h2
 go_enter Try.func167, Try.ntmps167
 go_wp2
 go_loopw [4,5] (fun r i wr=>∃ k:Nat,k≤n∧i = .int .i64 k∧xs.take k=ys.take k∧Below w.heap.size w wr) (fun _ i _=>n-(intOf i).toNat)
 case atStart=>exact⟨0,Nat.zero_le _,rfl,rfl,Below.refl _ _⟩
 case round =>
  obtain⟨k,hk,rfl,htk,hb⟩:=hrel;have Hhtk:=qh htk;clear htk;by_cases hlt:k<n
  ·obtain⟨b1,o1,rfl,-,hbl1,hcs1⟩:=hr1 (by omega);obtain⟨b2,o2,rfl,-,hbl2,hcs2⟩:=hr2 (by omega);have k1:=(bcell hb b1 (o1+k) hbl1).trans (hcs1 k hlt);have k2:=(bcell hb b2 (o2+k) hbl2).trans (hcs2 k hlt);obtain⟨p,hp⟩:=eI (xs.getD k false);obtain⟨q,hq⟩:=eI (ys.getD k false);rw[← hp] at k1;rw[← hq] at k2;replace hp:=qh hp;have Hhq:=qh hq;clear hq;replace hb:=qh hb;clear hcs1 hcs2 hr1 hr2;by_cases hpq:p=q
   ·have g1:(p != q)=false:=by simpa using hpq
    have g2:(!(p==q))=false:=by simpa using hpq
    have Hhpq:=qh hpq;clear hpq;go_wp2
    go_quiet (fail)
    go_wp2;go_roundw
    case rel=>exact⟨k+1,by omega,by go_num,ZdC (d:=false) (by rw[hx.out];exact hlt) (by rw[Hhy.out];exact hlt) Hhtk.out (by rw[← hp.out,← Hhq.out];exact Hhpq.out),below_drewN hb.out _⟩
    case measure=>simp[intOf];omega
   have g1:(p != q)=true:=by simpa using hpq
   have g2:(!(p==q))=true:=by simpa using hpq
   have Hhpq:=qh hpq;clear hpq;go_wp2
   go_quiet (fail)
   go_wp2;go_ret;exact⟨by rw[← hr.out,decide_eq_false (ZeV (k:=k) (d:=false) (by rw[← hp.out,← Hhq.out];exact Hhpq.out))];rfl,below_drewN hb.out _⟩
  obtain rfl:k=n:=by omega
  replace hb:=qh hb;clear hr1 hr2;go_wp2;go_ret;refine⟨?_,hb.out⟩;have h:=Hhtk.out;rw[List.take_of_length_le (by rw[hx.out];exact Nat.le_refl _),List.take_of_length_le (by rw[Hhy.out];exact Nat.le_refl _)] at h;rw[← hr.out,decide_eq_true h];rfl
def ZfF (S:List (List Bool)) (x:List Bool):Int:=if x∈S then(Zad S x:Int) else -1
theorem ZhI {S:List (List Bool)} {x:List Bool} {k:Nat} (hk:k<S.length) (hn:x ∉ S.take k) (h:S.getD k []=x):ZfF S x=(k:Int):=by
 have hm:x∈S:=by rw[← h];exact memD hk
 have hp:S.take k++[x] <+: S:=by rw[← h,show S.getD k []=S[k] from by simp[hk],← List.take_succ_eq_append_getElem hk];exact List.take_prefix _ _
 have hi:=ZdT hp hn;unfold ZfF;rw[if_pos hm,hi];simp;omega
theorem Ze8 {S:List (List Bool)} {x:List Bool} (h:x ∉ S):ZfF S x = -1:=by unfold ZfF;rw[if_neg h]
theorem Zff {α:Type} {S:List α} {k:Nat} (hk:k<S.length) (x:α) {d:α} (h:x∈S.take (k+1)):x∈S.take k∨x=S.getD k d:=by
 rw[List.take_succ_eq_append_getElem hk,List.mem_append,List.mem_singleton] at h;rcases h with h|h
 ·exact Or.inl h
 right;rw[h];simp[hk]
theorem Zil (S:List (List Bool)) (x:List Bool) (n:Nat) (v1 v2:Value) (w:World) (hS:∀ y∈S,y.length=n) (hx:x.length=n) (hl:S.length≤1000000) (h1:BoolSS 0 w v1 S) (h2:Bools 0 w v2 x) :
  Calls Try.prog 166 #[v1,v2] w fun e w'=>e = .returned (.int .i64 (ZfF S x))∧Below w.heap.size w w':=by
 obtain⟨a1,c1,rfl,hc1,hm1,hr1⟩:=h1.form;have H2:=qh h2;obtain⟨a2,c2,rfl,hc2,hm2,-⟩:=h2.form;replace hS:=qh hS;have Hhx:=qh hx;clear hx;clear h1 h2
 go_enter Try.func166, Try.ntmps166
 go_wp2
 go_loopw [4,5] (fun r i wr=>∃ k:Nat,k≤S.length∧i = .int .i64 k∧x ∉ S.take k∧Below w.heap.size w wr) (fun _ i _=>S.length-(intOf i).toNat)
 case atStart=>exact⟨0,Nat.zero_le _,rfl,by simp,Below.refl _ _⟩
 case round =>
  obtain⟨k,hk,rfl,htk,hb⟩:=hrel;have Hhtk:=qh htk;clear htk;by_cases hlt:k<S.length
  ·obtain⟨b1,o1,rfl,hbl1,hcs1⟩:=hr1 (by omega);obtain⟨a3,c3,k1,hrow⟩:=hcs1 k hlt;replace k1:=(bcell hb b1 (o1+k) hbl1).trans k1;have hrow':=hrow.below hb;have hyl:=hS.out _ (memD (d:=[]) hlt);have hin:=fun h=>Zff (d:=[]) hlt x h
   obtain⟨y,hy⟩:=eI (S.getD k []);rw[← hy] at k1 hrow' hyl hin;have Hhrow':=qh hrow';clear hrow';have Hhyl:=qh hyl;clear hyl;have Hhin:=qh hin;clear hin;have Hhy:=qh hy;clear hy;have Hhb:=qh hb;clear hb;clear hcs1 hr1 hrow;cases hd:decide (y=x)
   all_goals
    have Hhd:=qh hd;clear hd;go_wp2_with fail;refine(Zik y x n _ _ _ Hhyl.out Hhx.out Hhrow'.out (H2.out.below Hhb.out) _ Hhd.out).mono ?_;rintro e w2 ⟨rfl,hb2⟩;have hb3:=Hhb.out.trans (hb2.mono Hhb.out.size);have Hhb3:=qh hb3;clear hb3;clear hb2;go_wp2
   ·go_roundw
    case rel=>exact⟨k+1,by omega,by go_num,fun h=>by rcases Hhin.out h with h|h;exact Hhtk.out h;exact of_decide_eq_false Hhd.out h.symm,Hhb3.out⟩
    case measure=>simp[intOf];omega
   go_ret;exact⟨ZbQ (by rw[ZhI hlt Hhtk.out (by rw[← Hhy.out];exact of_decide_eq_true Hhd.out)]),Hhb3.out⟩
  obtain rfl:k=S.length:=by omega
  have Hhb:=qh hb;clear hb;clear hr1;go_wp2;go_ret;refine⟨ZbQ (by rw[Ze8];have h:=Hhtk.out;rwa [List.take_length] at h),Hhb.out⟩
end Go.Proofs.Ytfanhfcamblghaa
namespace Go.Proofs.Ytfanhfcamblghaa
open Go.RowKit Go.Maps
def fitI (x:Int):Prop:=-9223372036854775808≤x∧x≤9223372036854775807
theorem ZhH {x:Int} (h:fitI x):(Lit.int .i64 x).wf=true:=WalkArith.wf_i64 h
theorem Try.laidOut:laidOutB Try.prog=true:=by kernel_rfl
theorem Ze7:5+1≤10000:=by omega
def ZaD (p:Int × Int):Value:=.agg #[.int .i64 p.1,.int .i64 p.2]
theorem Za5:∀ x y:Int × Int,ZaD x=ZaD y→x=y:=by rintro⟨a,b⟩ ⟨c,d⟩ h;simp only[ZaD,Value.agg.injEq] at h;have h1:=congrArg (fun (l:Array Value)=>l[0]?) h;have h2:=congrArg (fun (l:Array Value)=>l[1]?) h;simp at h1 h2;rw[h1,h2]
theorem Zeg {P:Program} {t:TypeId} {D:Nat} {x:Int} (ht:P.underlying t=some (.int .i64)) (hx:fitI x):P.keyLits (D+1) t [.int .i64 x]=some [.int .i64 x]:=by unfold Program.keyLits;rw[ht];simp[ZhH hx]
end Go.Proofs.Ytfanhfcamblghaa
namespace Go.Proofs.Ytfanhfcamblghaa
open Go.RowKit Go.Maps
theorem Zef {P:Program} {t:TypeId} {D:Nat} {q:IntKind} {x:Int} (ht:P.underlying t=some (.int q)) (hx:(Lit.int q x).wf=true):P.keyLits (D+1) t [.int q x]=some [.int q x]:=by unfold Program.keyLits;rw[ht];simp[hx]
theorem Zjk {P:Program} {t e:TypeId} {q:IntKind} (hu:P.underlying t=some (.array 2 e)) (he:P.underlying e=some (.int q)) (hk:P.keyType t=true) (hc:P.cellsOf t=2) (hce:P.cellsOf e=1) (hrow:t<P.types.size)
  (x y:Int) (hx:(Lit.int q x).wf=true) (hy:(Lit.int q y).wf=true):∃ l,keyOf P t (.agg #[.int q x,.int q y])=some l:=by
 have hfm:(Value.agg #[.int q x,.int q y]).formed P t=true:=by simp[Value.formed,hu,hc]
 obtain⟨n,hn⟩:∃ n,P.types.size=n+1:=⟨P.types.size-1,(Nat.succ_pred_eq_of_pos (Nat.lt_of_le_of_lt (Nat.zero_le _) hrow)).symm⟩;have e1:=Zef (D:=n) he hx;have e2:=Zef (D:=n) he hy;have hlits:P.keyLits (P.types.size+1) t (Value.agg #[.int q x,.int q y]).cells.toList=some [.int q x,.int q y]:=by rw[hn];show P.keyLits (n+1+1) t [.int q x,.int q y]=_;unfold Program.keyLits;rw[hu];simp[hc,hce,List.range_succ,e1,e2]
 exact⟨_,by unfold keyOf;rw[hu];simp only[hk,hfm,Bool.and_self,if_true,hlits];rfl⟩
theorem Try.rowPr:(106:TypeId)<Try.prog.types.size:=of_decide_eq_true (by kernel_rfl)
theorem Try.widePr:(match Try.prog.underlying 106 with|some (.array _ _)|some (.struct _)=>true|_=>false)=true:=by kernel_rfl
theorem Try.keyPr:Try.prog.keyType 106 = true:=by kernel_rfl
theorem Try.keyAtPr:Try.prog.keyTypeAt 5 106 = true:=by kernel_rfl
theorem Try.cellsPr:Try.prog.cellsOf 106 = 2:=by kernel_rfl
theorem Try.cellsInt:Try.prog.cellsOf 3 = 1:=by kernel_rfl
theorem Try.kindPr:Try.prog.underlying 106 = some (.array 2 3):=by kernel_rfl
theorem Try.lawPr:Keyed Try.prog 106:=Keyed.of_law (deep_law_laid Try.laidOut Ze7 Try.rowPr Try.keyAtPr Try.widePr)
theorem Try.keyOfPr (p:Int × Int) (h1:fitI p.1) (h2:fitI p.2):∃ l,keyOf Try.prog 106 (ZaD p)=some l :=
 Zjk Try.kindPr Try.underlying3 Try.keyPr Try.cellsPr Try.cellsInt Try.rowPr _ _ (ZhH h1) (ZhH h2)
end Go.Proofs.Ytfanhfcamblghaa
namespace Go.Proofs.Ytfanhfcamblghaa
open Go.RowKit Go.Maps
end Go.Proofs.Ytfanhfcamblghaa
