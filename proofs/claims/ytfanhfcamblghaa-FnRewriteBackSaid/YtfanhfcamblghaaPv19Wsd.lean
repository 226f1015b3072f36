/-
  The walks over WordsExpr of the program and of the reference.
  Condition: the texts are of bytes, of at most 10 each, at most ten of them.
-/
import Derived.Test.YtfanhfcamblghaaPv18Tbl
set_option maxHeartbeats 8000000
set_option maxRecDepth 100000
namespace Go.Proofs.Ytfanhfcamblghaa
open Go.RowKit
def strC (ls:List (List Nat)):List Value:=ls.map fun l => .string (txB l)
def Txts (w:World) (v:Value) (ls:List (List Nat)):Prop:=Sl 0 w v ls.length 1 (strC ls)
theorem Txts.below {w w':World} {v:Value} {ls:List (List Nat)} (h:Txts w v ls) (he:Below w.heap.size w w'):Txts w' v ls:=Sl.below h he
theorem Txts.form {w:World} {v:Value} {ls:List (List Nat)} (h:Txts w v ls):∃ a cap,v = .slice a ls.length cap∧ls.length≤cap∧cap≤9223372036854775807 ∧
  (0<ls.length→∃ b off,a=some ⟨b,off,none⟩∧b<w.heap.size∧∀ j,j<ls.length→w.cell? ⟨b,off+j,none⟩=some (.string (txB (ls.getD j [])))):=by
 obtain⟨hl,a,cap,hv,h1,h2,h3⟩:=h;refine⟨a,cap,hv,h1,h2,fun hn => ?_⟩;obtain⟨b,off,ha,hb,hlt,hc⟩:=h3 hn;refine⟨b,off,ha,hlt,fun j hj => ?_⟩;rw[hc j (by omega)];simp[strC,hj]
theorem memT {ls:List (List Nat)} {k:Nat} (hk:k<ls.length):ls.getD k []∈ls:=by rw[List.getD_eq_getElem?_getD,List.getElem?_eq_getElem hk];exact List.getElem_mem _
theorem Zh5 (b o m c:Nat) (hc:m+1≤c):∃ A:Option Addr,(∀ u:World,(Instr.slice 52 (.slice (some ⟨b,o,none⟩) (m+1) c) (some (.int .i64 1)) none none).run Try.prog u = .ok (.slice A m (c-1)) u)∧(0<m→A=some ⟨b,o+1,none⟩):=by
 refine⟨if c=1 then some ⟨b,o,none⟩ else some ⟨b,o+1,none⟩,fun u => ?_,fun hm=>if_neg (by omega)⟩;have ht:Try.prog.underlying 52 = some (.slice (Try.prog.elem 52)):=by kernel_rfl
 rw[run_slice_l (P:=Try.prog) u 52 (some ⟨b,o,none⟩) (m+1) c ht .i64 1 (by omega) (by omega)];have hs:(sizeOf (Try.prog.elem 52)).run Try.prog u = .ok 1 u:=by kernel_rfl
 rw[hs];show Result.ok (sliced _ _ _ _ _) u=_;unfold sliced;by_cases h:c=1
 ·subst h;rfl
 rw[if_neg (show ¬ c=(1:Int).toNat by simpa using h),if_neg h];rfl
def okTt (ls:List (List Nat)):Prop:=ls.length≤100∧∀ l∈ls,isT l∧l.length≤300
theorem Zeh (l:List Nat) (w:World) (ht:isT l) (hl:l.length≤1000000) (r:Bool) (hr:txM 4 l=r) :
  Calls Try.prog 115 #[.string (txB l)] w fun e w'=>e = .returned (.bool r)∧w=w':=by
 have Hc:=qh (fun u=>ZcA 4 l u ht hl r hr);clear hr ht
 go_enter Try.func115, Try.ntmps115
 go_wp2_with (go_at_call 97;refine(Hc.out _).mono ?_;rintro e w' ⟨rfl,rfl⟩);go_ret;exact⟨rfl,rfl⟩
theorem ZdE (l:List Nat) (w:World) (ht:isT l) (hl:l.length≤300) (r:Bool) (hr:(!txM 4 l)=r) :
  Calls Try.prog 118 #[.string (txB l)] w fun e w'=>e = .returned (.bool r)∧w=w':=by
 obtain⟨y,hy⟩:=eJ (txM 4 l);have Hc:=qh (fun u=>Zeh l u ht (by omega) y hy);rw[hy] at hr;subst hr;clear hy ht
 go_enter Try.func118, Try.ntmps118
 go_wp2_with (go_at_call 115;refine(Hc.out _).mono ?_;rintro e w' ⟨rfl,rfl⟩);go_ret;exact⟨rfl,rfl⟩
theorem Zej (ls:List (List Nat)) (v:Value) (w:World) (hok:okTt ls) (h1:Txts w v ls) :
  Calls Try.prog 149 #[v,.func (.func 118) #[] #[]] w fun e w'=>e = .returned (.int .i64 (ZbA (fun l => !txM 4 l) ls))∧w=w':=by
 obtain⟨a1,c1,rfl,hc1,hm1,hr1⟩:=h1.form;have hn10:=hok.1;replace hok:=qh hok;clear h1
 go_enter Try.func149, Try.ntmps149
 go_wp2
 go_loop [4,8] (fun r i=>∃ k:Nat,k≤ls.length∧i = .int .i64 k∧(ls.take k).any (fun l => !txM 4 l)=false) (fun _ i=>ls.length-(intOf i).toNat)
 case atStart=>exact⟨0,Nat.zero_le _,rfl,rfl⟩
 case round =>
  obtain⟨k,hk,rfl,htk⟩:=hrel;have Hhtk:=qh htk;clear htk;by_cases hlt:k<ls.length
  ·obtain⟨b1,o1,rfl,hbl1,hcs1⟩:=hr1 (by omega);have hx1:=hcs1 k hlt;have hkI:(k:Int)<(ls.length:Int):=by omega
   have hxt:=hok.out.2 _ (memT hlt);obtain⟨x,hxx⟩:=eI (ls.getD k []);rw[← hxx] at hx1 hxt;have Hhxx:=qh hxx;clear hxx;have Hhxt:=qh hxt;clear hxt;clear hcs1 hr1;cases hb:(!txM 4 x)
   ·have Hv:=qh (fun u=>ZdE x u Hhxt.out.1 Hhxt.out.2 _ hb);replace hb:=qh hb;go_wp2_with (go_at_call 118;refine(Hv.out _).mono ?_;rintro e w' ⟨rfl,rfl⟩)
    go_round
    case rel=>exact⟨k+1,by omega,by go_num,ZfU (d:=[]) hlt Hhtk.out (by rw[← Hhxx.out];exact hb.out)⟩
    case measure=>simp[intOf];omega
   have Hv:=qh (fun u=>ZdE x u Hhxt.out.1 Hhxt.out.2 _ hb);replace hb:=qh hb;go_wp2_with (go_at_call 118;refine(Hv.out _).mono ?_;rintro e w' ⟨rfl,rfl⟩);go_ret;exact⟨ZbQ (by rw[Zcu (d:=[]) hlt Hhtk.out (by rw[← Hhxx.out];exact hb.out)]),rfl⟩
  have hkI:¬ (k:Int)<(ls.length:Int):=by omega
  clear hr1;go_wp2;go_ret;exact⟨ZbQ (by rw[Zce (by omega) Hhtk.out]),rfl⟩
theorem ZbM (ls:List (List Nat)) (v:Value) (w:World) (hok:okTt ls) (h1:Txts w v ls) (r:Bool) (hr:ls.any (fun l => !txM 4 l)=r) :
  Calls Try.prog 117 #[v,.func (.func 118) #[] #[]] w fun e w'=>e = .returned (.bool r)∧w=w':=by
 obtain⟨a1,c1,hv,-⟩:=h1.form;have H1:=qh h1;subst hv;clear h1;replace hr:=qh hr;replace hok:=qh hok
 go_enter Try.func117, Try.ntmps117
 go_wp2_with (go_at_call 149;refine(Zej ls _ _ hok.out H1.out).mono ?_;rintro e w' ⟨rfl,rfl⟩);go_ret;exact⟨Zc2 (by rw[← hr.out,Zcv]),rfl⟩
theorem ZdF (x n:Int) (b:Nat) (w:World) (hn:0≤n∧n≤9223372036854775807) (hc:w.cell? ⟨b,0,none⟩=some (.int .i64 n)) (r:Bool) (hr:badT n x=r) :
  Calls Try.prog 116 #[.int .i64 x,.pointer (some ⟨b,0,none⟩)] w fun e w'=>e = .returned (.bool r)∧w=w':=by
 subst hr;obtain⟨h1,h2⟩:=hn
 go_enter Try.func116, Try.ntmps116
 go_wp2_with (go_at_call 48;refine(ZaG _ _ _ _ _ rfl).mono ?_;rintro e w' ⟨rfl,rfl⟩);go_ret;exact⟨rfl,rfl⟩
theorem Zek (xs:List Int) (v:Value) (n:Int) (b:Nat) (w:World) (hn:0≤n∧n≤9223372036854775807) (hc:w.cell? ⟨b,0,none⟩=some (.int .i64 n)) (h1:Ints 0 w v xs) :
  Calls Try.prog 129 #[v,.func (.func 116) #[] #[.pointer (some ⟨b,0,none⟩)]] w fun e w'=>e = .returned (.int .i64 (ZbA (badT n) xs))∧w=w':=by
 obtain⟨a1,c1,rfl,hc1,hm1,hr1⟩:=h1.form;clear h1
 go_enter Try.func129, Try.ntmps129
 go_wp2
 go_loop [4,8] (fun r i=>∃ k:Nat,k≤xs.length∧i = .int .i64 k∧(xs.take k).any (badT n)=false) (fun _ i=>xs.length-(intOf i).toNat)
 case atStart=>exact⟨0,Nat.zero_le _,rfl,rfl⟩
 case round =>
  obtain⟨k,hk,rfl,htk⟩:=hrel;replace htk:=qh htk;by_cases hlt:k<xs.length
  ·obtain⟨b1,o1,rfl,hB1,hbl1,hcs1⟩:=hr1 (by omega);have hx1:=hcs1 k hlt;obtain⟨x,hxx⟩:=eI (xs.getD k 0);rw[← hxx] at hx1;have Hhxx:=qh hxx;clear hxx;clear hcs1 hr1;cases hb:badT n x
   ·replace hb:=qh hb;go_wp2_with (go_at_call 116;refine(ZdF x n b _ hn hc _ hb.out).mono ?_;rintro e w' ⟨rfl,rfl⟩)
    go_round
    case rel=>exact⟨k+1,by omega,by go_num,ZfU (d:=0) hlt htk.out (by rw[← Hhxx.out];exact hb.out)⟩
    case measure=>simp[intOf];omega
   replace hb:=qh hb;go_wp2_with (go_at_call 116;refine(ZdF x n b _ hn hc _ hb.out).mono ?_;rintro e w' ⟨rfl,rfl⟩);go_ret;exact⟨ZbQ (by rw[Zcu (d:=0) hlt htk.out (by rw[← Hhxx.out];exact hb.out)]),rfl⟩
  clear hr1;go_wp2;go_ret;exact⟨ZbQ (by rw[Zce (by omega) htk.out]),rfl⟩
theorem ZbN (xs:List Int) (v:Value) (n:Int) (b:Nat) (w:World) (hn:0≤n∧n≤9223372036854775807) (hc:w.cell? ⟨b,0,none⟩=some (.int .i64 n)) (h1:Ints 0 w v xs) (r:Bool) (hr:xs.any (badT n)=r) :
  Calls Try.prog 98 #[v,.func (.func 116) #[] #[.pointer (some ⟨b,0,none⟩)]] w fun e w'=>e = .returned (.bool r)∧w=w':=by
 obtain⟨a1,c1,hv,-⟩:=h1.form;have H1:=qh h1;subst hv;clear h1;replace hr:=qh hr
 go_enter Try.func98, Try.ntmps98
 go_wp2_with (go_at_call 129;refine(Zek xs _ n b _ hn hc H1.out).mono ?_;rintro e w' ⟨rfl,rfl⟩);go_ret;exact⟨Zc2 (by rw[← hr.out,Zcv]),rfl⟩
def TxSS (w:World) (v:Value) (xss:List (List (List Nat))):Prop:=∃ vs,Sl 0 w v xss.length 1 vs∧∀ i,i<xss.length→Txts w (vs.getD i undef) (xss.getD i [])
theorem TxSS.below {w w':World} {v:Value} {xss:List (List (List Nat))} (h:TxSS w v xss) (he:Below w.heap.size w w'):TxSS w' v xss:=by obtain⟨vs,h1,h2⟩:=h;exact⟨vs,Sl.below h1 he,fun i hi=>(h2 i hi).below he⟩
theorem TxSS.form {w:World} {v:Value} {xss:List (List (List Nat))} (h:TxSS w v xss):∃ a cap,v = .slice a xss.length cap∧xss.length≤cap∧cap≤9223372036854775807 ∧
  (0<xss.length→∃ b off,a=some ⟨b,off,none⟩∧b<w.heap.size∧∀ i,i<xss.length→∃ a' cap',w.cell? ⟨b,off+i,none⟩=some (.slice a' (xss.getD i []).length cap')∧(xss.getD i []).length≤cap'∧cap'≤9223372036854775807 ∧
   Txts w (.slice a' (xss.getD i []).length cap') (xss.getD i [])):=by
 obtain⟨vs,⟨hl,a,cap,hv,h1,h2,h3⟩,hr⟩:=h;refine⟨a,cap,hv,h1,h2,fun hn => ?_⟩;obtain⟨b,off,ha,hb,hlt,hc⟩:=h3 hn;refine⟨b,off,ha,hlt,fun i hi => ?_⟩;obtain⟨a',cap',hv',h1',h2',h3'⟩:=(hr i hi).form;refine⟨a',cap',?_,h1',h2',?_⟩
 ·rw[hc i (by omega),← hv'];simp at hl;simp[show i<vs.length by omega]
 rw[← hv'];exact hr i hi
def RwR (w:World) (v:Value) (r:RwD):Prop:=∃ v1 v2 v3,v = .agg #[v1,v2,v3]∧IntSS 0 w v1 r.next∧TxSS w v2 r.out∧Txts w v3 r.fin
theorem RwR.below {w w':World} {v:Value} {r:RwD} (h:RwR w v r) (he:Below w.heap.size w w'):RwR w' v r:=by obtain⟨v1,v2,v3,rfl,h1,h2,h3⟩:=h;exact⟨v1,v2,v3,rfl,h1.below he,h2.below he,h3.below he⟩
def okRw (r:RwD):Prop:=(∀ k,okTt (r.out.getD k []))∧okTt r.fin
theorem Zhm (r:RwD) (n k:Nat):ZbP r n k=(decide ((r.next.getD k []).length=3)&&decide ((r.out.getD k []).length=3)&&txM 4 (r.fin.getD k []) && !(r.next.getD k []).any (badT n) && !(r.out.getD k []).any (fun l => !txM 4 l)):=by unfold ZbP;rw[List.all_eq_not_any_not,List.all_eq_not_any_not];rfl
theorem ZkH {r:RwD} (h:inB (r.next.length:Int) 1 12=false):rwOk r=false:=by
 unfold inB at h;unfold rwOk;by_cases h1:1≤r.next.length
 ·have h2:¬ r.next.length≤12:=fun h2=>by rw[decide_eq_true (by omega),decide_eq_true (by omega)] at h;cases h
  rw[decide_eq_false h2];simp
 rw[decide_eq_false h1];simp
theorem ZkG {r:RwD} (h:r.out.length≠r.next.length):rwOk r=false:=by unfold rwOk;rw[decide_eq_false h];simp
theorem ZkJ {r:RwD} (h:r.fin.length≠r.next.length):rwOk r=false:=by unfold rwOk;rw[decide_eq_false h];simp
theorem ZkI {r:RwD} {k:Nat} (hk:k<r.next.length) (h:ZbP r r.next.length k=false):rwOk r=false:=by
 unfold rwOk;have h1:(List.range r.next.length).all (ZbP r r.next.length)=false:=by rw[List.all_eq_false];exact⟨k,List.mem_range.2 hk,by rw[h];decide⟩
 rw[h1,Bool.and_false]
theorem Zhn {r:RwD} (h:inB (r.next.length:Int) 1 12=true) (ho:r.out.length=r.next.length) (hf:r.fin.length=r.next.length) (hk:∀ k,k<r.next.length→ZbP r r.next.length k=true):rwOk r=true:=by unfold inB at h;simp only[Bool.and_eq_true,decide_eq_true_eq] at h;unfold rwOk;rw[decide_eq_true (show 1≤r.next.length by omega),decide_eq_true (show r.next.length≤12 by omega),decide_eq_true ho,decide_eq_true hf,Bool.and_self,Bool.and_self,Bool.and_self,Bool.true_and,List.all_eq_true];exact fun k hk'=>hk k (List.mem_range.1 hk')
theorem Zbr (r:RwD) (v:Value) (w:World) (hok:okRw r) (h:RwR w v r) (y:Bool) (hy:rwOk r=y) :
  Calls Try.prog 68 #[v] w fun e w'=>e = .returned (.bool y)∧Below w.heap.size w w':=by
 obtain⟨v1,v2,v3,rfl,h1,h2,h3⟩:=h;obtain⟨a1,c1,rfl,hc1,hm1,hr1⟩:=h1.formI;obtain⟨a2,c2,rfl,hc2,hm2,hr2⟩:=h2.form;obtain⟨a3,c3,rfl,hc3,hm3,hr3⟩:=h3.form;have hbn:=ZkH (r:=r);have hbo:=ZkG (r:=r);have hbf:=ZkJ (r:=r);have hbk:=fun k hk h=>@ZkI r k hk h
 have hyes:=Zhn (r:=r);rw[hy] at hbn hbo hbf hbk hyes;obtain⟨N,hN⟩:=eI (r.next.length);rw[← hN] at hc1 hr1 hbn hbo hbf hbk hyes;rw[← hN];obtain⟨M2,hM2⟩:∃ M,M=r.out.length:=⟨_,rfl⟩;obtain⟨M3,hM3⟩:∃ M,M=r.fin.length:=⟨_,rfl⟩;rw[← hM2] at hc2 hr2 hbo hyes;rw[← hM3] at hc3 hr3 hbf hyes;rw[← hM2,← hM3];have HS:=qh (((St.start w).alloc w.heap.size rfl #[.slice a1 N c1,.slice a2 M2 c2,.slice a3 M3 c3] 54).alloc (w.heap.size+1) (by simp) #[.int .i64 (N:Int)] 3);have e0:=HS.out.cell (v:=.slice a1 N c1) 0 0 rfl rfl;have e1:=HS.out.cell (v:=.slice a2 M2 c2) 0 1 rfl rfl;have e2:=HS.out.cell (v:=.slice a3 M3 c3) 0 2 rfl rfl;have e3:=HS.out.cell (v:=.int .i64 (N:Int)) 1 0 rfl rfl;have Hr1:=qh hr1;have Hr2:=qh hr2;have Hr3:=qh hr3;have Hbn:=qh hbn;have Hbo:=qh hbo;have Hbf:=qh hbf;have Hbk:=qh hbk;have Hyes:=qh hyes;have Hok:=qh hok;replace hN:=qh hN;replace hM2:=qh hM2;have HhM3:=qh hM3;clear hM3;clear h1 h2 h3 hr1 hr2 hr3 hbn hbo hbf hbk hyes hok hy
 go_enter Try.func68, Try.ntmps68
 cases hin:inB (N:Int) 1 12
 ·obtain rfl:=Hbn.out hin;have Hhin:=qh hin;clear hin;go_wp2_with (go_at_call 48;refine(ZaG _ _ _ _ _ Hhin.out).mono ?_;rintro e w' ⟨rfl,rfl⟩);go_ret;exact⟨rfl,HS.out.bel⟩
 have hN1:1≤N∧N≤12:=by simp only[inB,Bool.and_eq_true,decide_eq_true_eq] at hin;omega
 by_cases ho:M2=N
 ·subst ho;by_cases hf:M3=M2
  ·subst hf;have Hhin:=qh hin;clear hin;go_wp2_with (go_at_call 48;refine(ZaG _ _ _ _ _ Hhin.out).mono ?_;rintro e w' ⟨rfl,rfl⟩);obtain⟨b1,o1,rfl,-,hb1,hcs1⟩:=Hr1.out hN1.1;obtain⟨b2,o2,rfl,hb2,hcs2⟩:=Hr2.out hN1.1;obtain⟨b3,o3,rfl,hb3,hcs3⟩:=Hr3.out hN1.1;have Hcs1:=qh hcs1;have Hcs2:=qh hcs2;have Hcs3:=qh hcs3;clear hcs1 hcs2 hcs3 e0 e1 e2 e3
   go_loopw [2,26] (fun rv iv wr=>∃ k:Nat,k≤M3∧iv = .int .i64 (k:Int)∧(∀ q,q<k→ZbP r M3 q=true)∧St w wr [Ent.box w.heap.size #[.slice (some ⟨b1,o1,none⟩) M3 c1,.slice (some ⟨b2,o2,none⟩) M3 c2,.slice (some ⟨b3,o3,none⟩) M3 c3] 54,Ent.box (w.heap.size+1) #[.int .i64 (M3:Int)] 3]) (fun _ iv _=>M3-(intOf iv).toNat)
   case atStart=>exact⟨0,Nat.zero_le _,rfl,fun q hq=>absurd hq (Nat.not_lt_zero q),HS.out⟩
   case round =>
    obtain⟨k,hk,rfl,hall,hS⟩:=hrel;have HS1:=qh hS;have Hhall:=qh hall;clear hall;clear hS HS;by_cases hlt:k<M3
    ·have hltI:(k:Int)<(M3:Int):=by omega
     have hwk:IntKind.i64.wrap ((k:Int)+1)=(k:Int)+1:=IntWalk.i64_in _ (by omega);have e0:=HS1.out.cell (v:=.slice (some ⟨b1,o1,none⟩) M3 c1) 0 0 rfl rfl;have e1:=HS1.out.cell (v:=.slice (some ⟨b2,o2,none⟩) M3 c2) 0 1 rfl rfl;have e2:=HS1.out.cell (v:=.slice (some ⟨b3,o3,none⟩) M3 c3) 0 2 rfl rfl;have e3:=HS1.out.cell (v:=.int .i64 (M3:Int)) 1 0 rfl rfl;obtain⟨p1,q1,hp1,-,-,hi1⟩:=Hcs1.out k hlt;obtain⟨p2,q2,hp2,-,-,hi2⟩:=Hcs2.out k hlt;have hp3:=Hcs3.out k hlt;have g1:=(bcell HS1.out.bel b1 _ hb1).trans hp1;have g2:=(bcell HS1.out.bel b2 _ hb2).trans hp2;have g3:=(bcell HS1.out.bel b3 _ hb3).trans hp3;have hrow:=Zhm r M3 k;have hoR:=Hok.out.1 k;have hoF:=Hok.out.2.2 (r.fin.getD k []) (memT (by have:=HhM3.out;omega));obtain⟨X,hX⟩:=eI (r.next.getD k []);obtain⟨Y,hY⟩:=eI (r.out.getD k []);obtain⟨Z,hZ⟩:=eI (r.fin.getD k []);rw[← hX] at hi1 g1 hrow;rw[← hY] at hi2 g2 hrow hoR;rw[← hZ] at g3 hrow hoF;have Hi1:=qh (hi1.below HS1.out.bel);have Hi2:=qh (hi2.below HS1.out.bel);have HoR:=qh hoR;have HoF:=qh hoF;have Hhrow:=qh hrow;clear hrow;clear hi1 hi2 hp1 hp2 hp3 hoR hoF hX hY hZ;by_cases z1:X.length=3
     ·have z1I:((X.length:Int) != 3)=false:=by rw[z1];rfl
      by_cases z2:Y.length=3
      ·have z2I:((Y.length:Int) != 3)=false:=by rw[z2];rfl
       cases z3:txM 4 Z
       ·have hbad:ZbP r M3 k=false:=by rw[Hhrow.out,z3];simp
        obtain rfl:=Hbk.out k hlt hbad;have Hio:=qh (fun u=>Zeh Z u HoF.out.1 (by have:=HoF.out.2;omega) _ z3);clear hbad z3 z1 z2;go_wp2_with (go_at_call 115;refine(Hio.out _).mono ?_;rintro e w' ⟨rfl,rfl⟩);go_ret;exact⟨rfl,HS1.out.bel⟩
       have Hio:=qh (fun u=>Zeh Z u HoF.out.1 (by have:=HoF.out.2;omega) _ z3);cases z4:X.any (badT M3)
       ·have Hc1:=qh (fun u hc h=>ZbN X (.slice p1 X.length q1) M3 (w.heap.size+1) u (by omega) hc h _ z4);cases z5:Y.any (fun l => !txM 4 l)
        ·have Hc2:=qh (fun u h=>ZbM Y (.slice p2 Y.length q2) u HoR.out h _ z5);have hgood:ZbP r M3 k=true:=by rw[Hhrow.out,z3,z4,z5,decide_eq_true z1,decide_eq_true z2];rfl
         have Hhgood:=qh hgood;clear hgood;clear z1 z2 z3 z4 z5
         go_wp2_with (first
          | (go_at_call 115;refine(Hio.out _).mono ?_;rintro e w' ⟨rfl,rfl⟩)
          | (go_at_call 98;refine(Hc1.out _ e3 Hi1.out).mono ?_;rintro e w' ⟨rfl,rfl⟩)
          | (go_at_call 117;refine(Hc2.out _ Hi2.out).mono ?_;rintro e w' ⟨rfl,rfl⟩))
         go_roundw
         case rel =>
          refine⟨k+1,by omega,by go_num,fun q hq => ?_,HS1.out⟩;by_cases hqk:q=k
          ·rw[hqk];exact Hhgood.out
          exact Hhall.out q (by omega)
         case measure=>simp[intOf];omega
        have Hc2:=qh (fun u h=>ZbM Y (.slice p2 Y.length q2) u HoR.out h _ z5);have hbad:ZbP r M3 k=false:=by rw[Hhrow.out,z5];simp
        obtain rfl:=Hbk.out k hlt hbad;clear hbad z1 z2 z3 z4 z5
        go_wp2_with (first
         | (go_at_call 115;refine(Hio.out _).mono ?_;rintro e w' ⟨rfl,rfl⟩)
         | (go_at_call 98;refine(Hc1.out _ e3 Hi1.out).mono ?_;rintro e w' ⟨rfl,rfl⟩)
         | (go_at_call 117;refine(Hc2.out _ Hi2.out).mono ?_;rintro e w' ⟨rfl,rfl⟩))
        go_ret;exact⟨rfl,HS1.out.bel⟩
       have Hc1:=qh (fun u hc h=>ZbN X (.slice p1 X.length q1) M3 (w.heap.size+1) u (by omega) hc h _ z4);have hbad:ZbP r M3 k=false:=by rw[Hhrow.out,z4];simp
       obtain rfl:=Hbk.out k hlt hbad;clear hbad z1 z2 z3 z4
       go_wp2_with (first
        | (go_at_call 115;refine(Hio.out _).mono ?_;rintro e w' ⟨rfl,rfl⟩)
        | (go_at_call 98;refine(Hc1.out _ e3 Hi1.out).mono ?_;rintro e w' ⟨rfl,rfl⟩))
       go_ret;exact⟨rfl,HS1.out.bel⟩
      have z2I:((Y.length:Int) != 3)=true:=by rw[bne_iff_ne];omega
      have hbad:ZbP r M3 k=false:=by rw[Hhrow.out,decide_eq_false z2];simp
      obtain rfl:=Hbk.out k hlt hbad;clear hbad z1 z2;go_wp2;go_ret;exact⟨rfl,HS1.out.bel⟩
     have z1I:((X.length:Int) != 3)=true:=by rw[bne_iff_ne];omega
     have hbad:ZbP r M3 k=false:=by rw[Hhrow.out,decide_eq_false z1];simp
     obtain rfl:=Hbk.out k hlt hbad;clear hbad z1;go_wp2;go_ret;exact⟨rfl,HS1.out.bel⟩
    have hltI:¬ (k:Int)<(M3:Int):=by omega
    obtain rfl:y=true:=Hyes.out Hhin.out (by first|rfl|trivial) (by first|rfl|trivial) fun q hq=>Hhall.out q (by omega)
    go_wp2;go_ret;exact⟨rfl,HS1.out.bel⟩
  have hfI:((M3:Int) != (M2:Int))=true:=by rw[bne_iff_ne];omega
  obtain rfl:=Hbf.out hf;have Hhin:=qh hin;clear hin;clear hf;go_wp2_with (go_at_call 48;refine(ZaG _ _ _ _ _ Hhin.out).mono ?_;rintro e w' ⟨rfl,rfl⟩);go_ret;exact⟨rfl,HS.out.bel⟩
 have hoI:((M2:Int) != (N:Int))=true:=by rw[bne_iff_ne];omega
 obtain rfl:=Hbo.out ho;have Hhin:=qh hin;clear hin;clear ho;go_wp2_with (go_at_call 48;refine(ZaG _ _ _ _ _ Hhin.out).mono ?_;rintro e w' ⟨rfl,rfl⟩);go_ret;exact⟨rfl,HS.out.bel⟩
theorem Zly (u:List Nat) (v:ByteArray) (lv:List Nat) (hv:v=txB lv) (hu:u.length≤1000) (hl:lv.length≤1000):(∀ w':World,(Op.stringOp .add (txB u) v).run Try.prog w' = .ok (.string (txB (u++lv))) w')∧¬ 9223372036854775807<(txB u).size+v.size:=by subst hv;rw[← Zdi];exact ZhY u (txB lv) hu (by rw[Zba];exact hl)
theorem Zkn {u v:List Nat} (h:isT u) (h':isT v):isT (u++v):=fun b hb=>by
 rcases List.mem_append.1 hb with hb|hb
 ·exact h b hb
 exact h' b hb
theorem Zgp {l:List Nat} (h:isT l) (k:Nat):isT (l.take k):=fun b hb=>h b (List.mem_of_mem_take hb)
theorem Ze1 (bs:List Nat) (vb:Value) (b p:Nat) (w0 w:World) (X:Ent) (hb:Bytes 0 w0 vb bs) (hlen:bs.length≤2000) (hp:p≤700000) (hS:St w0 w [RdE b vb p,X]) :
  Calls Try.prog 113 #[.pointer (some ⟨b,0,none⟩)] w fun e w'=>∃ (l:List Nat) (p':Nat),isT l∧l.length≤10∧p'≤p+30∧e = .returned (.string (txB l))∧St w0 w' [RdE b vb p',X]:=by
 have Hb:=qh hb;have HS0:=qh hS;clear hb hS
 go_enter Try.func113, Try.ntmps113
 go_wp2_with fail;refine(ZdI bs vb b p 0 w0 _ X Hb.out hlen (by omega) (by omega) HS0.out).mono ?_;rintro e w1 ⟨l,p1,ht,hl,hp1,rfl,hS1⟩;have hsz:=Zba l;obtain⟨n0,hn0⟩:=eI (l.length);rw[← hn0] at hsz hl
 have hcut:∀ m:Nat,m≤2→∃ u,(isT u∧u.length≤10)∧((n0≤m∧(txB l).extract 0 n0=txB u)∨(¬ n0≤m∧(txB l).extract 0 m=txB u)):=fun m hm=>by
  by_cases h4:n0≤m
  ·exact⟨l.take n0,⟨Zgp ht _,by rw[List.length_take];omega⟩,.inl ⟨h4,Zhk l n0⟩⟩
  exact⟨l.take m,⟨Zgp ht _,by rw[List.length_take];omega⟩,.inr ⟨h4,Zhk l m⟩⟩
 have hS2:St w0 _ ([RdE b vb p1]++[X,Ent.box w1.heap.size #[.int .i64 0,.int .i64 1,.int .i64 1,.int .i64 2] 3]):=hS1.alloc w1.heap.size rfl #[.int .i64 0,.int .i64 1,.int .i64 1,.int .i64 2] 3;have HS2:=qh hS2;have Hcut:=qh hcut;replace hn0:=qh hn0;clear hS1 hS2 HS0 ht hcut;go_wp2_with fail;refine(Zar bs vb b p1 4 w0 _ _ Hb.out hlen (by omega) (by omega) (by omega) (St.pack (A:=[RdE b vb p1]) (R:=[X,Ent.box w1.heap.size #[.int .i64 0,.int .i64 1,.int .i64 1,.int .i64 2] 3]) HS2.out)).mono ?_;rintro e w3 ⟨k,hk,rfl,hSp⟩;have HS3:Hid (St w0 w3 [RdE b vb (p1+1),X,Ent.box w1.heap.size #[.int .i64 0,.int .i64 1,.int .i64 1,.int .i64 2] 3]):=qh (St.unpack (A:=[RdE b vb p1]) (A':=[RdE b vb (p1+1)]) (R:=[X,Ent.box w1.heap.size #[.int .i64 0,.int .i64 1,.int .i64 1,.int .i64 2] 3]) HS2.out hSp)
 obtain⟨m,hm2,hm⟩:∃ m:Nat,m≤2∧(#[.int .i64 0,.int .i64 1,.int .i64 1,.int .i64 2]:Array Value)[k]? = some (.int .i64 (m:Int)):=by
  obtain rfl|rfl|rfl|rfl:k=0∨k=1∨k=2∨k=3:=by omega
  ·exact⟨0,by omega,rfl⟩
  ·exact⟨1,by omega,rfl⟩
  ·exact⟨1,by omega,rfl⟩
  exact⟨2,by omega,rfl⟩
 have e5:=HS3.out.cell (v:=.int .i64 (m:Int)) 2 k rfl hm;have hkI:(k:Int)<4:=by omega
 obtain⟨u,hut,hx⟩:=Hcut.out m hm2;have Hhut:=qh hut;clear hut;clear hSp HS2 hm;rcases hx with⟨h4,hx⟩|⟨h4,hx⟩
 ·have hmin:min (n0:Int) (m:Int)=(n0:Int):=by omega
  go_wp2;go_ret;exact⟨u,_,Hhut.out.1,Hhut.out.2,by omega,rfl,HS3.out.pick [0,1] (by decide)⟩
 have hmin:min (n0:Int) (m:Int)=(m:Int):=by omega
 go_wp2;go_ret;exact⟨u,_,Hhut.out.1,Hhut.out.2,by omega,rfl,HS3.out.pick [0,1] (by decide)⟩
def Ent.know (F:Ent) (R:World→Prop):Ent:=⟨F.foot,fun w=>F.holds w∧∀ u,F.holds u→R u,fun a b h hk=>⟨F.stable a b h.1 hk,h.2⟩⟩
theorem St.know {w0 w:World} {L:List Ent} (h:St w0 w L) (k:Nat) {F:Ent} {R:World→Prop} (hk:L[k]? = some (Ent.know F R)):R w:=by have h1:=(h.has k _ hk).1;exact h1.2 w h1.1
theorem ZcL {L:List Ent} {u:World} (h:(Ent.all L).holds u) (k:Nat) {F:Ent} {R:World→Prop} (hk:L[k]? = some (Ent.know F R)):R u:=by have h1:=h _ (List.mem_of_getElem? hk);exact h1.2 u h1.1
theorem ZaC {L:List Ent} {u:World} (h:(Ent.all L).holds u) (k:Nat) {e size n:Nat} {v:Value} {cs:List Value} (hk:L[k]? = some (Ent.row e size v n cs)):u.ownsRow 0 e size v n cs:=h _ (List.mem_of_getElem? hk)
theorem St.knowAll {w0 w:World} {A R:List Ent} (h:St w0 w (A++R)) {P:World→Prop} (hP:∀ u,(Ent.all R).holds u→P u):St w0 w (A++[Ent.know (Ent.all R) P]):=by
 have h1:=(St.pack (A:=A) h).same A.length (x:=Ent.all R) (by simp) (Ent.know (Ent.all R) P) (fun h2=>⟨h2,hP⟩) (fun _ hk=>hk)
 rwa [show(A++[Ent.all R]).set A.length (Ent.know (Ent.all R) P)=A++[Ent.know (Ent.all R) P] by simp] at h1
theorem St.know0 {w0 w:World} {L:List Ent} (h:St w0 w L) {P:World→Prop} (hP:∀ u,P u):St w0 w (L++[Ent.know Ent.nil P]) :=
 h.add (Below.refl _ _) (Ent.know Ent.nil P) ⟨trivial,fun u _=>hP u⟩ fun _ hk=>hk.elim
theorem St.knowMore {w0 w:World} {L:List Ent} (h:St w0 w L) (k:Nat) {F:Ent} {R P:World→Prop} (hk:L[k]? = some (Ent.know F R)) (hP:∀ u,R u→P u):St w0 w (L.set k (Ent.know F P)) :=
 h.same k hk (Ent.know F P) (fun h=>⟨h.1,fun u hu=>hP u (h.2 u hu)⟩) fun _ hf=>hf
theorem Try.infoTxt:(Try.prog.info? 9).map (fun i=>(i.zero,i.size,i.bytes))=some (some (.string ⟨#[]⟩),1,16):=by kernel_rfl
end Go.Proofs.Ytfanhfcamblghaa
