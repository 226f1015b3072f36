/-
  The walks over WordsExpr of the program and of the reference.
  Condition: the texts are of bytes, of at most 10 each, at most ten of them.
-/
import Derived.Test.YtfikabecgaappaaPx19Lm
import Derived.Test.YtfikabecgaappaaPx23Wxw
set_option maxHeartbeats 16000000
set_option maxRecDepth 100000
namespace Go.Proofs.Ytfikabecgaappaa
open Go.RowKit
def strC (ls:List (List Nat)):List Value:=ls.map fun l => .string (txB l)
def Txts (w:World) (v:Value) (ls:List (List Nat)):Prop:=Sl 0 w v ls.length 1 (strC ls)
def okTs (ls:List (List Nat)):Prop:=ls.length≤10∧∀ l∈ls,isT l∧l.length≤10
theorem Txts.below {w w':World} {v:Value} {ls:List (List Nat)} (h:Txts w v ls) (he:Below w.heap.size w w'):Txts w' v ls:=Sl.below h he
theorem Txts.form {w:World} {v:Value} {ls:List (List Nat)} (h:Txts w v ls):∃ a cap,v = .slice a ls.length cap∧ls.length≤cap∧cap≤9223372036854775807 ∧
  (0<ls.length→∃ b off,a=some ⟨b,off,none⟩∧b<w.heap.size∧∀ j,j<ls.length→w.cell? ⟨b,off+j,none⟩=some (.string (txB (ls.getD j [])))):=by
 obtain⟨hl,a,cap,hv,h1,h2,h3⟩:=h;refine⟨a,cap,hv,h1,h2,fun hn => ?_⟩;obtain⟨b,off,ha,hb,hlt,hc⟩:=h3 hn;refine⟨b,off,ha,hlt,fun j hj => ?_⟩;rw[hc j (by omega)];simp[strC,hj]
theorem memT {ls:List (List Nat)} {k:Nat} (hk:k<ls.length):ls.getD k []∈ls:=by rw[List.getD_eq_getElem?_getD,List.getElem?_eq_getElem hk];exact List.getElem_mem _
def wsR (ls:List (List Nat)):List (Int × Int):=if wsOk ls=true then wsP ls ls.length else []
def RWs (ls:List (List Nat)) (w:World) (e:Ending) (w':World):Prop:=∃ a c,e = .returned (.tuple #[.slice a (wsR ls).length c,.bool (wsOk ls)])∧St w w' [Ent.row 34 2 (.slice a (wsR ls).length c) (wsR ls).length ((wsR ls).flatMap Zad)]
theorem ZiI {ls:List (List Nat)} (h:wsOk ls=false) {w w':World} {a:Option Addr} {c:Nat} (hS:St w w' [Ent.row 34 2 (.slice a 0 c) 0 []]):RWs ls w (.returned (.tuple #[.slice a 0 c,.bool false])) w':=by unfold RWs wsR;rw[h];exact⟨a,c,rfl,hS⟩
theorem Zh1 {ls:List (List Nat)} (h:wsOk ls=true) {E:List (Int × Int)} (hE:E=wsP ls ls.length) {w w':World} {a:Option Addr} {c:Nat} (hS:St w w' [Ent.row 34 2 (.slice a E.length c) E.length (E.flatMap Zad)]):RWs ls w (.returned (.tuple #[.slice a E.length c,.bool true])) w':=by subst hE;unfold RWs wsR;rw[h];exact⟨a,c,rfl,hS⟩
theorem ZhL {ls:List (List Nat)} (h:∀ k,k<ls.length→wdOk (ls.getD k [])=true∧(wsP ls (k+1)).length≤60):wsOk ls=true:=by unfold wsOk;rw[List.all_eq_true];intro k hk;rw[Bool.and_eq_true,decide_eq_true_eq];exact h k (List.mem_range.1 hk)
theorem ZcV (l:List Nat) (w:World) (ht:isT l) (hl:l.length≤10) (r:Bool) (hr:(!wdOk l)=r) :
  Calls Try.prog 35 #[.string (txB l)] w fun e w'=>e = .returned (.bool r)∧w=w':=by
 obtain⟨y,hy⟩:=eJ (wdOk l);have Hc:=qh (fun u=>Zbj l u ht (by omega) y hy);rw[hy] at hr;subst hr;clear hy ht
 go_enter Try.func35, Try.ntmps35
 go_wp2_with (go_at_call 22;refine(Hc.out _).mono ?_;rintro e w' ⟨rfl,rfl⟩);go_ret;exact⟨rfl,rfl⟩
theorem Ze3 (ls:List (List Nat)) (v:Value) (w:World) (hok:okTs ls) (h1:Txts w v ls) :
  Calls Try.prog 62 #[v,.func (.func 35) #[] #[]] w fun e w'=>e = .returned (.int .i64 (ZbA (fun l => !wdOk l) ls))∧w=w':=by
 obtain⟨a1,c1,rfl,hc1,hm1,hr1⟩:=h1.form;have hn10:=hok.1;replace hok:=qh hok;clear h1
 go_enter Try.func62, Try.ntmps62
 go_wp2
 go_loop [4,8] (fun r i=>∃ k:Nat,k≤ls.length∧i = .int .i64 k∧(ls.take k).any (fun l => !wdOk l)=false) (fun _ i=>ls.length-(intOf i).toNat)
 case atStart=>exact⟨0,Nat.zero_le _,rfl,rfl⟩
 case round =>
  obtain⟨k,hk,rfl,htk⟩:=hrel;have Hhtk:=qh htk;clear htk;by_cases hlt:k<ls.length
  ·obtain⟨b1,o1,rfl,hbl1,hcs1⟩:=hr1 (by omega);have hx1:=hcs1 k hlt;have hkI:(k:Int)<(ls.length:Int):=by omega
   have hxt:=hok.out.2 _ (memT hlt);obtain⟨x,hxx⟩:=eI (ls.getD k []);rw[← hxx] at hx1 hxt;have Hhxx:=qh hxx;clear hxx;have Hhxt:=qh hxt;clear hxt;clear hcs1 hr1;cases hb:(!wdOk x)
   ·have Hv:=qh (fun u=>ZcV x u Hhxt.out.1 Hhxt.out.2 _ hb);replace hb:=qh hb;go_wp2_with (go_at_call 35;refine(Hv.out _).mono ?_;rintro e w' ⟨rfl,rfl⟩)
    go_round
    case rel=>exact⟨k+1,by omega,by go_num,ZgW (d:=[]) hlt Hhtk.out (by rw[← Hhxx.out];exact hb.out)⟩
    case measure=>simp[intOf];omega
   have Hv:=qh (fun u=>ZcV x u Hhxt.out.1 Hhxt.out.2 _ hb);replace hb:=qh hb;go_wp2_with (go_at_call 35;refine(Hv.out _).mono ?_;rintro e w' ⟨rfl,rfl⟩);go_ret;exact⟨ZdK (by rw[ZcD (d:=[]) hlt Hhtk.out (by rw[← Hhxx.out];exact hb.out)]),rfl⟩
  have hkI:¬ (k:Int)<(ls.length:Int):=by omega
  clear hr1;go_wp2;go_ret;exact⟨ZdK (by rw[Zcl (by omega) Hhtk.out]),rfl⟩
theorem Zdx (ls:List (List Nat)) (v:Value) (w:World) (hok:okTs ls) (h1:Txts w v ls) (r:Bool) (hr:ls.any (fun l => !wdOk l)=r) :
  Calls Try.prog 34 #[v,.func (.func 35) #[] #[]] w fun e w'=>e = .returned (.bool r)∧w=w':=by
 obtain⟨a1,c1,hv,-⟩:=h1.form;have H1:=qh h1;subst hv;clear h1;replace hr:=qh hr;replace hok:=qh hok
 go_enter Try.func34, Try.ntmps34
 go_wp2_with (go_at_call 62;refine(Ze3 ls _ _ hok.out H1.out).mono ?_;rintro e w' ⟨rfl,rfl⟩);go_ret;exact⟨ZcN (by rw[← hr.out,ZcE]),rfl⟩
theorem Zf5 {l:List Nat} (h:wdOk l=true):1≤(ZaK l).length∧(ZaK l).length≤16:=Zjh h
theorem Zjl (b o m c:Nat) (hc:m+1≤c):∃ A:Option Addr,(∀ u:World,(Instr.slice 40 (.slice (some ⟨b,o,none⟩) (m+1) c) (some (.int .i64 1)) none none).run Try.prog u = .ok (.slice A m (c-1)) u)∧(0<m→A=some ⟨b,o+1,none⟩):=by
 refine⟨if c=1 then some ⟨b,o,none⟩ else some ⟨b,o+1,none⟩,fun u => ?_,fun hm=>if_neg (by omega)⟩;have ht:Try.prog.underlying 40 = some (.slice (Try.prog.elem 40)):=by kernel_rfl
 rw[run_slice_l (P:=Try.prog) u 40 (some ⟨b,o,none⟩) (m+1) c ht .i64 1 (by omega) (by omega)];have hs:(sizeOf (Try.prog.elem 40)).run Try.prog u = .ok 1 u:=by kernel_rfl
 rw[hs];show Result.ok (sliced _ _ _ _ _) u=_;unfold sliced;by_cases h:c=1
 ·subst h;rfl
 rw[if_neg (show ¬ c=(1:Int).toNat by simpa using h),if_neg h];rfl
theorem ZdU (ls:List (List Nat)) (v:Value) (w:World) (hok:okTs ls) (h1:Txts w v ls) :
  Calls Try.prog 15 #[v] w fun e w'=>RWs ls w e w':=by
 obtain⟨a1,c1,rfl,hc1,hm1,hr1⟩:=h1.form;have hn10:=hok.1;obtain⟨n,hn⟩:=eJ (ls.length);have H1:=qh h1;have hany:∀ k,k<ls.length→wdOk (ls.getD k [])=false→ls.any (fun l => !wdOk l)=true:=fun k hk h=>List.any_eq_true.2 ⟨_,memT hk,by rw[h];rfl⟩
 rw[hn] at H1 hc1 hr1 hn10;rw[hn];obtain⟨r,hr⟩:=eJ (ls.any (fun l => !wdOk l));have Hcf:=qh (fun u h=>Zdx ls (.slice a1 n c1) u hok h r hr);have HS0:=qh ((St.start w).nilRow 34 2);cases r with
 | true =>
  have hno:wsOk ls=false:=by
   obtain⟨l,hl,hb⟩:=List.any_eq_true.1 hr;obtain⟨k,hk,rfl⟩:=List.mem_iff_getElem.1 hl;refine Zep hk fun h => ?_
   have h:=h.1;rw[List.getD_eq_getElem?_getD,List.getElem?_eq_getElem hk,Option.getD_some] at h;rw[h] at hb;cases hb
  have Hhno:=qh hno;clear hno;replace hn:=qh hn;have Hhok:=qh hok;clear hok;clear hr1 hany hr h1
  go_enter Try.func15, Try.ntmps15
  go_wp2_with (go_at_call 34;refine(Hcf.out _ H1.out).mono ?_;rintro e w' ⟨rfl,rfl⟩)
  go_ret2
  exact ZiI Hhno.out HS0.out
 | false =>
  have hwd:∀ k,k<n→wdOk (ls.getD k [])=true:=fun k hk=>by
   cases h:wdOk (ls.getD k []) with
   | true=>rfl
   | false=>rw[hany k (by omega) h] at hr;cases hr
  have Hwd:=qh hwd;clear hany hr h1 hwd;by_cases h0:n=0
  ·subst h0;have hyes:wsOk ls=true:=ZhL fun k hk=>by omega
   have hE:[((1:Int),(0:Int))]=wsP ls ls.length:=by rw[hn];rfl
   have Hhyes:=qh hyes;clear hyes;have HhE:=qh hE;clear hE;replace hn:=qh hn;have Hhok:=qh hok;clear hok;clear hr1
   go_enter Try.func15, Try.ntmps15
   go_wp2_with (first
    | (go_at_call 34;refine(Hcf.out _ H1.out).mono ?_;rintro e w' ⟨rfl,rfl⟩)
    | (go_at_call 36;refine(ZiV 1 _).mono ?_;rintro e w1 ⟨a,c,rfl,hS⟩))
   go_ret2
   exact Zh1 Hhyes.out HhE.out hS
  obtain⟨b1,o1,rfl,hbl1,hcs1⟩:=hr1 (by omega);obtain⟨m,rfl⟩:∃ m,n=m+1:=⟨n-1,by omega⟩;obtain⟨A2,hsl,hA2⟩:=Zjl b1 o1 m c1 (by omega);have x0:w.cell? ⟨b1,o1,none⟩=some (.string (txB (ls.getD 0 []))):=hcs1 0 (by omega);have hnI:¬ ((m+1:Nat):Int)=0:=by omega
  have hx0:=hok.2 _ (memT (show 0<ls.length by omega));have hw0:=Zf5 (Hwd.out 0 (by omega));have h1E:=ZjR ls;obtain⟨l0,hl0⟩:=eI (ls.getD 0 []);rw[← hl0] at x0 hx0 h1E hw0;have hx:=fun u=>Zd5 l0 u hx0.1 (hl0 ▸ Hwd.out 0 (by omega))
  obtain⟨E0,hE0⟩:=eJ (ZaK l0);rw[hE0] at hx h1E hw0;have Hx0:=qh hx;have Hcs:=qh hcs1;replace hn:=qh hn;have Hhok:=qh hok;clear hok;have Hhx0:=qh hx0;clear hx0;replace hl0:=qh hl0;replace h1E:=qh h1E;have Hhw0:=qh hw0;clear hw0;have HhE0:=qh hE0;clear hE0;have HhA2:=qh hA2;clear hA2;clear hr1 hcs1 hx
  go_enter Try.func15, Try.ntmps15
  go_wp2_with (first
   | (go_at_call 34;refine(Hcf.out _ H1.out).mono ?_;rintro e w' ⟨rfl,rfl⟩)
   | (go_at_call 23;refine(Hx0.out _).mono ?_;rintro e w1 ⟨a,c,rfl,hS⟩;have HS1:=qh hS;clear hS))
  go_loopw [4,20] (fun ev iv wr=>∃ (k c:Nat) (a:Option Addr) (E:List (Int × Int)),iv = .int .i64 (k:Int)∧ev = .slice a E.length c∧E=wsP ls (k+1)∧E.length≤60∧k≤m∧(∀ j,j≤k→(wsP ls (j+1)).length≤60)∧St w wr [Ent.row 34 2 (.slice a E.length c) E.length (E.flatMap Zad)]) (fun _ iv _=>m-(intOf iv).toNat)
  case atStart=>exact⟨0,c,a,E0,rfl,rfl,h1E.out.symm,by have:=Hhw0.out.2;omega,by omega,fun j hj=>by (obtain rfl:j=0:=by omega);rw[h1E.out];have:=Hhw0.out.2;omega,HS1.out⟩
  case round =>
   obtain⟨k,c',a',E,rfl,rfl,hE,hEl,hk,hall,hS⟩:=hrel;have HS2:=qh hS;have Hall:=qh hall;clear hS hall HS1;by_cases hkm:k<m
   ·have hkI:(k:Int)<(m:Int):=by omega
    have hwk:IntKind.i64.wrap ((k:Int)+1)=(k:Int)+1:=IntWalk.i64_in _ (by omega);obtain rfl:=HhA2.out (by omega);have q0:=(bcell HS2.out.bel b1 _ hbl1).trans (Hcs.out (k+1) (by omega));have hwx:=Hwd.out (k+1) (by omega);have hxt:=Hhok.out.2 _ (memT (show k+1<ls.length by have:=hn.out;omega));have hw1:=Zf5 hwx;have hst:=Ziy (ls:=ls) (k:=k+1) (by omega);obtain⟨lx,hlx⟩:=eI (ls.getD (k+1) []);rw[← hlx] at q0 hxt hst hwx hw1;have hx:=fun u=>Zd5 lx u hxt.1 hwx
    obtain⟨F,hF⟩:=eJ (ZaK lx);rw[hF] at hx hst hw1;rw[← hE] at hst;have q1:wr.cell? ⟨b1,o1+1+k,none⟩=some (.string (txB lx)):=by rw[show o1+1+k=o1+(k+1) by omega];exact q0
    have Hx:=qh hx;have HhE:=qh hE;clear hE;have Hhst:=qh hst;clear hst;have HhF:=qh hF;clear hF;have Hhlx:=qh hlx;clear hlx;have Hhxt:=qh hxt;clear hxt;have Hhwx:=qh hwx;clear hwx;clear hx q0;have hF16:F.length≤100:=by have:=hw1.2;omega
    go_wp2_with (go_at_call 23;refine(Hx.out _).mono ?_;rintro e w2 ⟨a2,c2,rfl,hSx⟩;have HS3:=qh ((HS2.out.cat hSx).alloc w2.heap.size rfl #[.slice a' E.length c',.slice a2 F.length c2] 24);clear hSx);have p0:=HS3.out.cell (v:=.slice a' E.length c') 2 0 rfl rfl;have p1:=HS3.out.cell (v:=.slice a2 F.length c2) 2 1 rfl rfl;have hbl:=(HS3.out.boxlt 2 rfl).2;have hx:=Za9 (HS3.out.row 0 rfl);have hy:=Za9 (HS3.out.row 1 rfl);have hop:=Zkv 5 E F (.slice a' E.length c') (.slice a2 F.length c2) w2.heap.size 2 _ (by omega) (by omega) hbl p0 p1 hx hy;obtain⟨G,hG⟩:=eI (E++F++[(5,0)]);rw[← hG] at hop;have hst2:=Hhst.out;rw[← hG] at hst2;have Hop:=qh hop;have Hhst2:=qh hst2;clear hst2;clear hop p0 p1 hx hy hG hbl;by_cases hg:60<G.length
    ·have hgI:(60:Int)<(G.length:Int):=by omega
     have hno:wsOk ls=false:=Zep (k:=k+1) (by have:=hn.out;omega) fun h=>by have:=h.2;rw[Hhst2.out] at this;omega
     have Hhno:=qh hno;clear hno
     as_aux_lemma =>
     go_wp2_with (go_at_call 37;refine(Hop.out).mono ?_;rintro e w5 ⟨g,cg,rfl,hSo⟩;have HS5:=qh (((HS3.out.cat hSo).pick [] (by decide)).nilRow 34 2);clear hSo)
     go_ret2
     exact ZiI Hhno.out HS5.out
    have hgI:¬ (60:Int)<(G.length:Int):=by omega
    as_aux_lemma =>
    go_wp2_with (go_at_call 37;refine(Hop.out).mono ?_;rintro e w5 ⟨g,cg,rfl,hSo⟩;have HS5:=qh ((HS3.out.cat hSo).pick [3] (by decide));clear hSo);go_roundw
    case rel =>
     refine⟨k+1,cg,g,G,by go_num,rfl,Hhst2.out.symm,by omega,by omega,fun j hj => ?_,HS5.out⟩;by_cases hjk:j≤k
     ·exact Hall.out j hjk
     obtain rfl:j=k+1:=by omega
     rw[Hhst2.out];omega
    case measure=>simp[intOf];omega
   obtain rfl:k=m:=by omega
   have hkI:¬ (k:Int)<(k:Int):=by omega
   have hyes:wsOk ls=true:=ZhL fun j hj=>⟨Hwd.out j (by have:=hn.out;omega),Hall.out j (by have:=hn.out;omega)⟩
   have hEn:E=wsP ls ls.length:=by rw[hE,hn.out]
   have Hhyes:=qh hyes;clear hyes;have HhEn:=qh hEn;clear hEn;clear hE;go_wp2
   go_ret2
   exact Zh1 Hhyes.out HhEn.out HS2.out
theorem ZdH (ls:List (List Nat)) (v:Value) (w:World) (hok:okTs ls) (h1:Txts w v ls) :
  Calls Try.prog 16 #[v] w fun e w'=>RWs ls w e w':=by
 obtain⟨a1,c1,rfl,hc1,hm1,hr1⟩:=h1.form;have hn10:=hok.1;obtain⟨i0,hi,hz0,hz1,hz2⟩:=info_parts Try.infoPart2;obtain⟨n,hn⟩:=eJ (ls.length);rw[hn] at hc1 hr1 hn10;rw[hn];have HS0:=qh (((St.start w).alloc w.heap.size rfl #[.int .i64 1,.int .i64 0] 34).boxrow 0 1 2 [.int .i64 1,.int .i64 0] rfl rfl (by unfold maxLen;omega));have Hr1:=qh hr1;replace hi:=qh hi;have Hhz0:=qh hz0;clear hz0;have Hhz1:=qh hz1;clear hz1;have Hhz2:=qh hz2;clear hz2;have Hhn:=qh hn;clear hn;have Hhok:=qh hok;clear hok;clear hr1 h1
 go_enter Try.func16, Try.ntmps16
 go_wp2_with fail
 go_loopw [4,5] (fun ev iv wr=>∃ (k c:Nat) (a:Option Addr) (E:List (Int × Int)),iv = .int .i64 (k:Int)∧ev = .slice a E.length c∧E=wsP ls k∧E.length≤60∧k≤n∧(∀ j,j<k→wdOk (ls.getD j [])=true∧(wsP ls (j+1)).length≤60)∧St w wr [Ent.row 34 2 (.slice a E.length c) E.length (E.flatMap Zad)]) (fun _ iv _=>n-(intOf iv).toNat)
 case atStart=>exact⟨0,1,_,[(1,0)],rfl,rfl,rfl,by decide,by omega,fun j hj=>by omega,HS0.out⟩
 case round =>
  obtain⟨k,c,a,E,rfl,rfl,hE,hEl,hk,hall,hS⟩:=hrel;have HS1:=qh hS;have Hall:=qh hall;clear hS hall HS0;by_cases hkn:k<n
  ·have hkI:(k:Int)<(n:Int):=by omega
   have hwk:IntKind.i64.wrap ((k:Int)+1)=(k:Int)+1:=IntWalk.i64_in _ (by omega);obtain⟨b1,o1,rfl,hbl1,hcs1⟩:=Hr1.out (by omega);have q0:=(bcell HS1.out.bel b1 _ hbl1).trans (hcs1 k hkn);have hxt:=Hhok.out.2 _ (memT (show k<ls.length by have:=Hhn.out;omega));obtain⟨lx,hlx⟩:=eI (ls.getD k []);rw[← hlx] at q0 hxt;have hx:=fun u=>Zed lx u hxt.1 (by omega)
   obtain⟨F,hF⟩:=eJ (ZaK lx);rw[hF] at hx;have Hx:=qh hx;replace hE:=qh hE;have HhF:=qh hF;clear hF;have Hhlx:=qh hlx;clear hlx;have Hhxt:=qh hxt;clear hxt;clear hx hcs1;cases hwx:wdOk lx with
   | false =>
    have hF0:=Zji hwx;rw[HhF.out] at hF0;subst hF0;have hno:wsOk ls=false:=Zep (k:=k) (by have:=Hhn.out;omega) fun h=>by have:=h.1;rw[← Hhlx.out,hwx] at this;cases this
    have Hhwx:=qh hwx;clear hwx;have Hhno:=qh hno;clear hno
    as_aux_lemma =>
    go_wp2_with (go_at_call 8;refine(Hx.out _).mono ?_;rintro e w2 ⟨a2,c2,rfl,hSx⟩;have HS2:=qh (((HS1.out.cat hSx).pick [] (by decide)).newRow0 34 2);clear hSx)
    go_ret2
    exact ZiI Hhno.out HS2.out
   | true =>
    have hw1:=Zf5 hwx;rw[HhF.out] at hw1;have hF1:¬ (F.length:Int)=0:=by omega
    have hF16:F.length≤100:=by omega
    have hwx2:wdOk (ls.getD k [])=true:=by rw[← Hhlx.out];exact hwx
    have Hhwx:=qh hwx;clear hwx;have Hhwx2:=qh hwx2;clear hwx2;by_cases hk0:k=0
    ·subst hk0;rw[Nat.add_zero] at q0;have h1E:=ZjR ls;rw[← Hhlx.out,HhF.out] at h1E;replace h1E:=qh h1E;have hgI:¬ (60:Int)<(F.length:Int):=by omega
     as_aux_lemma =>
     go_wp2_with (go_at_call 8;refine(Hx.out _).mono ?_;rintro e w2 ⟨a2,c2,rfl,hSx⟩;have HS2:=qh ((HS1.out.cat hSx).pick [1] (by decide));clear hSx);go_roundw
     case rel=>exact⟨1,c2,a2,F,by go_num,rfl,h1E.out.symm,by omega,by omega,fun j hj=>by (obtain rfl:j=0:=by omega);exact⟨Hhwx2.out,by rw[h1E.out];omega⟩,HS2.out⟩
     case measure=>simp[intOf]<;>omega
    have hk0I:¬ (k:Int)=0:=by omega
    have hst:=Ziy (ls:=ls) (k:=k) (by omega);rw[← Hhlx.out,HhF.out,← hE.out] at hst;obtain⟨G,hG⟩:=eI (E++F++[(5,0)]);have hGl:(E.length+F.length+1)=G.length:=by rw[hG];simp;omega
    have hGc:E.flatMap Zad++F.flatMap Zad++[.int .i64 5,.int .i64 0]=G.flatMap Zad:=by rw[hG,List.flatMap_append,List.flatMap_append];rfl
    rw[← hG] at hst;have Hst:=qh hst;have HhGl:=qh hGl;clear hGl;have HhGc:=qh hGc;clear hGc;clear hG hst;have hap:=True.intro;by_cases hg:60<G.length
    ·have hgI:(60:Int)<(G.length:Int):=by omega
     have hno:wsOk ls=false:=Zep (k:=k) (by have:=Hhn.out;omega) fun h=>by have:=h.2;rw[Hst.out] at this;omega
     have Hhno:=qh hno;clear hno
     go_wp2_with (first
      | (go_at_call 8;refine(Hx.out _).mono ?_;rintro e w2 ⟨a2,c2,rfl,hSx⟩;have HS2:=qh (HS1.out.cat hSx);clear hSx)
      | (at_builtin;refine Zao _ rfl _ _ _ rfl _ 34 i0 (.agg #[.int .i64 0,.int .i64 0]) 2 16 Try.underlying24 hi.out Hhz0.out Hhz1.out Hhz2.out rfl (by omega) _ E.length _ rfl (HS2.out.row 0 rfl) _ F.length (F.flatMap Zad) rfl (Za9 (HS2.out.row 1 rfl)) Zkx (by unfold maxLen;omega) (by omega) HS2.out.size ?_;intro a5 c5 w5 hown hgrow hat;have hS:=(HS2.out.appS 0 rfl hown hgrow hat).pick [0] (by decide);have HS5:=qh hS;clear hown hgrow hat hS)
      | (at_builtin;have HS9:=qh ((HS5.out.alloc _ rfl #[.int .i64 5,.int .i64 0] 34).boxrow 1 1 2 [.int .i64 5,.int .i64 0] rfl rfl (by unfold maxLen;omega));refine Zao _ rfl _ _ _ rfl _ 34 i0 (.agg #[.int .i64 0,.int .i64 0]) 2 16 Try.underlying24 hi.out Hhz0.out Hhz1.out Hhz2.out rfl (by omega) _ (E.length+F.length) _ rfl (HS9.out.row 0 rfl) _ 1 [.int .i64 5,.int .i64 0] rfl ((Zaa (HS9.out.row 1 rfl)).sl (by omega) |>.mono (Nat.zero_le _)) ZcP (by unfold maxLen;omega) (by omega) HS9.out.size ?_;intro a7 c7 w7 hown hgrow hat;have hS:=(HS9.out.appS 0 rfl hown hgrow hat).pick [0] (by decide);rw[HhGl.out] at hS ⊢;rw[HhGc.out] at hS;have HS7:=qh hS;clear hown hgrow hat hS;have HS8:=qh ((HS7.out.pick [] (by decide)).newRow0 34 2)))
     go_ret2
     exact ZiI Hhno.out HS8.out
    have hgI:¬ (60:Int)<(G.length:Int):=by omega
    go_wp2_with (first
     | (go_at_call 8;refine(Hx.out _).mono ?_;rintro e w2 ⟨a2,c2,rfl,hSx⟩;have HS2:=qh (HS1.out.cat hSx);clear hSx)
     | (at_builtin;refine Zao _ rfl _ _ _ rfl _ 34 i0 (.agg #[.int .i64 0,.int .i64 0]) 2 16 Try.underlying24 hi.out Hhz0.out Hhz1.out Hhz2.out rfl (by omega) _ E.length _ rfl (HS2.out.row 0 rfl) _ F.length (F.flatMap Zad) rfl (Za9 (HS2.out.row 1 rfl)) Zkx (by unfold maxLen;omega) (by omega) HS2.out.size ?_;intro a5 c5 w5 hown hgrow hat;have hS:=(HS2.out.appS 0 rfl hown hgrow hat).pick [0] (by decide);have HS5:=qh hS;clear hown hgrow hat hS)
     | (at_builtin;have HS9:=qh ((HS5.out.alloc _ rfl #[.int .i64 5,.int .i64 0] 34).boxrow 1 1 2 [.int .i64 5,.int .i64 0] rfl rfl (by unfold maxLen;omega));refine Zao _ rfl _ _ _ rfl _ 34 i0 (.agg #[.int .i64 0,.int .i64 0]) 2 16 Try.underlying24 hi.out Hhz0.out Hhz1.out Hhz2.out rfl (by omega) _ (E.length+F.length) _ rfl (HS9.out.row 0 rfl) _ 1 [.int .i64 5,.int .i64 0] rfl ((Zaa (HS9.out.row 1 rfl)).sl (by omega) |>.mono (Nat.zero_le _)) ZcP (by unfold maxLen;omega) (by omega) HS9.out.size ?_;intro a7 c7 w7 hown hgrow hat;have hS:=(HS9.out.appS 0 rfl hown hgrow hat).pick [0] (by decide);rw[HhGl.out] at hS ⊢;rw[HhGc.out] at hS;have HS7:=qh hS;clear hown hgrow hat hS))
    go_roundw
    case rel =>
     refine⟨k+1,c7,a7,G,by go_num,rfl,Hst.out.symm,by omega,by omega,fun j hj => ?_,HS7.out⟩;by_cases hjk:j<k
     ·exact Hall.out j hjk
     obtain rfl:j=k:=by omega
     exact⟨Hhwx2.out,by rw[Hst.out];omega⟩
    case measure=>simp[intOf]<;>omega
  obtain rfl:k=n:=by omega
  have hkI:¬ (k:Int)<(k:Int):=by omega
  have hyes:wsOk ls=true:=ZhL fun j hj=>Hall.out j (by have:=Hhn.out;omega)
  have hEn:E=wsP ls ls.length:=by rw[hE,Hhn.out]
  have Hhyes:=qh hyes;clear hyes;have HhEn:=qh hEn;clear hEn;clear hE;go_wp2
  go_ret2
  exact Zh1 Hhyes.out HhEn.out HS1.out
end Go.Proofs.Ytfikabecgaappaa
