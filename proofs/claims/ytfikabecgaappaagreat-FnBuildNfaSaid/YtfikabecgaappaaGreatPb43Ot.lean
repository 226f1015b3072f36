/-
  The walks over the program's accepts and ExprAccepts.
  Conditions: the list of parts reads as such; the text is one of bytes.
-/
import Derived.Test.YtfikabecgaappaaGreatPb42Spo
set_option maxHeartbeats 4000000
set_option maxRecDepth 100000
namespace Go.Proofs.YtfikabecgaappaaGreat
open Go.RowKit
theorem ZgD {P:Program} (t e:TypeId) (n:Nat) (cs:Array Value) (i:Nat) (d:TypeDesc) (sz:Nat) (h:P.underlying t=some (.array n e)) (hi:i<n) (hu:P.underlying e=some d) (hd:d.isRow=true) (hs:(P.info? e).map (·.size)=some sz) (w:World) :
  (Instr.index t (.agg cs) (.int .i64 (i:Int))).run P w = .ok (.agg (cs.extract (i*sz) (i*sz+sz))) w:=by
 cases hq:P.info? e with
 | none=>simp[hq] at hs
 | some ie =>
  have hz:ie.size=sz:=by simpa [hq] using hs
  have hagg:(isAgg e).run P w = .ok true w:=by unfold isAgg;rw[Sem.run_bind,run_underlying hu w];cases d<;>simp_all
  have h0:(0:Int)≤(i:Int)∧(i:Int)<(n:Int):=by omega
  simp[Instr.index,run_underlying h,asIntOf,h0,go_sem,part,hagg,sizeOf,typeInfo,hq,hz];exact fun hle=>absurd hle (by omega)
theorem Zhq {P:Program} (t e:TypeId) (n:Nat) (cs:Array Value) (i:Nat) (d:TypeDesc) (v:Value) (h:P.underlying t=some (.array n e)) (hi:i<n) (hu:P.underlying e=some d) (hd:d.isRow=false) (hs:(P.info? e).map (·.size)=some 1) (hv:cs[i]? = some v) (w:World) :
  (Instr.index t (.agg cs) (.int .i64 (i:Int))).run P w = .ok v w:=by
 cases hq:P.info? e with
 | none=>simp[hq] at hs
 | some ie =>
  have hz:ie.size=1:=by simpa [hq] using hs
  have hagg:(isAgg e).run P w = .ok false w:=by unfold isAgg;rw[Sem.run_bind,run_underlying hu w];cases d<;>simp_all
  have h0:(0:Int)≤(i:Int)∧(i:Int)<(n:Int):=by omega
  simp[Instr.index,run_underlying h,asIntOf,h0,go_sem,part,hagg,sizeOf,typeInfo,hq,hz,hv];exact fun hle=>absurd hle (by omega)
def accX (l:List Nat) (t:Ex):Bool:=tabE l.length (lsT l) t 0 l.length
def AccO (es:List (Int × Int)) (l:List Nat) (r:Bool):Prop:=(exOk es=true∧wdOk l=true∧∃ t:Ex,t.post=es∧accX l t=r)∨((exOk es=false∨wdOk l=false)∧r=false)
theorem Zo0 (es:List (Int × Int)) (l:List Nat):∃ r,AccO es l r:=by
 cases h:exOk es with
 | false=>exact⟨false,.inr ⟨.inl h,rfl⟩⟩
 | true =>
  cases g:wdOk l with
  | false=>exact⟨false,.inr ⟨.inr g,rfl⟩⟩
  | true =>obtain⟨t,ht⟩:=parse h;exact⟨_,.inl ⟨h,g,t,ht,rfl⟩⟩
theorem ZgL (t:Ex) (es:List (Int × Int)) (l:List Nat) (v:Value) (w:World) (r:Bool) (hr:accX l t=r) (hes:t.post=es) (hok:exOk es=true) (h:Pairs 0 w v es) (ht:isT l) (hwd:wdOk l=true) :
  Calls Tryz.prog 55 #[v,.string (txB l)] w fun e w'=>e = .returned (.bool r)∧Below w.heap.size w w':=by
 obtain⟨n,hln⟩:=eJ (l.length);obtain⟨hn8,-⟩:=Zdt hwd;have hsz:=ZcX l;rw[hln] at hsz hn8;have hI:(Tryz.prog.info? 129).map (·.size)=some 9:=by kernel_rfl
 have hJ:(Tryz.prog.info? 4).map (·.size)=some 1:=by kernel_rfl
 have hx1:∀ (X:Array Value) (u:World),(Instr.index 131 (.agg X) (.int .i64 0)).run Tryz.prog u = .ok (.agg (X.extract (0*9) (0*9+9))) u:=fun X u=>ZgD _ 129 9 X 0 _ 9 (by kernel_rfl) (by omega) Tryz.underlying129 rfl hI u
 obtain⟨Y,hY⟩:=eI ((spC (Zap n (tabE n (lsT l) t))).extract (0*9) (0*9+9));have hY1:Y[n]? = some (.bool r):=by rw[hY,Array.getElem?_extract,if_pos (by rw[Zaf];omega)];have:=Zlt (Zap n (tabE n (lsT l) t)) (i:=0) (j:=n) (by omega) (by omega);rw[show 0*9+n=0*9+n from rfl] at this;rw[this,Zbn _ (Nat.zero_le _) (Nat.le_refl _),← hr,← hln];rfl
 have hx2:∀ u:World,(Instr.index 129 (.agg Y) (.int .i64 (n:Int))).run Tryz.prog u = .ok (.bool r) u:=fun u=>Zhq _ 4 9 Y n _ (.bool r) (by kernel_rfl) (by omega) Tryz.underlying4 rfl hJ hY1 u
 have hx1':=fun u=>hx1 (spC (Zap n (tabE n (lsT l) t))) u
 rw[← hY] at hx1';have Hx1:=qh hx1';have Hx2:=qh hx2;have Hc:=qh (fun u (hp:Pairs 0 u v es)=>Zi7 t es l n v u hes hok hp ht hwd hln);have Hh:=qh h;clear hx1 hx1' hx2 hY hY1 hI hJ hes hok h ht hwd hr
 go_enter Tryz.func55, Tryz.ntmps55
 go_wp2_with fail;refine(Hc.out _ Hh.out).mono ?_;rintro e w1 ⟨rfl,hb1⟩;have hrun1:=Hx1.out w1;have hrun2:=Hx2.out w1;go_wp2;go_ret;exact⟨rfl,hb1⟩
theorem Zbr (es:List (Int × Int)) (l:List Nat) (v:Value) (w:World) (r:Bool) (hr:AccO es l r) (h:Pairs 0 w v es) (ht:isT l) (hlen:l.length≤2000000) :
  Calls Tryz.prog 16 #[v,.string (txB l)] w fun e w'=>e = .returned (.bool r)∧Below w.heap.size w w':=by
 obtain⟨x,hx⟩:=eJ (exOk es);obtain⟨y,hy⟩:=eJ (wdOk l);have Hc1:=qh (fun u (hp:Pairs 0 u v es)=>ZaU es v u hp x hx);have Hc2:=qh (fun u=>Zbe l u ht hlen y hy);have Hh:=qh h;have Ht:=qh ht;have Hr:=qh hr;replace hx:=qh hx;have Hhy:=qh hy;clear hy;clear h ht hr;cases x with
 | false =>
  have hrf:r=false:=by
   rcases Hr.out with⟨h1,-,-⟩|⟨-,h2⟩
   ·rw[hx.out] at h1;cases h1
   exact h2
  subst hrf
  go_enter Tryz.func16, Tryz.ntmps16
  go_wp2_with fail;refine(Hc1.out _ Hh.out).mono ?_;rintro e w1 ⟨rfl,hb1⟩;go_wp2;go_ret;exact⟨rfl,hb1⟩
 | true =>
  cases y with
  | false =>
   have hrf:r=false:=by
    rcases Hr.out with⟨-,h1,-⟩|⟨-,h2⟩
    ·rw[Hhy.out] at h1;cases h1
    exact h2
   subst hrf
   go_enter Tryz.func16, Tryz.ntmps16
   go_wp2_with fail;refine(Hc1.out _ Hh.out).mono ?_;rintro e w1 ⟨rfl,hb1⟩;go_wp2_with (go_at_call 52;refine(Hc2.out _).mono ?_;rintro e w' ⟨rfl,rfl⟩);go_ret;exact⟨rfl,hb1⟩
  | true =>
   obtain⟨t,ht1,ht2⟩:∃ t:Ex,t.post=es∧accX l t=r:=by
    rcases Hr.out with⟨-,-,h1⟩|⟨h1|h1,-⟩
    ·exact h1
    ·rw[hx.out] at h1;cases h1
    rw[Hhy.out] at h1;cases h1
   have Hc3:=qh (fun u (hp:Pairs 0 u v es)=>ZgL t es l v u r ht2 ht1 hx.out hp Ht.out Hhy.out);clear ht1 ht2
   go_enter Tryz.func16, Tryz.ntmps16
   go_wp2_with fail;refine(Hc1.out _ Hh.out).mono ?_;rintro e w1 ⟨rfl,hb1⟩;go_wp2_with (first|(go_at_call 52;refine(Hc2.out _).mono ?_;rintro e w' ⟨rfl,rfl⟩)|(go_at_call 55;refine(Hc3.out _ (Hh.out.below hb1)).mono ?_;rintro e w2 ⟨rfl,hb2⟩));go_ret;exact⟨rfl,hb1.trans (hb2.mono hb1.size)⟩
theorem Zl0 {l:List Bool} {k:Nat} (hk:k<l.length) {y:Bool} (hy:(!l.getD k false)=y):boolCells ((l.take (k+1)).map (!·))=boolCells ((l.take k).map (!·))++[.bool y]:=by
 have e:l.getD k false=l[k]:=by simp[hk]
 rw[e] at hy;rw[List.take_succ_eq_append_getElem hk,List.map_append];show boolCells ((l.take k).map (!·)++[!l[k]])=_;rw[Zn6,hy]
theorem ZnW (d:DfaD):flB true d=⟨d.next,d.ends.map (!·)⟩:=by unfold flB;congr 1;exact List.map_congr_left fun x _=>by cases x<;>rfl
theorem ZgG (d:DfaD) (v1 v2:Value) (w:World) (hd:Zak d.next d.ends=true) (h:DfaR 0 w (.agg #[v1,v2]) d) :
  Calls Tryz.prog 94 #[.agg #[v1,v2]] w fun e w'=>∃ u2,e = .returned (.agg #[v1,u2])∧Bools w.heap.size w' u2 (flB true d).ends∧Below w.heap.size w w':=by
 rw[ZnW];obtain⟨L,hL⟩:=eI (d.ends.length);have hl:=Zaj hd;have hL40:L≤40:=by omega
 obtain⟨_,_,hv,q1,q2⟩:=h;simp only[Value.agg.injEq,Array.mk.injEq,List.cons.injEq,and_true] at hv;obtain⟨rfl,rfl⟩:=hv;obtain⟨a1,c1,rfl,hca,hcb,-⟩:=q1.formI;have hS0:=(((St.start w).alloc w.heap.size rfl #[.slice a1 d.next.length c1,v2] 37).alloc (w.heap.size+1) (by simp) #[.slice none 0 0,.slice none 0 0] 37).alloc (w.heap.size+1+1) (by simp) #[.slice a1 d.next.length c1,.slice none 0 0] 37;have HS0:=qh (hS0.nilRow 4 1);obtain⟨a2,c2,rfl,hc1,hc2,hr2⟩:=q2.form;rw[← hL] at hc1 hr2;rw[← hL] at HS0;obtain⟨i0,hi,hz0,hz1,hz2⟩:=info_parts Tryz.infoBool;have Hr:=qh hr2;have e0:=hS0.cell (v:=.slice a1 d.next.length c1) 0 0 rfl rfl;have e1:=hS0.cell (v:=.slice a2 d.ends.length c2) 0 1 rfl rfl;rw[← hL] at e1;rw[← hL];replace hi:=qh hi;have Hhz0:=qh hz0;clear hz0;have Hhz1:=qh hz1;clear hz1;have Hhz2:=qh hz2;clear hz2;replace hL:=qh hL;clear hr2 q1 q2 hl hS0
 go_enter Tryz.func94, Tryz.ntmps94
 go_wp2;clear e0 e1
 go_loopw [5,12] (fun _ i wr=>∃ (k c:Nat) (a:Option Addr),i = .int .i64 (k:Int)∧k≤L∧St w wr [Ent.box w.heap.size #[.slice a1 d.next.length c1,.slice a2 L c2] 37,Ent.box (w.heap.size+1) #[.slice none 0 0,.slice none 0 0] 37,Ent.box (w.heap.size+1+1) #[.slice a1 d.next.length c1,.slice a k c] 37,Ent.row 4 1 (.slice a k c) k (boolCells ((d.ends.take k).map (!·)))])
  (fun _ i _=>L-(intOf i).toNat)
 case atStart=>exact⟨0,0,none,rfl,Nat.zero_le _,HS0.out⟩
 case round =>
  obtain⟨k,c,a,rfl,hk,hS⟩:=hrel;by_cases hlt:k<L
  ·have hlt2:(k:Int)<L:=by omega
   obtain⟨b2,o2,rfl,-,hb2,hcs⟩:=Hr.out (by omega);have k2:=(bcell hS.bel b2 _ hb2).trans (hcs k hlt);obtain⟨x,hx⟩:=eJ (d.ends.getD k false);rw[hx] at k2;obtain⟨y,hy⟩:=eJ ((!x));have hsn:=Zl0 (l:=d.ends) (k:=k) (by rw[← hL.out];exact hlt) (by rw[hx,hy]);have HS:=qh hS;have HSa:=qh (hS.alloc_ (.cells #[.bool y] 4));have HRw:=qh (HSa.out.row 3 rfl);have x1:=hS.cell (v:=.slice a k c) 2 1 rfl rfl;have Hhx:=qh hx;clear hx;have Hhsn:=qh hsn;clear hsn;clear hcs hS;go_wp2_with (at_builtin;refine wpList_append_lies _ rfl _ _ _ rfl _ 4 i0 (.bool false) 1 1 Tryz.underlying35 hi.out Hhz0.out Hhz1.out Hhz2.out rfl (by omega) _ k _ rfl HRw.out ⟨wr.heap.size,0,none⟩ 1 1 [.bool y] rfl rfl (World.news_of_block (heap_alloc_new wr _)) Zj3 (by omega) (by unfold maxLen;omega) (by omega) HSa.out.size _ rfl ?_;intro g6 c6 w6 hown6 hgrow6 hat6 hlt6;have HS6:=qh (HSa.out.app 3 rfl hown6 hgrow6 hat6);have y1:=HS6.out.cell (v:=.slice a k c) 2 1 rfl rfl;have y2:=HS6.out.fr 2 1 rfl;clear hown6 hgrow6 hat6 hlt6);go_roundw
   case rel =>refine⟨k+1,c6,some ⟨g6,0,none⟩,by go_num,by omega,?_⟩;rw[Hhsn.out];exact HS6.out.set 2 rfl 1 (.slice (some ⟨g6,0,none⟩) (k+1) c6)
   case measure=>simp[intOf];omega
  obtain rfl:k=L:=by omega
  have HSe:=qh hS;have t0:=hS.cell (v:=.slice a1 d.next.length c1) 2 0 rfl rfl;have t1:=hS.cell (v:=.slice a k c) 2 1 rfl rfl;have f0:=hS.fr 1 0 rfl;have f1:=hS.fr 1 1 rfl;have k0:=hS.cell (v:=.slice none 0 0) 1 0 rfl rfl;have k1:=hS.cell (v:=.slice none 0 0) 1 1 rfl rfl;clear hS;go_wp2;have hq:=(HSe.out.set 1 rfl 0 (.slice a1 d.next.length c1)).set 1 rfl 1 (.slice a k c);have q0:=hq.cell (v:=.slice a1 d.next.length c1) 1 0 rfl rfl;have q1:=hq.cell (v:=.slice a k c) 1 1 rfl rfl;refine bodyPost_ret (v:=.agg #[.slice a1 d.next.length c1,.slice a k c]) (by simp[results,Tryz.results94,go_sem,q0,q1]) rfl ?_;refine⟨.slice a k c,rfl,?_,hq.bel⟩;have hrow:=hq.row 3 rfl;have e:d.ends.take k=d.ends:=by rw[hL.out];exact List.take_length
  rw[e] at hrow;have e2:k=(d.ends.map (!·)).length:=by rw[List.length_map];exact hL.out
  exact(Zac hrow).sl (by omega) |> fun z=>by rw[e2] at z;exact e2 ▸ z
end Go.Proofs.YtfikabecgaappaaGreat
