/-
  Smallest automata, plain: states of one class are those with the same words behind them; two automata with the same language have the same smallest automaton.
  No condition: this text speaks of no program.
-/
import Derived.Test.YtfanhfcamblghaaPv17Rx
set_option maxHeartbeats 4000000
set_option maxRecDepth 100000
namespace Go.Proofs.Ytfanhfcamblghaa
open Go.RowKit
theorem ZcC (d:DfaD) (s:Int):runD d s []=s:=rfl
theorem ZaY (d:DfaD) (s:Int) (c:Nat) (w:List Nat):runD d s (c::w)=runD d (dnx d s c) w:=rfl
theorem ZdP (d:DfaD) (s:Int) (u w:List Nat):runD d s (u++w)=runD d (runD d s u) w:=by simp[runD]
theorem Zcd {c:Nat} {w:List Nat} (h:isW (c::w)):c<3∧isW w:=⟨h c (by simp),fun b hb=>h b (by simp[hb])⟩
theorem Zg9:isW []:=fun c hc=>by simp at hc
theorem Zjn {c:Nat} {w:List Nat} (hc:c<3) (h:isW w):isW (c::w):=fun b hb=>by
 rcases List.mem_cons.1 hb with rfl|hb
 ·exact hc
 exact h b hb
theorem ZbF {d:DfaD} (hd:fine d) {s c:Nat} (hs:s<d.next.length) (hc:c<3):nxD d s c<d.next.length∧dnx d (s:Int) c=((nxD d s c:Nat):Int):=Zbp hd hs hc
theorem ZcD {d:DfaD} (hd:fine d):∀ (w:List Nat) {s:Nat},isW w→s<d.next.length→∃ t:Nat,t<d.next.length∧runD d (s:Int) w=(t:Int)
 | [],s,_,hs=>⟨s,hs,rfl⟩
 | c::w,s,hw,hs=>by obtain⟨h1,h2⟩:=Zcd hw;obtain⟨h3,h4⟩:=ZbF hd hs h1;rw[ZaY,h4];exact ZcD hd w h2 h3
theorem ZbT (d:DfaD) (s:Nat):den d (s:Int)=enD d s:=by simp[den,enD]
theorem ZkS {d:DfaD} (hd:fine d):∀ (w:List Nat) {s t:Nat},isW w→s<d.next.length→t<d.next.length→clD d s=clD d t→den d (runD d (s:Int) w)=den d (runD d (t:Int) w)
 | [],s,t,_,hs,ht,h=>by rw[ZcC,ZcC,ZbT,ZbT];exact Zdw hs ht h
 | c::w,s,t,hw,hs,ht,h=>by obtain⟨h1,h2⟩:=Zcd hw;obtain⟨h3,h4⟩:=ZbF hd hs h1;obtain⟨h5,h6⟩:=ZbF hd ht h1;rw[ZaY,ZaY,h4,h6];exact ZkS hd w h2 h3 h5 (ZfM (fun s c hs hc=>(ZbF hd hs hc).1) hs ht h c h1)
theorem Zfj {d:DfaD} (hd:fine d):∀ (i:Nat) {s t:Nat},s<d.next.length→t<d.next.length→(∀ w,isW w→den d (runD d (s:Int) w)=den d (runD d (t:Int) w))→clAt d.next.length (nxD d) (enD d) i s=clAt d.next.length (nxD d) (enD d) i t
 | 0,s,t,hs,ht,h=>by
  refine(Zfa hs ht).2 ?_;have:=h [] Zg9
  rwa [ZcC,ZcC,ZbT,ZbT] at this
 | i+1,s,t,hs,ht,h=>by
  refine(Zbb hs ht).2 ((Zap _).2 ⟨Zfj hd i hs ht h,fun c hc => ?_⟩);obtain⟨h3,h4⟩:=ZbF hd hs hc;obtain⟨h5,h6⟩:=ZbF hd ht hc;refine Zfj hd i h3 h5 fun w hw => ?_
  have:=h (c::w) (Zjn hc hw)
  rwa [ZaY,ZaY,h4,h6] at this
theorem ZkK {d:DfaD} (hd:fine d) {s t:Nat} (hs:s<d.next.length) (ht:t<d.next.length) (h:∀ w,isW w→den d (runD d (s:Int) w)=den d (runD d (t:Int) w)):clD d s=clD d t:=Zfj hd _ hs ht h
theorem Zdg {d:DfaD} {s:Nat} (hs:s<d.next.length):clD d s<d.next.length:=by have:=(Za9 (d:=d) s hs).1;omega
theorem ZfK {d:DfaD} (hd:fine d) {s:Nat} (hs:s<d.next.length) {w:List Nat} (hw:isW w):den d (runD d ((clD d s:Nat):Int) w)=den d (runD d (s:Int) w) :=
 ZkS hd w hw (Zdg hs) hs (Za9 s hs).2
theorem ZeW {d:DfaD} (hf:fine d) (K:Nat):(∀ x∈(bat (nxM d) ((clD d 0:Nat):Int) K).met,∃ s:Nat,x=(s:Int)∧s<d.next.length∧clD d s=s)∧(bat (nxM d) ((clD d 0:Nat):Int) K).met.length≤d.next.length:=by
 have hl:1≤d.next.length:=hf.1
 have h1:∀ x∈(bat (nxM d) ((clD d 0:Nat):Int) K).met,∃ s:Nat,x=(s:Int)∧s<d.next.length∧clD d s=s:=by
  refine Zbu (Q:=fun x=>∃ s:Nat,x=(s:Int)∧s<d.next.length∧clD d s=s) ?_ (fun x c hc hx => ?_) K
  ·exact⟨clD d 0,rfl,Zdg (by omega),(Za9 0 (by omega)).2⟩
  obtain⟨s,rfl,hs,-⟩:=hx;have h2:=(Zbp hf hs hc).1;exact⟨clD d (nxD d s c),by simp[nxM],Zdg h2,(Za9 _ h2).2⟩
 refine⟨h1,?_⟩;have h2:=ZcF (Zbm (nx:=nxM d) (a:=((clD d 0:Nat):Int)) K).1 (m:=ZcZ d.next.length) (fun x hx=>by obtain⟨s,rfl,hs,-⟩:=h1 x hx;rw[ZbY];exact hs);rw[ZbU] at h2;exact h2
theorem Zja {d:DfaD} (hd:fine d) {K:Nat} (hK:d.next.length≤K):minD d=Zaz (nxM d) (den d) (bat (nxM d) ((clD d 0:Nat):Int) K).met:=by unfold minD;rw[Zbn (ZeW hd _).2 hK]
theorem Zgs {d:DfaD} (hd:fine d):∀ (w:List Nat) {s:Nat},isW w→s<d.next.length→∃ t:Nat,t<d.next.length∧w.foldl (nxM d) ((clD d s:Nat):Int)=((clD d t:Nat):Int)∧runD d (s:Int) w=(t:Int)
 | [],s,_,hs=>⟨s,hs,rfl,rfl⟩
 | c::w,s,hw,hs=>by
  obtain⟨h1,h2⟩:=Zcd hw;obtain⟨h3,h4⟩:=ZbF hd hs h1;obtain⟨t,ht,e1,e2⟩:=Zgs hd w h2 h3;refine⟨t,ht,?_,by rw[ZaY,h4];exact e2⟩;have e3:nxM d ((clD d s:Nat):Int) c=((clD d (nxD d s c):Nat):Int):=by unfold nxM;rw[Int.toNat_natCast];congr 1;exact ZfM (fun s c hs hc=>(ZbF hd hs hc).1) (Zdg hs) hs (Za9 s hs).2 c h1
  rw[List.foldl_cons,e3];exact e1
theorem Zk7 {d:DfaD} (hd:fine d) {w:List Nat} (hw:isW w):accD (minD d) w=accD d w:=by unfold minD;rw[ZhZ (ZeW hd _).2 hw];obtain⟨t,ht,e1,e2⟩:=Zgs hd w hw (show 0<d.next.length from hd.1);rw[e1,ZbT];unfold accD;rw[show(0:Int)=((0:Nat):Int) from rfl,e2,ZbT];exact Zdw (Zdg ht) ht (Za9 t ht).2
theorem Zi9 {x y:DfaD} (hx:fine x) (hy:fine y) (h:∀ w,isW w→accD x w=accD y w):minD x=minD y:=by
 obtain⟨K,hK⟩:=eI (x.next.length+y.next.length);rw[Zja hx (show x.next.length≤K by omega),Zja hy (show y.next.length≤K by omega)];have lx:0<x.next.length:=hx.1;have ly:0<y.next.length:=hy.1
 let nq:Int × Int→Nat→Int × Int:=fun p c=>(nxM x p.1 c,nxM y p.2 c)
 let Q:Int × Int→Prop:=fun p=>∃ s t:Nat,p=((s:Int),(t:Int))∧s<x.next.length∧t<y.next.length∧clD x s=s∧clD y t=t∧∀ w,isW w→den x (runD x (s:Int) w)=den y (runD y (t:Int) w)
 let a:Int × Int:=(((clD x 0:Nat):Int),((clD y 0:Nat):Int))
 have h0:Q a:=⟨clD x 0,clD y 0,rfl,Zdg lx,Zdg ly,(Za9 0 lx).2,(Za9 0 ly).2,fun w hw=>by rw[ZfK hx lx hw,ZfK hy ly hw];exact h w hw⟩
 have hv:∀ p c,c<3→Q p→Q (nq p c):=by
  rintro p c hc ⟨s,t,rfl,hs,ht,-,-,hr⟩;obtain⟨h3,h4⟩:=ZbF hx hs hc;obtain⟨h5,h6⟩:=ZbF hy ht hc;refine⟨clD x (nxD x s c),clD y (nxD y t c),by simp[nq,nxM],Zdg h3,Zdg h5,(Za9 _ h3).2,(Za9 _ h5).2,fun w hw => ?_⟩;rw[ZfK hx h3 hw,ZfK hy h5 hw];have:=hr (c::w) (Zjn hc hw)
  rwa [ZaY,ZaY,h4,h6] at this
 have f1:∀ p q,Q p→Q q→p.1=q.1→p=q:=by
  rintro p q ⟨s,t,rfl,hs,ht,-,e1,r1⟩ ⟨s',t',rfl,hs',ht',-,e2,r2⟩ he;simp only[Int.ofNat_inj] at he;subst he;have:=ZkK hy ht ht' fun w hw=>(r1 w hw).symm.trans (r2 w hw)
  rw[e1,e2] at this;rw[this]
 have f2:∀ p q,Q p→Q q→p.2=q.2→p=q:=by
  rintro p q ⟨s,t,rfl,hs,ht,e1,-,r1⟩ ⟨s',t',rfl,hs',ht',e2,-,r2⟩ he;simp only[Int.ofNat_inj] at he;subst he;have:=ZkK hx hs hs' fun w hw=>(r1 w hw).trans (r2 w hw).symm
  rw[e1,e2] at this;rw[this]
 have m1:=ZcU (nx:=nq) (nx':=nxM x) (a:=a) (f:=Prod.fst) (Q:=Q) (en:=fun p=>den x p.1) (en':=den x) (K:=K) h0 hv f1 (fun _ _ _ _=>rfl) (fun _ _=>rfl);have m2:=ZcU (nx:=nq) (nx':=nxM y) (a:=a) (f:=Prod.snd) (Q:=Q) (en:=fun p=>den x p.1) (en':=den y) (K:=K) h0 hv f2 (fun _ _ _ _=>rfl) (fun p hp=>by obtain⟨s,t,rfl,-,-,-,-,r⟩:=hp;exact(r [] Zg9).symm);exact m1.trans m2.symm
def vl (w:List Nat):Nat:=w.foldl (fun n c=>3*n+c+1) 0
section
variable {α:Type} [DecidableEq α] {nx:α→Nat→α} {a:α}
end
theorem ZkB {l:List Nat} {i:Nat} (hi:i<l.length) (hw:isW l) (h:i<(wdB l).size):(((wdB l)[i]'h).toNat:Int)=97+(l.getD i 0:Nat):=by
 have hc:l.getD i 0<3:=hw _ (memD hi);have e:(wdB l)[i]'h=UInt8.ofNat (97+l.getD i 0):=by show(wdB l).data[i]=_;simp[wdB,hi]
 rw[e,UInt8.toNat_ofNat'];omega
theorem Zij (l:List Nat) (i:Nat) (hi:i<l.length) (hw:isW l) (w:World):Calls Try.prog 93 #[.string (wdB l),.int .i64 i] w fun e w'=>e = .returned (.int .i64 (l.getD i 0:Nat))∧w=w':=by
 have hc:l.getD i 0<3:=hw _ (memD hi);have hs:(wdB l).size=l.length:=ZdO l;have hat:=fun h=>ZkB hi hw h
 obtain⟨c,hcc⟩:=eI (l.getD i 0);rw[← hcc] at hc hat;rw[← hcc];have hrun:∀ w':World,(Instr.index 9 (.string (wdB l)) (.int .i64 (i:Int))).run Try.prog w' = .ok (.int .u8 (97+(c:Int))) w':=fun w'=>by rw[run_index_string w' 9 (wdB l) .i64 i Try.underlying9,dif_pos (by omega)];congr 2;exact hat _
 have hw8:IntKind.u8.wrap (97+(c:Int)-97)=(c:Int):=by
  obtain rfl|rfl|rfl:c=0∨c=1∨c=2:=by omega
  all_goals rfl
 have hw9:IntKind.i64.wrap (c:Int)=(c:Int):=IntWalk.i64_in _ (by omega);replace hcc:=qh hcc;clear hat
 go_enter Try.func93, Try.ntmps93
 go_wp2;go_ret;exact⟨rfl,rfl⟩
theorem Zf6 (d:DfaD) (s:Int) {l:List Nat} {k:Nat} (hk:k<l.length):runD d s (l.take (k+1))=dnx d (runD d s (l.take k)) (l.getD k 0):=by rw[List.take_succ_eq_append_getElem hk,ZcR];simp[runD,hk]
theorem Zhp (d:DfaD) (q:Nat) (l:List Nat) (v:Value) (w:World) (hd:Zaf d.next d.ends=true) (hq:q<d.next.length) (hw:isW l) (hl:l.length≤1000000) (h:DfaR 0 w v d) :
  Calls Try.prog 71 #[v,.int .i64 q,.string (wdB l)] w fun e w'=>e = .returned (.int .i64 (runD d q l))∧Below w.heap.size w w':=by
 obtain⟨v1,v2,rfl,g1,g2⟩:=h;have hlen:=Zag hd;have hS0:=(St.start w).alloc _ rfl #[v1,v2] 45;have hs:(wdB l).size=l.length:=ZdO l;have G1:=qh g1;replace hd:=qh hd;have Hhw:=qh hw;clear hw;replace hS0:=qh hS0;clear g1 g2
 go_enter Try.func71, Try.ntmps71
 go_wp2
 go_loopw [1,10] (fun fr i wr=>∃ k p:Nat,fr = .int .i64 p∧i = .int .i64 k∧k≤l.length∧p<d.next.length∧(p:Int)=runD d q (l.take k)∧St w wr [Ent.box w.heap.size #[v1,v2] 45]) (fun _ i _=>l.length-(intOf i).toNat)
 case atStart=>exact⟨0,q,rfl,rfl,Nat.zero_le _,hq,rfl,hS0.out⟩
 case round =>
  obtain⟨k,p,rfl,rfl,hk,hp,hrun,hS⟩:=hrel;by_cases hlt:k<l.length
  ·have hc:l.getD k 0<3:=Hhw.out _ (memD hlt);obtain⟨b1,o1,cap1,z,t,s,rfl,hc1,hc2,k1,hs1,hs2,k2,hb1,hb2⟩:=ZhK (G1.out.below hS.bel) hd.out hp hc;have e0:=hS.cell (v:=.slice (some ⟨b1,o1,none⟩) d.next.length cap1) 0 0 rfl rfl;have hnx:=(ZaI hd.out hp).2 _ hc;have hsn:=Zf6 d q hlt;rw[← hrun] at hsn;obtain⟨x,hx⟩:=eI ((d.next.getD p []).getD (l.getD k 0) 0);have hdx:dnx d (p:Int) (l.getD k 0)=x:=by rw[hx];rfl
   rw[hdx] at hsn;rw[← hx] at k2 hnx;obtain⟨x0,x1⟩:=hnx;obtain⟨x,rfl⟩:=Int.eq_ofNat_of_zero_le x0;have hlet:=fun (w:World)=>Zij l k hlt Hhw.out w
   obtain⟨c,hcc⟩:=eI (l.getD k 0);rw[← hcc] at hc k2 hlet;have hp2:(p:Int)<d.next.length:=by omega
   have hc3:(c:Int)<3:=by omega
   have hkl:(k:Int)<l.length:=by omega
   have Hlet:=qh hlet;replace hS:=qh hS;have Hhx:=qh hx;clear hx;have Hhdx:=qh hdx;clear hdx;have Hhsn:=qh hsn;clear hsn;have Hhcc:=qh hcc;clear hcc;have Hhrun:=qh hrun;clear hrun;clear hlet;go_wp2
   go_quiet (((go_at_call 93;with_reducible exact Zj7 (Hlet.out _))))
   go_wp2;go_roundw
   case rel=>exact⟨k+1,x,rfl,by go_num,by omega,by omega,Hhsn.out.symm,hS.out.drewN _⟩
   case measure=>simp[intOf];omega
  obtain rfl:k=l.length:=by omega
  rw[List.take_length] at hrun;replace hS:=qh hS;have Hhrun:=qh hrun;clear hrun;go_wp2;go_ret;exact⟨ZbQ Hhrun.out,hS.out.bel⟩
theorem Zhg (d:DfaD) (l:List Nat) (v:Value) (w:World) (hd:Zaf d.next d.ends=true) (hw:isW l) (hl:l.length≤1000000) (h:DfaR 0 w v d) :
  Calls Try.prog 81 #[v,.string (wdB l)] w fun e w'=>e = .returned (.bool (accD d l))∧Below w.heap.size w w':=by
 have HD:=qh h;obtain⟨v1,v2,rfl,g1,g2⟩:=h;obtain⟨h1,h2,h3⟩:=Zag hd;obtain⟨q,hq⟩:=Int.eq_ofNat_of_zero_le (Zfl hd hw (s:=0) (by omega) (by omega)).1;have hqn:q<d.ends.length:=by have:=(Zfl hd hw (s:=0) (by omega) (by omega)).2;omega
 have hS0:=(St.start w).alloc _ rfl #[v1,v2] 45;obtain⟨b2,o2,cap2,rfl,hc1,hc2,k2,hb2⟩:=ZjL g2 hqn;have hacc:accD d l=d.ends.getD q false:=by unfold accD den;rw[hq,Int.toNat_natCast]
 have e0:=hS0.cell (v:=v1) 0 0 rfl rfl;have e1:=hS0.cell (v:=.slice (some ⟨b2,o2,none⟩) d.ends.length cap2) 0 1 rfl rfl;have hl0:=(hS0.boxlt 0 rfl).2;have hk2:=(bcell hS0.bel b2 (o2+q) hb2).trans k2;have hb2':=Nat.lt_of_lt_of_le hb2 hS0.size;obtain⟨W,hW⟩:=eI (w.alloc (.cells #[v1,.slice (some ⟨b2,o2,none⟩) d.ends.length cap2] 45));rw[← hW] at e0 e1 hl0 hk2 hb2' hS0;have hrun:∀ w':World,Below w.heap.size w w'→Calls Try.prog 71 #[.agg #[v1,.slice (some ⟨b2,o2,none⟩) d.ends.length cap2],.int .i64 0,.string (wdB l)] w' fun e w2=>e = .returned (.int .i64 (runD d 0 l))∧Below w'.heap.size w' w2:=fun w' hb=>Zhp d 0 l (.agg #[v1,.slice (some ⟨b2,o2,none⟩) d.ends.length cap2]) w' hd (by omega) hw hl (HD.out.below hb)
 rw[hq] at hrun;have Hrun:=qh hrun;have Hk:=qh (fun (w':World) (h:Below W.drew.heap.size W.drew w')=>(show w'.cell? ⟨w.heap.size,0,none⟩=some v1∧w'.cell? ⟨w.heap.size,1,none⟩=some (.slice (some ⟨b2,o2,none⟩) d.ends.length cap2)∧w'.cell? ⟨b2,o2+q,none⟩=some (.bool (d.ends.getD q false)) from⟨(bcell h _ _ hl0).trans e0,(bcell h _ _ hl0).trans e1,(bcell h _ _ hb2').trans hk2⟩));obtain⟨r,hr⟩:=eI (d.ends.getD q false);rw[← hr] at hacc hk2 Hk;rw[hacc];have hqi:(q:Int)<d.ends.length:=by omega
 have HBd:=qh hS0.bel.drew;replace hS0:=qh hS0;have Hhd:=qh hd;clear hd;have Hhw:=qh hw;clear hw;have Hhq:=qh hq;clear hq;have Hhr:=qh hr;clear hr;have Hhacc:=qh hacc;clear hacc;have HW:=qh hW;clear hW g1 g2 k2 hrun h3
 go_enter Try.func81, Try.ntmps81
 go_wp2_with fail;rw[← HW.out]
 go_region_held3 (fun w'=>w'.cell? ⟨w.heap.size,0,none⟩=some v1∧w'.cell? ⟨w.heap.size,1,none⟩=some (.slice (some ⟨b2,o2,none⟩) d.ends.length cap2)∧w'.cell? ⟨b2,o2+q,none⟩=some (.bool r))
  (first|go_keep|exact Hk.out _ hq0)
  (first
   | (go_at_call 71;(with_reducible refine(Hrun.out _ HBd.out).mono ?_);rintro e u0 ⟨rfl,hq0⟩))
 go_wp2;go_ret;exact⟨rfl,HBd.out.trans (hq0.mono HBd.out.size)⟩
def Strs (B:Nat) (w:World) (v:Value) (ws:List (List Nat)):Prop:=Sl B w v ws.length 1 (wdCells ws)
theorem Strs.below {B:Nat} {w w':World} {v:Value} {ws:List (List Nat)} (h:Strs B w v ws) (he:Below w.heap.size w w'):Strs B w' v ws:=Sl.below h he
theorem Strs.form {B:Nat} {w:World} {v:Value} {ws:List (List Nat)} (h:Strs B w v ws):∃ a cap,v = .slice a ws.length cap∧ws.length≤cap∧cap≤9223372036854775807 ∧
  (0<ws.length→∃ b off,a=some ⟨b,off,none⟩∧b<w.heap.size∧∀ j,j<ws.length→w.cell? ⟨b,off+j,none⟩=some (.string (wdB (ws.getD j [])))):=by
 obtain⟨hl,a,cap,hv,h1,h2,h3⟩:=h;refine⟨a,cap,hv,h1,h2,fun hn => ?_⟩;obtain⟨b,off,ha,hb,hlt,hc⟩:=h3 hn;refine⟨b,off,ha,hlt,fun j hj => ?_⟩;rw[hc j (by omega)];simp[hj]
def okWs (ws:List (List Nat)):Prop:=∀ x∈ws,isW x∧x.length≤400000
theorem Zi1 {x:ByteArray}:∀ u∈[Value.string x],u.oneCell'=true:=by intro u hu;simp only[List.mem_singleton] at hu;subst hu;rfl
def LOk (st:List (List Nat)):Prop:=(∀ x∈st,isW x)∧∀ i,i<st.length→(st.getD i []).length≤i
theorem LOk.visit {β:Type} [DecidableEq β] {key:List Nat→β} {s:List (List Nat)} (h:LOk s) {w:List Nat} (hw:isW w) (hl:w.length≤s.length):LOk (kvisit key s w):=by
 unfold kvisit
 split
 ·exact h
 refine⟨fun x hx => ?_,fun i hi => ?_⟩
 ·rcases List.mem_append.1 hx with hx|hx
  ·exact h.1 x hx
  simp only[List.mem_singleton] at hx;rw[hx];exact hw
 simp only[List.length_append,List.length_singleton] at hi;by_cases hin:i<s.length
 ·have:=h.2 i hin;simp only[List.getD_eq_getElem?_getD] at this ⊢;rw[List.getElem?_append_left hin];exact this
 obtain rfl:i=s.length:=by omega
 simpa using hl
theorem LOk.row {β:Type} [DecidableEq β] {key:List Nat→β} {s:List (List Nat)} (h:LOk s) {k:Nat} (hk:k<s.length):∀ n,n≤3→LOk (krow key s (s.getD k []) n)∧s.length≤(krow key s (s.getD k []) n).length
 | 0,_=>⟨h,Nat.le_refl _⟩
 | n+1,hn=>by obtain⟨h1,h2⟩:=h.row (key:=key) hk n (by omega);have h3:=(Ze2 (key:=key) (krow key s (s.getD k []) n) (s.getD k []++[n])).length_le;refine⟨h1.visit (ZcG (h.1 _ (memD hk)) (Zg8 (by omega))) ?_,Nat.le_trans h2 h3⟩;have:=h.2 k hk;rw[List.length_append,List.length_singleton];omega
theorem LOk.kat {β:Type} [DecidableEq β] {key:List Nat→β} {s:List (List Nat)} (h:LOk s):∀ k,LOk (kat key s k)
 | 0=>h
 | k+1=>by
  have ih:=LOk.kat (key:=key) h k;by_cases hk:k<(Go.Proofs.Ytfanhfcamblghaa.kat key s k).length
  ·rw[Zc5 hk];exact(ih.row hk 3 (by omega)).1
  rw[Zc6 (by omega)];exact ih
theorem LOk.okWs {st:List (List Nat)} (h:LOk st) (hl:st.length≤1000):∀ x∈st,isW x∧x.length≤399999:=fun x hx=>by refine⟨h.1 x hx,?_⟩;obtain⟨i,hi,e⟩:=List.getElem_of_mem hx;have:=h.2 i hi;rw[ZaW hi,e] at this;omega
def hitD (d:DfaD) (g:DfaD):Option (List Nat):=hitP d g
theorem Zjq (d g:DfaD):hitD d g=hitK Zk6 d g:=rfl
theorem Zka:Zk6≤1600:=Nat.le_refl _
theorem Zgr {d g:DfaD} {w:List Nat} (h:hitD d g=some w):isW w∧accD d w≠accD g w:=by rw[Zjq] at h;exact Zkq h
theorem Zjp (d:DfaD):Zlt d (hitD d):=fun _ _ _ h=>Zgr h
theorem Zkr {K:Nat} {a b:DfaD} {w:List Nat} (h:hitK K a b=some w):w.length≤K:=by have hg:=(Zbm (nx:=Zat a b) (a:=((0,0):Int × Int)) K).2.1;obtain⟨i,hi,hw,-⟩:=Zc9 (d:=((0,0):Int × Int)) hg h;rw[← hw];exact ZhU (nx:=Zat a b) (a:=((0,0):Int × Int)) K _ (memD (by omega))
theorem Zks {d g:DfaD} {w:List Nat} (h:hitD d g=some w):w.length≤1600:=by rw[Zjq] at h;have:=Zkr h;have:=Zka;omega
def preW (d:DfaD):Nat→List (List Nat)
 | 0=>[[]]
 | j+1=>(tabW d (hitD d) j).1
def resW (d:DfaD) (j:Nat):List (List Nat):=(tabW d (hitD d) j).2
def staW (d:DfaD) (j:Nat):List (List Nat):=(tabW d (hitD d) j).1
def gueW (d:DfaD) (j:Nat):DfaD:=gssW d (hitD d) j
theorem Zid {α:Type} {l m:List α} (h:l <+: m) (hm:m.Nodup):l.Nodup:=by obtain⟨t,rfl⟩:=h;exact(List.nodup_append.1 hm).1
theorem ZiS (d:DfaD) (j:Nat) {w:List Nat} (h:hitD d (gueW d j)=some w):resW d (j+1)=resW d j++[w.drop (cutW d (staW d j) (gueW d j) w+1)]:=by show(tabW d (hitD d) j).2++_=_;have h':hitD d (Zas d (tabW d (hitD d) j).1 (tabW d (hitD d) j).2)=some w:=h;simp only[h',w_8];rfl
structure LTab (d:DfaD) (j:Nat):Prop where
 pre:LOk (preW d j)
 nd:((preW d j).map (rowW d (resW d j))).Nodup
 re:okWs (resW d j)
 rl:(resW d j).length≤j+1
 inv:LInv d (staW d j) (resW d j)
 st:LOk (staW d j)
theorem LTab.at {d:DfaD} (hd:Zaf d.next d.ends=true):∀ j,(∀ i,i<j→(hitD d (gueW d i)).isSome=true)→LTab d j
 | 0,hy=>by
  have hinv:=(ZgL hd (Zjp d) 0 hy).1
  have h0:LOk [[]]:=⟨fun x hx=>by simp at hx;subst hx;intro c hc;simp at hc,fun i hi=>by
   obtain rfl:i=0:=by simpa using hi
   simp⟩
  exact⟨h0,by simp[preW],fun x hx=>by simp[resW,tabW] at hx;subst hx;exact⟨fun c hc=>by simp at hc,by simp⟩,by simp[resW,tabW],hinv,LOk.kat h0 _⟩
 | j+1,hy=>by
  have ih:=LTab.at hd j fun i hi=>hy i (by omega)
  have hinv:=(ZgL hd (Zjp d) (j+1) hy).1;obtain⟨w,hw⟩:=Option.isSome_iff_exists.1 (hy j (by omega));have hr:=ZiS d j hw;have hww:=(Zgr hw).1;have hpre:preW d (j+1) <+: staW d (j+1):=Zfv (key:=rowW d (resW d (j+1))) (s0:=preW d (j+1)) (Nat.zero_le (d.next.length+1));refine⟨ih.st,?_,fun x hx => ?_,?_,hinv,LOk.kat (s:=preW d (j+1)) ih.st _⟩
  ·obtain⟨t,ht⟩:=hpre;have h1:=hinv.nd;refine Zid (m:=(staW d (j+1)).map (rowW d (resW d (j+1)))) ⟨t.map (rowW d (resW d (j+1))),?_⟩ h1;rw[← List.map_append,ht]
  ·rw[hr] at hx;rcases List.mem_append.1 hx with hx|hx
   ·exact ih.re x hx
   simp only[List.mem_singleton] at hx;subst hx;refine⟨Zfx hww _,?_⟩;have:=Zks hw;rw[List.length_drop];omega
  rw[hr,List.length_append,List.length_singleton];have:=ih.rl;omega
/-! The guesses in memory. -/
def Ent.sub (X y:Ent):Prop:=(∀ w,X.holds w→y.holds w)∧∀ k,y.foot k→X.foot k
def GMem (X:Ent) (vals:List (Value × Value)) (gs:List DfaD):Prop:=vals.length=gs.length∧∀ i,i<gs.length →
 ∃ a1 c1 a2 c2 vs,vals.getD i (undef,undef)=(.slice a1 (gs.getD i ⟨[],[]⟩).next.length c1,.slice a2 (gs.getD i ⟨[],[]⟩).next.length c2) ∧
  Ent.sub X (Ent.rows 26 3 (.slice a1 (gs.getD i ⟨[],[]⟩).next.length c1) vs ((gs.getD i ⟨[],[]⟩).next.map intCells))∧Ent.sub X (Ent.row 4 1 (.slice a2 (gs.getD i ⟨[],[]⟩).next.length c2) (gs.getD i ⟨[],[]⟩).next.length (boolCells (gs.getD i ⟨[],[]⟩).ends))
theorem GMem.nil (X:Ent):GMem X [] []:=⟨rfl,fun i hi=>absurd hi (by simp)⟩
theorem GMem.snoc {X:Ent} {vals:List (Value × Value)} {gs:List DfaD} (h:GMem X vals gs) {g:DfaD} {a1 a2:Option Addr} {c1 c2:Nat} {vs:List Value} :
  GMem (Ent.all [X,Ent.rows 26 3 (.slice a1 g.next.length c1) vs (g.next.map intCells),Ent.row 4 1 (.slice a2 g.next.length c2) g.next.length (boolCells g.ends)]) (vals++[(.slice a1 g.next.length c1,.slice a2 g.next.length c2)]) (gs++[g]):=by
 refine⟨by simp[h.1],fun i hi => ?_⟩;simp only[List.length_append,List.length_singleton] at hi;by_cases hin:i<gs.length
 ·obtain⟨p1,q1,p2,q2,us,e,s1,s2⟩:=h.2 i hin;have e1:(gs++[g]).getD i ⟨[],[]⟩=gs.getD i ⟨[],[]⟩:=by simp only[List.getD_eq_getElem?_getD];rw[List.getElem?_append_left hin]
  have e2:(vals++[((Value.slice a1 g.next.length c1),(Value.slice a2 g.next.length c2))]).getD i (undef,undef)=vals.getD i (undef,undef):=by simp only[List.getD_eq_getElem?_getD];rw[List.getElem?_append_left (by rw[h.1];exact hin)]
  rw[e1,e2];exact⟨p1,q1,p2,q2,us,e,⟨fun w hw=>s1.1 w (hw X (by simp)),fun k hk=>⟨X,by simp,s1.2 k hk⟩⟩,⟨fun w hw=>s2.1 w (hw X (by simp)),fun k hk=>⟨X,by simp,s2.2 k hk⟩⟩⟩
 obtain rfl:i=gs.length:=by omega
 have e1:(gs++[g]).getD gs.length ⟨[],[]⟩=g:=by simp
 have e2:(vals++[((Value.slice a1 g.next.length c1),(Value.slice a2 g.next.length c2))]).getD gs.length (undef,undef)=((Value.slice a1 g.next.length c1),(Value.slice a2 g.next.length c2)):=by rw[← h.1];simp
 rw[e1,e2];exact⟨a1,c1,a2,c2,vs,rfl,⟨fun w hw=>hw _ (by simp),fun k hk=>⟨_,by simp,hk⟩⟩,⟨fun w hw=>hw _ (by simp),fun k hk=>⟨_,by simp,hk⟩⟩⟩
theorem GMem.own {w0 w:World} {L:List Ent} (h:St w0 w L) (i:Nat) {X:Ent} (hx:L[i]? = some X) {vals:List (Value × Value)} {gs:List DfaD} (hG:GMem X vals gs) {k:Nat} (hk:k<gs.length) :
  ∃ a1 c1 a2 c2,vals.getD k (undef,undef)=(.slice a1 (gs.getD k ⟨[],[]⟩).next.length c1,.slice a2 (gs.getD k ⟨[],[]⟩).next.length c2)∧(gs.getD k ⟨[],[]⟩).ends.length=(gs.getD k ⟨[],[]⟩).next.length ∧
   DfaO 26 3 4 w0.heap.size w.heap.size w (.agg #[.slice a1 (gs.getD k ⟨[],[]⟩).next.length c1,.slice a2 (gs.getD k ⟨[],[]⟩).next.length c2]) (gs.getD k ⟨[],[]⟩):=by
 obtain⟨a1,c1,a2,c2,vs,e,s1,s2⟩:=hG.2 k hk;have hil:i<L.length:=(List.getElem?_eq_some_iff.1 hx).1;have h1:=h.same i hx _ (s1.1 w) s1.2;have h2:=h.same i hx _ (s2.1 w) s2.2;have g1:=h1.intSS i (by rw[List.getElem?_set,if_pos rfl,if_pos hil]);have g2:=h2.row i (by rw[List.getElem?_set,if_pos rfl,if_pos hil]);have hl:(gs.getD k ⟨[],[]⟩).ends.length=(gs.getD k ⟨[],[]⟩).next.length:=by have:=g2.1;simp at this;simpa using this
 refine⟨a1,c1,a2,c2,e,hl,_,_,rfl,g1,?_⟩;unfold OBools;rw[hl];exact Zaa g2
theorem Zls {d:DfaD} (h:Zaf d.next d.ends=true):Zaf (minD d).next (minD d).ends=true:=by rw[← Zf3 (ZaE h)];exact Zbx h
inductive Pth (ms:List (Int × Int × Int)):Int→List Nat→Int→Prop
 | here (s:Int):Pth ms s [] s
 | eps {s t u:Int} {w:List Nat}:(s,-1,t)∈ms→Pth ms t w u→Pth ms s w u
 | step {s t u:Int} {c:Nat} {w:List Nat}:(s,(c:Int),t)∈ms→Pth ms t w u→Pth ms s (c::w) u
theorem Pth.mono {ms ns:List (Int × Int × Int)} (hs:∀ m∈ms,m∈ns) {s t:Int} {x:List Nat} (h:Pth ms s x t):Pth ns s x t:=by
 induction h with
 | here s=>exact .here s
 | eps hm _ ih=>exact .eps (hs _ hm) ih
 | step hm _ ih=>exact .step (hs _ hm) ih
theorem Pth.map {ms ns:List (Int × Int × Int)} (f:Int→Int) (hs:∀ m∈ms,(f m.1,m.2.1,f m.2.2)∈ns∨(m.2.1 = -1∧f m.1=f m.2.2)) {s t:Int} {x:List Nat} (h:Pth ms s x t):Pth ns (f s) x (f t):=by
 induction h with
 | here s=>exact .here _
 | eps hm _ ih =>
  rcases hs _ hm with h|⟨_,h⟩
  ·exact .eps h ih
  exact h ▸ ih
 | step hm _ ih =>
  rcases hs _ hm with h|⟨h,_⟩
  ·exact .step h ih
  simp only at h;omega
theorem Pth.in {ms:List (Int × Int × Int)} {n:Nat} (hm:mvIn n ms) {s t:Int} {x:List Nat} (h:Pth ms s x t) (hs:0≤s∧s<(n:Int)):0≤t∧t<(n:Int):=by
 induction h with
 | here s=>exact hs
 | eps h _ ih=>exact ih (hm _ h).2
 | step h _ ih=>exact ih (hm _ h).2
theorem Pth.split {ms:List (Int × Int × Int)} {s u:Int} {x:List Nat} (h:Pth ms s x u):∀ {c:Nat} {w:List Nat},x=c::w→∃ m,m∈ms∧m.2.1=(c:Int)∧Pth ms s [] m.1∧Pth ms m.2.2 w u:=by
 induction h with
 | here s=>intro c w h;cases h
 | eps hm _ ih =>intro c w h;obtain⟨m,h1,h2,h3,h4⟩:=ih h;exact⟨m,h1,h2,.eps hm h3,h4⟩
 | step hm hp ih =>
  intro c w h
  injection h with h1 h2
  subst h1;subst h2;exact⟨_,hm,rfl,.here _,hp⟩
def lets (l:List Nat):List Nat:=l.map (·-97)
theorem Zlr {l:List Nat} {k:Nat} (h:okT l l.length=true) (hk:k<l.length):97≤l.getD k 0∧l.getD k 0≤99:=by unfold okT at h;have:=List.all_eq_true.1 h k (List.mem_range.2 hk);simp only[inB,Bool.and_eq_true,decide_eq_true_eq] at this;omega
theorem Zh0 {l:List Nat} (h:wdOk l=true):okT l l.length=true∧l.length≤8:=by unfold wdOk at h;simp only[Bool.and_eq_true,decide_eq_true_eq] at h;exact h
end Go.Proofs.Ytfanhfcamblghaa
namespace Go.Proofs.Ytfanhfcamblghaa
open Go.RowKit
theorem Zhk (l:List Nat) (k:Nat):(txB l).extract 0 k=txB (l.take k):=by apply ByteArray.ext;simp[txB,ByteArray.data_extract,List.map_take]
theorem Zhi {l:List Nat}:wdOk l=true↔(∀ b∈l,97≤b∧b≤99)∧l.length≤8:=by
 constructor
 ·intro h;obtain⟨h1,h2⟩:=Zh0 h;refine⟨fun b hb => ?_,h2⟩;obtain⟨k,hk,e⟩:=List.getElem_of_mem hb;have:=Zlr h1 hk;rw[ZaW hk,e] at this;exact this
 rintro⟨h1,h2⟩;unfold wdOk okT;rw[Bool.and_eq_true,List.all_eq_true,decide_eq_true_eq];refine⟨fun k hk => ?_,h2⟩;have hk:=List.mem_range.1 hk;have:=h1 _ (Zbg hk);simp only[inB,Bool.and_eq_true,decide_eq_true_eq];omega
end Go.Proofs.Ytfanhfcamblghaa
namespace Go.Proofs.Ytfanhfcamblghaa
open Go.RowKit
theorem ZhC {l:List Nat} (h:wdOk l=true):isW (lets l):=fun c hc=>by obtain⟨b,hb,rfl⟩:=List.mem_map.1 hc;have:=(Zhi.1 h).1 b hb;omega
theorem ZjY {l:List Nat} (h:wdOk l=true):txB l=wdB (lets l):=by unfold txB wdB lets;rw[List.map_map];congr 2;apply List.map_congr_left;intro b hb;have:=(Zhi.1 h).1 b hb;show UInt8.ofNat b=UInt8.ofNat (97+(b-97));congr 1;omega
theorem ZeH (d:DfaD) (l:List Nat) (v:Value) (w:World) (ht:isT l) (hll:l.length≤1000) (h:DfaR 0 w v d) (hd:Zaf d.next d.ends=true) (hwd:wdOk l=true) :
  Calls Try.prog 27 #[v,.string (txB l)] w fun e w'=>e = .returned (.bool (accD d (lets l)))∧Below w.heap.size w w':=by
 have H:=qh h;obtain⟨v1,v2,rfl,g1,g2⟩:=h;have hS0:=(St.start w).alloc _ rfl #[v1,v2] 45;have e0:=hS0.cell (v:=v1) 0 0 rfl rfl;have e1:=hS0.cell (v:=v2) 0 1 rfl rfl;obtain⟨q,hq⟩:=eJ (accD d (lets l));have hacc:=fun (u:World) (hu:Below w.heap.size w u)=>Zhg d (lets l) (.agg #[v1,v2]) u hd (ZhC hwd) (by unfold lets;rw[List.length_map];omega) (H.out.below hu)
 rw[← ZjY hwd,hq] at hacc;rw[hq];have Hacc:=qh hacc;replace ht:=qh ht;replace hS0:=qh hS0;have Hhd:=qh hd;clear hd;have Hhwd:=qh hwd;clear hwd;have Hhq:=qh hq;clear hq;clear g1 g2 hacc
 go_enter Try.func27, Try.ntmps27
 go_wp2_with fail;refine(ZaO d _ _ (H.out.below hS0.out.bel) _ Hhd.out).mono ?_;rintro e w1 ⟨rfl,hb1⟩;have HS1:=qh (hS0.out.call hb1);clear hb1 e0 e1;have e0:=HS1.out.cell (v:=v1) 0 0 rfl rfl;have e1:=HS1.out.cell (v:=v2) 0 1 rfl rfl;go_wp2_with (go_at_call 53;refine(Zbl l _ ht.out (by omega) _ Hhwd.out).mono ?_;rintro e w' ⟨rfl,rfl⟩);refine(Hacc.out _ HS1.out.bel).mono ?_;rintro e w2 ⟨rfl,hb2⟩;go_wp2;go_ret;exact⟨rfl,(HS1.out.call hb2).bel⟩
end Go.Proofs.Ytfanhfcamblghaa
namespace Go.Proofs.Ytfanhfcamblghaa
open Go.RowKit
end Go.Proofs.Ytfanhfcamblghaa
namespace Go.Proofs.Ytfanhfcamblghaa
def StarL (L:List Nat→Prop) (w:List Nat):Prop:=∃ ws:List (List Nat),w=ws.flatten∧∀ u∈ws,L u
theorem StarL.nil {L:List Nat→Prop}:StarL L []:=⟨[],rfl,by simp⟩
theorem StarL.cons {L:List Nat→Prop} {u w:List Nat} (h:L u) (h':StarL L w):StarL L (u++w):=by
 obtain⟨ws,rfl,hw⟩:=h'
 exact⟨u::ws,rfl,fun x hx=>by
  rcases List.mem_cons.1 hx with rfl|hx
  ·exact h
  exact hw x hx⟩
end Go.Proofs.Ytfanhfcamblghaa
namespace Go.Proofs.Ytfanhfcamblghaa
open Go.RowKit
-- ways through an automaton of any size
theorem ZhE {ws:List (List Nat)} (h:isW ws.flatten):∀ u∈ws,isW u:=fun u hu c hc=>h c (List.mem_flatten.2 ⟨u,hu,hc⟩)
theorem StarL.congr {L M:List Nat→Prop} (h:∀ u,isW u→(L u↔M u)) {w:List Nat} (hw:isW w):StarL L w↔StarL M w:=by
 constructor
 ·rintro⟨ws,rfl,hs⟩;exact⟨ws,rfl,fun u hu=>(h u (ZhE hw u hu)).1 (hs u hu)⟩
 rintro⟨ws,rfl,hs⟩;exact⟨ws,rfl,fun u hu=>(h u (ZhE hw u hu)).2 (hs u hu)⟩
def txM (m:Nat) (l:List Nat):Bool:=okT l l.length&&decide (l.length≤m)
theorem Zbs {m:Nat} {l:List Nat}:txM m l=true↔(∀ b∈l,97≤b∧b≤99)∧l.length≤m:=by
 unfold txM okT;simp only[Bool.and_eq_true,List.all_eq_true,List.mem_range,decide_eq_true_eq];refine and_congr_left fun _=>⟨fun h b hb => ?_,fun h i hi => ?_⟩
 ·obtain⟨i,hi,rfl⟩:=List.getElem_of_mem hb;have h2:=h i hi;rw[List.getD_eq_getElem?_getD,List.getElem?_eq_getElem hi] at h2;unfold inB at h2;simp at h2;omega
 have h2:=h _ (Zbg hi);obtain⟨c,hc⟩:=eI (l.getD i 0);rw[← hc] at h2 ⊢;unfold inB;simp;omega
theorem ZfZ {m:Nat} {l:List Nat} (h:txM m l=true):txB l=wdB (lets l):=by unfold txB wdB lets;rw[List.map_map];congr 2;apply List.map_congr_left;intro b hb;have:=(Zbs.1 h).1 b hb;show UInt8.ofNat b=UInt8.ofNat (97+(b-97));congr 1;omega
theorem Zhz {m:Nat} {l:List Nat} {k:Nat} (hk:k<l.length) (h1:inB ((l.getD k 0:Nat):Int) 97 99=false):txM m l=false:=by
 unfold txM okT;have:((List.range l.length).all fun i=>inB ((l.getD i 0:Nat):Int) 97 99)=false:=by rw[List.all_eq_false];exact⟨k,List.mem_range.2 hk,by rw[h1];simp⟩
 rw[this];rfl
structure RwD where
 next:List (List Int)
 out:List (List (List Nat))
 fin:List (List Nat)
def ZbP (r:RwD) (n k:Nat):Bool:=decide ((r.next.getD k []).length=3)&&decide ((r.out.getD k []).length=3)&&txM 4 (r.fin.getD k [])&&(r.next.getD k []).all (fun x=>inB x 0 ((n:Int)-1))&&(r.out.getD k []).all (txM 4)
def rwOk (r:RwD):Bool:=decide (1≤r.next.length)&&decide (r.next.length≤12)&&decide (r.out.length=r.next.length)&&decide (r.fin.length=r.next.length)&&(List.range r.next.length).all (ZbP r r.next.length)
def rnx (r:RwD) (s c:Nat):Nat:=((r.next.getD s []).getD c 0).toNat
def rot (r:RwD) (s c:Nat):List Nat:=(r.out.getD s []).getD c []
def rrun (r:RwD):Nat→List Nat→Nat
 | s,[]=>s
 | s,c::w=>rrun r (rnx r s c) w
def rtxt (r:RwD):Nat→List Nat→List Nat
 | _,[]=>[]
 | s,c::w=>rot r s c++rtxt r (rnx r s c) w
def rall (r:RwD) (w:List Nat):List Nat:=rtxt r 0 w++r.fin.getD (rrun r 0 w) []
theorem ZaT {r:RwD} (h:rwOk r=true):1≤r.next.length∧r.next.length≤12∧r.out.length=r.next.length∧r.fin.length=r.next.length∧∀ k,k<r.next.length→(r.next.getD k []).length=3∧(r.out.getD k []).length=3∧txM 4 (r.fin.getD k [])=true ∧
  (∀ c,c<3→0≤(r.next.getD k []).getD c 0∧(r.next.getD k []).getD c 0<(r.next.length:Int))∧∀ c,c<3→txM 4 (rot r k c)=true:=by
 unfold rwOk at h;simp only[Bool.and_eq_true,decide_eq_true_eq,List.all_eq_true,List.mem_range] at h;obtain⟨⟨⟨⟨h1,h2⟩,h3⟩,h4⟩,h5⟩:=h;refine⟨h1,h2,h3,h4,fun k hk => ?_⟩;have h6:=h5 k hk;unfold ZbP at h6;simp only[Bool.and_eq_true,decide_eq_true_eq,List.all_eq_true] at h6;obtain⟨⟨⟨⟨g1,g2⟩,g3⟩,g4⟩,g5⟩:=h6;refine⟨g1,g2,g3,fun c hc => ?_,fun c hc => ?_⟩
 ·have h7:=g4 ((r.next.getD k []).getD c 0) (by rw[List.getD_eq_getElem?_getD (i:=c),List.getElem?_eq_getElem (by omega)];exact List.getElem_mem _);simp only[inB,Bool.and_eq_true,decide_eq_true_eq] at h7;omega
 refine g5 _ ?_;unfold rot;rw[List.getD_eq_getElem?_getD (i:=c),List.getElem?_eq_getElem (by omega)];exact List.getElem_mem _
theorem ZdG {r:RwD} (h:rwOk r=true) {s c:Nat} (hs:s<r.next.length) (hc:c<3):rnx r s c<r.next.length∧(r.next.getD s []).getD c 0=((rnx r s c:Nat):Int):=by obtain⟨-,-,-,-,h5⟩:=ZaT h;have h6:=(h5 s hs).2.2.2.1 c hc;unfold rnx;omega
theorem ZfY {m:Nat} {l:List Nat} (h:txM m l=true):isW (lets l):=fun c hc=>by obtain⟨b,hb,rfl⟩:=List.mem_map.1 hc;have:=(Zbs.1 h).1 b hb;omega
def stpW (r:RwD) (d:DfaD) (x:Int × Int) (c:Nat):Int × Int:=((r.next.getD x.1.toNat []).getD c 0,runD d x.2 (lets (rot r x.1.toNat c)))
def entW (r:RwD) (d:DfaD) (x:Int × Int):Bool:=den d (runD d x.2 (lets (r.fin.getD x.1.toNat [])))
def inPW (r:RwD) (d:DfaD) (x:Int × Int):Prop:=∃ s q:Nat,x=((s:Int),(q:Int))∧s<r.next.length∧q<d.next.length
theorem Zem {r:RwD} {d:DfaD} (h:rwOk r=true) (hd:fine d):inPW r d (0,0):=⟨0,0,rfl,(ZaT h).1,hd.1⟩
theorem Zen {r:RwD} {d:DfaD} (h:rwOk r=true) (hd:fine d) {x:Int × Int} {c:Nat} (hc:c<3) (hx:inPW r d x):inPW r d (stpW r d x c):=by obtain⟨s,q,rfl,hs,hq⟩:=hx;have h1:=ZdG h hs hc;obtain⟨-,-,-,-,h5⟩:=ZaT h;obtain⟨t,ht,hr⟩:=ZcD hd (lets (rot r s c)) (s:=q) (ZfY ((h5 s hs).2.2.2.2 c hc)) hq;exact⟨rnx r s c,t,by show((r.next.getD (s:Int).toNat []).getD c 0,runD d (q:Int) (lets (rot r (s:Int).toNat c)))=_;rw[Int.toNat_natCast,h1.2,hr],h1.1,ht⟩
theorem Zft (u v:List Nat):lets (u++v)=lets u++lets v:=List.map_append ..
theorem ZkP {r:RwD} {d:DfaD} (h:rwOk r=true):∀ (w:List Nat) (s:Nat) (q:Int),isW w→s<r.next.length→w.foldl (stpW r d) ((s:Int),q)=(((rrun r s w:Nat):Int),runD d q (lets (rtxt r s w)))∧rrun r s w<r.next.length
 | [],s,q,_,hs=>⟨rfl,hs⟩
 | c::w,s,q,hw,hs=>by
  have h1:=Zcd hw;have h2:=ZdG h hs h1.1;have e:stpW r d ((s:Int),q) c=(((rnx r s c:Nat):Int),runD d q (lets (rot r s c))):=by show((r.next.getD (s:Int).toNat []).getD c 0,runD d q (lets (rot r (s:Int).toNat c)))=_;rw[Int.toNat_natCast,h2.2]
  rw[List.foldl_cons,e];have ih:=ZkP (d:=d) h w (rnx r s c) (runD d q (lets (rot r s c))) h1.2 h2.1;refine⟨?_,ih.2⟩;rw[ih.1,rtxt,Zft,ZdP];rfl
def ZcY (K:Nat) (r:RwD) (d:DfaD):DfaD:=Zaz (stpW r d) (entW r d) (bat (stpW r d) (0,0) K).met
def rwB (K:Nat) (r:RwD) (d:DfaD):Option DfaD:=if rwOk r=true∧Zaf d.next d.ends=true∧(bat (stpW r d) (0,0) K).met.length≤K then some (minD (ZcY K r d)) else none
theorem ZhW {K:Nat} {r:RwD} {d:DfaD} (h:rwOk r=true) (hK:(bat (stpW r d) (0,0) K).met.length≤K) {w:List Nat} (hw:isW w):accD (ZcY K r d) w=accD d (lets (rall r w)):=by unfold ZcY;rw[ZhZ hK hw];have h1:=ZkP (d:=d) h w 0 0 hw (ZaT h).1;have e:((0:Int),(0:Int))=(((0:Nat):Int),(0:Int)):=rfl;rw[e,h1.1];show den d (runD d _ (lets (r.fin.getD ((rrun r 0 w:Nat):Int).toNat [])))=_;rw[Int.toNat_natCast,← ZdP,← Zft];rfl
theorem ZkZ {K:Nat} (hK40:K=40) {r:RwD} {d x:DfaD} (hx:rwB K r d=some x) {w:List Nat} (hw:isW w):accD x w=accD d (lets (rall r w)):=by
 unfold rwB at hx;by_cases h:rwOk r=true∧Zaf d.next d.ends=true∧(bat (stpW r d) (0,0) K).met.length≤K
 ·rw[if_pos h] at hx;obtain rfl:=Option.some.inj hx;have hf:fine (ZcY K r d):=ZdU h.2.2 (by omega);rw[Zk7 hf hw,ZhW h.1 h.2.2 hw]
 rw[if_neg h] at hx;cases hx
theorem ZkL {r:RwD} (h:rwOk r=true) {w:List Nat} (hw:isW w):∀ b∈rall r w,97≤b∧b≤99:=by
 obtain⟨-,-,-,-,h5⟩:=ZaT h
 have key:∀ (w:List Nat) (s:Nat),isW w→s<r.next.length→(∀ b∈rtxt r s w,97≤b∧b≤99)∧rrun r s w<r.next.length:=by
  intro w
  induction w with
  | nil=>exact fun s _ hs=>⟨fun b hb=>absurd hb (List.not_mem_nil),hs⟩
  | cons c w ih =>
   intro s hw hs;have h1:=Zcd hw;have h2:=ih (rnx r s c) h1.2 (ZdG h hs h1.1).1;refine⟨fun b hb => ?_,h2.2⟩;rcases List.mem_append.1 hb with hb|hb
   ·exact(Zbs.1 ((h5 s hs).2.2.2.2 c h1.1)).1 b hb
   exact h2.1 b hb
 have h1:=key w 0 hw (ZaT h).1;intro b hb;rcases List.mem_append.1 hb with hb|hb
 ·exact h1.1 b hb
 exact(Zbs.1 (h5 _ h1.2).2.2.1).1 b hb
def cpR:RwD:=⟨[[0,0,0]],[[[97],[98],[99]]],[[]]⟩
theorem ZhO:rwOk cpR=true:=by decide
theorem ZkQ:∀ (w:List Nat),isW w→rrun cpR 0 w=0∧rtxt cpR 0 w=w.map (·+97)
 | [],_=>⟨rfl,rfl⟩
 | c::w,hw=>by
  have h1:=Zcd hw;obtain⟨g1,g2⟩:=ZkQ w h1.2
  have e1:rnx cpR 0 c=0:=by
   obtain rfl|rfl|rfl:c=0∨c=1∨c=2:=by omega
   all_goals rfl
  have e2:rot cpR 0 c=[c+97]:=by
   obtain rfl|rfl|rfl:c=0∨c=1∨c=2:=by omega
   all_goals rfl
  rw[rrun,rtxt,e1,e2,g1,g2];exact⟨rfl,rfl⟩
theorem Zlv {w:List Nat} (hw:isW w):lets (rall cpR w)=w:=by
 obtain⟨g1,g2⟩:=ZkQ w hw;unfold rall;rw[g1,g2,show cpR.fin.getD 0 []=[] from rfl,List.append_nil];unfold lets;rw[List.map_map]
 conv=>rhs;rw[← List.map_id w]
 exact List.map_congr_left fun x _=>by simp
theorem Zkv {K:Nat} (hK40:K=40) {d:DfaD} (hd:Zaf d.next d.ends=true):(bat (stpW cpR d) (0,0) K).met.length≤K:=by
 have hf:=ZaE hd;have hall:=Zbu (nx:=stpW cpR d) (a:=((0:Int),(0:Int))) (Q:=inPW cpR d) (Zem ZhO hf) (fun x c hc hx=>Zen ZhO hf hc hx) K;have hn:=(Zbm (nx:=stpW cpR d) (a:=((0:Int),(0:Int))) K).1;have h1:∀ x∈(bat (stpW cpR d) (0,0) K).met,x.1=0∧0≤x.2∧x.2<d.next.length:=fun x hx=>by obtain⟨s,q,rfl,hs,hq⟩:=hall x hx;have hs:s<1:=hs;exact⟨by show(s:Int)=0;omega,by show 0≤(q:Int);omega,by show(q:Int)<d.next.length;omega⟩
 have h2:((bat (stpW cpR d) (0,0) K).met.map Prod.snd).Nodup:=by exact List.pairwise_map.2 (List.Pairwise.imp_of_mem (fun {a b} ha hb hne e=>hne (Prod.ext ((h1 a ha).1.trans (h1 b hb).1.symm) e)) hn)
 have h3:=Zg0 h2 (n:=d.next.length) fun x hx=>by obtain⟨y,hy,rfl⟩:=List.mem_map.1 hx;exact(h1 y hy).2
 rw[List.length_map] at h3;have:=Zag hd;omega
theorem Zlj {K:Nat} (hK40:K=40) {d:DfaD} (hd:Zaf d.next d.ends=true):rwB K cpR d=some (minD d):=by have hK:=Zkv hK40 hd;unfold rwB;rw[if_pos ⟨ZhO,hd,hK⟩];have hf:fine (ZcY K cpR d):=ZdU hK (by omega);rw[Zi9 hf (ZaE hd) fun w hw=>by rw[ZhW ZhO hK hw,Zlv hw]]
theorem Zis {l:List Nat} {k:Nat} (hk:k<l.length) (hw:isW l):(∀ w':World,(Instr.index 9 (.string (wdB l)) (.int .i64 (k:Int))).run Try.prog w' = .ok (.int .u8 (97+(l.getD k 0:Nat))) w')∧IntKind.u8.wrap (97+((l.getD k 0:Nat):Int)-97)=(l.getD k 0:Nat)∧IntKind.i64.wrap ((l.getD k 0:Nat):Int)=(l.getD k 0:Nat):=by
 have hc:l.getD k 0<3:=hw _ (memD hk);have hs:(wdB l).size=l.length:=ZdO l;refine⟨fun w' => ?_,?_,IntWalk.i64_in _ (by omega)⟩
 ·rw[run_index_string w' 9 (wdB l) .i64 k Try.underlying9,dif_pos (by omega)];congr 2;exact ZkB hk hw _
 obtain h|h|h:l.getD k 0=0∨l.getD k 0=1∨l.getD k 0=2:=by omega
 all_goals (rw[h];rfl)
theorem Zje (d:DfaD) (q:Nat) (l:List Nat) (v:Value) (w:World) (hd:Zaf d.next d.ends=true) (hq:q<d.next.length) (hw:isW l) (hl:l.length≤1000000) (h:DfaR 0 w v d) :
  Calls Try.prog 75 #[v,.int .i64 q,.string (wdB l)] w fun e w'=>e = .returned (.int .i64 (runD d q l))∧Below w.heap.size w w':=by
 obtain⟨v1,v2,rfl,g1,g2⟩:=h;have hlen:=Zag hd;have hS0:=(St.start w).alloc _ rfl #[v1,v2] 45;have hs:(wdB l).size=l.length:=ZdO l;have G1:=qh g1;replace hd:=qh hd;have Hhw:=qh hw;clear hw;replace hS0:=qh hS0;clear g1 g2
 go_enter Try.func75, Try.ntmps75
 go_wp2
 go_loopw [1,7] (fun fr i wr=>∃ k p:Nat,fr = .int .i64 p∧i = .int .i64 k∧k≤l.length∧p<d.next.length∧(p:Int)=runD d q (l.take k)∧St w wr [Ent.box w.heap.size #[v1,v2] 45]) (fun _ i _=>l.length-(intOf i).toNat)
 case atStart=>exact⟨0,q,rfl,rfl,Nat.zero_le _,hq,rfl,hS0.out⟩
 case round =>
  obtain⟨k,p,rfl,rfl,hk,hp,hrun,hS⟩:=hrel;by_cases hlt:k<l.length
  ·have hc:l.getD k 0<3:=Hhw.out _ (memD hlt);obtain⟨b1,o1,cap1,z,t,s,rfl,hc1,hc2,k1,hs1,hs2,k2,hb1,hb2⟩:=ZhK (G1.out.below hS.bel) hd.out hp hc;have e0:=hS.cell (v:=.slice (some ⟨b1,o1,none⟩) d.next.length cap1) 0 0 rfl rfl;have hnx:=(ZaI hd.out hp).2 _ hc;have hsn:=Zf6 d q hlt;rw[← hrun] at hsn;obtain⟨x,hx⟩:=eI ((d.next.getD p []).getD (l.getD k 0) 0);have hdx:dnx d (p:Int) (l.getD k 0)=x:=by rw[hx];rfl
   rw[hdx] at hsn;rw[← hx] at k2 hnx;obtain⟨x0,x1⟩:=hnx;obtain⟨x,rfl⟩:=Int.eq_ofNat_of_zero_le x0;obtain⟨hidx,hw8,hw9⟩:=Zis hlt Hhw.out;obtain⟨c,hcc⟩:=eI (l.getD k 0);rw[← hcc] at hc k2 hidx hw8 hw9;have hp2:(p:Int)<d.next.length:=by omega
   have hc3:(c:Int)<3:=by omega
   have hkl:(k:Int)<l.length:=by omega
   replace hS:=qh hS;have Hhx:=qh hx;clear hx;have Hhdx:=qh hdx;clear hdx;have Hhsn:=qh hsn;clear hsn;have Hhcc:=qh hcc;clear hcc;have Hhrun:=qh hrun;clear hrun;go_wp2
   go_quiet (fail)
   go_wp2;go_roundw
   case rel=>exact⟨k+1,x,rfl,by go_num,by omega,by omega,Hhsn.out.symm,hS.out.drewN _⟩
   case measure=>simp[intOf];omega
  obtain rfl:k=l.length:=by omega
  rw[List.take_length] at hrun;replace hS:=qh hS;have Hhrun:=qh hrun;clear hrun;go_wp2;go_ret;exact⟨ZbQ Hhrun.out,hS.out.bel⟩
theorem ZcA (m:Nat) (l:List Nat) (w:World) (ht:isT l) (hl:l.length≤1000000) (r:Bool) (hr:txM m l=r) :
  Calls Try.prog 97 #[.string (txB l),.int .i64 (m:Int)] w fun e w'=>e = .returned (.bool r)∧w=w':=by
 have hs:(txB l).size=l.length:=Zba l;replace hr:=qh hr;have Hht:=qh ht;clear ht
 go_enter Try.func97, Try.ntmps97
 go_wp2
 go_loopw [8] (fun i wr=>∃ k:Nat,i = .int .i64 k∧k≤l.length∧okT l k=true∧w=wr) (fun i _=>l.length-(intOf i).toNat)
 case atStart=>exact⟨0,rfl,Nat.zero_le _,rfl,rfl⟩
 case round =>
  obtain⟨k,rfl,hk,hok,rfl⟩:=hrel;by_cases hlt:k<l.length
  ·have hkl:(k:Int)<l.length:=by omega
   have hrun:=Zcg hlt Hht.out;have hb:=Hht.out _ (Zbg hlt);obtain⟨c,hcc⟩:=eI (l.getD k 0);rw[← hcc] at hrun hb;have hw9:IntKind.i64.wrap (c:Int)=(c:Int):=IntWalk.i64_in _ (by omega);have Hhok:=qh hok;clear hok;replace hcc:=qh hcc;cases hin:inB (c:Int) 97 99
   ·have Hhin:=qh hin;clear hin;go_wp2_with (go_at_call 48;refine(ZaG _ _ _ _ _ Hhin.out).mono ?_;rintro e w' ⟨rfl,rfl⟩);go_ret;exact⟨by rw[← hr.out,Zhz hlt (by rw[← hcc.out];exact Hhin.out)];rfl,rfl⟩
   have Hhin:=qh hin;clear hin;go_wp2_with (go_at_call 48;refine(ZaG _ _ _ _ _ Hhin.out).mono ?_;rintro e w' ⟨rfl,rfl⟩);go_roundw
   case rel=>exact⟨k+1,by go_num,by omega,ZdR Hhok.out (by rw[← hcc.out];exact Hhin.out),trivial⟩
   case measure=>simp[intOf];omega
  obtain rfl:k=l.length:=by omega
  have hrr:decide (l.length≤m)=r:=by rw[← hr.out];unfold txM;rw[hok,Bool.true_and]
  have Hhok:=qh hok;clear hok;have Hhrr:=qh hrr;clear hrr;go_wp2;go_ret;exact⟨by rw[← Hhrr.out];rfl,rfl⟩
theorem Zdq (l:List Nat) (w:World) (ht:isT l) (hl:l.length≤1000000) (r:Bool) (hr:txM 30 l=r) :
  Calls Try.prog 77 #[.string (txB l)] w fun e w'=>e = .returned (.bool r)∧w=w':=by
 have HA:=qh (fun u=>ZcA 30 l u ht hl r hr);clear ht hr
 go_enter Try.func77, Try.ntmps77
 go_wp2_with (go_at_call 97;refine(HA.out _).mono ?_;rintro e w' ⟨rfl,rfl⟩);go_ret;exact⟨rfl,rfl⟩
def cntP:Nat→(List Nat→Bool)→Nat
 | 0,p=>if p []=true then 1 else 0
 | n+1,p=>cntP n (fun w=>p (0::w))+cntP n (fun w=>p (1::w))+cntP n (fun w=>p (2::w))
def cntD (d:DfaD) (n:Nat) (s:Int):Nat:=cntP n fun w=>den d (runD d s w)
variable {P:Program}
def Ent.inn (X y:Ent):Prop:=(∀ w,X.holds w→y.holds w)∧∀ k,y.foot k→X.foot k
theorem Ent.inn_refl (X:Ent):X.inn X:=⟨fun _ h=>h,fun _ h=>h⟩
theorem Ent.inn_all {R:List Ent} {x y:Ent} (hx:x∈R) (h:x.inn y):(Ent.all R).inn y:=⟨fun w hw=>h.1 w (hw x hx),fun k hk=>⟨x,hx,h.2 k hk⟩⟩
def DfaV (B H:Nat) (v1 v2:Value) (D:DfaD):Ent:=⟨fun k=>B≤k∧k<H,fun u=>∃ w:World,w.heap.size=H∧DfaR B w (.agg #[v1,v2]) D∧∀ k,B≤k→k<H→u.heap[k]? = w.heap[k]?,
 fun _ _ ⟨w,h1,h2,h3⟩ hk=>⟨w,h1,h2,fun k p q=>(hk k ⟨p,q⟩).trans (h3 k p q)⟩⟩
theorem St.dfaV {w0 w w':World} {L:List Ent} (h:St w0 w L) (hb:Below w.heap.size w w') {v1 v2:Value} {D:DfaD} (hr:DfaR w.heap.size w' (.agg #[v1,v2]) D):St w0 w' (L++[DfaV w.heap.size w'.heap.size v1 v2 D]) :=
 h.add hb _ ⟨w',rfl,hr,fun _ _ _=>rfl⟩ fun _ hk=>hk
theorem St.dfaVr {w0 w:World} {L:List Ent} (h:St w0 w L) (i:Nat) {B H:Nat} {v1 v2:Value} {D:DfaD} (hx:L[i]? = some (DfaV B H v1 v2 D)):DfaR 0 w (.agg #[v1,v2]) D:=by
 have hE:=h.has i _ hx;obtain⟨⟨w',h1,⟨x1,x2,hv,⟨vs,h2,h3⟩,h4⟩,h5⟩,hf⟩:=hE;simp only[Value.agg.injEq,Array.mk.injEq,List.cons.injEq,and_true] at hv;obtain⟨rfl,rfl⟩:=hv;by_cases hlt:B<H
 ·have hs:w'.heap.size≤w.heap.size:=by have:H-1<w.heap.size:=(hf (H-1) (show B≤H-1∧H-1<H by omega)).2;omega
  have hk:∀ k,B≤k→k<w'.heap.size→w.heap[k]? = w'.heap[k]?:=fun k p q=>h5 k p (by omega)
  exact⟨_,_,rfl,⟨vs,h2.keptJ (Nat.zero_le _) hs hk,fun i hi=>Sl.keptJ (h3 i hi) (Nat.zero_le _) hs hk⟩,Sl.keptJ h4 (Nat.zero_le _) hs hk⟩
 have hno:∀ {v:Value} {n size:Nat} {cs:List Value},Sl B w' v n size cs→0<size→Sl 0 w v n size cs:=fun {v n size cs} hs hz=>by obtain⟨g1,a,cap,g2,g3,g4,g5⟩:=hs;refine⟨g1,a,cap,g2,g3,g4,fun hn => ?_⟩;obtain⟨b,off,-,p,q,-⟩:=g5 hn;omega
 exact⟨_,_,rfl,⟨vs,hno h2 (by omega),fun i hi=>hno (h3 i hi) (by omega)⟩,hno h4 (by omega)⟩
def RDs (D:DfaD) (w:World) (e:Ending) (w':World):Prop:=∃ a1 c1 a2 c2,e = .returned (.agg #[.slice a1 D.next.length c1,.slice a2 D.ends.length c2])∧DfaR w.heap.size w' (.agg #[.slice a1 D.next.length c1,.slice a2 D.ends.length c2]) D∧Below w.heap.size w w'
def minQ (d:DfaD):DfaD:=if Zaf d.next d.ends=true then minD d else⟨[],[]⟩
theorem ZlB (w:World) (B:Nat):DfaR B w (.agg #[.slice none 0 0,.slice none 0 0]) ⟨[],[]⟩:=(ZfW w B 0 0 0).r
theorem ZdM (d:DfaD) (D:DfaD) (hD:minQ d=D) (v:Value) (w:World) (h:DfaR 0 w v d) :
  Calls Try.prog 20 #[v] w fun e w'=>RDs D w e w':=by
 have H:=qh h;obtain⟨v1,v2,rfl,g1,g2⟩:=h;have hS0:=((St.start w).alloc _ rfl #[v1,v2] 45).alloc (w.heap.size+1) (by simp) #[.slice none 0 0,.slice none 0 0] 45;have e0:=hS0.cell (v:=v1) 0 0 rfl rfl;have e1:=hS0.cell (v:=v2) 0 1 rfl rfl;replace hS0:=qh hS0;clear g1 g2;cases hok:Zaf d.next d.ends
 ·have hz:D=⟨[],[]⟩:=by rw[← hD];unfold minQ;rw[if_neg (by rw[hok];simp)]
  subst hz;have Hhok:=qh hok;clear hok;clear hD
  go_enter Try.func20, Try.ntmps20
  go_wp2_with fail;refine(ZaO d _ _ (H.out.below hS0.out.bel) _ Hhok.out).mono ?_;rintro e w1 ⟨rfl,hb1⟩;have HS1:=qh (hS0.out.call hb1);clear hb1 e0 e1;have f0:=HS1.out.fr 1 0 rfl;have f1:=HS1.out.fr 1 1 rfl;have k0:=HS1.out.cell (v:=.slice none 0 0) 1 0 rfl rfl;have k1:=HS1.out.cell (v:=.slice none 0 0) 1 1 rfl rfl;go_wp2;have hq:=(HS1.out.set 1 rfl 0 (.slice none 0 0)).set 1 rfl 1 (.slice none 0 0);have q0:=hq.cell (v:=.slice none 0 0) 1 0 rfl rfl;have q1:=hq.cell (v:=.slice none 0 0) 1 1 rfl rfl;refine bodyPost_ret (v:=.agg #[.slice none 0 0,.slice none 0 0]) (by simp[results,Try.results20,go_sem,q0,q1]) rfl ?_;exact⟨none,0,none,0,rfl,ZlB _ _,hq.bel⟩
 have hz:minD d=D:=by rw[← hD];unfold minQ;rw[if_pos hok]
 have Hhok:=qh hok;clear hok;have Hz:=qh hz;clear hD hz
 go_enter Try.func20, Try.ntmps20
 go_wp2_with fail;refine(ZaO d _ _ (H.out.below hS0.out.bel) _ Hhok.out).mono ?_;rintro e w1 ⟨rfl,hb1⟩;have HS1:=qh (hS0.out.call hb1);clear hb1 e0 e1;have e0:=HS1.out.cell (v:=v1) 0 0 rfl rfl;have e1:=HS1.out.cell (v:=v2) 0 1 rfl rfl;go_wp2_with fail;refine(Zeo d _ _ Hhok.out (H.out.below HS1.out.bel)).mono ?_;rintro e w2 ⟨a1,c1,a2,c2,rfl,hdo,hb2⟩;rw[Hz.out] at hdo;rw[Hz.out];have HS2:=qh (HS1.out.call hb2);have HDr:=qh hdo.r;have hB1:=(HS1.out.boxlt 1 rfl).2;have hsz:=HS1.out.size;clear hb2 hdo e0 e1;have f0:=HS2.out.fr 1 0 rfl;have f1:=HS2.out.fr 1 1 rfl;have k0:=HS2.out.cell (v:=.slice none 0 0) 1 0 rfl rfl;have k1:=HS2.out.cell (v:=.slice none 0 0) 1 1 rfl rfl;go_wp2;have hq:=(HS2.out.set 1 rfl 0 (.slice a1 D.next.length c1)).set 1 rfl 1 (.slice a2 D.ends.length c2);have q0:=hq.cell (v:=.slice a1 D.next.length c1) 1 0 rfl rfl;have q1:=hq.cell (v:=.slice a2 D.ends.length c2) 1 1 rfl rfl;refine bodyPost_ret (v:=.agg #[.slice a1 D.next.length c1,.slice a2 D.ends.length c2]) (by simp[results,Try.results20,go_sem,q0,q1]) rfl ?_;exact⟨a1,c1,a2,c2,rfl,((HDr.out.far hB1 0 _).far hB1 1 _).mono hsz,hq.bel⟩
def NfaT (n:NfaD) (v1 v2 v3:Value):Ent:=Ent.all [Ent.row 34 3 v1 n.moves.length (n.moves.flatMap Zac),Ent.row 3 1 v2 n.firsts.length (intCells n.firsts),Ent.row 3 1 v3 n.ends.length (intCells n.ends)]
def ZlC (n:NfaD) (w:World) (e:Ending) (w':World):Prop:=∃ a1 c1 a2 c2 a3 c3,e = .returned (.agg #[.int .i64 n.states,.slice a1 n.moves.length c1,.slice a2 n.firsts.length c2,.slice a3 n.ends.length c3]) ∧
 St w w' [NfaT n (.slice a1 n.moves.length c1) (.slice a2 n.firsts.length c2) (.slice a3 n.ends.length c3)]
theorem RNfaS.t {n:NfaD} {w:World} {e:Ending} {w':World} (h:RNfaS n w e w'):ZlC n w e w':=by obtain⟨a1,c1,a2,c2,a3,c3,rfl,hS⟩:=h;exact⟨a1,c1,a2,c2,a3,c3,rfl,St.pack (A:=[]) hS⟩
def RTs (D:DfaD) (fb:Bool) (w:World) (e:Ending) (w':World):Prop:=∃ a1 c1 a2 c2,e = .returned (.tuple #[.agg #[.slice a1 D.next.length c1,.slice a2 D.ends.length c2],.bool fb])∧DfaR w.heap.size w' (.agg #[.slice a1 D.next.length c1,.slice a2 D.ends.length c2]) D∧Below w.heap.size w w'
theorem RTt.s {D:DfaD} {fb:Bool} {w:World} {e:Ending} {w':World} (h:RTt D fb w.heap.size e w'∧Below w.heap.size w w'):RTs D fb w e w':=by obtain⟨⟨a1,c1,a2,c2,rfl,h1⟩,h2⟩:=h;exact⟨a1,c1,a2,c2,rfl,h1.r,h2⟩
def ZkT (d:DfaD) (s:Nat):Prop:=∃ w,isW w∧den d (runD d (s:Int) w)=true
theorem Zge {α:Type} [DecidableEq α]:∀ {l:List α},¬ l.Nodup→∃ (i j:Nat) (hj:j<l.length) (hi:i<j),l[i]'(Nat.lt_trans hi hj)=l[j]
 | [],h=>absurd List.nodup_nil h
 | x::l,h=>by
  rw[List.nodup_cons] at h;by_cases hx:x∈l
  ·obtain⟨j,hj,e⟩:=List.getElem_of_mem hx;exact⟨0,j+1,by simp only[List.length_cons];omega,by omega,by simpa using e.symm⟩
  obtain⟨i,j,hj,hi,e⟩:=Zge (l:=l) fun hn=>h ⟨hx,hn⟩
  exact⟨i+1,j+1,by simp only[List.length_cons];omega,by omega,by simpa using e⟩
theorem ZeQ {d:DfaD} (hd:fine d) {s:Nat} (hs:s<d.next.length):∀ (n:Nat) (w:List Nat),w.length≤n→isW w→den d (runD d (s:Int) w)=true→∃ w',w'.length<d.next.length∧isW w'∧den d (runD d (s:Int) w')=true
 | n,w,hn,hw,he=>by
  by_cases hl:w.length<d.next.length
  ·exact⟨w,hl,hw,he⟩
  have key:∀ i,∃ t:Nat,t<d.next.length∧runD d (s:Int) (w.take i)=(t:Int):=fun i=>ZcD hd _ (Zfw hw i) hs
  have hnd:¬ ((List.range (w.length+1)).map fun i=>runD d (s:Int) (w.take i)).Nodup:=fun h=>by
   have:=ZcF (m:=(List.range d.next.length).map fun (i:Nat)=>(i:Int)) h fun x hx=>by obtain⟨i,-,rfl⟩:=List.mem_map.1 hx;obtain⟨t,ht,e⟩:=key i;rw[e];exact List.mem_map.2 ⟨t,List.mem_range.2 ht,rfl⟩
   simp only[List.length_map,List.length_range] at this;omega
  obtain⟨i,j,hj,hij,e⟩:=Zge hnd;simp only[List.length_map,List.length_range] at hj;simp only[List.getElem_map,List.getElem_range] at e;have hr:runD d (s:Int) (w.take i++w.drop j)=runD d (s:Int) w:=by rw[ZdP,e,← ZdP,List.take_append_drop]
  have hlen:(w.take i++w.drop j).length<w.length:=by rw[List.length_append,List.length_take,List.length_drop];omega
  cases n with
  | zero=>omega
  | succ n=>exact ZeQ hd hs n (w.take i++w.drop j) (by omega) (ZcG (Zfw hw i) (Zfx hw j)) (by rw[hr];exact he)
structure LdI (d:DfaD) (F:List Bool) (r s0 c0:Nat):Prop where
 len:F.length=d.next.length
 sound:∀ s,s<d.next.length→F.getD s false=true→ZkT d s
 old:∀ s w,s<d.next.length→isW w→w.length≤r→den d (runD d (s:Int) w)=true→F.getD s false=true
 done:∀ s w,s<s0→s<d.next.length→isW w→w.length≤r+1→den d (runD d (s:Int) w)=true→F.getD s false=true
 now:∀ c w,c<c0→c<3→isW w→w.length≤r→den d (runD d (s0:Int) (c::w))=true→F.getD s0 false=true
theorem LdI.start {d:DfaD} (hd:Zaf d.next d.ends=true):LdI d d.ends 0 0 0:=by have hl:=Zag hd;refine⟨hl.2.2,fun s hs h=>⟨[],Zg9,by rw[ZcC,ZbT];exact h⟩,fun s w hs hw hl h => ?_,fun s w hs=>absurd hs (by omega),fun c w hc=>absurd hc (by omega)⟩;have:w=[]:=List.length_eq_zero_iff.1 (by omega);subst this;rw[ZcC,ZbT] at h;exact h
theorem Zeq {F:List Bool} {s t:Nat} {b:Bool} (hs:s<F.length):(F.set s b).getD t false=if s=t then b else F.getD t false:=by
 rw[List.getD_eq_getElem?_getD,List.getElem?_set]
 split
 ·subst_vars
  simp
 rw[List.getD_eq_getElem?_getD]
theorem LdI.letter {d:DfaD} (hd:Zaf d.next d.ends=true) {F:List Bool} {r s0 c0:Nat} (h:LdI d F r s0 c0) (hs:s0<d.next.length) (hc:c0<3):LdI d (F.set s0 (F.getD s0 false||F.getD (nxD d s0 c0) false)) r s0 (c0+1):=by
 have hf:=ZaE hd;obtain⟨hn,hx⟩:=ZbF hf hs hc;have hsF:s0<F.length:=by rw[h.len];exact hs
 have mono:∀ t,F.getD t false=true→(F.set s0 (F.getD s0 false||F.getD (nxD d s0 c0) false)).getD t false=true:=fun t ht=>by
  rw[Zeq hsF]
  split
  ·rename_i e;rw[e,ht];rfl
  exact ht
 refine⟨by rw[List.length_set];exact h.len,fun s hs' hF => ?_,fun s w hs' hw hl he=>mono s (h.old s w hs' hw hl he),fun s w hs1 hs' hw hl he=>mono s (h.done s w hs1 hs' hw hl he),fun c w hc' hc3 hw hl he => ?_⟩
 ·rw[Zeq hsF] at hF
  split at hF
  ·rename_i e;subst e;rw[Bool.or_eq_true] at hF;rcases hF with hF|hF
   ·exact h.sound _ hs hF
   obtain⟨w,hw,he⟩:=h.sound _ hn hF;refine⟨c0::w,Zjn hc hw,?_⟩;rw[ZaY,hx];exact he
  exact h.sound s hs' hF
 by_cases hcc:c<c0
 ·exact mono _ (h.now c w hcc hc3 hw hl he)
 obtain rfl:c=c0:=by omega
 rw[Zeq hsF,if_pos rfl,Bool.or_eq_true];right;rw[ZaY,hx] at he;exact h.old _ w hn hw hl he
theorem LdI.round {d:DfaD} {F:List Bool} {r:Nat} (h:LdI d F r d.next.length 0):LdI d F (r+1) 0 0 :=
 ⟨h.len,h.sound,fun s w hs hw hl he=>h.done s w hs hs hw hl he,fun s w hs=>absurd hs (by omega),fun c w hc=>absurd hc (by omega)⟩
structure LdE (d:DfaD) (F:List Bool):Prop where
 len:F.length=d.next.length
 iff:∀ s,s<d.next.length→(F.getD s false=true↔ZkT d s)
theorem LdI.all {d:DfaD} (hd:Zaf d.next d.ends=true) {F:List Bool} (h:LdI d F d.next.length 0 0):LdE d F :=
 ⟨h.len,fun s hs=>⟨h.sound s hs,fun ⟨w,hw,he⟩=>by obtain⟨w',h1,h2,h3⟩:=ZeQ (ZaE hd) hs w.length w (Nat.le_refl _) hw he;exact h.old s w' hs h2 (by omega) h3⟩⟩
def cwN (d:DfaD) (l s:Nat):Nat:=cntD d l (s:Int)
def CMem (d:DfaD) (X:Ent) (vs:List Value) (k:Nat):Prop:=vs.length=k∧∀ l,l<k→∃ b,vs.getD l undef = .slice (some ⟨b,0,none⟩) d.next.length d.next.length ∧
 X.inn (Ent.row 3 1 (.slice (some ⟨b,0,none⟩) d.next.length d.next.length) d.next.length (intCells (clsL d.next.length (cwN d l))))
theorem CMem.snoc {d:DfaD} {X:Ent} {vs:List Value} {k b:Nat} (h:CMem d X vs k):CMem d (Ent.all [X,Ent.row 3 1 (.slice (some ⟨b,0,none⟩) d.next.length d.next.length) d.next.length (intCells (clsL d.next.length (cwN d k)))]) (vs++[.slice (some ⟨b,0,none⟩) d.next.length d.next.length]) (k+1):=by
 obtain⟨hl,hc⟩:=h;subst hl;refine⟨by simp,fun l hlt => ?_⟩;by_cases hin:l<vs.length
 ·obtain⟨b',e,hi⟩:=hc l hin;refine⟨b',?_,Ent.inn_all (x:=X) (by simp) hi⟩;rw[← e];simp only[List.getD_eq_getElem?_getD];rw[List.getElem?_append_left hin]
 obtain rfl:l=vs.length:=by omega
 exact⟨b,by simp,Ent.inn_all (x:=Ent.row _ _ _ _ _) (by simp) (Ent.inn_refl _)⟩
end Go.Proofs.Ytfanhfcamblghaa
namespace Go.Proofs.Ytfanhfcamblghaa
theorem StarL.first {L:List Nat→Prop} {w:List Nat} (h:StarL L w):w=[]∨∃ u v,u≠[]∧w=u++v∧L u∧StarL L v:=by
 obtain⟨ws,rfl,hs⟩:=h
 induction ws with
 | nil=>exact .inl rfl
 | cons u ws ih =>
  by_cases hu:u=[]
  ·subst hu;exact ih fun x hx=>hs x (by simp[hx])
  exact .inr ⟨u,ws.flatten,hu,rfl,hs u (by simp),ws,rfl,fun x hx=>hs x (by simp[hx])⟩
theorem StarL.snoc {L:List Nat→Prop} {u w:List Nat} (h:StarL L w) (h':L u):StarL L (w++u):=by
 obtain⟨ws,rfl,hw⟩:=h;refine⟨ws++[u],by simp,fun x hx => ?_⟩;rcases List.mem_append.1 hx with hx|hx
 ·exact hw x hx
 simp at hx;subst hx;exact h'
end Go.Proofs.Ytfanhfcamblghaa
namespace Go.Proofs.Ytfanhfcamblghaa
open Go.RowKit
def TbH (X:Ent) (v:Value) (N:Nat) (T:Nat→Nat→Bool):Prop:=∃ (B c:Nat) (R:Nat→Nat),v = .slice (some ⟨B,0,none⟩) N c∧∀ u,X.holds u→(∀ i,i<N→u.cell? ⟨B,i,none⟩=some (.slice (some ⟨R i,0,none⟩) N N))∧∀ i j,i<N→j<N→u.cell? ⟨R i,j,none⟩=some (.bool (T i j))
theorem TbH.congr {X:Ent} {v:Value} {N:Nat} {T U:Nat→Nat→Bool} (h:TbH X v N T) (hc:∀ i j,i<N→j<N→T i j=U i j):TbH X v N U:=by obtain⟨B,c,R,hv,h1⟩:=h;exact⟨B,c,R,hv,fun u hu=>⟨(h1 u hu).1,fun i j hi hj=>by rw[(h1 u hu).2 i j hi hj,hc i j hi hj]⟩⟩
end Go.Proofs.Ytfanhfcamblghaa
