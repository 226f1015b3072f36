/-
  Small facts about slices in memory: what a slice value reads as, and that it still reads so in a later world.
  No condition: this text speaks of no program.
  What a call made for itself: slices in blocks of numbers from lo on and below hi, that may be written.
  No condition: this text speaks of no program.
  A map that a call makes, as a list of keys and values in the order in which the keys came: looking a key up, and storing.
  Conditions: the keys are encoded data that can be keys of the map's type; no key stands there twice.
  What a call made for itself, where one of its slices grows or one of its variables is written: blocks of different types are different blocks.
  No condition: this text speaks of no program.
-/
import Derived.Test.YtfanhfcamblghaaPq11Dr
import Derived.Test.YtfanhfcamblghaaPq26Prl
set_option maxHeartbeats 4000000
set_option maxRecDepth 100000
namespace Go.Proofs.Ytfanhfcamblghaa
open Go.RowKit
theorem ZjA (w:World) (cs:Array Value) (T:TypeId) (j:Nat):(w.alloc (.cells cs T)).cell? ⟨w.heap.size,j,none⟩=cs[j]?:=by have h:=heap_alloc_new w (.cells cs T);unfold World.cell?;show(match (w.alloc (.cells cs T)).heap[w.heap.size]? with|some (.cells c _ _)=>if (none:Option Nat).isSome then none else c[j]? | _=>none)=_;rw[h];rfl
/-! Slices of structs of ints -/
/-! Comparing lists place by place -/
end Go.Proofs.Ytfanhfcamblghaa
namespace Go.Proofs.Ytfanhfcamblghaa
open Go.RowKit
end Go.Proofs.Ytfanhfcamblghaa
namespace Go.Proofs.Ytfanhfcamblghaa
open Go.RowKit Go.Maps
section
variable {α:Type} [DecidableEq α]
variable {P:Program} {kt:TypeId} {enc:α→Value} {w:World} {b:Nat} {L:List (α × Value)}
end
end Go.Proofs.Ytfanhfcamblghaa
namespace Go.Proofs.Ytfanhfcamblghaa
open Go.RowKit
end Go.Proofs.Ytfanhfcamblghaa
namespace Go.Proofs.Ytfanhfcamblghaa
open Go.RowKit
theorem ZlD {P:Program} {f:FuncId} {args:Array Value} {w:World} {n:Nat} {v:Value}
  (h:Calls P f args (w.drewN n) fun e w'=>e = .returned v∧w.drewN n=w'):Calls P f args (w.drewN n) fun e w''=>e = .returned v∧∃ m,w''=w.drewN m :=
 h.mono fun _ _ ⟨he,hm⟩=>⟨he,n,hm.symm⟩
end Go.Proofs.Ytfanhfcamblghaa
namespace Go.Proofs.Ytfanhfcamblghaa
open Go.RowKit
end Go.Proofs.Ytfanhfcamblghaa
namespace Go.Proofs.Ytfanhfcamblghaa
open Go.RowKit
variable {P:Program}
theorem ZaQ {w:World} {b:Nat} {cs cs':Array Value} {T:TypeId} (h:Bx w b cs T) (hn:cs'.size=cs.size) (h1:∀ v∈cs'.toList,v.oneCell'=true):(storeCells ⟨b,0,none⟩ cs'.toList 0).run P w = .ok () (w.setRow b cs'):=by have:=run_storeCells_from (P:=P) b T cs'.toList 0 cs w h (by simpa using hn) h1;simpa using this
theorem St.setAll {w0 w:World} {L:List Ent} (h:St w0 w L) (i:Nat) {b:Nat} {cs:Array Value} {T:TypeId} (hx:L[i]? = some (Ent.box b cs T)) (cs':Array Value):St w0 (w.setRow b cs') (L.set i (Ent.box b cs' T)):=by have hb:Bx w b cs T:=(h.has i _ hx).1;have hb':Bx (w.setRow b cs') b cs' T:=setRow_heap w b cs cs' T (0,0) hb;exact h.turn i hx _ rfl rfl rfl (by simp[World.setRow]) (fun k _ hk=>setRow_other w b k cs' hk) hb' fun k hk=>by have hk:k=b:=hk;subst hk;exact⟨hb'.lt,Or.inl rfl⟩
theorem ZfO {ops:Array Oper} {rest:List Oper} {op:Oper} {a:Act} {w:World} {Q:Exit→Act→World→Prop} (hgd:op.guard=none) (ty:TypeId) (x:Operand) (ho:op.op = .load ty x) (b:Nat) (hx:a.eval x = .pointer (some ⟨b,0,none⟩)) (T:TypeId) (cs:Array Value) (d:TypeDesc) (hb:Bx w b cs T)
  (hu:P.underlying ty=some d) (hd:d.isRow=true) (hi:(P.info? ty).map (·.size)=some cs.size) (h:wpList P ops Q rest (a.put op.dst (.agg cs)) w):wpList P ops Q (op::rest) a w:=by
 have hc:w.rangeAt b 0 cs.toList:=fun j v hv=>by rw[Nat.zero_add,hb.cell j];simpa using hv
 exact wpList_load_mid hgd ty x ho b 0 hx cs.toList d hc hu hd (by simpa using hi) (by simpa using h)
theorem ZeV {ops:Array Oper} {rest:List Oper} {op:Oper} {a:Act} {w:World} {Q:Exit→Act→World→Prop} (hgd:op.guard=none) (ty:TypeId) (x y:Operand) (ho:op.op = .store ty x y) (b:Nat) (T:TypeId) (cs cs':Array Value) (hx:a.eval x = .pointer (some ⟨b,0,none⟩)) (hy:a.eval y = .agg cs')
  (hb:Bx w b cs T) (hi:(P.info? ty).map (·.size)=some cs'.size) (hl:cs.size=cs'.size) (h1:∀ v∈cs'.toList,v.oneCell'=true) (h:wpList P ops Q rest (a.put op.dst undef) (w.setRow b cs')):wpList P ops Q (op::rest) a w :=
 wpList_plain hgd fun K hK=>by have hr:=run_storeVar_row (P:=P) w b T ty cs cs' hb hi hl (Array.all_eq_true_iff_forall_mem.2 fun v hv=>h1 v (by simpa using hv));unfold Oper.wp execOp;simp only[ho,hx,hy,Instr.storeAt,Instr.sureAddr,Sem.run_bind,Sem.run_pure,Result.andThen_ok,hr];exact hK _ _ h
theorem Zgz {fn:Func} {p:Tmp} {ty:TypeId} (h:fn.results=#[.cell p ty]) (tmps:Array Value) (P:Program) (w:World) :
  (results fn tmps).run P w=((asAddr (tmps.getD p undef)).run P w).andThen fun a w₁=>(loadVar ty a).run P w₁:=by
 simp only[results,h];simp[Sem.run_bind,Result.andThen]
theorem Zba {fn:Func} {p:Tmp} {ty:TypeId} (h:fn.results=#[.cell p ty]) (tmps:Array Value) (P:Program) (w:World) (b:Nat) (T:TypeId) (cs:Array Value) (d:TypeDesc) (hp:tmps.getD p undef = .pointer (some ⟨b,0,none⟩)) (hb:Bx w b cs T) (hu:P.underlying ty=some d) (hd:d.isRow=true) (hi:(P.info? ty).map (·.size)=some cs.size) :
  (results fn tmps).run P w = .ok (.agg cs) w:=by
 rw[Zgz h,hp];have hl:(loadVar ty ⟨b,0,none⟩).run P w = .ok (.agg cs) w:=run_loadVar_row w b T ty cs (0,0) d hb hu (by cases d<;>simp_all [TypeDesc.isRow]) hi;simp[asAddr,Result.andThen,hl]
theorem St.rangeR {w0 w:World} {L:List Ent} (h:St w0 w L) (i:Nat) {e size g n cap:Nat} {cs:List Value} (hx:L[i]? = some (Ent.row e size (.slice (some ⟨g,0,none⟩) n cap) n cs)) (o:Nat) (xs:List Value) (hxs:∀ k v,xs[k]? = some v→o+k<n*size∧cs[o+k]? = some v):w.rangeAt g o xs:=fun k v hv=>h.rcell i (o+k) hx (hxs k v hv).1 (hxs k v hv).2
theorem St.rangeB {w0 w:World} {L:List Ent} (h:St w0 w L) (i:Nat) {b:Nat} {cs:Array Value} {T:TypeId} (hx:L[i]? = some (Ent.box b cs T)):w.rangeAt b 0 cs.toList:=fun k v hv=>by rw[Nat.zero_add];exact h.cell i k hx (by simpa using hv)
theorem Zlr {op:Oper} {a:Act} {w:World} {K:Act→World→Prop} {Q:Exit→Act→World→Prop} (ty:TypeId) (x:Operand) (ho:op.op = .load ty x) (b off:Nat) (hx:a.eval x = .pointer (some ⟨b,off,none⟩)) (cs:Array Value) (d:TypeDesc) (hc:w.rangeAt b off cs.toList)
  (hu:P.underlying ty=some d) (hd:d.isRow=true) (hi:(P.info? ty).map (·.size)=some cs.size) (h:K (a.put op.dst (.agg cs)) w):op.wp P a w K Q :=
 wp_load_mid ty x ho b off hx cs.toList d hc hu hd (by simpa using hi) (by simpa using h)
theorem Zd0 {ops:Array Oper} {o:Oper} {a:Act} {w:World} {K:Act→World→Prop} {Q:Exit→Act→World→Prop} {E:Prop} (hgd:o.guard=none) (ty:TypeId) (x:Operand) (ho:o.op = .load ty x) (b off:Nat) (hx:a.eval x = .pointer (some ⟨b,off,none⟩)) (cs:Array Value) (d:TypeDesc) (hc:w.rangeAt b off cs.toList)
  (hu:P.underlying ty=some d) (hd:d.isRow=true) (hi:(P.info? ty).map (·.size)=some cs.size) (h:K (a.put o.dst (.agg cs)) w):if Region.wanted o (yielded ops a.tmps)=true then Oper.wp P o a w K Q else E:=by
 have hw:Region.wanted o (yielded ops a.tmps)=true:=by simp[Region.wanted,hgd]
 rw[if_pos hw];exact wp_load_mid ty x ho b off hx cs.toList d hc hu hd (by simpa using hi) (by simpa using h)
theorem ZhJ {ops:Array Oper} {o:Oper} {a:Act} {w:World} {K:Act→World→Prop} {Q:Exit→Act→World→Prop} {E:Prop} (hgd:o.guard=none) (t e:TypeId) (x:Operand) (ho:o.op = .buildSlice t 1 #[(0,x)]) (cs:Array Value) (hx:a.eval x = .agg cs) (ie:TypeInfo) (z:Value) (s:Nat)
  (hu:P.underlying t=some (.slice e)) (hie:P.info? e=some ie) (hz:ie.zero=some z) (hs:ie.size=s) (hcs:cs.size=s) (h0:0<s) (hsm:s≤16777216) (h:K (a.put o.dst (.slice (some ⟨w.heap.size,0,none⟩) 1 1)) (w.alloc (.cells cs e))):if Region.wanted o (yielded ops a.tmps)=true then Oper.wp P o a w K Q else E:=by
 have hw:Region.wanted o (yielded ops a.tmps)=true:=by simp[Region.wanted,hgd]
 rw[if_pos hw];refine wp_buildSlice t e 1 _ ho cs ie z hu hie hz (by rw[hs];omega) (by rw[hs];omega) ?_ h;rw[hs];have hf:=Great.fill_whole h0 [.agg cs] ((Array.range (1*s)).map (z.cells[· % z.cells.size]!)) (by intro v hv;rw[List.mem_singleton] at hv;subst hv;exact hcs) (by simp);simpa [Value.cells,hx] using hf
theorem ZeZ {ops:Array Oper} {o:Oper} {a:Act} {w:World} {K:Act→World→Prop} {Q:Exit→Act→World→Prop} {E:Prop} (hgd:o.guard=none) (ty:TypeId) (x y:Operand) (ho:o.op = .store ty x y) (b:Nat) (T:TypeId) (cs cs':Array Value) (hx:a.eval x = .pointer (some ⟨b,0,none⟩)) (hy:a.eval y = .agg cs')
  (hb:Bx w b cs T) (hi:(P.info? ty).map (·.size)=some cs'.size) (hl:cs.size=cs'.size) (h1:∀ v∈cs'.toList,v.oneCell'=true) (h:K (a.put o.dst undef) (w.setRow b cs')):if Region.wanted o (yielded ops a.tmps)=true then Oper.wp P o a w K Q else E:=by
 have hw:Region.wanted o (yielded ops a.tmps)=true:=by simp[Region.wanted,hgd]
 rw[if_pos hw];have hr:=run_storeVar_row (P:=P) w b T ty cs cs' hb hi hl (Array.all_eq_true_iff_forall_mem.2 fun v hv=>h1 v (by simpa using hv));unfold Oper.wp execOp;simp only[ho,hx,hy,Instr.storeAt,Instr.sureAddr,Sem.run_bind,Sem.run_pure,Result.andThen_ok,hr];exact h
end Go.Proofs.Ytfanhfcamblghaa
namespace Go.Proofs.Ytfanhfcamblghaa
open Go.RowKit Go.Deep Go.ChangeShapes Go.ChangeAt
section
variable {H:Type} {enc:TypeId × Value→H} {P:Program} {w:World} {held:Bool}
end
end Go.Proofs.Ytfanhfcamblghaa
namespace Go.Proofs.Ytfanhfcamblghaa
open Go.RowKit Go.Deep Go.ChangeShapes Go.ChangeAt
section
variable {H:Type} {enc:TypeId × Value→H} {P:Program} {w:World} {held:Bool}
end
end Go.Proofs.Ytfanhfcamblghaa
namespace Go.Proofs.Ytfanhfcamblghaa
open Go.RowKit
theorem ZlF (bs:List Nat) (v:Value) (w:World) (hb:Bytes 0 w v bs) (hlen:bs.length≤100000000) :
  Calls Try.prog 29 #[v] w fun e w'=>∃ vb bs',bs'.length≤2000∧Bytes 0 w vb bs'∧e = .returned (.pointer (some ⟨w.heap.size,0,none⟩))∧St w w' [RdE w.heap.size vb 0]:=by
 obtain⟨a,c,rfl,hc1,hc2,-⟩:=hb.form;have Hb:=qh hb;clear hb;by_cases h2:2000<bs.length
 ·have q1:(2000:Int)<bs.length:=by omega
  have q2:(2000:Int)≤c:=by omega
  have hS:=(St.start w).alloc _ rfl #[.slice a 2000 c,.int .i64 0] 117;have HS:=qh hS;clear hS
  go_enter Try.func29, Try.ntmps29
  go_wp2;go_ret;exact⟨_,bs.take 2000,by rw[List.length_take];omega,Hb.out.take (by omega),rfl,HS.out⟩
 have q1:(2000<(bs.length:Int))=False:=by simp;omega
 have hS:=(St.start w).alloc _ rfl #[.slice a bs.length c,.int .i64 0] 117;have HS:=qh hS;have h2:bs.length≤2000:=by omega
 clear hS
 go_enter Try.func29, Try.ntmps29
 go_wp2;go_ret;exact⟨_,bs,h2,Hb.out,rfl,HS.out⟩
theorem ZnP {l:List Nat} {k:Nat} (h:okT l l.length=true) (hk:k<l.length):97≤l.getD k 0∧l.getD k 0≤99:=by unfold okT at h;have:=List.all_eq_true.1 h k (List.mem_range.2 hk);simp only[inB,Bool.and_eq_true,decide_eq_true_eq] at this;omega
theorem ZiY {l:List Nat} (h:wdOk l=true):okT l l.length=true∧l.length≤8:=by unfold wdOk at h;simp only[Bool.and_eq_true,decide_eq_true_eq] at h;exact h
theorem Zj2 {n:NfaD} {l:List Nat} {k:Nat} (hk:k<l.length):runS n (lets (l.take (k+1)))=stV 40 n.moves (runS n (lets (l.take k))) ((l.getD k 0-97:Nat):Int):=by rw[List.take_succ_eq_append_getElem hk];unfold runS lets;rw[List.map_append,List.foldl_append];simp[hk]
theorem Zj3 {n:NfaD} (hok:Zaq n=true) (cs:List Nat):runS n cs<2 ^ 40:=by obtain⟨m,-,hm40,hmv,-,hf,-⟩:=Zao hok;have hm4:=Zd8 hmv hm40;unfold runS;exact ZbM _ (fun v=>v<2 ^ 40) (fun _ _ _ _=>ZjU hm4 _ _) (Zeh hm4 (Zd2 fun s hs=>by have:=hf s hs;omega) 40)
theorem Zjd (n:NfaD) (l:List Nat) (v1 v2 v3:Value) (w:World) (hok:Zaq n=true) (ht:isT l) (hlo:okT l l.length=true) (hll:l.length≤1000) (h1:Moves 0 w v1 n.moves) (h2:Ints 0 w v2 n.firsts) :
  Calls Try.prog 55 #[.agg (nfaC n v1 v2 v3),.string (txB l)] w fun e w'=>e = .returned (setC (runS n (lets l)))∧Below w.heap.size w w':=by
 obtain⟨m,-,hm40,hmv,hml,hf,hfl,-⟩:=Zao hok;have hm4:=Zd8 hmv hm40;have hfi:inN 40 n.firsts:=fun s hs=>by have:=hf s hs;omega
 have hlt40:=fun cs=>Zj3 hok cs
 have hml:n.moves.length≤1000000:=by omega
 have hfl:n.firsts.length≤1000000:=by omega
 have hsz:=Zcr l;have hS0:=((St.start w).alloc _ rfl (nfaC n v1 v2 v3) 28).alloc (w.heap.size+1) (by simp) #[.int .u64 0,.int .u64 0] 87;have H1:=qh h1;have H2:=qh h2;replace hm4:=qh hm4;replace hfi:=qh hfi;have Hhlt40:=qh hlt40;clear hlt40;have Hht:=qh ht;clear ht;have Hhlo:=qh hlo;clear hlo;have Hhok:=qh hok;clear hok;replace hS0:=qh hS0;clear h1 h2 hmv hf hm40
 go_enter Try.func55, Try.ntmps55
 have e0:=hS0.out.cell (v:=.int .i64 n.states) 0 0 rfl rfl;have e1:=hS0.out.cell (v:=v1) 0 1 rfl rfl;have e2:=hS0.out.cell (v:=v2) 0 2 rfl rfl;have e3:=hS0.out.cell (v:=v3) 0 3 rfl rfl;go_wp2_with fail;refine(ZbT n v1 v2 v3 _ hm4.out hml hfi.out hfl (H1.out.below hS0.out.bel) (H2.out.below hS0.out.bel)).mono ?_;rintro e w2 ⟨rfl,hb2⟩;have hS1:=(hS0.out.call hb2).alloc _ rfl #[.int .u64 (fstV n:Nat),.int .u64 0] 87;have HhS1:=qh hS1;clear hS1;clear hb2 e0 e1 e2 e3;go_wp2
 go_loopw [11] (fun i wr=>∃ k:Nat,i = .int .i64 k∧k≤l.length∧St w wr [Ent.box w.heap.size (nfaC n v1 v2 v3) 28,Ent.box (w.heap.size+1) #[.int .u64 0,.int .u64 0] 87,Ent.box w2.heap.size #[.int .u64 (runS n (lets (l.take k)):Nat),.int .u64 0] 87])
  (fun i _=>l.length-(intOf i).toNat)
 case atStart=>exact⟨0,rfl,Nat.zero_le _,HhS1.out⟩
 case round =>
  obtain⟨k,rfl,hk,hS⟩:=hrel;obtain⟨C,hC⟩:=eI (runS n (lets (l.take k)));have hC40:C<2 ^ 40:=by rw[hC];exact Hhlt40.out _
  rw[← hC] at hS;by_cases hlt:k<l.length
  ·have hkI:(k:Int)<l.length:=by omega
   have hlo2:=(ZnP Hhlo.out hlt).1;have hsc:=Zj2 (n:=n) hlt;rw[← hC] at hsc;obtain⟨c,hc⟩:=eI (l.getD k 0-97);have HLt:=qh (Zcy l k hlt Hht.out hlo2);rw[← hc] at HLt hsc;obtain⟨D,hD⟩:=eI (stV 40 n.moves C (c:Int));rw[← hD] at hsc;have HSt:=qh (fun (u:World) (hu:Below w.heap.size w u)=>Zfk n C (c:Int) v1 v2 v3 u hm4.out hml hC40 (H1.out.below hu));rw[← hD] at HSt;have hS':=hS.drew;replace hC:=qh hC;have HhC40:=qh hC40;clear hC40;have Hhc:=qh hc;clear hc;have HhD:=qh hD;clear hD;have Hhsc:=qh hsc;clear hsc;clear hlo2 hS;go_wp2_with fail;refine wp_region_any (by kernel_rfl) ?_
   refine Zaf (fun A listed a w'=>∃ (l0 l1 l2 l3 l4 l5 l6:Bool) ,listed=#[l0,l1,l2,l3,l4,l5,l6]∧(l4=true→l2=true∧l3=true)∧(l5=true→l1=true∧l4=true)∧(l6=true→l5=true∧l0=true) ∧
     a=⟨((((((A.tmps.setIfInBounds 14 (if l0=true then .agg #[.int .i64 n.states,v1,v2,v3] else A.tmps.getD 14 undef)).setIfInBounds 15 (if l1=true then .agg #[.int .u64 (C:Nat),.int .u64 0] else A.tmps.getD 15 undef)).setIfInBounds 16 (if l2=true then .string (txB l) else A.tmps.getD 16 undef)).setIfInBounds 17 (if l3=true then .int .i64 (k:Int) else A.tmps.getD 17 undef)).setIfInBounds 18 (if l4=true then .int .i64 (c:Int) else A.tmps.getD 18 undef)).setIfInBounds 19 (if l5=true then .agg #[.int .u64 (D:Nat),.int .u64 0] else A.tmps.getD 19 undef)),A.defers⟩ ∧
     St w w' [Ent.box w.heap.size #[.int .i64 n.states,v1,v2,v3] 28,Ent.box (w.heap.size+1) #[.int .u64 0,.int .u64 0] 87,Ent.box w2.heap.size #[(if l6=true then .int .u64 (D:Nat) else .int .u64 (C:Nat)),.int .u64 0] 87]) ?_ ?_ ?_
   ·rintro listed a w' ⟨l0,l1,l2,l3,l4,l5,l6,rfl,hd4,hd5,hd6,rfl,hS⟩ i hi;obtain⟨hun,o,ho,hall⟩:=mem_ready.1 hi;have hlt:=(Array.getElem?_eq_some_iff.1 ho).1;refine wpOp_step ho (fun K hK => ?_);clear hi;have HS:=qh hS;clear hS;simp only[List.setIfInBounds_toArray,List.set_cons_zero,List.set_cons_succ,Array.getD_eq_getD_getElem?,List.getElem?_toArray,List.getElem?_cons_zero,List.getElem?_cons_succ,Option.getD_some];obtain h|h|h|h|h|h|h:i=0∨i=1∨i=2∨i=3∨i=4∨i=5∨i=6:=by simp at hlt;omega
    all_goals subst h
    all_goals simp only[List.getElem?_toArray,List.getElem?_cons_zero,List.getElem?_cons_succ,Option.some.injEq] at ho
    all_goals subst ho
    all_goals simp[Region.binds] at hun hall
    ·subst hun;obtain rfl:l6=false:=offR hd6 rfl;have e0:=HS.out.cell (v:=.int .i64 n.states) 0 0 rfl rfl;have e1:=HS.out.cell (v:=v1) 0 1 rfl rfl;have e2:=HS.out.cell (v:=v2) 0 2 rfl rfl;have e3:=HS.out.cell (v:=v3) 0 3 rfl rfl;go_simp;exact hK _ _ ⟨true,l1,l2,l3,l4,l5,false,rfl,hd4,hd5,by simp,(by simp),HS.out⟩
    ·subst hun;obtain rfl:l5=false:=offL hd5 rfl;obtain rfl:l6=false:=offL hd6 rfl;have d0:=HS.out.cell (v:=.int .u64 (C:Nat)) 2 0 rfl rfl;have d1:=HS.out.cell (v:=.int .u64 0) 2 1 rfl rfl;go_simp;exact hK _ _ ⟨l0,true,l2,l3,l4,false,false,rfl,hd4,by simp,by simp,(by simp),HS.out⟩
    ·subst hun;obtain rfl:l4=false:=offL hd4 rfl;obtain rfl:l5=false:=offR hd5 rfl;obtain rfl:l6=false:=offL hd6 rfl;go_simp;exact hK _ _ ⟨l0,l1,true,l3,false,false,false,rfl,by simp,by simp,by simp,(by simp),HS.out⟩
    ·subst hun;obtain rfl:l4=false:=offR hd4 rfl;obtain rfl:l5=false:=offR hd5 rfl;obtain rfl:l6=false:=offL hd6 rfl;go_simp;exact hK _ _ ⟨l0,l1,l2,true,false,false,false,rfl,by simp,by simp,by simp,(by simp),HS.out⟩
    ·obtain⟨rfl,rfl⟩:=hall;subst hun;obtain rfl:l5=false:=offR hd5 rfl;obtain rfl:l6=false:=offL hd6 rfl;go_simp
     go_at_call 93
     refine(HLt.out _).mono ?_;rintro e u0 ⟨rfl,rfl⟩;go_simp;exact hK _ _ ⟨l0,l1,true,true,true,false,false,rfl,by simp,by simp,by simp,(by simp),HS.out⟩
    ·obtain⟨rfl,rfl,rfl⟩:=hall;subst hun;obtain⟨rfl,rfl⟩:=hd4 rfl;obtain rfl:l6=false:=offL hd6 rfl;go_simp
     go_at_call 101
     refine(HSt.out _ HS.out.bel).mono ?_;rintro e u1 ⟨rfl,hb⟩;have hS2:=HS.out.call hb;have HhS2:=qh hS2;clear hS2;go_simp;exact hK _ _ ⟨true,true,true,true,true,true,false,rfl,by simp,by simp,by simp,(by simp only[↓reduceIte,List.setIfInBounds_toArray,List.set_cons_zero,List.set_cons_succ]),HhS2.out⟩
    obtain⟨rfl,rfl,rfl,rfl,rfl,rfl,-⟩:=hall;subst hun;have d0:=HS.out.cell (v:=.int .u64 (C:Nat)) 2 0 rfl rfl;have d1:=HS.out.cell (v:=.int .u64 0) 2 1 rfl rfl;have f0:=HS.out.fr 2 0 rfl;have f1:=HS.out.fr 2 1 rfl;go_simp;exact hK _ _ ⟨true,true,true,true,true,true,true,rfl,by simp,by simp,by simp,(by simp only[↓reduceIte,List.setIfInBounds_toArray,List.set_cons_zero,List.set_cons_succ]),(HS.out.set 2 rfl 0 (.int .u64 (D:Nat))).set 2 rfl 1 (.int .u64 0)⟩
   ·rintro listed a w' ⟨l0,l1,l2,l3,l4,l5,l6,rfl,hd4,hd5,hd6,rfl,hS⟩ hr;have hall:=Zag (by kernel_rfl) rfl hr;obtain rfl:l0=true:=by simpa using hall 0 (by simp)
    obtain rfl:l1=true:=by simpa using hall 1 (by simp)
    obtain rfl:l2=true:=by simpa using hall 2 (by simp)
    obtain rfl:l3=true:=by simpa using hall 3 (by simp)
    obtain rfl:l4=true:=by simpa using hall 4 (by simp)
    obtain rfl:l5=true:=by simpa using hall 5 (by simp)
    obtain rfl:l6=true:=by simpa using hall 6 (by simp)
    clear hall hr hd4 hd5 hd6;simp only[↓reduceIte] at hS ⊢;simp only[List.setIfInBounds_toArray,List.set_cons_zero,List.set_cons_succ];have HSf:=qh (hS.pick [0,1,2] (by decide));clear hS;go_wp2;go_roundw
    case rel =>refine⟨k+1,by go_num,by omega,?_⟩;rw[Hhsc.out];exact HSf.out
    case measure=>simp[intOf];omega
   refine⟨false,false,false,false,false,false,false,rfl,by simp,by simp,by simp,(by simp),?_⟩;exact hS'.pick [0,1,2] (by decide)
  obtain rfl:k=l.length:=by omega
  rw[List.take_length] at hC;have e0:=hS.cell (v:=.int .u64 (C:Nat)) 2 0 rfl rfl;have e1:=hS.cell (v:=.int .u64 0) 2 1 rfl rfl;have k0:=hS.cell (v:=.int .u64 0) 1 0 rfl rfl;have k1:=hS.cell (v:=.int .u64 0) 1 1 rfl rfl;have f0:=hS.fr 1 0 rfl;have f1:=hS.fr 1 1 rfl;have hS2:=(hS.set 1 rfl 0 (.int .u64 (C:Nat))).set 1 rfl 1 (.int .u64 0);have q0:=hS2.cell (v:=.int .u64 (C:Nat)) 1 0 rfl rfl;have q1:=hS2.cell (v:=.int .u64 0) 1 1 rfl rfl;replace hC:=qh hC;have HhS:=qh hS;clear hS;have HhS2:=qh hS2;clear hS2;go_wp2;rw[← hC.out];exact bodyPost_ret (v:=setC C) (by simp[results,Try.results55,go_sem,q0,q1]) rfl ⟨rfl,HhS2.out.bel⟩
theorem Zdf (n:NfaD) (l:List Nat) (v:Value) (w:World) (ht:isT l) (hll:l.length≤1000) (h:NfaR 0 w v n) (r:Bool) (hr:accT n l=r) :
  Calls Try.prog 14 #[v,.string (txB l)] w fun e w'=>e = .returned (.bool r)∧Below w.heap.size w w':=by
 have H:=qh h;obtain⟨v1,v2,v3,rfl,g1,g2,g3,-,-⟩:=h;have hS0:=(St.start w).alloc _ rfl #[.int .i64 n.states,v1,v2,v3] 28;have hb0:=hS0.bel.drew;have Hk:Hid (∀ w':World,Below (w.alloc (.cells #[.int .i64 n.states,v1,v2,v3] 28)).drew.heap.size (w.alloc (.cells #[.int .i64 n.states,v1,v2,v3] 28)).drew w'→w'.cell? ⟨w.heap.size,0,none⟩=some (.int .i64 n.states)∧w'.cell? ⟨w.heap.size,1,none⟩=some v1∧w'.cell? ⟨w.heap.size,2,none⟩=some v2∧w'.cell? ⟨w.heap.size,3,none⟩=some v3):=qh fun w' hb=>⟨(hS0.drew.call hb).cell 0 0 rfl rfl,(hS0.drew.call hb).cell 0 1 rfl rfl,(hS0.drew.call hb).cell 0 2 rfl rfl,(hS0.drew.call hb).cell 0 3 rfl rfl⟩
 have HN:=qh (fun (u:World) (hu:Below (w.alloc (.cells #[.int .i64 n.states,v1,v2,v3] 28)).drew.heap.size (w.alloc (.cells #[.int .i64 n.states,v1,v2,v3] 28)).drew u)=>(H.out.below hb0).below hu);have HM:=qh (fun (u:World) (hu:Below (w.alloc (.cells #[.int .i64 n.states,v1,v2,v3] 28)).drew.heap.size (w.alloc (.cells #[.int .i64 n.states,v1,v2,v3] 28)).drew u)=>(show Moves 0 u v1 n.moves∧Ints 0 u v2 n.firsts∧Ints 0 u v3 n.ends from⟨(g1.below hb0).below hu,(g2.below hb0).below hu,(g3.below hb0).below hu⟩));replace ht:=qh ht;replace hS0:=qh hS0;clear g1 g2 g3 hb0;cases hok:Zaq n
 ·obtain rfl:r=false:=by rw[← hr,accT,hok];rfl
  have Hhok:=qh hok;clear hok;clear hr
  go_enter Try.func14, Try.ntmps14
  go_wp2_with fail;refine wp_region_any (by kernel_rfl) ?_
  refine Zdt (fun listed a w'=>∃ (l0 l1 l2 l3 l4 l5 l6 l7 l8 l9 l10 l11 l12 l13:Bool) ,listed=#[l0,l1,l2,l3,l4,l5,l6,l7,l8,l9,l10,l11,l12,l13] ∧
    a=⟨#[.agg #[.int .i64 n.states,v1,v2,v3],.string (txB l),.pointer (some ⟨w.heap.size,0,none⟩),undef,.bool false,(if l0=true then .agg #[.int .i64 n.states,v1,v2,v3] else undef),(if l1=true then .bool false else undef),(if l2=true then .bool false else undef),undef,undef,(if l5=true then .bool false else undef),(if l6=true then .bool false else undef),undef,undef,undef,undef,undef,(if l12=true then .bool false else undef)],[]⟩ ∧
    St w w' [Ent.box w.heap.size #[.int .i64 n.states,v1,v2,v3] 28]) ?_ ?_ _ _ _ _ (ZjG _ _) ?_
  ·rintro listed a w' ⟨l0,l1,l2,l3,l4,l5,l6,l7,l8,l9,l10,l11,l12,l13,rfl,rfl,hS⟩ i hi;obtain⟨hun,o,ho,hall⟩:=mem_ready.1 hi;have hlt:=(Array.getElem?_eq_some_iff.1 ho).1;refine wpOp_step ho (fun K hK => ?_);clear hi;have HS:=qh hS;clear hS;obtain h|h|h|h|h|h|h|h|h|h|h|h|h|h:i=0∨i=1∨i=2∨i=3∨i=4∨i=5∨i=6∨i=7∨i=8∨i=9∨i=10∨i=11∨i=12∨i=13:=by simp at hlt;omega
   all_goals subst h
   all_goals simp only[List.getElem?_toArray,List.getElem?_cons_zero,List.getElem?_cons_succ,Option.some.injEq] at ho
   all_goals subst ho
   all_goals simp[Region.binds] at hun hall
   ·subst hun;have e0:=HS.out.cell (v:=.int .i64 n.states) 0 0 rfl rfl;have e1:=HS.out.cell (v:=v1) 0 1 rfl rfl;have e2:=HS.out.cell (v:=v2) 0 2 rfl rfl;have e3:=HS.out.cell (v:=v3) 0 3 rfl rfl;go_simp;exact hK _ _ ⟨true,l1,l2,l3,l4,l5,l6,l7,l8,l9,l10,l11,l12,l13,rfl,rfl,HS.out⟩
   ·obtain rfl:=hall;subst hun;go_simp
    go_at_call 12
    refine(Zac n _ _ (H.out.below HS.out.bel) _ Hhok.out).mono ?_;rintro e u0 ⟨rfl,hb⟩;have hS2:=HS.out.call hb;have HhS2:=qh hS2;clear hS2;go_simp;exact hK _ _ ⟨true,true,l2,l3,l4,l5,l6,l7,l8,l9,l10,l11,l12,l13,rfl,rfl,HhS2.out⟩
   ·obtain rfl:=hall;subst hun;go_simp;exact hK _ _ ⟨l0,true,true,l3,l4,l5,l6,l7,l8,l9,l10,l11,l12,l13,rfl,rfl,HS.out⟩
   ·obtain rfl:=hall;subst hun;go_simp;exact hK _ _ ⟨l0,l1,true,true,l4,l5,l6,l7,l8,l9,l10,l11,l12,l13,rfl,rfl,HS.out⟩
   ·obtain⟨rfl,rfl⟩:=hall;subst hun;go_simp;exact hK _ _ ⟨l0,l1,true,true,true,l5,l6,l7,l8,l9,l10,l11,l12,l13,rfl,rfl,HS.out⟩
   ·obtain⟨rfl,rfl⟩:=hall;subst hun;go_simp;exact hK _ _ ⟨l0,l1,true,l3,true,true,l6,l7,l8,l9,l10,l11,l12,l13,rfl,rfl,HS.out⟩
   ·obtain⟨rfl,rfl⟩:=hall;subst hun;go_simp;exact hK _ _ ⟨l0,l1,l2,l3,true,true,true,l7,l8,l9,l10,l11,l12,l13,rfl,rfl,HS.out⟩
   ·obtain rfl:=hall;subst hun;go_simp;exact hK _ _ ⟨l0,l1,l2,l3,l4,l5,true,true,l8,l9,l10,l11,l12,l13,rfl,rfl,HS.out⟩
   ·obtain rfl:=hall;subst hun;go_simp;exact hK _ _ ⟨l0,l1,l2,l3,l4,l5,true,l7,true,l9,l10,l11,l12,l13,rfl,rfl,HS.out⟩
   ·obtain rfl:=hall;subst hun;go_simp;exact hK _ _ ⟨l0,l1,l2,l3,l4,l5,true,l7,l8,true,l10,l11,l12,l13,rfl,rfl,HS.out⟩
   ·obtain⟨rfl,rfl,rfl⟩:=hall;subst hun;go_simp;exact hK _ _ ⟨l0,l1,l2,l3,l4,l5,true,l7,true,true,true,l11,l12,l13,rfl,rfl,HS.out⟩
   ·obtain⟨rfl,rfl,rfl⟩:=hall;subst hun;go_simp;exact hK _ _ ⟨l0,l1,l2,l3,l4,l5,true,true,l8,l9,true,true,l12,l13,rfl,rfl,HS.out⟩
   ·obtain⟨rfl,rfl⟩:=hall;subst hun;go_simp;exact hK _ _ ⟨l0,l1,l2,l3,l4,l5,true,l7,l8,l9,l10,true,true,l13,rfl,rfl,HS.out⟩
   obtain⟨rfl,rfl,rfl,rfl,rfl,rfl,rfl,rfl,rfl,rfl,rfl,rfl,rfl,-⟩:=hall;subst hun;go_simp;exact hK _ _ ⟨true,true,true,true,true,true,true,true,true,true,true,true,true,true,rfl,rfl,HS.out⟩
  ·rintro listed a w' ⟨l0,l1,l2,l3,l4,l5,l6,l7,l8,l9,l10,l11,l12,l13,rfl,rfl,hS⟩ hr;have hall:=Zag (by kernel_rfl) rfl hr;obtain rfl:l0=true:=by simpa using hall 0 (by simp)
   obtain rfl:l1=true:=by simpa using hall 1 (by simp)
   obtain rfl:l2=true:=by simpa using hall 2 (by simp)
   obtain rfl:l3=true:=by simpa using hall 3 (by simp)
   obtain rfl:l4=true:=by simpa using hall 4 (by simp)
   obtain rfl:l5=true:=by simpa using hall 5 (by simp)
   obtain rfl:l6=true:=by simpa using hall 6 (by simp)
   obtain rfl:l7=true:=by simpa using hall 7 (by simp)
   obtain rfl:l8=true:=by simpa using hall 8 (by simp)
   obtain rfl:l9=true:=by simpa using hall 9 (by simp)
   obtain rfl:l10=true:=by simpa using hall 10 (by simp)
   obtain rfl:l11=true:=by simpa using hall 11 (by simp)
   obtain rfl:l12=true:=by simpa using hall 12 (by simp)
   obtain rfl:l13=true:=by simpa using hall 13 (by simp)
   clear hall hr ;simp only[↓reduceIte] at hS ⊢;have HSf:=qh hS;clear hS;go_wp2;go_ret;exact⟨rfl,HSf.out.bel⟩
  refine⟨false,false,false,false,false,false,false,false,false,false,false,false,false,false,rfl,rfl,?_⟩;exact hS0.out.drew.pick [0] (by decide)
 cases hwd:wdOk l
 ·obtain rfl:r=false:=by rw[← hr,accT,hok,hwd];rfl
  have Hhok:=qh hok;clear hok;have Hhwd:=qh hwd;clear hwd;clear hr
  go_enter Try.func14, Try.ntmps14
  go_wp2_with fail;refine wp_region_any (by kernel_rfl) ?_
  refine Zdt (fun listed a w'=>∃ (l0 l1 l2 l3 l4 l5 l6 l7 l8 l9 l10 l11 l12 l13:Bool) ,listed=#[l0,l1,l2,l3,l4,l5,l6,l7,l8,l9,l10,l11,l12,l13] ∧
    a=⟨#[.agg #[.int .i64 n.states,v1,v2,v3],.string (txB l),.pointer (some ⟨w.heap.size,0,none⟩),undef,.bool false,(if l0=true then .agg #[.int .i64 n.states,v1,v2,v3] else undef),(if l1=true then .bool true else undef),(if l2=true then .bool true else undef),(if l3=true then .string (txB l) else undef),(if l4=true then .bool false else undef),(if l5=true then .bool false else undef),(if l6=true then .bool false else undef),undef,undef,undef,undef,undef,(if l12=true then .bool false else undef)],[]⟩ ∧
    St w w' [Ent.box w.heap.size #[.int .i64 n.states,v1,v2,v3] 28]) ?_ ?_ _ _ _ _ (ZjG _ _) ?_
  ·rintro listed a w' ⟨l0,l1,l2,l3,l4,l5,l6,l7,l8,l9,l10,l11,l12,l13,rfl,rfl,hS⟩ i hi;obtain⟨hun,o,ho,hall⟩:=mem_ready.1 hi;have hlt:=(Array.getElem?_eq_some_iff.1 ho).1;refine wpOp_step ho (fun K hK => ?_);clear hi;have HS:=qh hS;clear hS;obtain h|h|h|h|h|h|h|h|h|h|h|h|h|h:i=0∨i=1∨i=2∨i=3∨i=4∨i=5∨i=6∨i=7∨i=8∨i=9∨i=10∨i=11∨i=12∨i=13:=by simp at hlt;omega
   all_goals subst h
   all_goals simp only[List.getElem?_toArray,List.getElem?_cons_zero,List.getElem?_cons_succ,Option.some.injEq] at ho
   all_goals subst ho
   all_goals simp[Region.binds] at hun hall
   ·subst hun;have e0:=HS.out.cell (v:=.int .i64 n.states) 0 0 rfl rfl;have e1:=HS.out.cell (v:=v1) 0 1 rfl rfl;have e2:=HS.out.cell (v:=v2) 0 2 rfl rfl;have e3:=HS.out.cell (v:=v3) 0 3 rfl rfl;go_simp;exact hK _ _ ⟨true,l1,l2,l3,l4,l5,l6,l7,l8,l9,l10,l11,l12,l13,rfl,rfl,HS.out⟩
   ·obtain rfl:=hall;subst hun;go_simp
    go_at_call 12
    refine(Zac n _ _ (H.out.below HS.out.bel) _ Hhok.out).mono ?_;rintro e u0 ⟨rfl,hb⟩;have hS2:=HS.out.call hb;have HhS2:=qh hS2;clear hS2;go_simp;exact hK _ _ ⟨true,true,l2,l3,l4,l5,l6,l7,l8,l9,l10,l11,l12,l13,rfl,rfl,HhS2.out⟩
   ·obtain rfl:=hall;subst hun;go_simp;exact hK _ _ ⟨l0,true,true,l3,l4,l5,l6,l7,l8,l9,l10,l11,l12,l13,rfl,rfl,HS.out⟩
   ·obtain rfl:=hall;subst hun;go_simp;exact hK _ _ ⟨l0,l1,true,true,l4,l5,l6,l7,l8,l9,l10,l11,l12,l13,rfl,rfl,HS.out⟩
   ·obtain⟨rfl,rfl⟩:=hall;subst hun;go_simp
    go_at_call 53
    refine(ZaY l _ ht.out (by omega) _ Hhwd.out).mono ?_;rintro e u1 ⟨rfl,rfl⟩;go_simp;exact hK _ _ ⟨l0,l1,true,true,true,l5,l6,l7,l8,l9,l10,l11,l12,l13,rfl,rfl,HS.out⟩
   ·obtain⟨rfl,rfl⟩:=hall;subst hun;go_simp;exact hK _ _ ⟨l0,l1,true,l3,true,true,l6,l7,l8,l9,l10,l11,l12,l13,rfl,rfl,HS.out⟩
   ·obtain⟨rfl,rfl⟩:=hall;subst hun;go_simp;exact hK _ _ ⟨l0,l1,l2,l3,true,true,true,l7,l8,l9,l10,l11,l12,l13,rfl,rfl,HS.out⟩
   ·obtain rfl:=hall;subst hun;go_simp;exact hK _ _ ⟨l0,l1,l2,l3,l4,l5,true,true,l8,l9,l10,l11,l12,l13,rfl,rfl,HS.out⟩
   ·obtain rfl:=hall;subst hun;go_simp;exact hK _ _ ⟨l0,l1,l2,l3,l4,l5,true,l7,true,l9,l10,l11,l12,l13,rfl,rfl,HS.out⟩
   ·obtain rfl:=hall;subst hun;go_simp;exact hK _ _ ⟨l0,l1,l2,l3,l4,l5,true,l7,l8,true,l10,l11,l12,l13,rfl,rfl,HS.out⟩
   ·obtain⟨rfl,rfl,rfl⟩:=hall;subst hun;go_simp;exact hK _ _ ⟨l0,l1,l2,l3,l4,l5,true,l7,true,true,true,l11,l12,l13,rfl,rfl,HS.out⟩
   ·obtain⟨rfl,rfl,rfl⟩:=hall;subst hun;go_simp;exact hK _ _ ⟨l0,l1,l2,l3,l4,l5,true,true,l8,l9,true,true,l12,l13,rfl,rfl,HS.out⟩
   ·obtain⟨rfl,rfl⟩:=hall;subst hun;go_simp;exact hK _ _ ⟨l0,l1,l2,l3,l4,l5,true,l7,l8,l9,l10,true,true,l13,rfl,rfl,HS.out⟩
   obtain⟨rfl,rfl,rfl,rfl,rfl,rfl,rfl,rfl,rfl,rfl,rfl,rfl,rfl,-⟩:=hall;subst hun;go_simp;exact hK _ _ ⟨true,true,true,true,true,true,true,true,true,true,true,true,true,true,rfl,rfl,HS.out⟩
  ·rintro listed a w' ⟨l0,l1,l2,l3,l4,l5,l6,l7,l8,l9,l10,l11,l12,l13,rfl,rfl,hS⟩ hr;have hall:=Zag (by kernel_rfl) rfl hr;obtain rfl:l0=true:=by simpa using hall 0 (by simp)
   obtain rfl:l1=true:=by simpa using hall 1 (by simp)
   obtain rfl:l2=true:=by simpa using hall 2 (by simp)
   obtain rfl:l3=true:=by simpa using hall 3 (by simp)
   obtain rfl:l4=true:=by simpa using hall 4 (by simp)
   obtain rfl:l5=true:=by simpa using hall 5 (by simp)
   obtain rfl:l6=true:=by simpa using hall 6 (by simp)
   obtain rfl:l7=true:=by simpa using hall 7 (by simp)
   obtain rfl:l8=true:=by simpa using hall 8 (by simp)
   obtain rfl:l9=true:=by simpa using hall 9 (by simp)
   obtain rfl:l10=true:=by simpa using hall 10 (by simp)
   obtain rfl:l11=true:=by simpa using hall 11 (by simp)
   obtain rfl:l12=true:=by simpa using hall 12 (by simp)
   obtain rfl:l13=true:=by simpa using hall 13 (by simp)
   clear hall hr ;simp only[↓reduceIte] at hS ⊢;have HSf:=qh hS;clear hS;go_wp2;go_ret;exact⟨rfl,HSf.out.bel⟩
  refine⟨false,false,false,false,false,false,false,false,false,false,false,false,false,false,rfl,rfl,?_⟩;exact hS0.out.drew.pick [0] (by decide)
 obtain⟨hlo,hl8⟩:=ZiY hwd;obtain⟨m,-,hm40,-,-,-,-,hei,-⟩:=Zao hok;have hei:inN 40 n.ends:=fun s hs=>by have:=hei s hs;omega
 have hr:endV n (runS n (lets l))=r:=by rw[← hr,accT,hok,hwd];rfl
 have hlt:=Zj3 hok (lets l);have Hhok:=qh hok;clear hok;have Hhwd:=qh hwd;clear hwd;have Hhlo:=qh hlo;clear hlo;have Hhr:=qh hr;clear hr;have Hhlt:=qh hlt;clear hlt;have Hhei:=qh hei;clear hei
 go_enter Try.func14, Try.ntmps14
 have hS1:=hS0.out.drew;have e0:=hS1.cell (v:=.int .i64 n.states) 0 0 rfl rfl;have e1:=hS1.cell (v:=v1) 0 1 rfl rfl;have e2:=hS1.cell (v:=v2) 0 2 rfl rfl;have e3:=hS1.cell (v:=v3) 0 3 rfl rfl;go_wp2_with fail
 go_region_with
  (first
   | (go_at_call 12;(with_reducible refine(Zac n _ _ (HN.out _ (Below.refl _ _)) _ Hhok.out).mono ?_);rintro e u0 ⟨rfl,hq0⟩;obtain⟨x0,x1,x2,x3⟩:=Hk.out _ hq0)
   | (go_at_call 53;(with_reducible refine(ZaY l _ ht.out (by omega) _ Hhwd.out).mono ?_);rintro e u1 ⟨rfl,rfl⟩)
   | (go_at_call 55;(with_reducible refine(Zjd n l v1 v2 v3 _ Hhok.out ht.out Hhlo.out hll (HM.out _ hq0).1 (HM.out _ hq0).2.1).mono ?_);rintro e u2 ⟨rfl,hr2⟩;have hq2:=hq0.trans (hr2.mono hq0.size);obtain⟨y0,y1,y2,y3⟩:=Hk.out _ hq2)
   | (go_at_call 54;(with_reducible refine(Zfl n _ v1 v2 v3 _ Hhlt.out Hhei.out (HM.out _ hq2).2.2 _ Hhr.out).mono ?_);rintro e u3 ⟨rfl,hr3⟩;have hq3:=hq2.trans (hr3.mono hq2.size)))
 all_goals
  go_wp2;go_ret;exact⟨rfl,(hS0.out.drew.call hq3).bel⟩
end Go.Proofs.Ytfanhfcamblghaa
