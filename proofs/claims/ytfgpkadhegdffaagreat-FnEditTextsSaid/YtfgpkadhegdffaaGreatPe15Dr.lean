/-
  The walks over strings.IndexByte at the bytes with which texts begin, and over the program's exprReader.next.
  No condition.
-/
import Derived.Test.YtfgpkadhegdffaaGreatPe14Prl
set_option maxHeartbeats 4000000
set_option maxRecDepth 100000
namespace Go.Proofs.YtfgpkadhegdffaaGreat
open Go.RowKit
theorem ZmQ (l:List Nat) (k:Nat):(txB l).extract k (txB l).size=txB (l.drop k):=by apply ByteArray.ext;rw[Zaw];simp only[txB,ByteArray.data_extract,List.map_drop,List.extract_toArray,List.extract_eq_take_drop];rw[List.take_of_length_le (by simp)]
theorem ZoD (s:List Nat) (k:Nat) (j:Int) (hj:j=(k:Int)) (hk:k≤s.length):∀ w':World,(Instr.slice 9 (.string (txB s)) (some (.int .i64 j)) none none).run Tryz.prog w' = .ok (.string (txB (s.drop k))) w':=fun w'=>by subst hj;rw[run_slice_string_l w' 9 (txB s) Tryz.underlying9 .i64 k (by omega) (by rw[Zaw];omega),Int.toNat_natCast,ZmQ]
theorem Zd2 (l:List Nat):(txB l).toList.isEmpty=l.isEmpty:=by rw[ByteArray.toList_eq];cases l<;>rfl
theorem ZgD (s:ByteArray) (c:Int) (w:World) :
  Calls Tryz.prog 148 #[.string s,.int .u8 c] w fun e w'=>e = .returned (.int .i64 (Lib.indexByte s.data.toList c.toNat.toUInt8))∧w=w':=by
 go_enter Tryz.func148, Tryz.ntmps148
 go_wp2;rw[run_callFunc_extern Tryz.func170 (by kernel_rfl) (by kernel_rfl) (by kernel_rfl) (e:=Extern.BytealgIndexByte.indexByte) (by kernel_rfl),Lib.run_indexByteString];simp only[Result.andThen];rw[Oper.upon_value];go_wp2;go_ret;exact⟨rfl,rfl⟩
theorem ZeT (s:ByteArray) (c:Int) (w:World) (r:Int) (hr:Lib.indexByte s.data.toList c.toNat.toUInt8=r) :
  Calls Tryz.prog 116 #[.string s,.int .u8 c] w fun e w'=>e = .returned (.int .i64 r)∧w=w':=by
 subst hr
 go_enter Tryz.func116, Tryz.ntmps116
 go_wp2_with (go_at_call 148;refine(ZgD _ _ _).mono ?_;rintro e w' ⟨rfl,rfl⟩);go_ret;exact⟨rfl,rfl⟩
theorem ZqP {c:Nat} (hc:c<256):(0≤Lib.indexByte [48,49,97,98,99,40,33] ((c:Int).toNat.toUInt8))↔jI c=true:=by
 have h:∀ k:Fin 256,(0≤Lib.indexByte [48,49,97,98,99,40,33] (k.val.toUInt8))↔jI k.val=true:=by decide
 simpa using h ⟨c,hc⟩
def Zrk (r:List Nat) (f:Bool):Nat:=if f=true then 0 else r.headD 0
theorem Zay (r:List Nat) (f:Bool) (b:Nat) (w:World) (ht:isT r) (h0:w.cell? ⟨b,0,none⟩=some (.string (txB r))) (h1:w.cell? ⟨b,1,none⟩=some (.bool f)) (c:Nat) (hc:Zrk r f=c) :
  Calls Tryz.prog 114 #[.pointer (some ⟨b,0,none⟩)] w fun e w'=>e = .returned (.int .u8 (c:Int))∧w=w':=by
 subst hc;cases f with
 | true =>
  go_enter Tryz.func114, Tryz.ntmps114
  go_wp2;go_ret;exact⟨rfl,rfl⟩
 | false =>
  have he:=Zd2 r;cases r with
  | nil =>
   simp only[List.isEmpty_nil] at he
   go_enter Tryz.func114, Tryz.ntmps114
   go_wp2;go_ret;exact⟨rfl,rfl⟩
  | cons x r =>
   simp only[List.isEmpty_cons] at he;have hix:=fun u=>Zbb (l:=x::r) (i:=0) (by simp) ht u
   simp only[List.getD_cons_zero,Int.ofNat_zero] at hix;obtain⟨s,hs⟩:=eJ (txB (x::r));rw[hs] at he hix h0;replace hs:=qh hs
   go_enter Tryz.func114, Tryz.ntmps114
   go_wp2;go_ret;exact⟨rfl,rfl⟩
def Qs (lo:Nat) (w:World) (e:TypeId) (v:Value) (xs:List Value):Prop :=
 ∃ g off cap cur,v = .slice (some ⟨g,off,none⟩) xs.length cap∧lo≤g∧w.heap[g]? = some (.cells cur e (0,0))∧xs.length≤cap∧cap≤maxLen∧off+cap≤cur.size∧∀ j,j<xs.length→cur[off+j]? = xs[j]?
theorem Qs.obj {lo:Nat} {w:World} {e:TypeId} {v:Value} {xs:List Value} (h:Qs lo w e v xs) {k:Nat} (hk:v.ownBlock=some k):∃ cur,w.heap[k]? = some (.cells cur e (0,0)):=by
 obtain⟨g,off,cap,cur,rfl,_,hg,_⟩:=h;have:g=k:=by simpa [Value.ownBlock] using hk
 subst this;exact⟨cur,hg⟩
theorem Qs.kept {lo:Nat} {w w':World} {e:TypeId} {v:Value} {xs:List Value} (h:Qs lo w e v xs) (hk:∀ k,v.ownBlock=some k→w'.heap[k]? = w.heap[k]?):Qs lo w' e v xs:=by obtain⟨g,off,cap,cur,rfl,h1,hg,h2⟩:=h;exact⟨g,off,cap,cur,rfl,h1,(hk g rfl).trans hg,h2⟩
theorem Qs.grown {lo:Nat} {w w':World} {e:TypeId} {v:Value} {xs:List Value} {row:Option Nat} (h:Qs lo w e v xs) (hg:w.grownBy w' row) (ha:Zcm w row e):Qs lo w' e v xs :=
 h.kept fun k hk=>by obtain⟨cur,hc⟩:=h.obj hk;exact hg.block k (Array.getElem?_eq_some_iff.1 hc).1 fun hr=>ha k hr.symm _ _ hc
theorem Qs.below {lo:Nat} {w w':World} {e:TypeId} {v:Value} {xs:List Value} (h:Qs lo w e v xs) (hb:Below w.heap.size w w'):Qs lo w' e v xs :=
 h.kept fun k hk=>by obtain⟨cur,hc⟩:=h.obj hk;exact hb.block k (Array.getElem?_eq_some_iff.1 hc).1
theorem Qs.form {lo:Nat} {w:World} {e:TypeId} {v:Value} {xs:List Value} (h:Qs lo w e v xs):∃ g off cap,v = .slice (some ⟨g,off,none⟩) xs.length cap∧lo≤g∧g<w.heap.size∧xs.length≤cap∧cap≤9223372036854775807∧∀ j,j<xs.length→w.cell? ⟨g,off+j,none⟩=xs[j]?:=by obtain⟨g,off,cap,cur,rfl,h1,hg,h2,h3,h4,h5⟩:=h;exact⟨g,off,cap,rfl,h1,(Array.getElem?_eq_some_iff.1 hg).1,h2,h3,fun j hj=>(cell_of_row w g _ cur e (0,0) hg).trans (h5 j hj)⟩
theorem Qs.lo {lo:Nat} {w:World} {e:TypeId} {v:Value} {xs:List Value} (h:Qs lo w e v xs) {k:Nat} (hk:v.ownBlock=some k):lo≤k:=by
 obtain⟨g,off,cap,cur,rfl,h1,_⟩:=h;have:g=k:=by simpa [Value.ownBlock] using hk
 omega
theorem Qs.append {P:Program} {lo:Nat} {w:World} {e:TypeId} {v:Value} {xs:List Value} (h:Qs lo w e v xs) (t ty:TypeId) (i:TypeInfo) (z:Value) (bytes:Nat) (ht:P.underlying t=some (.slice e)) (hi:P.info? e=some i) (hz:i.zero=some z) (hsize:i.size=1) (hby:i.bytes=bytes) (hzs:z.cells.size=1)
  (ad:Addr) (c:Nat) (x:Value) (hx:w.cell? ad=some x) (had:ad.add 0=ad) (h1:x.oneCell'=true) (h63:xs.length+1≤1000000) (hb:bytes≤100) (hlo:lo≤w.heap.size) :
  ∃ v' w',(Builtin.append_ #[t,t] ty #[v,.slice (some ad) 1 c]).run P w = .ok v' w'∧Qs lo w' e v' (xs++[x])∧w.grownBy w' v.ownBlock:=by
 obtain⟨g,off,cap,cur,rfl,hg0,hg,h2,h3,h4,h5⟩:=h
 have hnews:∀ j u,[x][j]? = some u→w.cell? (ad.add j)=some u:=fun j u hu=>by
  cases j with
  | zero=>simp at hu;subst hu;rw[had];exact hx
  | succ j=>simp at hu
 by_cases hroom:xs.length+1≤cap
 ·have hf:=run_firstCells_some (P:=P) w i.size 1 ad 1 c [x] (by simp[hsize]) hnews;have hst:=run_storeCells_at P g (off+xs.length) e [x] 0 cur w hg (by simp;omega) (by simpa using h1);have hadd:(⟨g,off,none⟩:Addr).add xs.length=⟨g,off+xs.length,none⟩:=by unfold Addr.add;split<;>simp_all
  simp only[Nat.add_zero,List.length_singleton] at hst;rw[hsize] at hf;have hcl:off+xs.length<cur.toList.length:=by simp;omega
  have ht1:(List.take (off+xs.length) cur.toList).length=off+xs.length:=by rw[List.length_take];omega
  obtain⟨cs,hcs⟩:∃ cs:Array Value,cs=(List.take (off+xs.length) cur.toList++[x]++List.drop (off+xs.length+1) cur.toList).toArray:=⟨_,rfl⟩;rw[← hcs] at hst;have hrow:=setRow_heap w g cur cs e (0,0) hg;refine⟨.slice (some ⟨g,off,none⟩) (xs.length+1) cap,w.setRow g cs,by simp[Builtin.append_,run_underlying ht,sizeOf,typeInfo,hi,hsize,Builtin.lenOf,hroom,hf,hadd,hst],?_,?_⟩
  ·refine⟨g,off,cap,cs,by simp,hg0,hrow,by simpa using hroom,h3,?_,fun j hj => ?_⟩
   ·rw[hcs];simp only[List.size_toArray,List.length_append,List.length_singleton,List.length_drop,ht1,Array.length_toList];omega
   simp only[List.length_append,List.length_singleton] at hj;rw[hcs];simp only[List.getElem?_toArray];by_cases hjn:j<xs.length
   ·rw[List.append_assoc,List.getElem?_append_left (by omega),List.getElem?_append_left hjn,List.getElem?_take,if_pos (by omega),Array.getElem?_toList];exact h5 j hjn
   obtain rfl:j=xs.length:=by omega
   rw[List.append_assoc,List.getElem?_append_right (by omega),ht1];simp
  exact⟨rfl,rfl,rfl,by simp,fun k _ hk=>setRow_other w g k cs (fun e=>hk (by rw[e];rfl))⟩
 have hgr:=run_append_grow (P:=P) w t ty e i z ht hi hz ⟨g,off,none⟩ xs.length cap xs (by rw[hsize];omega)
  (fun j u hu=>by
   have hj:j<xs.length:=(List.getElem?_eq_some_iff.1 hu).1;have hadd:(⟨g,off,none⟩:Addr).add j=⟨g,off+j,none⟩:=by unfold Addr.add;split<;>simp_all
   rw[hadd,cell_of_row w g _ cur e (0,0) hg,h5 j hj,hu]) ad 1 c [x] (by simp[hsize]) hnews (by omega) (by omega)
  (by have:=nextslicecap_le_wide (need:=xs.length+1) (old:=cap) (by omega);have hm:=Nat.mul_le_mul this (show i.bytes≤100 by omega);omega)
 have hcm:=grownCap_le_maxLen w (xs.length+1) cap e (by unfold maxLen;omega);have hge:=grownCap_ge w (xs.length+1) cap e;have hnew:=heap_alloc_new w.drew (.cells (xs.toArray++[x].toArray++Builtin.zeroCells z.cells (grownCap w (xs.length+1) cap e-(xs.length+1))) e);refine⟨_,_,hgr,⟨w.heap.size,0,_,_,by simp,hlo,hnew,by simpa using hge,hcm,?_,fun j hj => ?_⟩,?_⟩
 ·simp[size_zeroCells,hzs];omega
 ·simp only[Nat.zero_add];rw[← List.getElem?_toArray];have:(xs++[x]).toArray=xs.toArray++[x].toArray:=by simp
  rw[this,Array.getElem?_append_left (by simpa using hj)]
 exact⟨rfl,rfl,rfl,by simp[World.alloc],fun k hk _=>Below.heap_alloc w.drew _ k hk⟩
def wdB (l:List Nat):ByteArray:=⟨(l.map fun c=>UInt8.ofNat (97+c)).toArray⟩
abbrev wdCells (ws:List (List Nat)):List Value:=ws.map fun l=>Value.string (wdB l)
theorem Zlc (l:List Nat):(wdB l).size=l.length:=by simp[wdB,ByteArray.size]
theorem Zhz (c:Nat) (hc:c<3) (w:World):Calls Tryz.prog 107 #[.int .i64 c] w fun e w'=>e = .returned (.string (wdB [c]))∧w=w':=by
 obtain rfl|rfl|rfl:c=0∨c=1∨c=2:=by omega
 all_goals
  go_enter Tryz.func107, Tryz.ntmps107
  go_wp2;go_ret;exact⟨rfl,rfl⟩
def knows (n:Nat) (s:Bs Int) (cs:List Value):Prop:=cs.length=n∧∀ j,j<s.met.length→cs[(s.met.getD j 0).toNat]? = some (.string (wdB (s.words.getD j [])))
def marks (n:Nat) (s:Bs Int) (bs:List Value):Prop:=bs.length=n∧∀ x:Nat,x<n→bs[x]? = some (.bool (decide ((x:Int)∈s.met)))
structure FwW (d:DfaD) (W0 bw bs:Nat) (bx:Array Value) (w:World) (s:Bs Int) (k:Nat) (vq:Value):Prop where
 wo:∃ cs,w.ownsRow W0 9 1 (.slice (some ⟨bw,0,none⟩) d.next.length d.next.length) d.next.length cs∧knows d.next.length s cs
 se:∃ ms,w.ownsRow W0 4 1 (.slice (some ⟨bs,0,none⟩) d.next.length d.next.length) d.next.length ms∧marks d.next.length s ms
 qu:Qs W0 w 3 vq ((s.met.drop k).map (Value.int .i64))
 bx:Bx w W0 bx 25
theorem FwW.below {d:DfaD} {W0 bw bs k:Nat} {bx:Array Value} {w w':World} {s:Bs Int} {vq:Value} (h:FwW d W0 bw bs bx w s k vq) (hb:Below w.heap.size w w'):FwW d W0 bw bs bx w' s k vq:=by obtain⟨⟨cs,h1,h2⟩,⟨ms,h3,h4⟩,h5,h6⟩:=h;exact⟨⟨cs,(Own.below (Zab h1) hb).1,h2⟩,⟨ms,(Own.below (Zab h3) hb).1,h4⟩,h5.below hb,h6.below hb h6.lt⟩
theorem FwW.cells {d:DfaD} {W0 bw bs k:Nat} {bx:Array Value} {w:World} {s:Bs Int} {vq:Value} (h:FwW d W0 bw bs bx w s k vq) {x:Nat} (hxn:x<d.next.length):(∃ u,w.cell? ⟨bw,x,none⟩=some u)∧w.frozen? ⟨bw,x,none⟩=false∧w.frozen? ⟨bs,x,none⟩=false:=by obtain⟨⟨cs,h1,h2⟩,⟨ms,h3,h4⟩,_⟩:=h;exact⟨Zdm h1 x (by omega),h1.frozenAt x,h3.frozenAt x⟩
theorem FwW.lt {d:DfaD} {W0 bw bs k:Nat} {bx:Array Value} {w:World} {s:Bs Int} {vq:Value} (h:FwW d W0 bw bs bx w s k vq):W0≤bw∧W0≤bs∧bw<w.heap.size∧bs<w.heap.size∧bw≠bs∧W0≠bw∧W0≠bs:=by
 obtain⟨⟨cs,h1,h2⟩,⟨ms,h3,h4⟩,_,h6⟩:=h;refine⟨(h1.lt bw rfl).1,(h3.lt bs rfl).1,(h1.lt bw rfl).2,(h3.lt bs rfl).2,?_,?_,?_⟩
 ·intro e;obtain⟨cu,hcu⟩:=Za1 (k:=bs) h3 rfl;exact Zan (e':=4) h1 (by decide) bs (by rw[e];rfl) _ _ hcu
 ·intro e;exact Zan (e':=25) h1 (by decide) bw rfl _ _ (by rw[← e];exact h6)
 intro e;exact Zan (e':=25) h3 (by decide) bs rfl _ _ (by rw[← e];exact h6)
theorem FwW.q2 {d:DfaD} {W0 bw bs k:Nat} {bx:Array Value} {w w4 w5:World} {s:Bs Int} {vq:Value} (h:FwW d W0 bw bs bx w s k vq) (x:Nat) {u v:Value} (_:bw≠bs)
  (h5:w5=(w4.setCell ⟨bw,x,none⟩ u).drew) (h4:w4=w.setCell ⟨bs,x,none⟩ v):Qs W0 w5 3 vq ((s.met.drop k).map (Value.int .i64)):=by
 obtain⟨⟨cs,h1,h2⟩,⟨ms,h3,h4'⟩,hq,h6⟩:=h;subst h4;subst h5;have a1:(w.setCell ⟨bs,x,none⟩ v).ownsRow W0 9 1 (.slice (some ⟨bw,0,none⟩) d.next.length d.next.length) d.next.length cs:=Zah h1 (ZaK w bs x _) (fun k hk=>by cases hk;exact Zan (e':=9) h3 (by decide) bs rfl);exact((hq.grown (ZaK w bs x v) (fun k hk=>by cases hk;exact Zan (e':=3) h3 (by decide) bs rfl)).grown (ZaK (w.setCell ⟨bs,x,none⟩ v) bw x u) (fun k hk=>by cases hk;exact Zan (e':=3) a1 (by decide) bw rfl)).below (Below.refl _ _).drew
end Go.Proofs.YtfgpkadhegdffaaGreat
namespace Go.Proofs.YtfgpkadhegdffaaGreat
open Go.RowKit Go.Deep Go.ChangeShapes Go.ChangeAt
section
variable {H:Type} {enc:TypeId × Value→H} {P:Program} {w:World} {held:Bool}
theorem ZmO {a:Addr} {v:Value} (h:w.cell? (a.add 0)=some v):∃ b off,a=⟨b,off,none⟩:=by
 obtain⟨b,off,spot⟩:=a;have hspot:spot=none:=by simpa [Addr.add] using World.cell?_spot h
 subst hspot;exact⟨b,off,rfl⟩
theorem Zku {a:Addr} {len cap:Nat} {cs:List Value} (hl:cs.length=len) (hle:len≤cap) (hm:cap≤maxLen) (hc:∀ i,i<len→w.cell? (a.add i)=cs[i]?):Sl 0 w (.slice (some a) len cap) len 1 cs:=by refine⟨by omega,_,cap,rfl,hle,hm,fun h0 => ?_⟩;obtain⟨u,hu⟩:∃ u,cs[0]? = some u:=⟨cs[0]'(by omega),by simp[show 0<cs.length by omega]⟩;obtain⟨b,off,rfl⟩:=ZmO ((hc 0 h0).trans hu);refine⟨b,off,rfl,Nat.zero_le _,World.block_lt_of_cell? w _ ((hc 0 h0).trans hu),fun j hj => ?_⟩;rw[← hc j (by omega),← Go.WideShapes.add_plain]
end
end Go.Proofs.YtfgpkadhegdffaaGreat
namespace Go.Proofs.YtfgpkadhegdffaaGreat
open Go.RowKit Go.Deep Go.ChangeShapes Go.ChangeAt
def Bytes (B:Nat) (w:World) (v:Value) (bs:List Nat):Prop:=(∀ b∈bs,b<256)∧Sl B w v bs.length 1 (bs.map fun (b:Nat)=>Value.int .u8 (b:Int))
theorem Bytes.below {B:Nat} {w w':World} {v:Value} {bs:List Nat} (h:Bytes B w v bs) (he:Below w.heap.size w w'):Bytes B w' v bs:=⟨h.1,Sl.below h.2 he⟩
theorem Bytes.form {B:Nat} {w:World} {v:Value} {bs:List Nat} (h:Bytes B w v bs):∃ a cap,v = .slice a bs.length cap∧bs.length≤cap∧cap≤9223372036854775807 ∧
  (0<bs.length→∃ b off,a=some ⟨b,off,none⟩∧B≤b∧b<w.heap.size∧∀ j,j<bs.length→w.cell? ⟨b,off+j,none⟩=some (.int .u8 (bs.getD j 0:Nat))∧bs.getD j 0<256):=by
 obtain⟨h0,hl,a,cap,hv,h1,h2,h3⟩:=h;refine⟨a,cap,hv,h1,h2,fun hn => ?_⟩;obtain⟨b,off,ha,hb,hlt,hc⟩:=h3 hn;refine⟨b,off,ha,hb,hlt,fun j hj=>⟨?_,h0 _ (by rw[show bs.getD j 0=bs[j] by simp[hj]];exact List.getElem_mem hj)⟩⟩;rw[hc j (by omega)];simp[hj]
section
variable {H:Type} {enc:TypeId × Value→H} {P:Program} {w:World} {held:Bool}
theorem Zq9 {n:Int} (h:(Lit.int .u8 n).wf=true):0≤n∧n≤255:=by have e1:IntKind.u8.min=0:=rfl;have e2:IntKind.u8.max=255:=rfl;simp only[Lit.wf,Bool.and_eq_true,decide_eq_true_eq,e1,e2] at h;exact h
theorem ZjB {t e:TypeId} {fuel:Nat} {cs:List Value} {x:DataW H × List MemPlace} (ht:P.underlying t=some (.slice e)) (he:P.underlying e=some (.int .u8)) (hc:P.cellsOf e=1)
  (h:DataW.trod enc P w 0 (fun _=>true) held fuel t cs=some x):∃ v bs,cs=[v]∧Bytes 0 w v bs:=by
 rcases open_ints ht he hc h with⟨hcs,-⟩|⟨a,len,cap,zs,hcs,-,hl,hm,hz,-,hcell,hwf⟩
 ·exact⟨_,[],hcs,fun b hb=>by simp at hb,by simp,none,0,rfl,Nat.le_refl _,Nat.zero_le _,fun h=>by simp at h⟩
 simp only[if_true] at hz;refine⟨_,(zs.take len).map Int.toNat,hcs,fun b hb => ?_,?_⟩
 ·obtain⟨z,hz1,rfl⟩:=List.mem_map.1 hb;have:=Zq9 (hwf z (List.mem_of_mem_take hz1));omega
 have hlen:((zs.take len).map Int.toNat).length=len:=by simp;omega
 rw[hlen];refine Zku (by simp;omega) hl hm fun i hi => ?_
 rw[hcell i (by omega)];have hzi:i<zs.length:=by omega
 have:=Zq9 (hwf _ (List.getElem_mem hzi));simp[hi,hzi];omega
end
theorem ZjC (a:Nat) (ha:a<1099511627776):(BitVec.ofInt 64 (a:Int)).toNat=a:=by rw[BitVec.ofInt_natCast,BitVec.toNat_ofNat];exact Nat.mod_eq_of_lt (by omega)
theorem ZkV (a b:Nat) (ha:a<1099511627776) (hb:b<1099511627776):bits .xor .i64 (a:Int) (b:Int)=((a ^^^ b:Nat):Int):=by have hx:a ^^^ b<2 ^ 40:=Nat.xor_lt_two_pow (by omega) (by omega);show IntKind.i64.wrap ((BitVec.ofInt 64 (a:Int) ^^^ BitVec.ofInt 64 (b:Int)).toNat:Int)=_;rw[BitVec.toNat_xor,ZjC a ha,ZjC b hb];exact IntWalk.i64_in _ (by omega)
end Go.Proofs.YtfgpkadhegdffaaGreat
namespace Go.Proofs.YtfgpkadhegdffaaGreat
open Go.RowKit
def RdE (b:Nat) (vb:Value) (p:Nat):Ent:=Ent.box b #[vb,.int .i64 ((p:Nat):Int)] 104
theorem Bytes.take {w:World} {a:Option Addr} {len cap:Nat} {bs:List Nat} (h:Bytes 0 w (.slice a len cap) bs) {n:Nat} (hn:n≤bs.length):Bytes 0 w (.slice a n cap) (bs.take n):=by
 obtain⟨h0,hl,a',cap',hv,h1,h2,h3⟩:=h;simp only[Value.slice.injEq] at hv;obtain⟨rfl,rfl,rfl⟩:=hv;have e:(bs.take n).length=n:=by rw[List.length_take];omega
 refine⟨fun b hb=>h0 b (List.mem_of_mem_take hb),?_⟩;rw[e];refine⟨by rw[List.length_map,e];omega,a,cap,rfl,by omega,h2,fun hn0 => ?_⟩;obtain⟨b,off,ha,hb,hlt,hc⟩:=h3 (by omega);refine⟨b,off,ha,hb,hlt,fun j hj => ?_⟩;rw[hc j (by omega),List.map_take,List.getElem?_take_of_lt (by omega)]
theorem Zlv (bs:List Nat) (v:Value) (w:World) (hb:Bytes 0 w v bs) (hlen:bs.length≤100000000) :
  Calls Tryz.prog 51 #[v] w fun e w'=>∃ vb bs',bs'.length≤2000∧Bytes 0 w vb bs'∧e = .returned (.pointer (some ⟨w.heap.size,0,none⟩))∧St w w' [RdE w.heap.size vb 0]:=by
 obtain⟨a,c,rfl,hc1,hc2,-⟩:=hb.form;have Hb:=qh hb;clear hb;by_cases h2:2000<bs.length
 ·have q1:(2000:Int)<bs.length:=by omega
  have q2:(2000:Int)≤c:=by omega
  have hS:=(St.start w).alloc _ rfl #[.slice a 2000 c,.int .i64 0] 104;have HS:=qh hS;clear hS
  go_enter Tryz.func51, Tryz.ntmps51
  go_wp2;go_ret;exact⟨_,bs.take 2000,by rw[List.length_take];omega,Hb.out.take (by omega),rfl,HS.out⟩
 have q1:(2000<(bs.length:Int))=False:=by simp;omega
 have hS:=(St.start w).alloc _ rfl #[.slice a bs.length c,.int .i64 0] 104;have HS:=qh hS;have h2:bs.length≤2000:=by omega
 clear hS
 go_enter Tryz.func51, Tryz.ntmps51
 go_wp2;go_ret;exact⟨_,bs,h2,Hb.out,rfl,HS.out⟩
theorem ZaQ (bs:List Nat) (vb:Value) (b p n:Nat) (w0 w:World) (X:Ent) (hb:Bytes 0 w0 vb bs) (hlen:bs.length≤2000) (hp:p≤1000000) (hn0:1≤n) (hn1:n≤10000) (hS:St w0 w [RdE b vb p,X]) :
  Calls Tryz.prog 70 #[.pointer (some ⟨b,0,none⟩),.int .i64 ((n:Nat):Int)] w fun e w'=>∃ k:Nat,k<n∧e = .returned (.int .i64 ((k:Nat):Int))∧St w0 w' [RdE b vb (p+1),X]:=by
 obtain⟨a,c,rfl,hc1,hc2,hr⟩:=hb.form;have e0:=hS.cell (v:=.slice a bs.length c) 0 0 rfl rfl;have e1:=hS.cell (v:=.int .i64 ((p:Nat):Int)) 0 1 rfl rfl;have f1:=hS.fr 0 1 rfl;have hS1:=hS.set 0 rfl 1 (.int .i64 ((p:Int)+1));have HS1:=qh hS1;have Hr:=qh hr;have hnI:(1:Int)≤n:=by omega
 have hn2:((n:Int)<1)=False:=by simp;omega
 have hp1:(p:Int)+1-1=p:=by omega
 clear hb hS hr hS1;by_cases h0:bs.length=0
 ·have q1:((bs.length:Int)==0)=true:=by rw[h0];rfl
  have q2:((bs.length:Int)=0)=True:=by simp[h0]
  go_enter Tryz.func70, Tryz.ntmps70
  go_wp2;go_ret;exact⟨0,by omega,rfl,HS1.out⟩
 have q0:(bs.length:Int)≠0:=by omega
 have q1:((bs.length:Int)==0)=false:=by rw[beq_eq_false_iff_ne];exact q0
 have q2:((bs.length:Int)=0)=False:=eq_false q0;clear q0;obtain⟨b1,o1,rfl,-,hb1,hcs⟩:=Hr.out (by omega);by_cases hlt:p<bs.length
 ·have hlt2:(p:Int)<bs.length:=by omega
  have e3:=(bcell HS1.out.bel b1 _ hb1).trans (hcs p hlt).1;obtain⟨v,hv⟩:=eI (bs.getD p 0);have hv2:=(hcs p hlt).2;rw[← hv] at e3 hv2;replace hv:=qh hv;clear hcs h0
  go_enter Tryz.func70, Tryz.ntmps70
  go_wp2;go_ret;have hvn:((v:Int) % (n:Int))=((v % n:Nat):Int):=by omega
  exact⟨v % n,Nat.mod_lt _ (by omega),by rw[← hvn];rfl,HS1.out⟩
 have hlt2:((p:Int)<bs.length)=False:=by simp;omega
 have hm1:p % bs.length<bs.length:=Nat.mod_lt _ (by omega);have hm2:(p*7+3) % bs.length<bs.length:=Nat.mod_lt _ (by omega);have e3:=(bcell HS1.out.bel b1 _ hb1).trans (hcs _ hm1).1;have e4:=(bcell HS1.out.bel b1 _ hb1).trans (hcs _ hm2).1;have hv1:=(hcs _ hm1).2;have hv2:=(hcs _ hm2).2;have i1:(p:Int) % (bs.length:Int)=((p % bs.length:Nat):Int):=by omega
 have i2:((p:Int)*7+3) % (bs.length:Int)=(((p*7+3) % bs.length:Nat):Int):=by rw[Int.natCast_emod];congr 1
 have i3:(p:Int) / (bs.length:Int)=((p / bs.length:Nat):Int):=by rw[Int.natCast_ediv]
 have hdv:p / bs.length≤1000000:=Nat.le_trans (Nat.div_le_self _ _) hp;obtain⟨u1,hu1⟩:∃ u,u=bs.getD (p % bs.length) 0:=⟨_,rfl⟩;obtain⟨u2,hu2⟩:∃ u,u=bs.getD ((p*7+3) % bs.length) 0:=⟨_,rfl⟩;obtain⟨m1,hmm1⟩:∃ m,m=p % bs.length:=⟨_,rfl⟩;obtain⟨m2,hmm2⟩:∃ m,m=(p*7+3) % bs.length:=⟨_,rfl⟩;obtain⟨m3,hmm3⟩:∃ m,m=p / bs.length:=⟨_,rfl⟩;rw[← hu1] at e3 hv1;rw[← hu2] at e4 hv2;rw[← hmm1] at e3 i1 hm1;rw[← hmm2] at e4 i2 hm2;rw[← hmm3] at i3 hdv;have j1:(m1:Int)<bs.length:=by omega
 have j2:(m2:Int)<bs.length:=by omega
 replace hu1:=qh hu1;have Hhu2:=qh hu2;clear hu2;replace hmm1:=qh hmm1;have Hhmm2:=qh hmm2;clear hmm2;have Hhmm3:=qh hmm3;clear hmm3;clear hcs h0 hlt
 go_enter Tryz.func70, Tryz.ntmps70
 go_wp2
 go_quiet (fail)
 go_wp2;have ea:((u1:Int)*131+(u2:Int)*1117+(p:Int)*29+(m3:Int)*53)=((u1*131+u2*1117+p*29+m3*53:Nat):Int):=by omega
 obtain⟨A,hA⟩:=eI (u1*131+u2*1117+p*29+m3*53);have hAl:A<1099511627776:=by omega
 rw[← hA] at ea;have hx:(bits BinOp.xor IntKind.i64 ((u1:Int)*131+(u2:Int)*1117+(p:Int)*29+(m3:Int)*53) (((u1:Int)*131+(u2:Int)*1117+(p:Int)*29+(m3:Int)*53) / 64)).tmod (n:Int)=(((A ^^^ (A / 64)) % n:Nat):Int):=by rw[ea,show((A:Nat):Int) / 64=((A / 64:Nat):Int) by omega,ZkV A (A / 64) hAl (by omega)];exact(Int.ofNat_tmod _ _).symm
 go_ret;exact⟨(A ^^^ (A / 64)) % n,Nat.mod_lt _ (by omega),by rw[← hx];rfl,HS1.out.drewN _⟩
theorem ZnD (bs:List Nat) (vb:Value) (b p n:Nat) (w0 w:World) (X:Ent) (hb:Bytes 0 w0 vb bs) (hlen:bs.length≤2000) (hp:p≤1000000) (hn1:n≤10000) (hS:St w0 w [RdE b vb p,X]) :
  Calls Tryz.prog 92 #[.pointer (some ⟨b,0,none⟩),.int .i64 ((n:Nat):Int)] w fun e w'=>∃ (q:Bool) (p':Nat),p'≤p+1∧e = .returned (.bool q)∧St w0 w' [RdE b vb p',X]:=by
 have HS:=qh hS;have Hb:=qh hb;clear hS hb;by_cases h0:n=0
 ·subst h0
  go_enter Tryz.func92, Tryz.ntmps92
  go_wp2;go_ret;exact⟨_,p,by omega,rfl,HS.out⟩
 have hnI:(0:Int)<n:=by omega
 go_enter Tryz.func92, Tryz.ntmps92
 go_wp2_with fail;refine(ZaQ bs vb b p n w0 _ X Hb.out hlen hp (by omega) hn1 HS.out).mono ?_;rintro e w1 ⟨k,hk,rfl,hS1⟩;have HS1:=qh hS1;clear hS1;by_cases hkn:(k:Int)=(n:Int)-1
 ·have g1:((k:Int)==(n:Int)-1)=true:=by rw[hkn];simp
  have g2:((k:Int)=(n:Int)-1)=True:=eq_true hkn;clear hkn;go_wp2;go_ret;exact⟨_,p+1,Nat.le_refl _,rfl,HS1.out⟩
 have g1:((k:Int)==(n:Int)-1)=false:=by rw[beq_eq_false_iff_ne];exact hkn
 have g2:((k:Int)=(n:Int)-1)=False:=eq_false hkn;clear hkn;go_wp2;go_ret;exact⟨_,p+1,Nat.le_refl _,rfl,HS1.out⟩
end Go.Proofs.YtfgpkadhegdffaaGreat
