/-
  The walk over the program's small, for automata of up to N <= 128 states.
  Conditions: the automaton's numbers are in bounds; the arguments read as such data.
-/
import Derived.Test.YtfgpkadhegdffaaGreatPc15Wdet
set_option maxHeartbeats 8000000
set_option maxRecDepth 100000
namespace Go.Proofs.YtfgpkadhegdffaaGreat
open Go.RowKit
structure DetOkW (N:Nat) (n:NfaD):Prop where
 mv:mvIn N n.moves
 ml:n.moves.length≤1000
 f:inN N n.firsts
 fl:n.firsts.length≤1000
 e:inN N n.ends
 el:n.ends.length≤1000
def Zfk (N K:Nat) (n:NfaD):Option DfaD:=if (metW N n K).length≤K then some (Zan (nxW N n) (enW n) (metW N n K)) else none
theorem Zh2 {N K:Nat} (hK:K=40) {n:NfaD} {d:DfaD} (h:Zfk N K n=some d):Zae d.next d.ends=true:=by
 unfold Zfk at h
 split at h
 ·rename_i hle;simp only[Option.some.injEq] at h;subst h;obtain⟨h1,h2,h3,h4⟩:=ZdB (en:=enW n) (nx:=nxW N n) (a:=pW (fstW N n)) hle (by omega);exact ZeC ⟨h1,h2,h3,h4⟩ (by rw[ZaN];omega)
 cases h
theorem Zk3 {N K:Nat} {n:NfaD} (h:(metW N n K).length≤K):Zfk N K n=some (Zan (nxW N n) (enW n) (metW N n K)):=if_pos h
theorem Zk4 {N K:Nat} {n:NfaD} (h:¬ (metW N n K).length≤K):Zfk N K n=none:=if_neg h
theorem ZdL (N:Nat) (hN:N≤128) (n:NfaD) (K:Nat) (hK:K=40) (D:DfaD) (fb:Bool) (hD:((Zfk N K n).map minD).getD zeD=D) (hfb:((Zfk N K n).map minD).isSome=fb) (v1 v2 v3:Value) (w:World) (hdo:DetOkW N n) (h1:Moves 0 w v1 n.moves) (h2:Ints 0 w v2 n.firsts) (h3:Ints 0 w v3 n.ends) :
  Calls Tryz.prog 80 #[.agg #[.int .i64 n.states,v1,v2,v3]] w fun e w'=>RTt D fb w.heap.size e w'∧Below w.heap.size w w':=by
 have hS0:=((St.start w).alloc _ rfl #[.int .i64 n.states,v1,v2,v3] 90).alloc (w.heap.size+1) (by simp) #[.slice none 0 0,.slice none 0 0] 25;have hdet:=fun (W:World) (hb:Below w.heap.size w W)=>Zfj N hN n K hK v1 v2 v3 W hdo.mv (by have:=hdo.ml;omega) hdo.f (by have:=hdo.fl;omega) hdo.e (h1.below hb) (h2.below hb) (h3.below hb)
 have Hdet:=qh hdet;replace hS0:=qh hS0;have HhD:=qh hD;clear hD;have Hhfb:=qh hfb;clear hfb;clear hdet h1 h2 h3 hdo
 go_enter Tryz.func80, Tryz.ntmps80
 have e0:=hS0.out.cell (v:=.int .i64 n.states) 0 0 rfl rfl;have e1:=hS0.out.cell (v:=v1) 0 1 rfl rfl;have e2:=hS0.out.cell (v:=v2) 0 2 rfl rfl;have e3:=hS0.out.cell (v:=v3) 0 3 rfl rfl;go_wp2_with fail;refine(Hdet.out _ hS0.out.bel).mono ?_;rintro e w3 ⟨hr,hb3⟩;unfold ZnJ at hr;by_cases hle:(metW N n K).length≤K
 ·rw[if_pos hle] at hr;obtain⟨an,cn,ae,ce,rfl,hown⟩:=hr;have htd:=Zk3 hle;obtain⟨X,hX⟩:=eI (Zan (nxW N n) (enW n) (metW N n K));have hl1:X.next.length=(metW N n K).length:=by rw[hX];exact ZaN _ _ _
  have hl2:X.ends.length=(metW N n K).length:=by rw[hX];simp[Zan]
  rw[← hX] at hown htd;have hD:=HhD.out;have hfb:=Hhfb.out;rw[htd] at hD hfb;have hD:minD X=D:=hD;have hfb:true=fb:=hfb;subst hD;subst hfb;obtain⟨L,hL⟩:=eI ((metW N n K).length);rw[← hL] at hown hl1 hl2 hle;rw[← hL];have hL40:(L:Int)≤40:=by omega
  have hXo:Zae X.next X.ends=true:=Zh2 hK htd;have hS4:=(hS0.out.call hb3).alloc _ rfl #[.slice an L cn,.slice ae L ce] 25;have hDR:DfaR 0 (w3.alloc (.cells #[.slice an L cn,.slice ae L ce] 25)) (.agg #[.slice an L cn,.slice ae L ce]) X:=(hown.r.mono (Nat.zero_le _)).below ((Below.refl _ _).alloc (Nat.le_refl _) _);have d0:=hS4.cell (v:=.slice an L cn) 2 0 rfl rfl;have d1:=hS4.cell (v:=.slice ae L ce) 2 1 rfl rfl;have HS4:=qh hS4;have HDR:=qh hDR;have Hhl1:=qh hl1;clear hl1;have Hhl2:=qh hl2;clear hl2;have Hhtd:=qh htd;clear htd;have HhXo:=qh hXo;clear hXo;have HhX:=qh hX;clear hX;replace hL:=qh hL;clear hown hb3 hle hS4 hDR e0 e1 e2 e3;go_wp2_with fail;refine(ZbS X _ _ HhXo.out HDR.out).mono ?_;rintro e w5 ⟨a1,c1,a2,c2,rfl,hown,hb5⟩;obtain⟨M,hM⟩:=eI (minD X);rw[← hM] at hown;rw[← hM];have hS5:=HS4.out.call hb5;have f0:=hS5.fr 1 0 rfl;have f1:=hS5.fr 1 1 rfl;have k0:=hS5.cell (v:=.slice none 0 0) 1 0 rfl rfl;have k1:=hS5.cell (v:=.slice none 0 0) 1 1 rfl rfl;have hDM:=DMem.of hown HS4.out.size;have hb0:=hS5.box 1 rfl;have HS5:=qh hS5;have HDM:=qh hDM;have Hhb0:=qh hb0;clear hb0;have HhM:=qh hM;clear hM;clear hS5 hown hb5 hDM d0 d1;go_wp2;have hq:=(HS5.out.set 1 rfl 0 (.slice a1 M.next.length c1)).set 1 rfl 1 (.slice a2 M.ends.length c2);have q0:=hq.cell (v:=.slice a1 M.next.length c1) 1 0 rfl rfl;have q1:=hq.cell (v:=.slice a2 M.ends.length c2) 1 1 rfl rfl
  have hm:=(HDM.out.set Hhb0.out 0 (.slice a1 M.next.length c1)).set (Hhb0.out.set 0 _) 1 (.slice a2 M.ends.length c2);refine bodyPost_ret (v:=.tuple #[.agg #[.slice a1 M.next.length c1,.slice a2 M.ends.length c2],.bool true]) (by simp[results,Tryz.results80,go_sem,q0,q1]) rfl ⟨?_,hq.bel⟩;rw[← HhM.out];exact⟨a1,c1,a2,c2,rfl,_,_,rfl,hm.1,hm.2⟩
 rw[if_neg hle] at hr;subst hr;have hD:=HhD.out;have hfb:=Hhfb.out;rw[Zk4 hle] at hD hfb;have hD:zeD=D:=hD;have hfb:false=fb:=hfb;subst hD;subst hfb;have hS4:=(hS0.out.call hb3).alloc _ rfl #[.slice none 0 0,.slice none 0 0] 25;have f0:=hS4.fr 1 0 rfl;have f1:=hS4.fr 1 1 rfl;have k0:=hS4.cell (v:=.slice none 0 0) 1 0 rfl rfl;have k1:=hS4.cell (v:=.slice none 0 0) 1 1 rfl rfl;have HS4:=qh hS4;clear hb3 hle hS4 e0 e1 e2 e3;go_wp2;have hq:=(HS4.out.set 1 rfl 0 (.slice none 0 0)).set 1 rfl 1 (.slice none 0 0);have q0:=hq.cell (v:=.slice none 0 0) 1 0 rfl rfl;have q1:=hq.cell (v:=.slice none 0 0) 1 1 rfl rfl;refine bodyPost_ret (v:=.tuple #[.agg #[.slice none 0 0,.slice none 0 0],.bool false]) (by simp[results,Tryz.results80,go_sem,q0,q1]) rfl ⟨?_,hq.bel⟩;exact⟨none,0,none,0,rfl,Zhj _ _ _ _ _⟩
def Qs (lo:Nat) (w:World) (e:TypeId) (v:Value) (xs:List Value):Prop :=
 ∃ g off cap cur,v = .slice (some ⟨g,off,none⟩) xs.length cap∧lo≤g∧w.heap[g]? = some (.cells cur e (0,0))∧xs.length≤cap∧cap≤maxLen∧off+cap≤cur.size∧∀ j,j<xs.length→cur[off+j]? = xs[j]?
theorem Qs.obj {lo:Nat} {w:World} {e:TypeId} {v:Value} {xs:List Value} (h:Qs lo w e v xs) {k:Nat} (hk:v.ownBlock=some k):∃ cur,w.heap[k]? = some (.cells cur e (0,0)):=by
 obtain⟨g,off,cap,cur,rfl,_,hg,_⟩:=h;have:g=k:=by simpa [Value.ownBlock] using hk
 subst this;exact⟨cur,hg⟩
theorem Qs.apart {lo:Nat} {w:World} {e e':TypeId} {v:Value} {xs:List Value} (h:Qs lo w e v xs) (hne:e≠e'):Zbo w v.ownBlock e':=fun k hk cur fr hh=>by obtain⟨c,hc⟩:=h.obj hk;rw[hc] at hh;simp only[Option.some.injEq,Obj.cells.injEq] at hh;exact hne hh.2.1
theorem Qs.kept {lo:Nat} {w w':World} {e:TypeId} {v:Value} {xs:List Value} (h:Qs lo w e v xs) (hk:∀ k,v.ownBlock=some k→w'.heap[k]? = w.heap[k]?):Qs lo w' e v xs:=by obtain⟨g,off,cap,cur,rfl,h1,hg,h2⟩:=h;exact⟨g,off,cap,cur,rfl,h1,(hk g rfl).trans hg,h2⟩
theorem Qs.grown {lo:Nat} {w w':World} {e:TypeId} {v:Value} {xs:List Value} {row:Option Nat} (h:Qs lo w e v xs) (hg:w.grownBy w' row) (ha:Zbo w row e):Qs lo w' e v xs :=
 h.kept fun k hk=>by obtain⟨cur,hc⟩:=h.obj hk;exact hg.block k (Array.getElem?_eq_some_iff.1 hc).1 fun hr=>ha k hr.symm _ _ hc
theorem Qs.below {lo:Nat} {w w':World} {e:TypeId} {v:Value} {xs:List Value} (h:Qs lo w e v xs) (hb:Below w.heap.size w w'):Qs lo w' e v xs :=
 h.kept fun k hk=>by obtain⟨cur,hc⟩:=h.obj hk;exact hb.block k (Array.getElem?_eq_some_iff.1 hc).1
theorem Qs.form {lo:Nat} {w:World} {e:TypeId} {v:Value} {xs:List Value} (h:Qs lo w e v xs):∃ g off cap,v = .slice (some ⟨g,off,none⟩) xs.length cap∧lo≤g∧g<w.heap.size∧xs.length≤cap∧cap≤9223372036854775807∧∀ j,j<xs.length→w.cell? ⟨g,off+j,none⟩=xs[j]?:=by obtain⟨g,off,cap,cur,rfl,h1,hg,h2,h3,h4,h5⟩:=h;exact⟨g,off,cap,rfl,h1,(Array.getElem?_eq_some_iff.1 hg).1,h2,h3,fun j hj=>(cell_of_row w g _ cur e (0,0) hg).trans (h5 j hj)⟩
theorem Qs.lo {lo:Nat} {w:World} {e:TypeId} {v:Value} {xs:List Value} (h:Qs lo w e v xs) {k:Nat} (hk:v.ownBlock=some k):lo≤k:=by
 obtain⟨g,off,cap,cur,rfl,h1,_⟩:=h;have:g=k:=by simpa [Value.ownBlock] using hk
 omega
theorem Qs.tail {lo g off n cap:Nat} {w:World} {e:TypeId} {x:Value} {xs:List Value} (h:Qs lo w e (.slice (some ⟨g,off,none⟩) n cap) (x::xs)):Qs lo w e (.slice (some ⟨g,off+1,none⟩) xs.length (cap-1)) xs:=by obtain⟨g',off',cap',cur,he,h1,hg,h2,h3,h4,h5⟩:=h;simp only[Value.slice.injEq,Option.some.injEq,Addr.mk.injEq,and_true] at he;obtain⟨⟨rfl,rfl⟩,_,rfl⟩:=he;simp only[List.length_cons] at h2 h5;refine⟨g,off+1,cap-1,cur,rfl,h1,hg,by omega,by unfold maxLen at *;omega,by omega,fun j hj => ?_⟩;have:=h5 (j+1) (by omega);rw[show off+1+j=off+(j+1) by omega,this];simp
theorem Qs.tail1 {lo g off n:Nat} {w:World} {e:TypeId} {x:Value} {xs:List Value} (h:Qs lo w e (.slice (some ⟨g,off,none⟩) n 1) (x::xs)):xs=[]∧Qs lo w e (.slice (some ⟨g,off,none⟩) 0 0) []:=by obtain⟨g',off',cap',cur,he,h1,hg,h2,h3,h4,h5⟩:=h;simp only[Value.slice.injEq,Option.some.injEq,Addr.mk.injEq,and_true] at he;obtain⟨⟨rfl,rfl⟩,_,rfl⟩:=he;simp only[List.length_cons] at h2;exact⟨List.eq_nil_of_length_eq_zero (by omega),g,off,0,cur,rfl,h1,hg,by simp,by unfold maxLen;omega,by omega,fun j hj=>absurd hj (by simp)⟩
theorem Qs.append {P:Program} {lo:Nat} {w:World} {e:TypeId} {v:Value} {xs:List Value} (h:Qs lo w e v xs) (t ty:TypeId) (i:TypeInfo) (z:Value) (bytes:Nat) (ht:P.underlying t=some (.slice e)) (hi:P.info? e=some i) (hz:i.zero=some z) (hsize:i.size=1) (hby:i.bytes=bytes) (hzs:z.cells.size=1)
  (ad:Addr) (c:Nat) (x:Value) (hx:w.cell? ad=some x) (had:ad.add 0=ad) (h1:x.oneCell'=true) (h63:xs.length+1≤1000000) (hb:bytes≤100) (hlo:lo≤w.heap.size) :
  ∃ v' w',(Builtin.append_ #[t,t] ty #[v,.slice (some ad) 1 c]).run P w = .ok v' w'∧Qs lo w' e v' (xs++[x])∧w.grownBy w' v.ownBlock:=by
 obtain⟨g,off,cap,cur,rfl,hg0,hg,h2,h3,h4,h5⟩:=h
 have hnews:∀ j u,[x][j]? = some u→w.cell? (ad.add j)=some u:=fun j u hu=>by
  cases j with
  | zero=>simp at hu;subst hu;rw[had];exact hx
  | succ j=>simp at hu
 by_cases hroom:xs.length+1≤cap
 ·have hf:=run_firstCells_some (P:=P) w i.size 1 ad 1 c [x] (by simp[hsize]) hnews;have hst:=run_storeCells_at P g (off+xs.length) e [x] 0 cur w hg (by simp;omega) (by simpa using h1);have hadd:(⟨g,off,none⟩:Addr).add xs.length=⟨g,off+xs.length,none⟩:=by unfold Addr.add;split<;>simp_all
  simp only[Nat.add_zero,List.length_singleton] at hst;rw[hsize] at hf;have hcl:off+xs.length<cur.toList.length:=by simp;omega
  have ht1:(List.take (off+xs.length) cur.toList).length=off+xs.length:=by rw[List.length_take];omega
  obtain⟨cs,hcs⟩:∃ cs:Array Value,cs=(List.take (off+xs.length) cur.toList++[x]++List.drop (off+xs.length+1) cur.toList).toArray:=⟨_,rfl⟩;rw[← hcs] at hst;have hrow:=setRow_heap w g cur cs e (0,0) hg;refine⟨.slice (some ⟨g,off,none⟩) (xs.length+1) cap,w.setRow g cs,by simp[Builtin.append_,run_underlying ht,sizeOf,typeInfo,hi,hsize,Builtin.lenOf,hroom,hf,hadd,hst],?_,?_⟩
  ·refine⟨g,off,cap,cs,by simp,hg0,hrow,by simpa using hroom,h3,?_,fun j hj => ?_⟩
   ·rw[hcs];simp only[List.size_toArray,List.length_append,List.length_singleton,List.length_drop,ht1,Array.length_toList];omega
   simp only[List.length_append,List.length_singleton] at hj;rw[hcs];simp only[List.getElem?_toArray];by_cases hjn:j<xs.length
   ·rw[List.append_assoc,List.getElem?_append_left (by omega),List.getElem?_append_left hjn,List.getElem?_take,if_pos (by omega),Array.getElem?_toList];exact h5 j hjn
   obtain rfl:j=xs.length:=by omega
   rw[List.append_assoc,List.getElem?_append_right (by omega),ht1];simp
  exact⟨rfl,rfl,rfl,by simp,fun k _ hk=>setRow_other w g k cs (fun e=>hk (by rw[e];rfl))⟩
 have hgr:=run_append_grow (P:=P) w t ty e i z ht hi hz ⟨g,off,none⟩ xs.length cap xs (by rw[hsize];omega)
  (fun j u hu=>by
   have hj:j<xs.length:=(List.getElem?_eq_some_iff.1 hu).1;have hadd:(⟨g,off,none⟩:Addr).add j=⟨g,off+j,none⟩:=by unfold Addr.add;split<;>simp_all
   rw[hadd,cell_of_row w g _ cur e (0,0) hg,h5 j hj,hu]) ad 1 c [x] (by simp[hsize]) hnews (by omega) (by omega)
  (by have:=nextslicecap_le_wide (need:=xs.length+1) (old:=cap) (by omega);have hm:=Nat.mul_le_mul this (show i.bytes≤100 by omega);omega)
 have hcm:=grownCap_le_maxLen w (xs.length+1) cap e (by unfold maxLen;omega);have hge:=grownCap_ge w (xs.length+1) cap e;have hnew:=heap_alloc_new w.drew (.cells (xs.toArray++[x].toArray++Builtin.zeroCells z.cells (grownCap w (xs.length+1) cap e-(xs.length+1))) e);refine⟨_,_,hgr,⟨w.heap.size,0,_,_,by simp,hlo,hnew,by simpa using hge,hcm,?_,fun j hj => ?_⟩,?_⟩
 ·simp[size_zeroCells,hzs];omega
 ·simp only[Nat.zero_add];rw[← List.getElem?_toArray];have:(xs++[x]).toArray=xs.toArray++[x].toArray:=by simp
  rw[this,Array.getElem?_append_left (by simpa using hj)]
 exact⟨rfl,rfl,rfl,by simp[World.alloc],fun k hk _=>Below.heap_alloc w.drew _ k hk⟩
theorem Ze9 {P:Program} {w:World} {ops:Array Oper} {rest:List Oper} {o:Oper} {a:Act} {Q:Exit→Act→World→Prop} (hgd:o.guard=none) (s x:Operand) (t:TypeId)
  (ho:o.op = .call { callee:=.builtin .append,args:=#[s,x],argTypes:=#[t,t] })
  (lo:Nat) (e:TypeId) (i:TypeInfo) (z:Value) (bytes:Nat) (ht:P.underlying t=some (.slice e)) (hi:P.info? e=some i) (hz:i.zero=some z)
  (hsize:i.size=1) (hby:i.bytes=bytes) (hzs:z.cells.size=1)
  (v:Value) (xs:List Value) (hs:a.eval s=v) (hq:Qs lo w e v xs)
  (ad:Addr) (c:Nat) (u:Value) (hx:a.eval x = .slice (some ad) 1 c) (hu:w.cell? ad=some u) (had:ad.add 0=ad) (h1:u.oneCell'=true)
  (h63:xs.length+1≤1000000) (hb:bytes≤100) (hlo:lo≤w.heap.size)
  (h:∀ v' w',Qs lo w' e v' (xs++[u])→w.grownBy w' v.ownBlock→wpList P ops Q rest (a.put o.dst v') w'):wpList P ops Q (o::rest) a w:=by
 obtain⟨v',w',hr,h2,h3⟩:=hq.append t o.type i z bytes ht hi hz hsize hby hzs ad c u hu had h1 h63 hb hlo;exact wpList_plain hgd fun _ hK=>by unfold Oper.wp execOp;simp only[ho,resolve,invoke,builtin,Sem.run_bind,Sem.run_pure,Result.andThen_ok,List.map_toArray,List.map_cons,List.map_nil,hs,hx,hr];exact hK _ _ (h v' w' h2 h3)
def wdB (l:List Nat):ByteArray:=⟨(l.map fun c=>UInt8.ofNat (97+c)).toArray⟩
abbrev wdCells (ws:List (List Nat)):List Value:=ws.map fun l=>Value.string (wdB l)
theorem Zhk (l:List Nat) (c:Nat):wdB (l++[c])=wdB l++wdB [c]:=by apply ByteArray.ext;simp[wdB,ByteArray.data_append]
theorem Zdw (l:List Nat):(wdB l).size=l.length:=by simp[wdB,ByteArray.size]
theorem ZdK (c:Nat) (hc:c<3) (w:World):Calls Tryz.prog 107 #[.int .i64 c] w fun e w'=>e = .returned (.string (wdB [c]))∧w=w':=by
 obtain rfl|rfl|rfl:c=0∨c=1∨c=2:=by omega
 all_goals
  go_enter Tryz.func107, Tryz.ntmps107
  go_wp2;go_ret;exact⟨rfl,rfl⟩
theorem Zfa (c:Nat) (hc:c<3):strOfNums [97+(c:Int)]=wdB [c]:=by
 obtain rfl|rfl|rfl:c=0∨c=1∨c=2:=by omega
 all_goals rfl
theorem Zgm (c:Nat) (hc:c<3) (w:World) (b cap:Nat) (h:w.cell? ⟨b,0,none⟩=some (.int .u8 (97+(c:Int)))) :
  (convert 36 9 (.slice (some ⟨b,0,none⟩) 1 cap)).run Tryz.prog w = .ok (.string (wdB [c])) w:=by
 rw[← Zfa c hc]
 exact run_convert_bytes_arg w 36 5 Tryz.underlying36 Tryz.underlying5 b 0 1 cap [97+(c:Int)] rfl (fun i hi=>by
  obtain rfl:i=0:=by omega
  simpa using h) 9 Tryz.underlying9
theorem ZeS (c:Nat) (hc:c<3):IntKind.u8.wrap (97+(c:Int))=97+(c:Int):=by
 obtain rfl|rfl|rfl:c=0∨c=1∨c=2:=by omega
 all_goals rfl
def ZaH (o:Option (List Nat)):Ending:=match o with
 | some l => .returned (.tuple #[.string (wdB l),.bool true])
 | none => .returned (.tuple #[.string { data:=#[] },.bool false])
theorem Tryz.infoStr:(Tryz.prog.info? 9).map (fun i=>(i.zero,i.size,i.bytes))=some (some (.string { data:=#[] }),1,16):=by kernel_rfl
def knows (n:Nat) (s:Bs Int) (cs:List Value):Prop:=cs.length=n∧∀ j,j<s.met.length→cs[(s.met.getD j 0).toNat]? = some (.string (wdB (s.words.getD j [])))
def marks (n:Nat) (s:Bs Int) (bs:List Value):Prop:=bs.length=n∧∀ x:Nat,x<n→bs[x]? = some (.bool (decide ((x:Int)∈s.met)))
theorem Zi5 {d:DfaD} (hd:fine d) (k:Nat):∀ x∈(bat (dnx d) 0 k).met,0≤x∧x<d.next.length:=by obtain⟨h1,_,_,h4⟩:=hd;refine Zbr (Q:=fun x:Int=>0≤x∧x<(d.next.length:Int)) (by omega) (fun x c hc hx => ?_) k;exact(h4 x.toNat (by omega)).2 c hc
theorem Zgu {d:DfaD} (hd:fine d) {k n:Nat} (hk:k<(bat (dnx d) 0 k).met.length) (hn:n≤3):∀ x∈(bpart (dnx d) 0 k n).met,0≤x∧x<d.next.length:=by obtain⟨h1,_,_,h4⟩:=hd;refine Zi2 (Q:=fun x:Int=>0≤x∧x<(d.next.length:Int)) (by omega) (fun x c hc hx => ?_) hk hn;exact(h4 x.toNat (by omega)).2 c hc
theorem Zf1 {l:List Int} {n:Nat} (hn:l.Nodup) (h:∀ x∈l,0≤x∧x<n):l.length≤n:=by
 have:=ZdA (m:=ZaQ n) hn fun x hx=>by obtain⟨h1,h2⟩:=h x hx;obtain⟨y,rfl⟩:=Int.eq_ofNat_of_zero_le h1;exact ZbP.2 (by omega)
 rwa [ZbN] at this
theorem ZmI {d:DfaD} (hd:fine d) (k:Nat):(bat (dnx d) 0 k).met.length≤d.next.length:=Zf1 (ZaD k).1 (Zi5 hd k)
theorem ZjJ {d:DfaD} (hd:fine d) {k n:Nat} (hk:k<(bat (dnx d) 0 k).met.length) (hn:n≤3):(bpart (dnx d) 0 k n).met.length≤d.next.length:=Zf1 (ZbD hk hn).1 (Zgu hd hk hn)
structure FwW (d:DfaD) (W0 bw bs:Nat) (bx:Array Value) (w:World) (s:Bs Int) (k:Nat) (vq:Value):Prop where
 wo:∃ cs,w.ownsRow W0 9 1 (.slice (some ⟨bw,0,none⟩) d.next.length d.next.length) d.next.length cs∧knows d.next.length s cs
 se:∃ ms,w.ownsRow W0 4 1 (.slice (some ⟨bs,0,none⟩) d.next.length d.next.length) d.next.length ms∧marks d.next.length s ms
 qu:Qs W0 w 3 vq ((s.met.drop k).map (Value.int .i64))
 bx:Bx w W0 bx 25
theorem FwW.below {d:DfaD} {W0 bw bs k:Nat} {bx:Array Value} {w w':World} {s:Bs Int} {vq:Value} (h:FwW d W0 bw bs bx w s k vq) (hb:Below w.heap.size w w'):FwW d W0 bw bs bx w' s k vq:=by obtain⟨⟨cs,h1,h2⟩,⟨ms,h3,h4⟩,h5,h6⟩:=h;exact⟨⟨cs,(Own.below (Zab h1) hb).1,h2⟩,⟨ms,(Own.below (Zab h3) hb).1,h4⟩,h5.below hb,h6.below hb h6.lt⟩
theorem FwW.word {d:DfaD} {W0 bw bs k:Nat} {bx:Array Value} {w:World} {s:Bs Int} {vq:Value} (h:FwW d W0 bw bs bx w s k vq) {j:Nat} (hj:j<s.met.length) {x:Nat} (hx:s.met.getD j 0=(x:Int)) (hxn:x<d.next.length):w.cell? ⟨bw,x,none⟩=some (.string (wdB (s.words.getD j []))):=by obtain⟨⟨cs,h1,h2⟩,_⟩:=h;have:=h2.2 j hj;rw[hx] at this;exact(h1.cellAt x (by omega)).trans this
theorem FwW.mark {d:DfaD} {W0 bw bs k:Nat} {bx:Array Value} {w:World} {s:Bs Int} {vq:Value} (h:FwW d W0 bw bs bx w s k vq) {x:Nat} (hxn:x<d.next.length):w.cell? ⟨bs,x,none⟩=some (.bool (decide ((x:Int)∈s.met))):=by obtain⟨_,⟨ms,h1,h2⟩,_⟩:=h;exact(h1.cellAt x (by omega)).trans (h2.2 x hxn)
theorem FwW.cells {d:DfaD} {W0 bw bs k:Nat} {bx:Array Value} {w:World} {s:Bs Int} {vq:Value} (h:FwW d W0 bw bs bx w s k vq) {x:Nat} (hxn:x<d.next.length):(∃ u,w.cell? ⟨bw,x,none⟩=some u)∧w.frozen? ⟨bw,x,none⟩=false∧w.frozen? ⟨bs,x,none⟩=false:=by obtain⟨⟨cs,h1,h2⟩,⟨ms,h3,h4⟩,_⟩:=h;exact⟨Zcw h1 x (by omega),h1.frozenAt x,h3.frozenAt x⟩
theorem FwW.lt {d:DfaD} {W0 bw bs k:Nat} {bx:Array Value} {w:World} {s:Bs Int} {vq:Value} (h:FwW d W0 bw bs bx w s k vq):W0≤bw∧W0≤bs∧bw<w.heap.size∧bs<w.heap.size∧bw≠bs∧W0≠bw∧W0≠bs:=by
 obtain⟨⟨cs,h1,h2⟩,⟨ms,h3,h4⟩,_,h6⟩:=h;refine⟨(h1.lt bw rfl).1,(h3.lt bs rfl).1,(h1.lt bw rfl).2,(h3.lt bs rfl).2,?_,?_,?_⟩
 ·intro e;obtain⟨cu,hcu⟩:=Za0 (k:=bs) h3 rfl;exact Zaf (e':=4) h1 (by decide) bs (by rw[e];rfl) _ _ hcu
 ·intro e;exact Zaf (e':=25) h1 (by decide) bw rfl _ _ (by rw[← e];exact h6)
 intro e;exact Zaf (e':=25) h3 (by decide) bs rfl _ _ (by rw[← e];exact h6)
theorem FwW.q2 {d:DfaD} {W0 bw bs k:Nat} {bx:Array Value} {w w4 w5:World} {s:Bs Int} {vq:Value} (h:FwW d W0 bw bs bx w s k vq) (x:Nat) {u v:Value} (_:bw≠bs)
  (h5:w5=(w4.setCell ⟨bw,x,none⟩ u).drew) (h4:w4=w.setCell ⟨bs,x,none⟩ v):Qs W0 w5 3 vq ((s.met.drop k).map (Value.int .i64)):=by
 obtain⟨⟨cs,h1,h2⟩,⟨ms,h3,h4'⟩,hq,h6⟩:=h;subst h4;subst h5;have a1:(w.setCell ⟨bs,x,none⟩ v).ownsRow W0 9 1 (.slice (some ⟨bw,0,none⟩) d.next.length d.next.length) d.next.length cs:=Zac h1 (Zat w bs x _) (fun k hk=>by cases hk;exact Zaf (e':=9) h3 (by decide) bs rfl);exact((hq.grown (Zat w bs x v) (fun k hk=>by cases hk;exact Zaf (e':=3) h3 (by decide) bs rfl)).grown (Zat (w.setCell ⟨bs,x,none⟩ v) bw x u) (fun k hk=>by cases hk;exact Zaf (e':=3) a1 (by decide) bw rfl)).below (Below.refl _ _).drew
theorem FwW.new {d:DfaD} {W0 bw bs k:Nat} {bx:Array Value} {w w5:World} {s:Bs Int} {vq vq':Value} (h:FwW d W0 bw bs bx w s k vq) (hl:s.words.length=s.met.length) (hr:∀ x∈s.met,0≤x∧x<d.next.length) (hk:k≤s.met.length) {x:Nat} (hxn:x<d.next.length) (hx:(x:Int) ∉ s.met) (wd:List Nat)
  (hq:Qs W0 w5 3 vq' ((s.met.drop k).map (Value.int .i64)++[.int .i64 (x:Int)])) (hg0:((((w.setCell ⟨bs,x,none⟩ (.bool true)).setCell ⟨bw,x,none⟩ (.string (wdB wd))).drew).alloc (.cells #[.int .i64 (x:Int)] 3)).grownBy w5 vq.ownBlock) :
  FwW d W0 bw bs bx w5 ⟨s.met++[(x:Int)],s.words++[wd]⟩ k vq':=by
 obtain⟨_,_,_,_,hne,hn1,hn2⟩:=h.lt;obtain⟨⟨cs,h1,h2⟩,⟨ms,h3,h4⟩,h5,h6⟩:=h;have a1:(w.setCell ⟨bs,x,none⟩ (.bool true)).ownsRow W0 9 1 (.slice (some ⟨bw,0,none⟩) d.next.length d.next.length) d.next.length cs:=Zac h1 (Zat w bs x _) (fun k hk=>by cases hk;exact Zaf (e':=9) h3 (by decide) bs rfl);have a2:=(a1.stored x (.string (wdB wd))).1;have b1:=(h3.stored x (.bool true)).1;have b2:((w.setCell ⟨bs,x,none⟩ (.bool true)).setCell ⟨bw,x,none⟩ (.string (wdB wd))).ownsRow W0 4 1 (.slice (some ⟨bs,0,none⟩) d.next.length d.next.length) d.next.length _:=Zac b1 (Zat _ bw x _) (fun k hk=>by cases hk;exact Zaf (e':=4) a1 (by decide) bw rfl);have q2:=(h5.grown (Zat w bs x (.bool true)) (fun k hk=>by cases hk;exact Zaf (e':=3) h3 (by decide) bs rfl)).grown (Zat (w.setCell ⟨bs,x,none⟩ (.bool true)) bw x (.string (wdB wd))) (fun k hk=>by cases hk;exact Zaf (e':=3) a1 (by decide) bw rfl);have x2:Bx ((w.setCell ⟨bs,x,none⟩ (.bool true)).setCell ⟨bw,x,none⟩ (.string (wdB wd))) W0 bx 25:=(h6.set_ne _ _ hn2).set_ne _ _ hn1;have hg:=hg0;have hal:Below ((w.setCell ⟨bs,x,none⟩ (.bool true)).setCell ⟨bw,x,none⟩ (.string (wdB wd))).heap.size ((w.setCell ⟨bs,x,none⟩ (.bool true)).setCell ⟨bw,x,none⟩ (.string (wdB wd))) ((((w.setCell ⟨bs,x,none⟩ (.bool true)).setCell ⟨bw,x,none⟩ (.string (wdB wd))).drew).alloc (.cells #[.int .i64 (x:Int)] 3)):=(Below.refl _ _).drew.alloc (by simp) _;have q3:=q2.below hal
 refine⟨⟨_,Zac (Own.below (Zab a2) hal).1 hg (q3.apart (by decide)),?_⟩,⟨_,Zac (Own.below (Zab b2) hal).1 hg (q3.apart (by decide)),?_⟩,?_,(x2.below hal x2.lt).grown hg (q3.apart (by decide))⟩
 ·refine⟨by simpa using h2.1,fun j hj => ?_⟩;simp only[List.length_append,List.length_singleton] at hj;by_cases hjn:j<s.met.length
  ·have e1:(s.met++[(x:Int)]).getD j 0=s.met.getD j 0:=by simp[List.getElem?_append_left hjn]
   have e2:(s.words++[wd]).getD j []=s.words.getD j []:=by simp[List.getElem?_append_left (show j<s.words.length by omega)]
   have hm:=memD (d:=0) hjn;have hmr:=hr _ hm;have:x≠(s.met.getD j 0).toNat:=fun e=>hx (by rw[e,Int.toNat_of_nonneg hmr.1];exact hm)
   rw[e1,e2,List.getElem?_set_ne this];exact h2.2 j hjn
  obtain rfl:j=s.met.length:=by omega
  have e1:(s.met++[(x:Int)]).getD s.met.length 0=(x:Int):=by simp
  have e2:(s.words++[wd]).getD s.met.length []=wd:=by simp[← hl]
  rw[e1,e2];simp[h2.1,hxn]
 ·refine⟨by simpa using h4.1,fun y hy => ?_⟩;by_cases e:x=y
  ·subst e;simp[h4.1,hxn]
  rw[List.getElem?_set_ne e,h4.2 y hy];have e2:¬ (y:Int)=(x:Int):=fun h=>e (by omega)
  simp[e2]
 have:(s.met++[(x:Int)]).drop k=s.met.drop k++[(x:Int)]:=List.drop_append_of_le_length hk;simp only[this,List.map_append,List.map_cons,List.map_nil];exact hq
theorem Zef (d:DfaD) (v:Value) (w:World) (hd:fine d) (h:DfaR 0 w v d) :
  Calls Tryz.prog 127 #[v] w fun e w'=>e=ZaH (ZaJ (den d) (bat (dnx d) 0 d.next.length))∧Below w.heap.size w w':=by
 obtain⟨u1,u2,rfl,g1,g2⟩:=h;have Hfine:=qh hd;obtain⟨hn1,hn2,hne,hrows⟩:=hd;obtain⟨a1,c1,rfl,hc1,hm1,hr1⟩:=g1.formI;obtain⟨a2,c2,rfl,hc2,hm2,hr2⟩:=g2.form;obtain⟨s0,hsi,hs0,hs1,hs2⟩:=info_parts Tryz.infoStr;obtain⟨i0,hii,hi0,hi1,hi2⟩:=info_parts Tryz.infoInt;obtain⟨b0,hbi,hb0,hb1,hb2⟩:=info_parts Tryz.infoBool;have HA:∀ w1,(w.alloc (.cells #[.slice a1 d.next.length c1,.slice a2 d.ends.length c2] 25)).grownBy w1 none→w1.cell? ⟨w.heap.size,0,none⟩=some (.slice a1 d.next.length c1)∧w1.cell? ⟨w.heap.size,1,none⟩=some (.slice a2 d.ends.length c2):=by intro w1 hg;have hx:=(Bx.new w #[.slice a1 d.next.length c1,.slice a2 d.ends.length c2] 25).grown hg (fun k hk=>by cases hk);exact⟨hx.cell 0,hx.cell 1⟩
 replace hrows:=qh hrows;replace hr1:=qh hr1;have Hhr2:=qh hr2;clear hr2;have Hhsi:=qh hsi;clear hsi;have Hhs0:=qh hs0;clear hs0;have Hhs1:=qh hs1;clear hs1;have Hhs2:=qh hs2;clear hs2;replace hii:=qh hii;replace hi0:=qh hi0;have Hhi1:=qh hi1;clear hi1;have Hhi2:=qh hi2;clear hi2;have Hhbi:=qh hbi;clear hbi;replace hb0:=qh hb0;have Hhb1:=qh hb1;clear hb1;have Hhb2:=qh hb2;clear hb2;have Hhne:=qh hne;clear hne;replace HA:=qh HA;clear g1 g2
 go_enter Tryz.func127, Tryz.ntmps127
 go_wp2_with (first
  | (at_make;refine wpList_make_full _ rfl _ _ 102 rfl w.heap.size 9 s0 (.string { data:=#[] }) 1 Tryz.underlying102 Hhsi.out Hhs0.out Hhs1.out .i64 .i64 _ _ d.next.length rfl rfl rfl rfl (by rw[Hhs2.out];omega) (by unfold maxLen;omega) (by simp) ?_;intro w1 hown1 hgrow1;obtain⟨ce0,ce1⟩:=HA.out w1 hgrow1;have hs1':=hgrow1.size;have Hown1:=qh hown1;have Hgrow1:=qh hgrow1;clear hown1 hgrow1)
  | (at_make;refine wpList_make_full _ rfl _ _ 23 rfl w.heap.size 4 b0 (.bool false) 1 Tryz.underlying23 Hhbi.out hb0.out Hhb1.out .i64 .i64 _ _ d.next.length rfl rfl rfl rfl (by rw[Hhb2.out];omega) (by unfold maxLen;omega) (by simp only[World.size_alloc] at hs1';omega) ?_;intro w2 hown2 hgrow2;obtain⟨u0,hu0⟩:=Zcw hown2 0 (by omega);have hfr0:=hown2.frozenAt 0;have Hown2:=qh hown2;have Hgrow2:=qh hgrow2;clear hown2 hgrow2))
 have hz2:=Hgrow2.out.size;have x2:Bx w2 w.heap.size #[.slice a1 d.next.length c1,.slice a2 d.ends.length c2] 25:=((Bx.new w _ _).grown Hgrow1.out (fun k hk=>by cases hk)).grown Hgrow2.out (fun k hk=>by cases hk);have hbw:Below w.heap.size w w2:=(((Below.refl _ _).alloc (Nat.le_refl _) _).grown Hgrow1.out (by simp) (fun k hk=>by cases hk)).grown Hgrow2.out (by simp at hs1';omega) (fun k hk=>by cases hk);have Hhbw:=qh hbw;clear hbw;have Hx2:=qh x2;clear x2;have Hhs1':=qh hs1';clear hs1';clear ce0 ce1 u0 hu0 hfr0
 go_loopg [2,3,6] (d.next.length+1) (fun g r1 r2 vq wr=>∃ k:Nat,g=d.next.length+1-k∧k≤(bat (dnx d) 0 k).met.length∧(∀ j,j<k→den d ((bat (dnx d) 0 k).met.getD j 0)=false)∧Below w.heap.size w wr∧FwW d w.heap.size (w.heap.size+1) w1.heap.size #[.slice a1 d.next.length c1,.slice a2 d.ends.length c2] wr (bat (dnx d) 0 k) k vq)
 case atStart =>
  have hs12:w.heap.size+1≤w1.heap.size:=by have:=Hhs1'.out;simpa using this
  refine⟨0,rfl,by simp[bat],fun j hj=>absurd hj (by omega),(Hhbw.out.setCell (by simp;omega) _).alloc (by simp[World.setCell];omega) _,?_⟩
  have o1:w2.ownsRow w.heap.size 9 1 (.slice (some ⟨w.heap.size+1,0,none⟩) d.next.length d.next.length) d.next.length (List.replicate d.next.length (.string { data:=#[] })):=by
   have h:=Zac Hown1.out Hgrow2.out (fun k hk=>by cases hk);have e:(madeCells (Value.string { data:=#[] }).cells (d.next.length*1)).toList=List.replicate d.next.length (.string { data:=#[] }):=by rw[Nat.mul_one];exact toList_madeCells_one _ _
   rw[e] at h;simpa using h
  have o2:w2.ownsRow w.heap.size 4 1 (.slice (some ⟨w1.heap.size,0,none⟩) d.next.length d.next.length) d.next.length (List.replicate d.next.length (.bool false)):=by
   have h:=Hown2.out;have e:(madeCells (Value.bool false).cells (d.next.length*1)).toList=List.replicate d.next.length (.bool false):=by rw[Nat.mul_one];exact toList_madeCells_one _ _
   rwa [e] at h
  have hg:=Zat w2 w1.heap.size 0 (.bool true);have ap:∀ e,4 ≠ e→Zbo w2 (some w1.heap.size) e:=fun e he=>Zaf (v:=.slice (some ⟨w1.heap.size,0,none⟩) d.next.length d.next.length) o2 he
  have hal:=(Below.refl (w2.setCell ⟨w1.heap.size,0,none⟩ (.bool true)).heap.size (w2.setCell ⟨w1.heap.size,0,none⟩ (.bool true))).alloc (Nat.le_refl _) (.cells #[.int .i64 0] 3);have x3:Bx (w2.setCell ⟨w1.heap.size,0,none⟩ (.bool true)) w.heap.size #[.slice a1 d.next.length c1,.slice a2 d.ends.length c2] 25:=Hx2.out.set_ne _ _ (by simp;omega);refine⟨⟨_,(Own.below (Zab (Zac o1 hg (ap _ (by decide)))) hal).1,by simp,fun j hj => ?_⟩,⟨_,(Own.below (Zab (o2.stored 0 (.bool true)).1) hal).1,by simp,fun x hx => ?_⟩,?_,x3.below hal x3.lt⟩
  ·simp only[bat,List.length_singleton] at hj;obtain rfl:j=0:=by omega
   simp only[bat,List.getD_cons_zero,Int.toNat_zero,List.getElem?_replicate];rw[if_pos (by omega)];rfl
  ·by_cases h0:x=0
   ·subst h0;rw[List.getElem?_set_self (by simp;omega)];simp[bat]
   rw[List.getElem?_set_ne (by omega),List.getElem?_replicate,if_pos hx];simp[bat,h0]
  refine⟨w2.heap.size,0,1,#[.int .i64 0],by simp[bat],by omega,?_,by simp[bat],by unfold maxLen;omega,by simp,fun j hj => ?_⟩
  ·have:=Bx.new (w2.setCell ⟨w1.heap.size,0,none⟩ (.bool true)) #[.int .i64 0] 3;simpa [World.setCell,Bx] using this
  simp[bat] at hj;subst hj;simp[bat]
 case round =>
  obtain⟨k,rfl,hk,hno,hb,hf⟩:=hrel;obtain⟨S,hS⟩:=eI (bat (dnx d) 0 k);have hgood:=ZaD (nx:=dnx d) (a:=0) k;have hR:=Zi5 Hfine.out k;have hML:=ZmI Hfine.out k;rw[← hS] at hk hno hf hgood hR hML;obtain⟨g,off,cap,hv,hg0,hg1,hcp,hcm,hqc⟩:=hf.qu.form;obtain⟨L,hL⟩:=eI (S.met.length-k);rw[List.length_map,List.length_drop,← hL] at hv hcp hqc;subst hv;obtain⟨wo,hwo⟩:∃ wo:World,wo=wr:=⟨_,rfl⟩;subst hwo;have x0:=hf.bx.cell 0;have x1:=hf.bx.cell 1;simp only[List.getElem?_toArray,List.getElem?_cons_zero,List.getElem?_cons_succ] at x0 x1;have Hhf:=qh hf;clear hf;have Hhb:=qh hb;clear hb;have HhS:=qh hS;clear hS;have Hhno:=qh hno;clear hno;have Hhgood:=qh hgood;clear hgood;have HhR:=qh hR;clear hR;by_cases hlt:k<S.met.length
  ·have hL0:0<L:=by omega
   obtain⟨xr0,xr1⟩:=HhR.out _ (memD (d:=0) hlt);have hq0:=hqc 0 hL0;rw[List.getElem?_map,List.getElem?_drop,Nat.add_zero,Nat.add_zero,List.getElem?_eq_getElem hlt,Option.map_some,← Zba (d:=0) hlt] at hq0;obtain⟨x,hx⟩:=Int.eq_ofNat_of_zero_le xr0;rw[hx] at hq0 xr1;have hxn:x<d.next.length:=by omega
   have hxe:(x:Int)<d.ends.length:=by have:=Hhne.out;omega
   obtain⟨b2',o2,rfl,-,hbl2,hcs2⟩:=Hhr2.out (by omega);obtain⟨b1',o1,rfl,-,hbl1,hcs1⟩:=hr1.out (by omega);have he0:=(bcell Hhb.out b2' (o2+x) hbl2).trans (hcs2 x (by omega));obtain⟨ar,cr,hrc,hrl,hrm,hri⟩:=hcs1 x hxn;have hr0:=(bcell Hhb.out b1' (o1+x) hbl1).trans hrc;obtain⟨hr3,hrt⟩:=hrows.out x hxn;rw[hr3] at hr0 hrl hri;have hw0:=Hhf.out.word hlt hx hxn;obtain⟨lf1,lf2,lf3,lf4,lf5,lf6,lf7⟩:=Hhf.out.lt;obtain⟨wd,hwd⟩:=eI (S.words.getD k []);rw[← hwd] at hw0;cases hen:d.ends.getD x false
   all_goals
    rw[hen] at he0;have Hhen:=qh hen;clear hen;have Hhx:=qh hx;clear hx;have HhL:=qh hL;clear hL;have Hhwd:=qh hwd;clear hwd;clear hcs2 hcs1 hqc hrc;have hL1:0<(L:Int):=by omega
   ·obtain⟨_,_,he1,-,-,hf1⟩:=hri.form;rw[hr3] at he1 hf1;simp only[Value.slice.injEq,true_and] at he1;obtain⟨rfl,rfl⟩:=he1;obtain⟨z1,t1,rfl,-,hz1',hg1'⟩:=hf1 (by omega);have Hhrt:=qh hrt;clear hrt;have Hhr3:=qh hr3;clear hr3;have Hhg1':=qh hg1';clear hg1';clear hri;go_wp2
    go_loopw [6,44] (fun vq i wi=>∃ n:Nat,n≤3∧i = .int .i64 n∧Below w.heap.size w wi∧FwW d w.heap.size (w.heap.size+1) w1.heap.size #[.slice (some ⟨b1',o1,none⟩) d.next.length c1,.slice (some ⟨b2',o2,none⟩) d.ends.length c2] wi (bpart (dnx d) 0 k n) k vq) (fun _ i _=>3-(intOf i).toNat)
    case atStart=>exact⟨0,by omega,rfl,Hhb.out,by rw[Zam,← HhS.out];exact Hhf.out⟩
    case round =>
     obtain⟨n,hn,rfl,hbi,hfi⟩:=hrel;have hkS:k<(bat (dnx d) 0 k).met.length:=by rw[← HhS.out];exact hlt
     have hxS:(bat (dnx d) 0 k).met.getD k 0=(x:Int):=by rw[← HhS.out];exact Hhx.out
     by_cases hn3:n<3
     ·obtain⟨zr0,zr1⟩:=Hhrt.out n hn3;obtain⟨z,hz⟩:=Int.eq_ofNat_of_zero_le zr0;have hzc:=(bcell hbi z1 (t1+n) hz1').trans (Hhg1'.out n (by omega));rw[hz] at hzc zr1;have hzn:z<d.next.length:=by omega
      have hnx:dnx d ((bat (dnx d) 0 k).met.getD k 0) n=(z:Int):=by rw[hxS];exact hz
      have hold:=Zbf (nx:=dnx d) (a:=0) (k:=k) (n:=n);have hnew:=Za4 (nx:=dnx d) (a:=0) (k:=k) (n:=n);rw[hnx] at hold hnew;rw[← HhS.out,← Hhwd.out] at hnew;have hTg:=ZbD hkS hn;have hTr:=Zgu Hfine.out hkS hn;have hTl:=ZjJ Hfine.out hkS hn;have hle:=ZaY (nx:=dnx d) (a:=0) (k:=k) (Nat.zero_le n);rw[Zam,← HhS.out] at hle;obtain⟨T,hT⟩:=eI (bpart (dnx d) 0 k n);rw[← hT] at hfi hold hnew hTg hTr hTl hle;have hkT:k<T.met.length:=Nat.lt_of_lt_of_le hlt hle.1.length_le;have hxT:T.met.getD k 0=(x:Int):=(Zao hle.1 hlt _).trans Hhx.out;have hwT:T.words.getD k []=wd:=(Zao hle.2 (by rw[Hhgood.out.2.1];exact hlt) _).trans Hhwd.out.symm;have hmk:=hfi.mark hzn;obtain⟨⟨cw,hcw⟩,fw,fs⟩:=hfi.cells hzn;have hwk:=hfi.word hkT hxT hxn;rw[hwT] at hwk;have hzs:(z:Int)<d.next.length:=by omega
      have hn4:(n:Int)<3:=by omega
      have hxs:(x:Int)<d.next.length:=by omega
      obtain⟨_,_,lw,ls,-,-,-⟩:=hfi.lt;have HhT:=qh hT;clear hT;have Hhz:=qh hz;clear hz;have Hhnx:=qh hnx;clear hnx;have Hhold:=qh hold;clear hold;have Hhnew:=qh hnew;clear hnew;have HhTg:=qh hTg;clear hTg;have HhTr:=qh hTr;clear hTr;have Hhle:=qh hle;clear hle;have HhxT:=qh hxT;clear hxT;have HhwT:=qh hwT;clear hwT;have Hhbi:=qh hbi;clear hbi;have Hhfi:=qh hfi;clear hfi;have HhxS:=qh hxS;clear hxS;clear hq0 he0 hr0 hw0 x0 x1;by_cases hmem:(z:Int)∈T.met
      ·rw[decide_eq_true hmem] at hmk;have Hhmem:=qh hmem;clear hmem;go_wp2;go_roundw
       case rel=>exact⟨n+1,by omega,by go_num,Hhbi.out,by rw[Hhold.out Hhmem.out];exact Hhfi.out⟩
       case measure=>simp[intOf];omega
      rw[decide_eq_false hmem] at hmk;have hzx:z≠x:=by intro e;exact hmem (by rw[e,← HhxT.out];exact memD hkT)
      have Hhmem:=qh hmem;clear hmem;have hbne:w.heap.size+1≠w1.heap.size:=Hhfi.out.lt.2.2.2.2.1;go_wp2;obtain⟨w4,hw4⟩:=eI (wr.setCell ⟨w1.heap.size,z,none⟩ (.bool true));have k4:w4.cell? ⟨w.heap.size+1,x,none⟩=some (.string (wdB wd)):=by rw[hw4];exact(World.cell?_of_block (a:=⟨w.heap.size+1,x,none⟩) (Below.heap_setCell wr ⟨w1.heap.size,z,none⟩ _ _ hbne)).trans hwk
      have c4:w4.cell? ⟨w.heap.size+1,z,none⟩=some cw:=by rw[hw4];exact(World.cell?_of_block (a:=⟨w.heap.size+1,z,none⟩) (Below.heap_setCell wr ⟨w1.heap.size,z,none⟩ _ _ hbne)).trans hcw
      have f4:w4.frozen? ⟨w.heap.size+1,z,none⟩=false:=by rw[hw4];exact(World.frozen?_of_block (a:=⟨w.heap.size+1,z,none⟩) (Below.heap_setCell wr ⟨w1.heap.size,z,none⟩ _ _ hbne)).trans fw
      rw[← hw4];have Hhw4:=qh hw4;clear hw4;clear hwk hcw fw fs hmk;have hsz1:(wdB wd).size≤100000:=by have:=Zer (nx:=dnx d) (a:=0) k wd (by rw[Hhwd.out,HhS.out];exact memD (by rw[(ZaD k).2.1];exact hkS));rw[Zdw];omega
      have hsz2:(wdB [n]).size≤100:=by rw[Zdw];simp
      have k5:(w4.setCell ⟨w.heap.size+1,z,none⟩ (.string (wdB wd++wdB [n]))).drew.cell? ⟨w.heap.size+1,x,none⟩=some (.string (wdB wd)) :=
       (World.cell?_setCell_other w4 _ _ _ (by simp)).trans k4
      have hadd:∀ w':World,(Op.stringOp .add (wdB wd) (wdB [n])).run Tryz.prog w' = .ok (.string (wdB wd++wdB [n])) w':=fun w'=>run_string_add_sum w' _ _ (by omega)
      have hnlt:¬ 9223372036854775807<(wdB wd).size+(wdB [n]).size:=by omega
      go_region_held3 (fun w'=>w'.cell? ⟨w.heap.size+1,x,none⟩=some (.string (wdB wd)))
       (first|exact k4|exact k5|go_keep)
       (first|(go_at_call 107;(with_reducible refine(ZdK n hn3 _).mono ?_);rintro e w' ⟨rfl,rfl⟩))
      obtain⟨w5,hw5⟩:=eI ((w4.setCell ⟨w.heap.size+1,z,none⟩ (.string (wdB wd++wdB [n]))).drew);rw[← hw5];have h55:w5.heap.size=wr.heap.size:=by rw[hw5,Hhw4.out];simp[World.setCell]
      have hq5:Qs w.heap.size (w5.alloc (.cells #[.int .i64 (z:Int)] 3)) 3 u6 ((T.met.drop k).map (Value.int .i64)):=by exact(Hhfi.out.q2 z hbne hw5 Hhw4.out).below ((Below.refl _ _).alloc (Nat.le_refl _) _)
      have hb5:Below w.heap.size w w5:=by rw[hw5,Hhw4.out];exact((Hhbi.out.setCell (by simp;omega) _).setCell (by simp) _).drew
      have Hhq5:=qh hq5;clear hq5;have Hhw5:=qh hw5;clear hw5;have Hhb5:=qh hb5;clear hb5;have Hh55:=qh h55;clear h55;clear k4 k5 c4 f4;go_wp2_with (at_builtin;refine Ze9 rfl _ _ 67 rfl w.heap.size 3 i0 (.int .i64 0) 8 Tryz.underlying67 hii.out hi0.out Hhi1.out Hhi2.out rfl _ _ rfl Hhq5.out ⟨w5.heap.size,0,none⟩ 1 (.int .i64 (z:Int)) rfl (ZdD _ _ _ 0) rfl rfl (by simp;omega) (by omega) (by simp;have:=Hhb5.out.size;omega) ?_;intro v6 w6 hq6 hg6;have Hq6:=qh hq6;have Hg6:=qh (show(w5.alloc (.cells #[.int .i64 (z:Int)] 3)).grownBy w6 u6.ownBlock from hg6);clear hq6 hg6);go_roundw
      case rel =>have hb6:Below w.heap.size w w6:=(Hhb5.out.alloc Hhb5.out.size _).grown Hg6.out (by simp only[World.size_alloc];have:=Hhb5.out.size;omega) (fun j hj=>Hhq5.out.lo hj);refine⟨n+1,by omega,by go_num,hb6,?_⟩;rw[Hhnew.out Hhmem.out];have hg6:=Hg6.out;rw[Hhw5.out,Hhw4.out,← Zhk] at hg6;exact Hhfi.out.new HhTg.out.2.1 HhTr.out (by omega) hzn Hhmem.out _ Hq6.out hg6
      case measure=>simp[intOf];omega
     obtain rfl:n=3:=by omega
     clear hq0 he0 hr0 hw0 x0 x1;have hbs:=ZaG hkS;have hle:=ZaY (nx:=dnx d) (a:=0) (k:=k) (Nat.zero_le 3);rw[Zam,← HhS.out] at hle;obtain⟨T,hT⟩:=eI (bpart (dnx d) 0 k 3);rw[← hT] at hfi hbs hle;have hkT:k<T.met.length:=Nat.lt_of_lt_of_le hlt hle.1.length_le
     obtain⟨y,ys,hys,hyt⟩:∃ y ys,(T.met.drop k).map (Value.int .i64)=y::ys∧ys=(T.met.drop (k+1)).map (Value.int .i64) :=
      ⟨_,_,by rw[List.drop_eq_getElem_cons hkT,List.map_cons],rfl⟩
     have hqu:=hfi.qu;rw[hys] at hqu;obtain⟨g',off',cap',hv',hg0',hg1'',hcp',hcm',-⟩:=hqu.form;rw[List.length_cons] at hv' hcp';subst hv'
     have hnoS:∀ j,j<k+1→den d (T.met.getD j 0)=false:=fun j hj=>by
      rw[Zao hle.1 (by omega)];by_cases hjk:j<k
      ·exact Hhno.out j hjk
      obtain rfl:j=k:=by omega
      rw[Hhx.out];unfold den;rw[Int.toNat_natCast];exact Hhen.out
     obtain⟨L',hL'⟩:=eI (ys.length);rw[← hL'] at hqu hcp';rw[← hL'];have hLL:(1:Int)≤(L':Int)+1:=by omega
     have HhT:=qh hT;clear hT;have Hhbs:=qh hbs;clear hbs;have Hhle:=qh hle;clear hle;have Hhqu:=qh hqu;clear hqu;have Hhys:=qh hys;clear hys;have Hhyt:=qh hyt;clear hyt;have HhnoS:=qh hnoS;clear hnoS;have Hhbi:=qh hbi;clear hbi;have Hhfi:=qh hfi;clear hfi;have HhL':=qh hL';clear hL';clear hn3;by_cases hc1':cap'=1
     ·subst hc1';go_wp2
      go_roundg (d.next.length+1-(k+1))
      case measure=>omega
      case rel =>obtain⟨e0,hq0⟩:=Hhqu.out.tail1;refine⟨k+1,rfl,by rw[Hhbs.out];omega,by rw[Hhbs.out];exact HhnoS.out,Hhbi.out,?_⟩;rw[Hhbs.out];exact⟨Hhfi.out.wo,Hhfi.out.se,by rw[← Hhyt.out,e0];exact hq0,Hhfi.out.bx⟩
     have hc2':1<cap':=by omega
     go_wp2
     go_roundg (d.next.length+1-(k+1))
     case measure=>omega
     case rel =>have hq0:=Hhqu.out.tail;rw[← HhL'.out] at hq0;refine⟨k+1,rfl,by rw[Hhbs.out];omega,by rw[Hhbs.out];exact HhnoS.out,Hhbi.out,?_⟩;rw[Hhbs.out];exact⟨Hhfi.out.wo,Hhfi.out.se,by rw[← Hhyt.out];exact hq0,Hhfi.out.bx⟩
   go_wp2
   go_ret2
   exact⟨by rw[ZdV (s:=S) (d:=0) (by rw[HhS.out];exact Zdc (by omega)) Hhgood.out.2.1 (ZaD _).2.1 hlt Hhno.out (by rw[Hhx.out];unfold den;rw[Int.toNat_natCast];exact Hhen.out),← Hhwd.out];rfl,Hhb.out⟩
  obtain rfl:L=0:=by omega
  go_wp2
  go_ret2
  have hkS:k=S.met.length:=by omega
  exact⟨by rw[Zbb (k:=k) (by rw[← HhS.out];omega) (by omega),← HhS.out,Zc6 (d:=0) (by rw[← hkS];exact Hhno.out)];rfl,Hhb.out⟩
end Go.Proofs.YtfgpkadhegdffaaGreat
namespace Go.Proofs.YtfgpkadhegdffaaGreat
open Go.RowKit Go.Maps
def hitK (K:Nat) (a b:DfaD):Option (List Nat):=ZaJ (ZaS (fun x y=>x != y) a b) (bat (Zal a b) (0,0) K)
def ZiE:Nat:=1600
def hitP (a b:DfaD):Option (List Nat):=hitK ZiE a b
def allP (n m:Nat):List (Int × Int):=(List.range n).flatMap fun (i:Nat)=>(List.range m).map fun (j:Nat)=>((i:Int),(j:Int))
theorem Zih (m:Nat):∀ l:List Nat,(l.map fun _=>m).sum=l.length*m
 | []=>by simp
 | _::l=>by simp only[List.map_cons,List.sum_cons,Zih m l,List.length_cons,Nat.succ_mul];omega
theorem ZnG (n m:Nat):(allP n m).length=n*m:=by unfold allP;rw[List.length_flatMap];simp only[List.length_map,List.length_range];rw[Zih,List.length_range]
theorem Zfx {a b:DfaD} (hda:Zae a.next a.ends=true) (hdb:Zae b.next b.ends=true) (k:Nat):(metP a b k).length≤1600:=by
 have h:=ZdA (m:=allP a.next.length b.next.length) (ZaD (nx:=Zal a b) (a:=(0,0)) k).1 fun x hx=>by obtain⟨i,j,rfl,hi,hj⟩:=Za2 (Zbr (Q:=fun x=>Zbp a b x=true) (ZbQ hda hdb) (fun x c hc hx=>ZbR hda hdb hc hx) k x hx);unfold allP;rw[List.mem_flatMap];exact⟨i,List.mem_range.2 hi,List.mem_map.2 ⟨j,List.mem_range.2 hj,rfl⟩⟩
 rw[ZnG] at h;have h1:=Zah hda;have h2:=Zah hdb;have:=Nat.mul_le_mul h1.2.1 h2.2.1;unfold metP;omega
theorem ZgJ (K:Nat) (hK:K=1600) (a b:DfaD) (v1 v2:Value) (w:World) (hda:Zae a.next a.ends=true) (hdb:Zae b.next b.ends=true) (h1:DfaR 0 w v1 a) (h2:DfaR 0 w v2 b) :
  Calls Tryz.prog 88 #[v1,v2,.func (.func 89) #[] #[]] w fun e w'=>e=ZaH (hitK K a b)∧Below w.heap.size w w':=by
 obtain⟨u1,u2,rfl,g1,g2⟩:=h1;obtain⟨u3,u4,rfl,g3,g4⟩:=h2;have hb2:Below w.heap.size w ((w.alloc (.cells #[u1,u2] 25)).alloc (.cells #[u3,u4] 25)):=((Below.refl _ _).alloc (Nat.le_refl _) _).alloc (by simp) _;have H1:Hid (DfaR 0 ((w.alloc (.cells #[u1,u2] 25)).alloc (.cells #[u3,u4] 25)) (.agg #[u1,u2]) a):=qh ⟨_,_,rfl,g1.below hb2,g2.below hb2⟩;have H2:Hid (DfaR 0 ((w.alloc (.cells #[u1,u2] 25)).alloc (.cells #[u3,u4] 25)) (.agg #[u3,u4]) b):=qh ⟨_,_,rfl,g3.below hb2,g4.below hb2⟩;have hm:=Zfx hda hdb K;have hpr:=fun w'=>Ziu a b K (.agg #[u1,u2]) (.agg #[u3,u4]) w' hda hdb (by omega) (by omega)
 rw[show((K:Nat):Int)=1600 by omega] at hpr;have hm2:(metP a b K).length≤K:=by omega
 have hK2:K≤100000:=by omega
 replace hpr:=qh hpr;replace hK:=qh hK;have Hhda:=qh hda;clear hda;have Hhdb:=qh hdb;clear hdb;have Hhb2:=qh hb2;clear hb2;clear g1 g2 g3 g4
 go_enter Tryz.func88, Tryz.ntmps88
 go_wp2_with fail;refine(hpr.out _ H1.out H2.out).mono ?_;rintro e w2 ⟨hr,hbw⟩;unfold RExp at hr;rw[if_pos hm2] at hr;obtain⟨an,cn,ae,ce,am,cm,rfl,hd,-⟩:=hr;obtain⟨F,hF⟩:=eI ((bat (Zal a b) (0,0) K).met);unfold metP at hm hm2;rw[← hF] at hd hm hm2;rw[← hF];have hR:=qh (hd.r.mono (Nat.zero_le _));have hbb:=Hhb2.out.trans (hbw.mono (by simp;omega));replace hF:=qh hF;have Hhbb:=qh hbb;clear hbb;have Hhm2:=qh hm2;clear hm2;clear hd hbw hm;go_wp2_with fail;refine(Zef (Zan (Zal a b) (ZaS (fun x y=>x != y) a b) F) _ _ (by rw[hF.out];exact ZdB (by rw[← hF.out];exact Hhm2.out) hK2) (hR.out.below ((Below.refl _ _).alloc (Nat.le_refl _) _))).mono ?_;rintro e w3 ⟨he,hb3⟩;have hw:ZaH (ZaJ (den (Zan (Zal a b) (ZaS (fun x y=>x != y) a b) F)) (bat (dnx (Zan (Zal a b) (ZaS (fun x y=>x != y) a b) F)) 0 (Zan (Zal a b) (ZaS (fun x y=>x != y) a b) F).next.length))=ZaH (hitK K a b):=by unfold hitK;rw[hF.out,Ze6 (by rw[← hF.out];exact Hhm2.out)]
 rw[hw] at he;have hbe:=(Hhbb.out.alloc Hhbb.out.size _).trans (hb3.mono (by simp;have:=Hhbb.out.size;omega));have Hhw:=qh hw;clear hw;have Hhbe:=qh hbe;clear hbe;clear hb3;cases hh:hitK K a b with
 | none =>
  rw[hh] at he;unfold ZaH at he;simp only at he;subst he;have Hhh:=qh hh;clear hh;go_wp2
  go_ret2
  exact⟨by rw[Hhh.out];rfl,Hhbe.out⟩
 | some l =>
  rw[hh] at he;unfold ZaH at he;simp only at he;subst he;have Hhh:=qh hh;clear hh;go_wp2
  go_ret2
  exact⟨by rw[Hhh.out];rfl,Hhbe.out⟩
theorem ZgL (a b:DfaD) (v1 v2:Value) (w:World) (hda:Zae a.next a.ends=true) (hdb:Zae b.next b.ends=true) (h1:DfaR 0 w v1 a) (h2:DfaR 0 w v2 b) :
  Calls Tryz.prog 88 #[v1,v2,.func (.func 89) #[] #[]] w fun e w'=>e=ZaH (hitP a b)∧Below w.heap.size w w':=ZgJ ZiE rfl a b v1 v2 w hda hdb h1 h2
theorem ZaU (o:Option (List Nat)):∃ s:ByteArray,ZaH o = .returned (.tuple #[.string s,.bool o.isSome]):=by
 cases o with
 | none=>exact⟨_,rfl⟩
 | some l=>exact⟨_,rfl⟩
theorem Zk1 (a b:DfaD) (v1 v2:Value) (w:World) (hda:Zae a.next a.ends=true) (hdb:Zae b.next b.ends=true) (h1:DfaR 0 w v1 a) (h2:DfaR 0 w v2 b) :
  Calls Tryz.prog 48 #[v1,v2] w fun e w'=>e=ZaH (hitP a b)∧Below w.heap.size w w':=by
 obtain⟨u1,u2,rfl,g1,g2⟩:=h1;obtain⟨u3,u4,rfl,g3,g4⟩:=h2;have hb2:Below w.heap.size w ((w.alloc (.cells #[u1,u2] 25)).alloc (.cells #[u3,u4] 25)):=((Below.refl _ _).alloc (Nat.le_refl _) _).alloc (by simp) _;have H1:Hid (DfaR 0 ((w.alloc (.cells #[u1,u2] 25)).alloc (.cells #[u3,u4] 25)) (.agg #[u1,u2]) a):=qh ⟨_,_,rfl,g1.below hb2,g2.below hb2⟩;have H2:Hid (DfaR 0 ((w.alloc (.cells #[u1,u2] 25)).alloc (.cells #[u3,u4] 25)) (.agg #[u3,u4]) b):=qh ⟨_,_,rfl,g3.below hb2,g4.below hb2⟩;obtain⟨s,hs⟩:=ZaU (hitP a b);replace hda:=qh hda;have Hhdb:=qh hdb;clear hdb;replace hb2:=qh hb2;have Hhs:=qh hs;clear hs;clear g1 g2 g3 g4
 go_enter Tryz.func48, Tryz.ntmps48
 go_wp2_with fail;refine(ZgL a b _ _ _ hda.out Hhdb.out H1.out H2.out).mono ?_;rintro e w2 ⟨he,hbw⟩;rw[Hhs.out] at he;subst he;have hbb:=hb2.out.trans (hbw.mono (by simp;omega));have Hhbb:=qh hbb;clear hbb;clear hbw;go_wp2
 go_ret2
 exact⟨by rw[Hhs.out];rfl,Hhbb.out⟩
end Go.Proofs.YtfgpkadhegdffaaGreat
