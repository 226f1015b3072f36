/-
  The walk over the program's small, for automata of up to N <= 128 states.
  Conditions: the automaton's numbers are in bounds; the arguments read as such data.
-/
import Derived.Test.YtncekbbhgipdlaaGreatPc06Wdet
set_option maxHeartbeats 8000000
set_option maxRecDepth 100000
namespace Go.Proofs.YtncekbbhgipdlaaGreat
open Go.RowKit
structure DetOkW (N:Nat) (n:NfaD):Prop where
 mv:mvIn N n.moves
 ml:n.moves.length≤1000
 f:inN N n.firsts
 fl:n.firsts.length≤1000
 e:inN N n.ends
 el:n.ends.length≤1000
def ZgA (N K:Nat) (n:NfaD):Option DfaD:=if (metW N n K).length≤K then some (Zar (nxW N n) (enW n) (metW N n K)) else none
theorem ZjI {N K:Nat} (B:K=40) {n:NfaD} {d:DfaD} (h:ZgA N K n=some d):Zac d.next d.ends=true:=by
 unfold ZgA at h
 split at h
 ·rename_i hle;simp only[w_9] at h;subst h;obtain⟨h1,h2,h3,h4⟩:=Zeu (en:=enW n) (nx:=nxW N n) (a:=pW (fstW N n)) hle (by omega);exact ZfN ⟨h1,h2,h3,h4⟩ (by rw[ZaW];omega)
 cases h
theorem Znp {N K:Nat} {n:NfaD} (h:(metW N n K).length≤K):ZgA N K n=some (Zar (nxW N n) (enW n) (metW N n K)):=if_pos h
theorem Znq {N K:Nat} {n:NfaD} (h:¬ (metW N n K).length≤K):ZgA N K n=none:=if_neg h
theorem ZeF (N:Nat) (hN:N≤128) (n:NfaD) (K:Nat) (hK:K=40) (D:DfaD) (fb:Bool) (I:((ZgA N K n).map minD).getD zeD=D) (C:((ZgA N K n).map minD).isSome=fb) (v1 v2 v3:Value) (w:World) (H:DetOkW N n) (h1:Moves 0 w v1 n.moves) (h2:Ints 0 w v2 n.firsts) (h3:Ints 0 w v3 n.ends) :
  Calls Tryz.prog 61 #[.agg #[.int .i64 n.states,v1,v2,v3]] w fun e w'=>RTt D fb w.heap.size e w'∧Below w.heap.size w w':=by
 have F:=((St.start w).alloc _ rfl #[.int .i64 n.states,v1,v2,v3] 81).alloc (w.heap.size+1) (by simp) #[.slice none 0 0,.slice none 0 0] 44;have Q:=fun (W:World) (hb:Below w.heap.size w W)=>Zgz N hN n K hK v1 v2 v3 W H.mv (by have:=H.ml;omega) H.f (by have:=H.fl;omega) H.e (h1.below hb) (h2.below hb) (h3.below hb)
 have d:=qh Q;replace F:=qh F;have a:=qh I;clear I;have S:=qh C;clear C;clear Q h1 h2 h3 H
 go_enter Tryz.func61, Tryz.ntmps61
 have e0:=F.o.cell (v:=.int .i64 n.states) 0 0 rfl rfl;have e1:=F.o.cell (v:=v1) 0 1 rfl rfl;have e2:=F.o.cell (v:=v2) 0 2 rfl rfl;have e3:=F.o.cell (v:=v3) 0 3 rfl rfl;go_wp2_with fail;refine(d.o _ F.o.bel).mono ?_;rintro e w3 ⟨hr,P⟩;unfold Zrn at hr;by_cases hle:(metW N n K).length≤K
 ·rw[if_pos hle] at hr;obtain⟨an,cn,ae,ce,rfl,B⟩:=hr;have J:=Znp hle;obtain⟨X,i⟩:=eI (Zar (nxW N n) (enW n) (metW N n K));have T:X.next.length=(metW N n K).length:=by rw[i];exact ZaW _ _ _
  have U:X.ends.length=(metW N n K).length:=by rw[i];simp[Zar]
  rw[← i] at B J;have I:=a.o;have C:=S.o;rw[J] at I C;have I:minD X=D:=I;have C:true=fb:=C;subst I;subst C;obtain⟨L,j⟩:=eI ((metW N n K).length);rw[← j] at B T U hle;rw[← j];have x:(L:Int)≤40:=by omega
  have V:Zac X.next X.ends=true:=ZjI hK J;have E:=(F.o.call P).alloc _ rfl #[.slice an L cn,.slice ae L ce] 44;have b:DfaR 0 (w3.alloc (.cells #[.slice an L cn,.slice ae L ce] 44)) (.agg #[.slice an L cn,.slice ae L ce]) X:=(B.r.mono (Nat.zero_le _)).below ((Below.refl _ _).alloc (Nat.le_refl _) _);have d0:=E.cell (v:=.slice an L cn) 2 0 rfl rfl;have d1:=E.cell (v:=.slice ae L ce) 2 1 rfl rfl;have O:=qh E;have p:=qh b;have y:=qh T;clear T;have aA:=qh U;clear U;have z:=qh J;clear J;have Z:=qh V;clear V;have aB:=qh i;clear i;replace j:=qh j;clear B P hle E b e0 e1 e2 e3;go_wp2_with fail;refine(Zck X _ _ Z.o p.o).mono ?_;rintro e w5 ⟨a1,c1,a2,c2,rfl,B,c⟩;obtain⟨M,k⟩:=eI (minD X);rw[← k] at B;rw[← k];have G:=O.o.call c;have f0:=G.fr 1 0 rfl;have f1:=G.fr 1 1 rfl;have k0:=G.cell (v:=.slice none 0 0) 1 0 rfl rfl;have k1:=G.cell (v:=.slice none 0 0) 1 1 rfl rfl;have Y:=DMem.of B O.o.size;have g:=G.box 1 rfl;have q:=qh G;have l:=qh Y;have R:=qh g;clear g;have m:=qh k;clear k;clear G B c Y d0 d1;go_wp2;have hq:=(q.o.set 1 rfl 0 (.slice a1 M.next.length c1)).set 1 rfl 1 (.slice a2 M.ends.length c2);have s:=hq.cell (v:=.slice a1 M.next.length c1) 1 0 rfl rfl;have u:=hq.cell (v:=.slice a2 M.ends.length c2) 1 1 rfl rfl
  have hm:=(l.o.set R.o 0 (.slice a1 M.next.length c1)).set (R.o.set 0 _) 1 (.slice a2 M.ends.length c2);refine bodyPost_ret (v:=.tuple #[.agg #[.slice a1 M.next.length c1,.slice a2 M.ends.length c2],.bool true]) (by simp[results,Tryz.results61,go_sem,s,u]) rfl ⟨?_,hq.bel⟩;rw[← m.o];exact⟨a1,c1,a2,c2,rfl,_,_,rfl,hm.1,hm.2⟩
 rw[if_neg hle] at hr;subst hr;have I:=a.o;have C:=S.o;rw[Znq hle] at I C;have I:zeD=D:=I;have C:false=fb:=C;subst I;subst C;have E:=(F.o.call P).alloc _ rfl #[.slice none 0 0,.slice none 0 0] 44;have f0:=E.fr 1 0 rfl;have f1:=E.fr 1 1 rfl;have k0:=E.cell (v:=.slice none 0 0) 1 0 rfl rfl;have k1:=E.cell (v:=.slice none 0 0) 1 1 rfl rfl;have O:=qh E;clear P hle E e0 e1 e2 e3;go_wp2;have hq:=(O.o.set 1 rfl 0 (.slice none 0 0)).set 1 rfl 1 (.slice none 0 0);have s:=hq.cell (v:=.slice none 0 0) 1 0 rfl rfl;have u:=hq.cell (v:=.slice none 0 0) 1 1 rfl rfl;refine bodyPost_ret (v:=.tuple #[.agg #[.slice none 0 0,.slice none 0 0],.bool false]) (by simp[results,Tryz.results61,go_sem,s,u]) rfl ⟨?_,hq.bel⟩;exact⟨none,0,none,0,rfl,ZiT _ _ _ _ _⟩
def Qs (lo:Nat) (w:World) (e:TypeId) (v:Value) (xs:List Value):Prop :=
 ∃ g off cap cur,v = .slice (some ⟨g,off,none⟩) xs.length cap∧lo≤g∧w.heap[g]? = some (.cells cur e (0,0))∧xs.length≤cap∧cap≤maxLen∧off+cap≤cur.size∧∀ j,j<xs.length→cur[off+j]? = xs[j]?
theorem Qs.obj {lo:Nat} {w:World} {e:TypeId} {v:Value} {xs:List Value} (h:Qs lo w e v xs) {k:Nat} (hk:v.ownBlock=some k):∃ cur,w.heap[k]? = some (.cells cur e (0,0)):=by
 obtain⟨g,off,cap,cur,rfl,_,B,_⟩:=h;have:g=k:=by simpa [Value.ownBlock] using hk
 subst this;exact⟨cur,B⟩
theorem Qs.apart {lo:Nat} {w:World} {e e':TypeId} {v:Value} {xs:List Value} (h:Qs lo w e v xs) (B:e≠e'):ZbF w v.ownBlock e':=fun k hk cur fr hh=>by obtain⟨c,hc⟩:=h.obj hk;rw[hc] at hh;simp only[w_9,Obj.cells.injEq] at hh;exact B hh.2.1
theorem Qs.kept {lo:Nat} {w w':World} {e:TypeId} {v:Value} {xs:List Value} (h:Qs lo w e v xs) (hk:∀ k,v.ownBlock=some k→w'.heap[k]? = w.heap[k]?):Qs lo w' e v xs:=by obtain⟨g,off,cap,cur,rfl,h1,B,h2⟩:=h;exact⟨g,off,cap,cur,rfl,h1,(hk g rfl).trans B,h2⟩
theorem Qs.grown {lo:Nat} {w w':World} {e:TypeId} {v:Value} {xs:List Value} {row:Option Nat} (h:Qs lo w e v xs) (B:w.grownBy w' row) (ha:ZbF w row e):Qs lo w' e v xs :=
 h.kept fun k hk=>by obtain⟨cur,hc⟩:=h.obj hk;exact B.block k (Array.getElem?_eq_some_iff.1 hc).1 fun hr=>ha k hr.symm _ _ hc
theorem Qs.below {lo:Nat} {w w':World} {e:TypeId} {v:Value} {xs:List Value} (h:Qs lo w e v xs) (hb:Below w.heap.size w w'):Qs lo w' e v xs :=
 h.kept fun k hk=>by obtain⟨cur,hc⟩:=h.obj hk;exact hb.block k (Array.getElem?_eq_some_iff.1 hc).1
theorem Qs.form {lo:Nat} {w:World} {e:TypeId} {v:Value} {xs:List Value} (h:Qs lo w e v xs):∃ g off cap,v = .slice (some ⟨g,off,none⟩) xs.length cap∧lo≤g∧g<w.heap.size∧xs.length≤cap∧cap≤9223372036854775807∧∀ j,j<xs.length→w.cell? ⟨g,off+j,none⟩=xs[j]?:=by obtain⟨g,off,cap,cur,rfl,h1,B,h2,h3,h4,h5⟩:=h;exact⟨g,off,cap,rfl,h1,(Array.getElem?_eq_some_iff.1 B).1,h2,h3,fun j hj=>(cell_of_row w g _ cur e (0,0) B).trans (h5 j hj)⟩
theorem Qs.lo {lo:Nat} {w:World} {e:TypeId} {v:Value} {xs:List Value} (h:Qs lo w e v xs) {k:Nat} (hk:v.ownBlock=some k):lo≤k:=by
 obtain⟨g,off,cap,cur,rfl,h1,_⟩:=h;have:g=k:=by simpa [Value.ownBlock] using hk
 omega
theorem Qs.tail {lo g off n cap:Nat} {w:World} {e:TypeId} {x:Value} {xs:List Value} (h:Qs lo w e (.slice (some ⟨g,off,none⟩) n cap) (x::xs)):Qs lo w e (.slice (some ⟨g,off+1,none⟩) xs.length (cap-1)) xs:=by obtain⟨g',B,cap',cur,he,h1,C,h2,h3,h4,h5⟩:=h;simp only[Value.slice.injEq,w_9,Addr.mk.injEq,and_true] at he;obtain⟨⟨rfl,rfl⟩,_,rfl⟩:=he;simp only[List.length_cons] at h2 h5;refine⟨g,off+1,cap-1,cur,rfl,h1,C,by omega,by unfold maxLen at *;omega,by omega,fun j hj => ?_⟩;have:=h5 (j+1) (by omega);rw[show off+1+j=off+(j+1) by omega,this];simp
theorem Qs.tail1 {lo g off n:Nat} {w:World} {e:TypeId} {x:Value} {xs:List Value} (h:Qs lo w e (.slice (some ⟨g,off,none⟩) n 1) (x::xs)):xs=[]∧Qs lo w e (.slice (some ⟨g,off,none⟩) 0 0) []:=by obtain⟨g',B,cap',cur,he,h1,C,h2,h3,h4,h5⟩:=h;simp only[Value.slice.injEq,w_9,Addr.mk.injEq,and_true] at he;obtain⟨⟨rfl,rfl⟩,_,rfl⟩:=he;simp only[List.length_cons] at h2;exact⟨List.eq_nil_of_length_eq_zero (by omega),g,off,0,cur,rfl,h1,C,by simp,by unfold maxLen;omega,by omega,fun j hj=>absurd hj (by simp)⟩
theorem Qs.append {P:Program} {lo:Nat} {w:World} {e:TypeId} {v:Value} {xs:List Value} (h:Qs lo w e v xs) (t V:TypeId) (i:TypeInfo) (z:Value) (E:Nat) (ht:P.underlying t=some (.slice e)) (hi:P.info? e=some i) (hz:i.zero=some z) (B:i.size=1) (a:i.bytes=E) (O:z.cells.size=1)
  (G:Addr) (c:Nat) (x:Value) (hx:w.cell? G=some x) (U:G.add 0=G) (h1:x.oneCell'=true) (Y:xs.length+1≤1000000) (hb:E≤100) (R:lo≤w.heap.size) :
  ∃ X w',(Builtin.append_ #[t,t] V #[v,.slice (some G) 1 c]).run P w = .ok X w'∧Qs lo w' e X (xs++[x])∧w.grownBy w' v.ownBlock:=by
 obtain⟨g,off,cap,cur,rfl,S,Q,h2,h3,h4,h5⟩:=h
 have D:∀ j u,[x][j]? = some u→w.cell? (G.add j)=some u:=fun j u hu=>by
  cases j with
  | zero=>simp at hu;subst hu;rw[U];exact hx
  | succ j=>simp at hu
 by_cases hroom:xs.length+1≤cap
 ·have hf:=run_firstCells_some (P:=P) w i.size 1 G 1 c [x] (by simp[B]) D;have H:=run_storeCells_at P g (off+xs.length) e [x] 0 cur w Q (by simp;omega) (by simpa using h1);have C:(⟨g,off,none⟩:Addr).add xs.length=⟨g,off+xs.length,none⟩:=by unfold Addr.add;split<;>simp_all
  simp only[Nat.add_zero,List.length_singleton] at H;rw[B] at hf;have Z:off+xs.length<cur.toList.length:=by simp;omega
  have J:(List.take (off+xs.length) cur.toList).length=off+xs.length:=by rw[List.length_take];omega
  obtain⟨cs,F⟩:∃ cs:Array Value,cs=(List.take (off+xs.length) cur.toList++[x]++List.drop (off+xs.length+1) cur.toList).toArray:=⟨_,rfl⟩;rw[← F] at H;have I:=setRow_heap w g cur cs e (0,0) Q;refine⟨.slice (some ⟨g,off,none⟩) (xs.length+1) cap,w.setRow g cs,by simp[Builtin.append_,run_underlying ht,sizeOf,typeInfo,hi,B,Builtin.lenOf,hroom,hf,C,H],?_,?_⟩
  ·refine⟨g,off,cap,cs,by simp,S,I,by simpa using hroom,h3,?_,fun j hj => ?_⟩
   ·rw[F];simp only[List.size_toArray,List.length_append,List.length_singleton,List.length_drop,J,Array.length_toList];omega
   simp only[List.length_append,List.length_singleton] at hj;rw[F];simp only[w_5];by_cases hjn:j<xs.length
   ·rw[List.append_assoc,List.getElem?_append_left (by omega),List.getElem?_append_left hjn,List.getElem?_take,if_pos (by omega),Array.getElem?_toList];exact h5 j hjn
   obtain rfl:j=xs.length:=by omega
   rw[List.append_assoc,List.getElem?_append_right (by omega),J];simp
  exact⟨rfl,rfl,rfl,by simp,fun k _ hk=>setRow_other w g k cs (fun e=>hk (by rw[e];rfl))⟩
 have M:=run_append_grow (P:=P) w t V e i z ht hi hz ⟨g,off,none⟩ xs.length cap xs (by rw[B];omega)
  (fun j u hu=>by
   have hj:j<xs.length:=(List.getElem?_eq_some_iff.1 hu).1;have C:(⟨g,off,none⟩:Addr).add j=⟨g,off+j,none⟩:=by unfold Addr.add;split<;>simp_all
   rw[C,cell_of_row w g _ cur e (0,0) Q,h5 j hj,hu]) G 1 c [x] (by simp[B]) D (by omega) (by omega)
  (by have:=nextslicecap_le_wide (need:=xs.length+1) (old:=cap) (by omega);have hm:=Nat.mul_le_mul this (show i.bytes≤100 by omega);omega)
 have T:=grownCap_le_maxLen w (xs.length+1) cap e (by unfold maxLen;omega);have N:=grownCap_ge w (xs.length+1) cap e;have L:=heap_alloc_new w.drew (.cells (xs.toArray++[x].toArray++Builtin.zeroCells z.cells (grownCap w (xs.length+1) cap e-(xs.length+1))) e);refine⟨_,_,M,⟨w.heap.size,0,_,_,by simp,R,L,by simpa using N,T,?_,fun j hj => ?_⟩,?_⟩
 ·simp[size_zeroCells,O];omega
 ·simp only[Nat.zero_add];rw[← w_5];have:(xs++[x]).toArray=xs.toArray++[x].toArray:=by simp
  rw[this,Array.getElem?_append_left (by simpa using hj)]
 exact⟨rfl,rfl,rfl,by simp[World.alloc],fun k hk _=>Below.heap_alloc w.drew _ k hk⟩
theorem Zgp {P:Program} {w:World} {ops:Array Oper} {rest:List Oper} {o:Oper} {a:Act} {Q:Exit→Act→World→Prop} (J:o.guard=none) (s x:Operand) (t:TypeId)
  (M:o.op = .call { callee:=.builtin .append,args:=#[s,x],argTypes:=#[t,t] })
  (lo:Nat) (e:TypeId) (i:TypeInfo) (z:Value) (B:Nat) (ht:P.underlying t=some (.slice e)) (hi:P.info? e=some i) (hz:i.zero=some z)
  (C:i.size=1) (H:i.bytes=B) (G:z.cells.size=1)
  (v:Value) (xs:List Value) (hs:a.eval s=v) (hq:Qs lo w e v xs)
  (D:Addr) (c:Nat) (u:Value) (hx:a.eval x = .slice (some D) 1 c) (hu:w.cell? D=some u) (L:D.add 0=D) (h1:u.oneCell'=true)
  (F:xs.length+1≤1000000) (hb:B≤100) (I:lo≤w.heap.size)
  (h:∀ E w',Qs lo w' e E (xs++[u])→w.grownBy w' v.ownBlock→wpList P ops Q rest (a.put o.dst E) w'):wpList P ops Q (o::rest) a w:=by
 obtain⟨E,w',hr,h2,h3⟩:=hq.append t o.type i z B ht hi hz C H G D c u hu L h1 F hb I;exact wpList_plain J fun _ N=>by unfold Oper.wp execOp;simp only[M,resolve,invoke,builtin,Sem.run_bind,Sem.run_pure,Result.andThen_ok,List.map_toArray,List.map_cons,List.map_nil,hs,hx,hr];exact N _ _ (h E w' h2 h3)
def wdB (l:List Nat):ByteArray:=⟨(l.map fun c=>UInt8.ofNat (97+c)).toArray⟩
abbrev wdCells (ws:List (List Nat)):List Value:=ws.map fun l=>Value.string (wdB l)
theorem ZiU (l:List Nat) (c:Nat):wdB (l++[c])=wdB l++wdB [c]:=by apply ByteArray.ext;simp[wdB,ByteArray.data_append]
theorem Zep (l:List Nat):(wdB l).size=l.length:=by simp[wdB,ByteArray.size]
theorem ZeE (c:Nat) (hc:c<3) (w:World):Calls Tryz.prog 50 #[.int .i64 c] w fun e w'=>e = .returned (.string (wdB [c]))∧w=w':=by
 obtain rfl|rfl|rfl:c=0∨c=1∨c=2:=by omega
 all_goals
  go_enter Tryz.func50, Tryz.ntmps50
  go_wp2;go_ret;exact⟨rfl,rfl⟩
theorem Zgq (c:Nat) (hc:c<3):strOfNums [97+(c:Int)]=wdB [c]:=by
 obtain rfl|rfl|rfl:c=0∨c=1∨c=2:=by omega
 all_goals rfl
theorem ZhM (c:Nat) (hc:c<3) (w:World) (b cap:Nat) (h:w.cell? ⟨b,0,none⟩=some (.int .u8 (97+(c:Int)))) :
  (convert 25 9 (.slice (some ⟨b,0,none⟩) 1 cap)).run Tryz.prog w = .ok (.string (wdB [c])) w:=by
 rw[← Zgq c hc]
 exact run_convert_bytes_arg w 25 5 Tryz.underlying25 Tryz.underlying5 b 0 1 cap [97+(c:Int)] rfl (fun i hi=>by
  obtain rfl:i=0:=by omega
  simpa using h) 9 Tryz.underlying9
theorem Zf4 (c:Nat) (hc:c<3):IntKind.u8.wrap (97+(c:Int))=97+(c:Int):=by
 obtain rfl|rfl|rfl:c=0∨c=1∨c=2:=by omega
 all_goals rfl
def ZaQ (o:Option (List Nat)):Ending:=match o with
 | some l => .returned (.tuple #[.string (wdB l),.bool true])
 | none => .returned (.tuple #[.string { data:=#[] },.bool false])
theorem Tryz.infoStr:(Tryz.prog.info? 9).map (fun i=>(i.zero,i.size,i.bytes))=some (some (.string { data:=#[] }),1,16):=by kernel_rfl
def knows (n:Nat) (s:Bs Int) (cs:List Value):Prop:=cs.length=n∧∀ j,j<s.met.length→cs[(s.met.getD j 0).toNat]? = some (.string (wdB (s.words.getD j [])))
def marks (n:Nat) (s:Bs Int) (bs:List Value):Prop:=bs.length=n∧∀ x:Nat,x<n→bs[x]? = some (.bool (decide ((x:Int)∈s.met)))
theorem ZkR {d:DfaD} (hd:fine d) (k:Nat):∀ x∈(bat (dnx d) 0 k).met,0≤x∧x<d.next.length:=by obtain⟨h1,_,_,h4⟩:=hd;refine ZbA (Q:=fun x:Int=>0≤x∧x<(d.next.length:Int)) (by omega) (fun x c hc hx => ?_) k;exact(h4 x.toNat (by omega)).2 c hc
theorem ZhU {d:DfaD} (hd:fine d) {k n:Nat} (hk:k<(bat (dnx d) 0 k).met.length) (hn:n≤3):∀ x∈(bpart (dnx d) 0 k n).met,0≤x∧x<d.next.length:=by obtain⟨h1,_,_,h4⟩:=hd;refine ZkO (Q:=fun x:Int=>0≤x∧x<(d.next.length:Int)) (by omega) (fun x c hc hx => ?_) hk hn;exact(h4 x.toNat (by omega)).2 c hc
theorem Zhn {l:List Int} {n:Nat} (hn:l.Nodup) (h:∀ x∈l,0≤x∧x<n):l.length≤n:=by
 have:=ZdJ (m:=ZaY n) hn fun x hx=>by obtain⟨h1,h2⟩:=h x hx;obtain⟨y,rfl⟩:=Int.eq_ofNat_of_zero_le h1;exact Zch.2 (by omega)
 rwa [Zcf] at this
theorem ZpS {d:DfaD} (hd:fine d) (k:Nat):(bat (dnx d) 0 k).met.length≤d.next.length:=Zhn (ZaG k).1 (ZkR hd k)
theorem ZlI {d:DfaD} (hd:fine d) {k n:Nat} (hk:k<(bat (dnx d) 0 k).met.length) (hn:n≤3):(bpart (dnx d) 0 k n).met.length≤d.next.length:=Zhn (Zb2 hk hn).1 (ZhU hd hk hn)
structure FwW (d:DfaD) (W0 bw bs:Nat) (bx:Array Value) (w:World) (s:Bs Int) (k:Nat) (vq:Value):Prop where
 wo:∃ cs,w.ownsRow W0 9 1 (.slice (some ⟨bw,0,none⟩) d.next.length d.next.length) d.next.length cs∧knows d.next.length s cs
 se:∃ ms,w.ownsRow W0 4 1 (.slice (some ⟨bs,0,none⟩) d.next.length d.next.length) d.next.length ms∧marks d.next.length s ms
 qu:Qs W0 w 3 vq ((s.met.drop k).map (Value.int .i64))
 bx:Bx w W0 bx 44
theorem FwW.below {d:DfaD} {W0 bw bs k:Nat} {bx:Array Value} {w w':World} {s:Bs Int} {vq:Value} (h:FwW d W0 bw bs bx w s k vq) (hb:Below w.heap.size w w'):FwW d W0 bw bs bx w' s k vq:=by obtain⟨⟨cs,h1,h2⟩,⟨ms,h3,h4⟩,h5,h6⟩:=h;exact⟨⟨cs,(Own.below (Zab h1) hb).1,h2⟩,⟨ms,(Own.below (Zab h3) hb).1,h4⟩,h5.below hb,h6.below hb h6.lt⟩
theorem FwW.word {d:DfaD} {W0 bw bs k:Nat} {bx:Array Value} {w:World} {s:Bs Int} {vq:Value} (h:FwW d W0 bw bs bx w s k vq) {j:Nat} (hj:j<s.met.length) {x:Nat} (hx:s.met.getD j 0=(x:Int)) (B:x<d.next.length):w.cell? ⟨bw,x,none⟩=some (.string (wdB (s.words.getD j []))):=by obtain⟨⟨cs,h1,h2⟩,_⟩:=h;have:=h2.2 j hj;rw[hx] at this;exact(h1.cellAt x (by omega)).trans this
theorem FwW.mark {d:DfaD} {W0 bw bs k:Nat} {bx:Array Value} {w:World} {s:Bs Int} {vq:Value} (h:FwW d W0 bw bs bx w s k vq) {x:Nat} (B:x<d.next.length):w.cell? ⟨bs,x,none⟩=some (.bool (decide ((x:Int)∈s.met))):=by obtain⟨_,⟨ms,h1,h2⟩,_⟩:=h;exact(h1.cellAt x (by omega)).trans (h2.2 x B)
theorem FwW.cells {d:DfaD} {W0 bw bs k:Nat} {bx:Array Value} {w:World} {s:Bs Int} {vq:Value} (h:FwW d W0 bw bs bx w s k vq) {x:Nat} (B:x<d.next.length):(∃ u,w.cell? ⟨bw,x,none⟩=some u)∧w.frozen? ⟨bw,x,none⟩=false∧w.frozen? ⟨bs,x,none⟩=false:=by obtain⟨⟨cs,h1,h2⟩,⟨ms,h3,h4⟩,_⟩:=h;exact⟨Zc1 h1 x (by omega),h1.frozenAt x,h3.frozenAt x⟩
theorem FwW.lt {d:DfaD} {W0 bw bs k:Nat} {bx:Array Value} {w:World} {s:Bs Int} {vq:Value} (h:FwW d W0 bw bs bx w s k vq):W0≤bw∧W0≤bs∧bw<w.heap.size∧bs<w.heap.size∧bw≠bs∧W0≠bw∧W0≠bs:=by
 obtain⟨⟨cs,h1,h2⟩,⟨ms,h3,h4⟩,_,h6⟩:=h;refine⟨(h1.lt bw rfl).1,(h3.lt bs rfl).1,(h1.lt bw rfl).2,(h3.lt bs rfl).2,?_,?_,?_⟩
 ·intro e;obtain⟨C,B⟩:=Za9 (k:=bs) h3 rfl;exact Zah (e':=4) h1 (by decide) bs (by rw[e];rfl) _ _ B
 ·intro e;exact Zah (e':=44) h1 (by decide) bw rfl _ _ (by rw[← e];exact h6)
 intro e;exact Zah (e':=44) h3 (by decide) bs rfl _ _ (by rw[← e];exact h6)
theorem FwW.q2 {d:DfaD} {W0 bw bs k:Nat} {bx:Array Value} {w B C:World} {s:Bs Int} {vq:Value} (h:FwW d W0 bw bs bx w s k vq) (x:Nat) {u v:Value} (_:bw≠bs)
  (h5:C=(B.setCell ⟨bw,x,none⟩ u).drew) (h4:B=w.setCell ⟨bs,x,none⟩ v):Qs W0 C 3 vq ((s.met.drop k).map (Value.int .i64)):=by
 obtain⟨⟨cs,h1,h2⟩,⟨ms,h3,D⟩,hq,h6⟩:=h;subst h4;subst h5;have a1:(w.setCell ⟨bs,x,none⟩ v).ownsRow W0 9 1 (.slice (some ⟨bw,0,none⟩) d.next.length d.next.length) d.next.length cs:=Zad h1 (ZaA w bs x _) (fun k hk=>by cases hk;exact Zah (e':=9) h3 (by decide) bs rfl);exact((hq.grown (ZaA w bs x v) (fun k hk=>by cases hk;exact Zah (e':=3) h3 (by decide) bs rfl)).grown (ZaA (w.setCell ⟨bs,x,none⟩ v) bw x u) (fun k hk=>by cases hk;exact Zah (e':=3) a1 (by decide) bw rfl)).below (Below.refl _ _).drew
theorem FwW.new {d:DfaD} {W0 bw bs k:Nat} {bx:Array Value} {w J:World} {s:Bs Int} {vq C:Value} (h:FwW d W0 bw bs bx w s k vq) (hl:s.words.length=s.met.length) (hr:∀ x∈s.met,0≤x∧x<d.next.length) (hk:k≤s.met.length) {x:Nat} (D:x<d.next.length) (hx:(x:Int) ∉ s.met) (wd:List Nat)
  (hq:Qs W0 J 3 C ((s.met.drop k).map (Value.int .i64)++[.int .i64 (x:Int)])) (I:((((w.setCell ⟨bs,x,none⟩ (.bool true)).setCell ⟨bw,x,none⟩ (.string (wdB wd))).drew).alloc (.cells #[.int .i64 (x:Int)] 3)).grownBy J vq.ownBlock) :
  FwW d W0 bw bs bx J ⟨s.met++[(x:Int)],s.words++[wd]⟩ k C:=by
 obtain⟨_,_,_,_,N,L,F⟩:=h.lt;obtain⟨⟨cs,h1,h2⟩,⟨ms,h3,h4⟩,h5,h6⟩:=h;have a1:(w.setCell ⟨bs,x,none⟩ (.bool true)).ownsRow W0 9 1 (.slice (some ⟨bw,0,none⟩) d.next.length d.next.length) d.next.length cs:=Zad h1 (ZaA w bs x _) (fun k hk=>by cases hk;exact Zah (e':=9) h3 (by decide) bs rfl);have a2:=(a1.stored x (.string (wdB wd))).1;have b1:=(h3.stored x (.bool true)).1;have b2:((w.setCell ⟨bs,x,none⟩ (.bool true)).setCell ⟨bw,x,none⟩ (.string (wdB wd))).ownsRow W0 4 1 (.slice (some ⟨bs,0,none⟩) d.next.length d.next.length) d.next.length _:=Zad b1 (ZaA _ bw x _) (fun k hk=>by cases hk;exact Zah (e':=4) a1 (by decide) bw rfl);have M:=(h5.grown (ZaA w bs x (.bool true)) (fun k hk=>by cases hk;exact Zah (e':=3) h3 (by decide) bs rfl)).grown (ZaA (w.setCell ⟨bs,x,none⟩ (.bool true)) bw x (.string (wdB wd))) (fun k hk=>by cases hk;exact Zah (e':=3) a1 (by decide) bw rfl);have x2:Bx ((w.setCell ⟨bs,x,none⟩ (.bool true)).setCell ⟨bw,x,none⟩ (.string (wdB wd))) W0 bx 44:=(h6.set_ne _ _ F).set_ne _ _ L;have H:=I;have B:Below ((w.setCell ⟨bs,x,none⟩ (.bool true)).setCell ⟨bw,x,none⟩ (.string (wdB wd))).heap.size ((w.setCell ⟨bs,x,none⟩ (.bool true)).setCell ⟨bw,x,none⟩ (.string (wdB wd))) ((((w.setCell ⟨bs,x,none⟩ (.bool true)).setCell ⟨bw,x,none⟩ (.string (wdB wd))).drew).alloc (.cells #[.int .i64 (x:Int)] 3)):=(Below.refl _ _).drew.alloc (by simp) _;have E:=M.below B
 refine⟨⟨_,Zad (Own.below (Zab a2) B).1 H (E.apart (by decide)),?_⟩,⟨_,Zad (Own.below (Zab b2) B).1 H (E.apart (by decide)),?_⟩,?_,(x2.below B x2.lt).grown H (E.apart (by decide))⟩
 ·refine⟨by simpa using h2.1,fun j hj => ?_⟩;simp only[List.length_append,List.length_singleton] at hj;by_cases hjn:j<s.met.length
  ·have e1:(s.met++[(x:Int)]).getD j 0=s.met.getD j 0:=by simp[List.getElem?_append_left hjn]
   have e2:(s.words++[wd]).getD j []=s.words.getD j []:=by simp[List.getElem?_append_left (show j<s.words.length by omega)]
   have hm:=memD (d:=0) hjn;have G:=hr _ hm;have:x≠(s.met.getD j 0).toNat:=fun e=>hx (by rw[e,Int.toNat_of_nonneg G.1];exact hm)
   rw[e1,e2,List.getElem?_set_ne this];exact h2.2 j hjn
  obtain rfl:j=s.met.length:=by omega
  have e1:(s.met++[(x:Int)]).getD s.met.length 0=(x:Int):=by simp
  have e2:(s.words++[wd]).getD s.met.length []=wd:=by simp[← hl]
  rw[e1,e2];simp[h2.1,D]
 ·refine⟨by simpa using h4.1,fun y hy => ?_⟩;by_cases e:x=y
  ·subst e;simp[h4.1,D]
  rw[List.getElem?_set_ne e,h4.2 y hy];have e2:¬ (y:Int)=(x:Int):=fun h=>e (by omega)
  simp[e2]
 have:(s.met++[(x:Int)]).drop k=s.met.drop k++[(x:Int)]:=List.drop_append_of_le_length hk;simp only[this,List.map_append,List.map_cons,List.map_nil];exact hq
theorem Zfr (d:DfaD) (v:Value) (w:World) (hd:fine d) (h:DfaR 0 w v d) :
  Calls Tryz.prog 120 #[v] w fun e w'=>e=ZaQ (ZaO (den d) (bat (dnx d) 0 d.next.length))∧Below w.heap.size w w':=by
 obtain⟨u1,u2,rfl,g1,g2⟩:=h;have I:=qh hd;obtain⟨fJ,fL,cG,U⟩:=hd;obtain⟨a1,c1,rfl,eY,fN,bN⟩:=g1.formI;obtain⟨a2,c2,rfl,fG,fS,cZ⟩:=g2.form;obtain⟨s0,cS,cV,cP,cA⟩:=info_parts Tryz.infoStr;obtain⟨i0,bO,bD,cY,cK⟩:=info_parts Tryz.infoInt;obtain⟨b0,P,bP,hb1,hb2⟩:=info_parts Tryz.infoBool;have HA:∀ w1,(w.alloc (.cells #[.slice a1 d.next.length c1,.slice a2 d.ends.length c2] 44)).grownBy w1 none→w1.cell? ⟨w.heap.size,0,none⟩=some (.slice a1 d.next.length c1)∧w1.cell? ⟨w.heap.size,1,none⟩=some (.slice a2 d.ends.length c2):=by intro w1 hg;have hx:=(Bx.new w #[.slice a1 d.next.length c1,.slice a2 d.ends.length c2] 44).grown hg (fun k hk=>by cases hk);exact⟨hx.cell 0,hx.cell 1⟩
 replace U:=qh U;replace bN:=qh bN;have dD:=qh cZ;clear cZ;have cD:=qh cS;clear cS;have dN:=qh cV;clear cV;have cX:=qh cP;clear cP;have dC:=qh cA;clear cA;replace bO:=qh bO;replace bD:=qh bD;have bX:=qh cY;clear cY;have cT:=qh cK;clear cK;have F:=qh P;clear P;replace bP:=qh bP;have dF:=qh hb1;clear hb1;have dI:=qh hb2;clear hb2;have cC:=qh cG;clear cG;replace HA:=qh HA;clear g1 g2
 go_enter Tryz.func120, Tryz.ntmps120
 go_wp2_with (first
  | (at_make;refine wpList_make_full _ rfl _ _ 88 rfl w.heap.size 9 s0 (.string { data:=#[] }) 1 Tryz.underlying88 cD.o dN.o cX.o .i64 .i64 _ _ d.next.length rfl rfl rfl rfl (by rw[dC.o];omega) (by unfold maxLen;omega) (by simp) ?_;intro w1 aC D;obtain⟨dZ,eC⟩:=HA.o w1 D;have V:=D.size;have aT:=qh aC;have l:=qh D;clear aC D)
  | (at_make;refine wpList_make_full _ rfl _ _ 42 rfl w.heap.size 4 b0 (.bool false) 1 Tryz.underlying42 F.o bP.o dF.o .i64 .i64 _ _ d.next.length rfl rfl rfl rfl (by rw[dI.o];omega) (by unfold maxLen;omega) (by simp only[World.size_alloc] at V;omega) ?_;intro w2 N m;obtain⟨u0,eH⟩:=Zc1 N 0 (by omega);have dK:=N.frozenAt 0;have bT:=qh N;have C:=qh m;clear N m))
 have fU:=C.o.size;have x2:Bx w2 w.heap.size #[.slice a1 d.next.length c1,.slice a2 d.ends.length c2] 44:=((Bx.new w _ _).grown l.o (fun k hk=>by cases hk)).grown C.o (fun k hk=>by cases hk);have dH:Below w.heap.size w w2:=(((Below.refl _ _).alloc (Nat.le_refl _) _).grown l.o (by simp) (fun k hk=>by cases hk)).grown C.o (by simp at V;omega) (fun k hk=>by cases hk);have cO:=qh dH;clear dH;have dQ:=qh x2;clear x2;have bV:=qh V;clear V;clear dZ eC u0 eH dK
 go_loopg [2,3,6] (d.next.length+1) (fun g r1 r2 vq wr=>∃ k:Nat,g=d.next.length+1-k∧k≤(bat (dnx d) 0 k).met.length∧(∀ j,j<k→den d ((bat (dnx d) 0 k).met.getD j 0)=false)∧Below w.heap.size w wr∧FwW d w.heap.size (w.heap.size+1) w1.heap.size #[.slice a1 d.next.length c1,.slice a2 d.ends.length c2] wr (bat (dnx d) 0 k) k vq)
 case atStart =>
  have eO:w.heap.size+1≤w1.heap.size:=by have:=bV.o;simpa using this
  refine⟨0,rfl,by simp[bat],fun j hj=>absurd hj (by omega),(cO.o.setCell (by simp;omega) _).alloc (by simp[World.setCell];omega) _,?_⟩
  have o1:w2.ownsRow w.heap.size 9 1 (.slice (some ⟨w.heap.size+1,0,none⟩) d.next.length d.next.length) d.next.length (List.replicate d.next.length (.string { data:=#[] })):=by
   have h:=Zad aT.o C.o (fun k hk=>by cases hk);have e:(madeCells (Value.string { data:=#[] }).cells (d.next.length*1)).toList=List.replicate d.next.length (.string { data:=#[] }):=by rw[Nat.mul_one];exact toList_madeCells_one _ _
   rw[e] at h;simpa using h
  have o2:w2.ownsRow w.heap.size 4 1 (.slice (some ⟨w1.heap.size,0,none⟩) d.next.length d.next.length) d.next.length (List.replicate d.next.length (.bool false)):=by
   have h:=bT.o;have e:(madeCells (Value.bool false).cells (d.next.length*1)).toList=List.replicate d.next.length (.bool false):=by rw[Nat.mul_one];exact toList_madeCells_one _ _
   rwa [e] at h
  have hg:=ZaA w2 w1.heap.size 0 (.bool true);have ap:∀ e,4 ≠ e→ZbF w2 (some w1.heap.size) e:=fun e he=>Zah (v:=.slice (some ⟨w1.heap.size,0,none⟩) d.next.length d.next.length) o2 he
  have bB:=(Below.refl (w2.setCell ⟨w1.heap.size,0,none⟩ (.bool true)).heap.size (w2.setCell ⟨w1.heap.size,0,none⟩ (.bool true))).alloc (Nat.le_refl _) (.cells #[.int .i64 0] 3);have x3:Bx (w2.setCell ⟨w1.heap.size,0,none⟩ (.bool true)) w.heap.size #[.slice a1 d.next.length c1,.slice a2 d.ends.length c2] 44:=dQ.o.set_ne _ _ (by simp;omega);refine⟨⟨_,(Own.below (Zab (Zad o1 hg (ap _ (by decide)))) bB).1,by simp,fun j hj => ?_⟩,⟨_,(Own.below (Zab (o2.stored 0 (.bool true)).1) bB).1,by simp,fun x hx => ?_⟩,?_,x3.below bB x3.lt⟩
  ·simp only[bat,List.length_singleton] at hj;obtain rfl:j=0:=by omega
   simp only[bat,List.getD_cons_zero,Int.toNat_zero,List.getElem?_replicate];rw[if_pos (by omega)];rfl
  ·by_cases h0:x=0
   ·subst h0;rw[List.getElem?_set_self (by simp;omega)];simp[bat]
   rw[List.getElem?_set_ne (by omega),List.getElem?_replicate,if_pos hx];simp[bat,h0]
  refine⟨w2.heap.size,0,1,#[.int .i64 0],by simp[bat],by omega,?_,by simp[bat],by unfold maxLen;omega,by simp,fun j hj => ?_⟩
  ·have:=Bx.new (w2.setCell ⟨w1.heap.size,0,none⟩ (.bool true)) #[.int .i64 0] 3;simpa [World.setCell,Bx] using this
  simp[bat] at hj;subst hj;simp[bat]
 case round =>
  obtain⟨k,rfl,hk,aW,hb,hf⟩:=hrel;obtain⟨S,hS⟩:=eI (bat (dnx d) 0 k);have R:=ZaG (nx:=dnx d) (a:=0) k;have hR:=ZkR I.o k;have eE:=ZpS I.o k;rw[← hS] at hk aW hf R hR eE;obtain⟨g,off,cap,hv,fV,fR,eG,fP,bR⟩:=hf.qu.form;obtain⟨L,hL⟩:=eI (S.met.length-k);rw[List.length_map,List.length_drop,← hL] at hv eG bR;subst hv;obtain⟨wo,eD⟩:∃ wo:World,wo=wr:=⟨_,rfl⟩;subst eD;have x0:=hf.bx.cell 0;have x1:=hf.bx.cell 1;simp only[w_5,w_6,w_7] at x0 x1;have bC:=qh hf;clear hf;have aB:=qh hb;clear hb;have G:=qh hS;clear hS;have aA:=qh aW;clear aW;have Y:=qh R;clear R;have eA:=qh hR;clear hR;by_cases hlt:k<S.met.length
  ·have dV:0<L:=by omega
   obtain⟨dS,dT⟩:=eA.o _ (memD (d:=0) hlt);have J:=bR 0 dV;rw[List.getElem?_map,List.getElem?_drop,Nat.add_zero,Nat.add_zero,List.getElem?_eq_getElem hlt,Option.map_some,← Zbg (d:=0) hlt] at J;obtain⟨x,hx⟩:=Int.eq_ofNat_of_zero_le dS;rw[hx] at J dT;have aH:x<d.next.length:=by omega
   have hxe:(x:Int)<d.ends.length:=by have:=cC.o;omega
   obtain⟨dE,o2,rfl,-,bY,aQ⟩:=dD.o (by omega);obtain⟨cL,o1,rfl,-,dJ,aK⟩:=bN.o (by omega);have aZ:=(bcell aB.o dE (o2+x) bY).trans (aQ x (by omega));obtain⟨ar,cr,bZ,dY,fO,aY⟩:=aK x aH;have hr0:=(bcell aB.o cL (o1+x) dJ).trans bZ;obtain⟨aJ,dL⟩:=U.o x aH;rw[aJ] at hr0 dY aY;have bU:=bC.o.word hlt hx aH;obtain⟨fF,eZ,fH,fE,fA,fX,fD⟩:=bC.o.lt;obtain⟨wd,bF⟩:=eI (S.words.getD k []);rw[← bF] at bU;cases hen:d.ends.getD x false
   all_goals
    rw[hen] at aZ;have aP:=qh hen;clear hen;have aF:=qh hx;clear hx;have fC:=qh hL;clear hL;have X:=qh bF;clear bF;clear aQ aK bR bZ;have fI:0<(L:Int):=by omega
   ·obtain⟨_,_,bE,-,-,cF⟩:=aY.form;rw[aJ] at bE cF;simp only[Value.slice.injEq,true_and] at bE;obtain⟨rfl,rfl⟩:=bE;obtain⟨z1,t1,rfl,-,cU,aS⟩:=cF (by omega);have cH:=qh dL;clear dL;have eT:=qh aJ;clear aJ;have bJ:=qh aS;clear aS;clear aY;go_wp2
    go_loopw [6,44] (fun vq i wi=>∃ n:Nat,n≤3∧i = .int .i64 n∧Below w.heap.size w wi∧FwW d w.heap.size (w.heap.size+1) w1.heap.size #[.slice (some ⟨cL,o1,none⟩) d.next.length c1,.slice (some ⟨dE,o2,none⟩) d.ends.length c2] wi (bpart (dnx d) 0 k n) k vq) (fun _ i _=>3-(intOf i).toNat)
    case atStart=>exact⟨0,by omega,rfl,aB.o,by rw[Zap,← G.o];exact bC.o⟩
    case round =>
     obtain⟨n,hn,rfl,P,E⟩:=hrel;have Q:k<(bat (dnx d) 0 k).met.length:=by rw[← G.o];exact hlt
     have aV:(bat (dnx d) 0 k).met.getD k 0=(x:Int):=by rw[← G.o];exact aF.o
     by_cases hn3:n<3
     ·obtain⟨eB,dU⟩:=cH.o n hn3;obtain⟨z,hz⟩:=Int.eq_ofNat_of_zero_le eB;have dP:=(bcell P z1 (t1+n) cU).trans (bJ.o n (by omega));rw[hz] at dP dU;have bQ:z<d.next.length:=by omega
      have bG:dnx d ((bat (dnx d) 0 k).met.getD k 0) n=(z:Int):=by rw[aV];exact hz
      have Z:=Zbp (nx:=dnx d) (a:=0) (k:=k) (n:=n);have O:=Zbi (nx:=dnx d) (a:=0) (k:=k) (n:=n);rw[bG] at Z O;rw[← G.o,← X.o] at O;have bK:=Zb2 Q hn;have bI:=ZhU I.o Q hn;have dO:=ZlI I.o Q hn;have hle:=Za7 (nx:=dnx d) (a:=0) (k:=k) (Nat.zero_le n);rw[Zap,← G.o] at hle;obtain⟨T,hT⟩:=eI (bpart (dnx d) 0 k n);rw[← hT] at E Z O bK bI dO hle;have aI:k<T.met.length:=Nat.lt_of_lt_of_le hlt hle.1.length_le;have bH:T.met.getD k 0=(x:Int):=(Zas hle.1 hlt _).trans aF.o;have aU:T.words.getD k []=wd:=(Zas hle.2 (by rw[Y.o.2.1];exact hlt) _).trans X.o.symm;have hmk:=E.mark bQ;obtain⟨⟨cw,dM⟩,fw,fs⟩:=E.cells bQ;have bA:=E.word aI bH aH;rw[aU] at bA;have fB:(z:Int)<d.next.length:=by omega
      have fW:(n:Int)<3:=by omega
      have fK:(x:Int)<d.next.length:=by omega
      obtain⟨_,_,lw,ls,-,-,-⟩:=E.lt;have dX:=qh hT;clear hT;have fM:=qh hz;clear hz;have eV:=qh bG;clear bG;have bS:=qh Z;clear Z;have aX:=qh O;clear O;have cR:=qh bK;clear bK;have dB:=qh bI;clear bI;have cJ:=qh hle;clear hle;have dG:=qh bH;clear bH;have eM:=qh aU;clear aU;have F:=qh P;clear P;have B:=qh E;clear E;have eR:=qh aV;clear aV;clear J aZ hr0 bU x0 x1;by_cases hmem:(z:Int)∈T.met
      ·rw[decide_eq_true hmem] at hmk;have M:=qh hmem;clear hmem;go_wp2;go_roundw
       case rel=>exact⟨n+1,by omega,by go_num,F.o,by rw[bS.o M.o];exact B.o⟩
       case measure=>simp[intOf];omega
      rw[decide_eq_false hmem] at hmk;have fT:z≠x:=by intro e;exact hmem (by rw[e,← dG.o];exact memD aI)
      have M:=qh hmem;clear hmem;have p:w.heap.size+1≠w1.heap.size:=B.o.lt.2.2.2.2.1;go_wp2;obtain⟨w4,q⟩:=eI (wr.setCell ⟨w1.heap.size,z,none⟩ (.bool true));have k4:w4.cell? ⟨w.heap.size+1,x,none⟩=some (.string (wdB wd)):=by rw[q];exact(World.cell?_of_block (a:=⟨w.heap.size+1,x,none⟩) (Below.heap_setCell wr ⟨w1.heap.size,z,none⟩ _ _ p)).trans bA
      have c4:w4.cell? ⟨w.heap.size+1,z,none⟩=some cw:=by rw[q];exact(World.cell?_of_block (a:=⟨w.heap.size+1,z,none⟩) (Below.heap_setCell wr ⟨w1.heap.size,z,none⟩ _ _ p)).trans dM
      have f4:w4.frozen? ⟨w.heap.size+1,z,none⟩=false:=by rw[q];exact(World.frozen?_of_block (a:=⟨w.heap.size+1,z,none⟩) (Below.heap_setCell wr ⟨w1.heap.size,z,none⟩ _ _ p)).trans fw
      rw[← q];have b:=qh q;clear q;clear bA dM fw fs hmk;have eX:(wdB wd).size≤100000:=by have:=Zew (nx:=dnx d) (a:=0) k wd (by rw[X.o,G.o];exact memD (by rw[(ZaG k).2.1];exact Q));rw[Zep];omega
      have eL:(wdB [n]).size≤100:=by rw[Zep];simp
      have k5:(w4.setCell ⟨w.heap.size+1,z,none⟩ (.string (wdB wd++wdB [n]))).drew.cell? ⟨w.heap.size+1,x,none⟩=some (.string (wdB wd)) :=
       (World.cell?_setCell_other w4 _ _ _ (by simp)).trans k4
      have eJ:∀ w':World,(Op.stringOp .add (wdB wd) (wdB [n])).run Tryz.prog w' = .ok (.string (wdB wd++wdB [n])) w':=fun w'=>run_string_add_sum w' _ _ (by omega)
      have eU:¬ 9223372036854775807<(wdB wd).size+(wdB [n]).size:=by omega
      go_region_held3 (fun w'=>w'.cell? ⟨w.heap.size+1,x,none⟩=some (.string (wdB wd)))
       (first|exact k4|exact k5|go_keep)
       (first|(go_at_call 50;(with_reducible refine(ZeE n hn3 _).mono ?_);rintro e w' ⟨rfl,rfl⟩))
      obtain⟨w5,r⟩:=eI ((w4.setCell ⟨w.heap.size+1,z,none⟩ (.string (wdB wd++wdB [n]))).drew);rw[← r];have bW:w5.heap.size=wr.heap.size:=by rw[r,b.o];simp[World.setCell]
      have cE:Qs w.heap.size (w5.alloc (.cells #[.int .i64 (z:Int)] 3)) 3 u6 ((T.met.drop k).map (Value.int .i64)):=by exact(B.o.q2 z p r b.o).below ((Below.refl _ _).alloc (Nat.le_refl _) _)
      have cQ:Below w.heap.size w w5:=by rw[r,b.o];exact((F.o.setCell (by simp;omega) _).setCell (by simp) _).drew
      have aO:=qh cE;clear cE;have cI:=qh r;clear r;have c:=qh cQ;clear cQ;have eS:=qh bW;clear bW;clear k4 k5 c4 f4;go_wp2_with (at_builtin;refine Zgp rfl _ _ 38 rfl w.heap.size 3 i0 (.int .i64 0) 8 Tryz.underlying38 bO.o bD.o bX.o cT.o rfl _ _ rfl aO.o ⟨w5.heap.size,0,none⟩ 1 (.int .i64 (z:Int)) rfl (Zex _ _ _ 0) rfl rfl (by simp;omega) (by omega) (by simp;have:=c.o.size;omega) ?_;intro v6 w6 cB u;have dW:=qh cB;have cW:=qh (show(w5.alloc (.cells #[.int .i64 (z:Int)] 3)).grownBy w6 u6.ownBlock from u);clear cB u);go_roundw
      case rel =>have eF:Below w.heap.size w w6:=(c.o.alloc c.o.size _).grown cW.o (by simp only[World.size_alloc];have:=c.o.size;omega) (fun j hj=>aO.o.lo hj);refine⟨n+1,by omega,by go_num,eF,?_⟩;rw[aX.o M.o];have u:=cW.o;rw[cI.o,b.o,← ZiU] at u;exact B.o.new cR.o.2.1 dB.o (by omega) bQ M.o _ dW.o u
      case measure=>simp[intOf];omega
     obtain rfl:n=3:=by omega
     clear J aZ hr0 bU x0 x1;have bM:=ZaP Q;have hle:=Za7 (nx:=dnx d) (a:=0) (k:=k) (Nat.zero_le 3);rw[Zap,← G.o] at hle;obtain⟨T,hT⟩:=eI (bpart (dnx d) 0 k 3);rw[← hT] at E bM hle;have aI:k<T.met.length:=Nat.lt_of_lt_of_le hlt hle.1.length_le
     obtain⟨y,ys,bL,cN⟩:∃ y ys,(T.met.drop k).map (Value.int .i64)=y::ys∧ys=(T.met.drop (k+1)).map (Value.int .i64) :=
      ⟨_,_,by rw[List.drop_eq_getElem_cons aI,List.map_cons],rfl⟩
     have aE:=E.qu;rw[bL] at aE;obtain⟨g',eQ,cap',cM,eN,dR,aM,eK,-⟩:=aE.form;rw[List.length_cons] at cM aM;subst cM
     have aR:∀ j,j<k+1→den d (T.met.getD j 0)=false:=fun j hj=>by
      rw[Zas hle.1 (by omega)];by_cases hjk:j<k
      ·exact aA.o j hjk
      obtain rfl:j=k:=by omega
      rw[aF.o];unfold den;rw[Int.toNat_natCast];exact aP.o
     obtain⟨L',aG⟩:=eI (ys.length);rw[← aG] at aE aM;rw[← aG];have fQ:(1:Int)≤(L':Int)+1:=by omega
     have dX:=qh hT;clear hT;have H:=qh bM;clear bM;have cJ:=qh hle;clear hle;have aN:=qh aE;clear aE;have eP:=qh bL;clear bL;have aL:=qh cN;clear cN;have aD:=qh aR;clear aR;have F:=qh P;clear P;have B:=qh E;clear E;have dA:=qh aG;clear aG;clear hn3;by_cases hc1':cap'=1
     ·subst hc1';go_wp2
      go_roundg (d.next.length+1-(k+1))
      case measure=>omega
      case rel =>obtain⟨e0,J⟩:=aN.o.tail1;refine⟨k+1,rfl,by rw[H.o];omega,by rw[H.o];exact aD.o,F.o,?_⟩;rw[H.o];exact⟨B.o.wo,B.o.se,by rw[← aL.o,e0];exact J,B.o.bx⟩
     have eW:1<cap':=by omega
     go_wp2
     go_roundg (d.next.length+1-(k+1))
     case measure=>omega
     case rel =>have J:=aN.o.tail;rw[← dA.o] at J;refine⟨k+1,rfl,by rw[H.o];omega,by rw[H.o];exact aD.o,F.o,?_⟩;rw[H.o];exact⟨B.o.wo,B.o.se,by rw[← aL.o];exact J,B.o.bx⟩
   go_wp2
   go_ret2
   exact⟨by rw[ZeX (s:=S) (d:=0) (by rw[G.o];exact ZdY (by omega)) Y.o.2.1 (ZaG _).2.1 hlt aA.o (by rw[aF.o];unfold den;rw[Int.toNat_natCast];exact aP.o),← X.o];rfl,aB.o⟩
  obtain rfl:L=0:=by omega
  go_wp2
  go_ret2
  have Q:k=S.met.length:=by omega
  exact⟨by rw[Zbc (k:=k) (by rw[← G.o];omega) (by omega),← G.o,ZdQ (d:=0) (by rw[← Q];exact aA.o)];rfl,aB.o⟩
end Go.Proofs.YtncekbbhgipdlaaGreat
namespace Go.Proofs.YtncekbbhgipdlaaGreat
open Go.RowKit Go.Maps
def hitK (K:Nat) (a b:DfaD):Option (List Nat):=ZaO (Zba (fun x y=>x != y) a b) (bat (Zan a b) (0,0) K)
def Zhq:Nat:=1600
def hitP (a b:DfaD):Option (List Nat):=hitK Zhq a b
def allP (n m:Nat):List (Int × Int):=(List.range n).flatMap fun (i:Nat)=>(List.range m).map fun (j:Nat)=>((i:Int),(j:Int))
theorem ZjZ (m:Nat):∀ l:List Nat,(l.map fun _=>m).sum=l.length*m
 | []=>by simp
 | _::l=>by simp only[List.map_cons,List.sum_cons,ZjZ m l,List.length_cons,Nat.succ_mul];omega
theorem Zri (n m:Nat):(allP n m).length=n*m:=by unfold allP;rw[List.length_flatMap];simp only[List.length_map,List.length_range];rw[ZjZ,List.length_range]
theorem Zfg {a b:DfaD} (hda:Zac a.next a.ends=true) (hdb:Zac b.next b.ends=true) (k:Nat):(metP a b k).length≤1600:=by
 have h:=ZdJ (m:=allP a.next.length b.next.length) (ZaG (nx:=Zan a b) (a:=(0,0)) k).1 fun x hx=>by obtain⟨i,j,rfl,hi,hj⟩:=Zbf (ZbA (Q:=fun x=>ZbG a b x=true) (Zci hda hdb) (fun x c hc hx=>Zcj hda hdb hc hx) k x hx);unfold allP;rw[List.mem_flatMap];exact⟨i,List.mem_range.2 hi,List.mem_map.2 ⟨j,List.mem_range.2 hj,rfl⟩⟩
 rw[Zri] at h;have h1:=Zaf hda;have h2:=Zaf hdb;have:=Nat.mul_le_mul h1.2.1 h2.2.1;unfold metP;omega
theorem Zie (K:Nat) (X:K=1600) (a b:DfaD) (v1 v2:Value) (w:World) (hda:Zac a.next a.ends=true) (hdb:Zac b.next b.ends=true) (h1:DfaR 0 w v1 a) (h2:DfaR 0 w v2 b) :
  Calls Tryz.prog 76 #[v1,v2,.func (.func 77) #[] #[]] w fun e w'=>e=ZaQ (hitK K a b)∧Below w.heap.size w w':=by
 obtain⟨Q,N,rfl,g1,g2⟩:=h1;obtain⟨S,R,rfl,g3,g4⟩:=h2;have hb2:Below w.heap.size w ((w.alloc (.cells #[Q,N] 44)).alloc (.cells #[S,R] 44)):=((Below.refl _ _).alloc (Nat.le_refl _) _).alloc (by simp) _;have c:QH (DfaR 0 ((w.alloc (.cells #[Q,N] 44)).alloc (.cells #[S,R] 44)) (.agg #[Q,N]) a):=qh ⟨_,_,rfl,g1.below hb2,g2.below hb2⟩;have g:QH (DfaR 0 ((w.alloc (.cells #[Q,N] 44)).alloc (.cells #[S,R] 44)) (.agg #[S,R]) b):=qh ⟨_,_,rfl,g3.below hb2,g4.below hb2⟩;have hm:=Zfg hda hdb K;have D:=fun w'=>Zkb a b K (.agg #[Q,N]) (.agg #[S,R]) w' hda hdb (by omega) (by omega)
 rw[show((K:Nat):Int)=1600 by omega] at D;have B:(metP a b K).length≤K:=by omega
 have T:K≤100000:=by omega
 replace D:=qh D;replace X:=qh X;have V:=qh hda;clear hda;have Y:=qh hdb;clear hdb;have P:=qh hb2;clear hb2;clear g1 g2 g3 g4
 go_enter Tryz.func76, Tryz.ntmps76
 go_wp2_with fail;refine(D.o _ c.o g.o).mono ?_;rintro e w2 ⟨hr,O⟩;unfold RExp at hr;rw[if_pos B] at hr;obtain⟨an,cn,ae,ce,am,cm,rfl,hd,-⟩:=hr;obtain⟨F,H⟩:=eI ((bat (Zan a b) (0,0) K).met);unfold metP at hm B;rw[← H] at hd hm B;rw[← H];have d:=qh (hd.r.mono (Nat.zero_le _));have J:=P.o.trans (O.mono (by simp;omega));replace H:=qh H;have C:=qh J;clear J;have G:=qh B;clear B;clear hd O hm;go_wp2_with fail;refine(Zfr (Zar (Zan a b) (Zba (fun x y=>x != y) a b) F) _ _ (by rw[H.o];exact Zeu (by rw[← H.o];exact G.o) T) (d.o.below ((Below.refl _ _).alloc (Nat.le_refl _) _))).mono ?_;rintro e i ⟨he,L⟩;have U:ZaQ (ZaO (den (Zar (Zan a b) (Zba (fun x y=>x != y) a b) F)) (bat (dnx (Zar (Zan a b) (Zba (fun x y=>x != y) a b) F)) 0 (Zar (Zan a b) (Zba (fun x y=>x != y) a b) F).next.length))=ZaQ (hitK K a b):=by unfold hitK;rw[H.o,Zgk (by rw[← H.o];exact G.o)]
 rw[U] at he;have M:=(C.o.alloc C.o.size _).trans (L.mono (by simp;have:=C.o.size;omega));have Z:=qh U;clear U;have E:=qh M;clear M;clear L;cases hh:hitK K a b with
 | none =>
  rw[hh] at he;unfold ZaQ at he;simp only at he;subst he;have I:=qh hh;clear hh;go_wp2
  go_ret2
  exact⟨by rw[I.o];rfl,E.o⟩
 | some l =>
  rw[hh] at he;unfold ZaQ at he;simp only at he;subst he;have I:=qh hh;clear hh;go_wp2
  go_ret2
  exact⟨by rw[I.o];rfl,E.o⟩
theorem Zig (a b:DfaD) (v1 v2:Value) (w:World) (hda:Zac a.next a.ends=true) (hdb:Zac b.next b.ends=true) (h1:DfaR 0 w v1 a) (h2:DfaR 0 w v2 b) :
  Calls Tryz.prog 76 #[v1,v2,.func (.func 77) #[] #[]] w fun e w'=>e=ZaQ (hitP a b)∧Below w.heap.size w w':=Zie Zhq rfl a b v1 v2 w hda hdb h1 h2
theorem Za3 (o:Option (List Nat)):∃ s:ByteArray,ZaQ o = .returned (.tuple #[.string s,.bool o.isSome]):=by
 cases o with
 | none=>exact⟨_,rfl⟩
 | some l=>exact⟨_,rfl⟩
theorem Znn (a b:DfaD) (v1 v2:Value) (w:World) (hda:Zac a.next a.ends=true) (hdb:Zac b.next b.ends=true) (h1:DfaR 0 w v1 a) (h2:DfaR 0 w v2 b) :
  Calls Tryz.prog 34 #[v1,v2] w fun e w'=>e=ZaQ (hitP a b)∧Below w.heap.size w w':=by
 obtain⟨H,G,rfl,g1,g2⟩:=h1;obtain⟨J,I,rfl,g3,g4⟩:=h2;have hb2:Below w.heap.size w ((w.alloc (.cells #[H,G] 44)).alloc (.cells #[J,I] 44)):=((Below.refl _ _).alloc (Nat.le_refl _) _).alloc (by simp) _;have L:QH (DfaR 0 ((w.alloc (.cells #[H,G] 44)).alloc (.cells #[J,I] 44)) (.agg #[H,G]) a):=qh ⟨_,_,rfl,g1.below hb2,g2.below hb2⟩;have M:QH (DfaR 0 ((w.alloc (.cells #[H,G] 44)).alloc (.cells #[J,I] 44)) (.agg #[J,I]) b):=qh ⟨_,_,rfl,g3.below hb2,g4.below hb2⟩;obtain⟨s,hs⟩:=Za3 (hitP a b);replace hda:=qh hda;have F:=qh hdb;clear hdb;replace hb2:=qh hb2;have B:=qh hs;clear hs;clear g1 g2 g3 g4
 go_enter Tryz.func34, Tryz.ntmps34
 go_wp2_with fail;refine(Zig a b _ _ _ hda.o F.o L.o M.o).mono ?_;rintro e w2 ⟨he,D⟩;rw[B.o] at he;subst he;have C:=hb2.o.trans (D.mono (by simp;omega));have E:=qh C;clear C;clear D;go_wp2
 go_ret2
 exact⟨by rw[B.o];rfl,E.o⟩
end Go.Proofs.YtncekbbhgipdlaaGreat
namespace Go.Proofs.YtncekbbhgipdlaaGreat
open Go.RowKit
section
variable {α β:Type} [DecidableEq α] [DecidableEq β] {nx:α→Nat→α} {nx':β→Nat→β} {a:α} {f:α→β}
theorem Znr (hf:∀ x y,f x=f y→x=y) (hn:∀ x c,f (nx x c)=nx' (f x) c) (x:α) (wd:List Nat) (s:Bs α) (c:Nat):bvisit nx' (f x) wd ⟨s.met.map f,s.words⟩ c=⟨(bvisit nx x wd s c).met.map f,(bvisit nx x wd s c).words⟩:=by
 have hm:nx' (f x) c∈s.met.map f↔nx x c∈s.met:=by
  rw[← hn];constructor
  ·intro h;obtain⟨y,hy,e⟩:=List.mem_map.1 h;rw[← hf _ _ e];exact hy
  exact fun h=>List.mem_map.2 ⟨_,h,rfl⟩
 unfold bvisit;by_cases h:nx x c∈s.met
 ·rw[if_pos h,if_pos (hm.2 h)]
 rw[if_neg h,if_neg (fun h2=>h (hm.1 h2))];simp[hn]
theorem ZmA (hf:∀ x y,f x=f y→x=y) (hn:∀ x c,f (nx x c)=nx' (f x) c) (x:α) (wd:List Nat) (s:Bs α):∀ n,brow nx' (f x) wd ⟨s.met.map f,s.words⟩ n=⟨(brow nx x wd s n).met.map f,(brow nx x wd s n).words⟩
 | 0=>rfl
 | n+1=>by show bvisit nx' (f x) wd (brow nx' (f x) wd ⟨s.met.map f,s.words⟩ n) n=_;rw[ZmA hf hn x wd s n,Znr hf hn];rfl
theorem ZjS (hf:∀ x y,f x=f y→x=y) (hn:∀ x c,f (nx x c)=nx' (f x) c):∀ k,bat nx' (f a) k=⟨(bat nx a k).met.map f,(bat nx a k).words⟩
 | 0=>rfl
 | k+1=>by
  have B:=ZjS hf hn k;have hl:(bat nx' (f a) k).met.length=(bat nx a k).met.length:=by rw[B];simp
  by_cases h:k<(bat nx a k).met.length
  ·rw[ZaP h,ZaP (by rw[hl];exact h)];unfold bpart;rw[B];have hx:((bat nx a k).met.map f).getD k (f a)=f ((bat nx a k).met.getD k a):=by simp[h]
   simp only[hx];exact ZmA hf hn _ _ _ 3
  rw[ZbU (by omega),ZbU (by omega),B]
theorem ZpR (k:Nat):∀ i,i<(bat nx a k).met.length→((bat nx a k).words.getD i []).foldl nx a=(bat nx a k).met.getD i a∧isW ((bat nx a k).words.getD i []):=by
 have h:=Zf2 (nx:=nx) (a:=a) (fun s=>s.words.length=s.met.length∧∀ i,i<s.met.length→(s.words.getD i []).foldl nx a=s.met.getD i a∧isW (s.words.getD i [])) ⟨rfl,fun i hi=>by
  obtain rfl:i=0:=by simpa using hi
  exact⟨rfl,fun c hc=>by simp at hc⟩⟩ (fun s k hk t c hc hs ht=>by
   unfold bvisit
   split
   ·exact ht
   refine⟨by simp[ht.1],fun i hi => ?_⟩;simp only[List.length_append,List.length_singleton] at hi;by_cases hit:i<t.met.length
   ·have h1:=ht.2 i hit;have e1:(t.words++[s.words.getD k []++[c]]).getD i []=t.words.getD i []:=by simp only[List.getD_eq_getElem?_getD];rw[List.getElem?_append_left (by rw[ht.1];exact hit)]
    have e2:(t.met++[nx (s.met.getD k a) c]).getD i a=t.met.getD i a:=by simp only[List.getD_eq_getElem?_getD];rw[List.getElem?_append_left hit]
    show((t.words++[s.words.getD k []++[c]]).getD i []).foldl nx a=(t.met++[nx (s.met.getD k a) c]).getD i a∧isW ((t.words++[s.words.getD k []++[c]]).getD i []);rw[e1,e2];exact h1
   obtain rfl:i=t.met.length:=by omega
   have h2:=hs.2 k hk;have e1:(t.words++[s.words.getD k []++[c]]).getD t.met.length []=s.words.getD k []++[c]:=by simp[← ht.1]
   have e2:(t.met++[nx (s.met.getD k a) c]).getD t.met.length a=nx (s.met.getD k a) c:=by simp
   show((t.words++[s.words.getD k []++[c]]).getD t.met.length []).foldl nx a=(t.met++[nx (s.met.getD k a) c]).getD t.met.length a∧isW ((t.words++[s.words.getD k []++[c]]).getD t.met.length []);rw[e1,e2,List.foldl_append,h2.1];exact⟨rfl,ZfT h2.2 (ZlA hc)⟩) k
 exact h.2
end
theorem ZdP {α:Type} {en:α→Bool} {s:Bs α} {w:List Nat} {d:α} (hl:s.words.length=s.met.length) (h:ZaO en s=some w):∃ i,i<s.met.length∧s.words.getD i []=w∧en (s.met.getD i d)=true:=by
 unfold ZaO at h;rw[Option.map_eq_some_iff] at h;obtain⟨p,hp,rfl⟩:=h;obtain⟨h1,i,hi,B,-⟩:=List.find?_eq_some_iff_getElem.1 hp;rw[List.length_zip] at hi;have C:i<s.met.length:=by omega
 have D:i<s.words.length:=by omega
 rw[List.getElem_zip] at B;refine⟨i,C,?_,?_⟩
 ·rw[Zbg D,← B]
 rw[Zbg C];rw[← B] at h1;exact h1
theorem Zin (a b:DfaD):∀ (w:List Nat) (s t:Int),w.foldl (Zan a b) (s,t)=(runD a s w,runD b t w)
 | [],_,_=>rfl
 | c::w,s,t=>Zin a b w (dnx a s c) (dnx b t c)
theorem Zq1 (K:Nat) (a b:DfaD):hitK K a b=hitK K b a:=by
 have h:=ZjS (nx:=Zan a b) (nx':=Zan b a) (a:=((0,0):Int × Int)) (f:=Prod.swap) (fun x y e=>by have:=congrArg Prod.swap e;simpa using this) (fun x c=>rfl) K;have B:bat (Zan b a) (0,0) K=⟨(bat (Zan a b) (0,0) K).met.map Prod.swap,(bat (Zan a b) (0,0) K).words⟩:=h;unfold hitK;rw[B];refine Zdj _ _ _ _ _ (by simp) fun j h1 h2 => ?_
 rw[List.getElem_map];unfold Zba;simp only[Prod.fst_swap,Prod.snd_swap];exact bne_comm
theorem Zjy {K:Nat} {a b:DfaD} {w:List Nat} (h:hitK K a b=some w):isW w∧accD a w≠accD b w:=by have B:=(ZaG (nx:=Zan a b) (a:=((0,0):Int × Int)) K).2.1;obtain⟨i,hi,C,he⟩:=ZdP (d:=((0,0):Int × Int)) B h;obtain⟨h1,h2⟩:=ZpR (nx:=Zan a b) (a:=((0,0):Int × Int)) K i hi;rw[C] at h1 h2;rw[Zin] at h1;refine⟨h2,fun e => ?_⟩;unfold Zba at he;rw[← h1] at he;unfold accD den at e;simp only at he;rw[e] at he;simp at he
def shM (d:Int) (m:Int × Int × Int):Int × Int × Int:=(m.1+d,m.2.1,m.2.2+d)
def shN (n:NfaD) (d:Int):NfaD:=⟨n.states+d,n.moves.map (shM d),n.firsts.map (·+d),n.ends.map (·+d)⟩
theorem Zb3 {α β:Type} (f:α→β) {l:List α} {k:Nat} {d x:α} (hk:k<l.length) (hx:x=l.getD k d):(l.take (k+1)).map f=(l.take k).map f++[f x]:=by rw[List.take_succ_eq_append_getElem hk,List.map_append,hx];simp[hk]
def Zc0 (n:NfaD):NfaD:=⟨n.states+1,n.moves++(n.firsts.map fun t=>(n.states,-1,t))++(n.ends.map fun s=>(s,-1,n.states)),[n.states],[n.states]⟩
def Zef (p q:NfaD):NfaD:=⟨(shN q p.states).states,p.moves++(shN q p.states).moves++(p.ends.flatMap fun s=>(shN q p.states).firsts.map fun t=>(s,-1,t)),p.firsts,(shN q p.states).ends⟩
theorem ZhB (a b:DfaD):Zef (ZaL a) (ZaL b)=ZdA a b:=by
 unfold Zef ZdA shN ZaL;simp only[List.map_cons,List.map_nil];congr 1
 ·show(b.next.length:Int)+(a.next.length:Int)=_;omega
 congr 1
 generalize eds a a.next.length=l
 induction l with
 | nil=>rfl
 | cons x l B =>rw[List.flatMap_cons,List.map_cons,B];simp
theorem Zg0 (a:DfaD):Zc0 (ZaL a)=Zd0 a:=by unfold Zc0 Zd0 ZaL;simp
theorem Zrr {u v:Nat} (h:pW u=pW v):u=v:=by rw[← Zqy u,h,Zqy]
def nxV (N:Nat) (n:NfaD) (v c:Nat):Nat:=stV N n.moves v (c:Int)
theorem Zsv (N K:Nat) (n:NfaD):metW N n K=(bat (nxV N n) (fstW N n) K).met.map pW:=by have h:=ZjS (nx:=nxV N n) (nx':=nxW N n) (f:=pW) (a:=fstW N n) (fun x y h=>Zrr h) (fun x c=>(Zop N n x c).symm) K;show(bat (nxW N n) (pW (fstW N n)) K).met=_;rw[h]
def gS (v:Nat):Int × Int:=((v:Int),0)
theorem Zrv {u v:Nat} (h:gS u=gS v):u=v:=Int.ofNat.inj (congrArg Prod.fst h)
theorem Zsu (N K:Nat) (n:NfaD):metSM N n K=(bat (nxV N n) (fstW N n) K).met.map gS:=by have h:=ZjS (nx:=nxV N n) (nx':=nxSM N n) (f:=gS) (a:=fstW N n) (fun x y h=>Zrv h) (fun x c=>rfl) K;show(bat (nxSM N n) (gS (fstW N n)) K).met=_;rw[h]
theorem Zor {α β:Type} [DecidableEq α] [DecidableEq β] {f:α→β} (hf:∀ x y,f x=f y→x=y) {nx:α→Nat→α} {nx':β→Nat→β} {en:α→Bool} {en':β→Bool} (hn:∀ x c,nx' (f x) c=f (nx x c)) (he:∀ x,en' (f x)=en x) (L:List α):Zar nx' en' (L.map f)=Zar nx en L:=by
 unfold Zar;rw[List.map_map,List.map_map];congr 1
 ·refine List.map_congr_left fun x _ => ?_
  show Zai nx' (L.map f) (f x)=Zai nx L x;unfold Zai;refine List.map_congr_left fun c _ => ?_
  show((Zam (L.map f) (nx' (f x) c):Nat):Int)=_;rw[hn,Zhg fun y _ e=>hf _ _ e]
 exact List.map_congr_left fun x _=>he x
theorem Zmr (N K:Nat) (n:NfaD):ZgA N K n=detM N K n:=by
 unfold ZgA detM;rw[Zsv N K n,Zsu N K n];simp only[List.length_map]
 rw[Zor (f:=pW) (nx:=nxV N n) (nx':=nxW N n) (en:=fun v=>endV n v) (en':=enW n) (fun x y h=>Zrr h) (fun x c=>Zop N n x c) (fun x=>Zrx n x),
  Zor (f:=gS) (nx:=nxV N n) (nx':=nxSM N n) (en:=fun v=>endV n v) (en':=enS n) (fun x y h=>Zrv h) (fun x c=>rfl) (fun x=>rfl)]
end Go.Proofs.YtncekbbhgipdlaaGreat
namespace Go.Proofs.YtncekbbhgipdlaaGreat
open Go.RowKit Go.Maps
def Zde (p:Int × Int):List Int:=[p.1,p.2]
structure L16W (lo hi:Nat) (w:World) (s:Bs (Int × Int)) (vl vw:Value):Prop where
 li:OIntSS 38 3 lo hi w vl (s.met.map Zde)
 wo:w.ownsRow lo 9 1 vw s.words.length (wdCells s.words)
theorem L16W.below {lo hi:Nat} {w w':World} {s:Bs (Int × Int)} {vl vw:Value} (h:L16W lo hi w s vl vw) (hb:Below w.heap.size w w'):L16W lo hi w' s vl vw :=
 ⟨h.li.below hb,(Own.below (Zab h.wo) hb).1⟩
theorem L16W.up {lo hi hi':Nat} {w:World} {s:Bs (Int × Int)} {vl vw:Value} (h:L16W lo hi w s vl vw) (hh:hi≤hi'):L16W lo hi' w s vl vw:=⟨h.li.mono (Nat.le_refl _) hh,h.wo⟩
theorem L16W.row {lo hi:Nat} {w:World} {s:Bs (Int × Int)} {vl vw:Value} (h:L16W lo hi w s vl vw) (h0:0<s.met.length):∃ g off cap,vl = .slice (some ⟨g,off,none⟩) s.met.length cap∧s.met.length≤cap∧cap≤9223372036854775807∧g<w.heap.size ∧
  ∀ k,k<s.met.length→∃ E H F,w.cell? ⟨g,off+k,none⟩=some (.slice (some ⟨E,H,none⟩) 2 F)∧2≤F∧F≤9223372036854775807∧E<w.heap.size∧w.cell? ⟨E,H,none⟩=some (.int .i64 (s.met.getD k (0,0)).1)∧w.cell? ⟨E,H+1,none⟩=some (.int .i64 (s.met.getD k (0,0)).2):=by
 obtain⟨a,cap,I,h1,h2,h3⟩:=h.li.intSS.form;rw[List.length_map] at I h1 h3;obtain⟨g,off,rfl,-,L,hc⟩:=h3 h0;refine⟨g,off,cap,I,h1,h2,L,fun k hk => ?_⟩;obtain⟨M,cap',B,hl,hm,hr⟩:=hc k hk;have e:(s.met.map Zde).getD k []=Zde (s.met.getD k (0,0)):=by simp[hk]
 rw[e] at B hl hr;obtain⟨J,C,rfl,-,G,D⟩:=hr (by simp[Zde]);exact⟨J,C,cap',B,hl,hm,G,by simpa [Zde] using D 0 (by simp[Zde]),by simpa [Zde] using D 1 (by simp[Zde])⟩
theorem L16W.word {lo hi:Nat} {w:World} {s:Bs (Int × Int)} {vl vw:Value} (h:L16W lo hi w s vl vw) (h0:0<s.words.length):∃ g cap,vw = .slice (some ⟨g,0,none⟩) s.words.length cap∧s.words.length≤cap∧cap≤9223372036854775807∧g<w.heap.size ∧
  ∀ k,k<s.words.length→w.cell? ⟨g,k,none⟩=some (.string (wdB (s.words.getD k []))):=by
 obtain⟨a,cap,D,h1,h2,h3⟩:=(Own.sl (Zab h.wo) (by omega)).form;obtain⟨g,cap',C,E,B⟩:=h.wo.form h0;subst C;simp only[Value.slice.injEq,true_and] at D;obtain⟨rfl,rfl⟩:=D;refine⟨g,cap',rfl,h1,h2,B,fun k hk => ?_⟩;rw[h.wo.cellAt k (by omega)];simp[hk]
theorem Zjp (K:Nat) (hK:K=1600) (a b:DfaD) (v1 v2:Value) (w:World) (hda:Zac a.next a.ends=true) (hdb:Zac b.next b.ends=true) (h1:DfaR 0 w v1 a) (h2:DfaR 0 w v2 b) :
  Calls Tryz.prog 79 #[v1,v2,.int .i64 3] w fun e w'=>e=ZaQ (hitK K a b)∧Below w.heap.size w w':=by
 obtain⟨u1,u2,rfl,g1,g2⟩:=h1;obtain⟨u3,u4,rfl,g3,g4⟩:=h2;obtain⟨a1,c1,rfl,jS,jW,eZ⟩:=g1.formI;obtain⟨a2,c2,rfl,jG,jM,fA⟩:=g2.form;obtain⟨a3,c3,rfl,hc3,jY,fG⟩:=g3.formI;obtain⟨a4,c4,rfl,jP,jX,gE⟩:=g4.form;have dN:=qh (fun i hi=>ZaM hda (i:=i) hi);have dR:=qh (fun i hi=>ZaM hdb (i:=i) hi);have eM:=Zaf hda;have fS:=Zaf hdb;obtain⟨s0,fN,eP,dM,dP⟩:=info_parts Tryz.infoStr;obtain⟨i0,fQ,gF,fP,gG⟩:=info_parts Tryz.infoInts;have hP:=qh (fun k=>ZbA (nx:=Zan a b) (a:=(0,0)) (Q:=fun x=>ZbG a b x=true) (Zci hda hdb) (fun x c hc hx=>Zcj hda hdb hc hx) k);have dC:=qh (fun k=>Zfg hda hdb k);clear g1 g2 g3 g4;replace hda:=qh hda;have iJ:=qh hdb;clear hdb;have fY:=qh eZ;clear eZ;have eQ:=qh fA;clear fA;have gM:=qh fG;clear fG;have eD:=qh gE;clear gE;have bD:=qh eM;clear eM;have aZ:=qh fS;clear fS;have fJ:=qh fN;clear fN;have fH:=qh eP;clear eP;have gO:=qh dM;clear dM;have fB:=qh dP;clear dP;have gR:=qh fQ;clear fQ;have fO:=qh gF;clear gF;have eS:=qh fP;clear fP;have eN:=qh gG;clear gG;replace hK:=qh hK
 go_enter Tryz.func79, Tryz.ntmps79
 go_wp2
 go_loopw [6,7,8,9,10] (fun r1 r2 vl vw i wr=>∃ k:Nat,i = .int .i64 k∧k≤(bat (Zan a b) (0,0) k).met.length∧(∀ j,j<k→Zba (fun x y=>x != y) a b ((bat (Zan a b) (0,0) k).met.getD j (0,0))=false)∧Below w.heap.size w wr ∧
   Bx wr w.heap.size #[.slice a1 a.next.length c1,.slice a2 a.ends.length c2] 44 ∧ Bx wr (w.heap.size+1) #[.slice a3 b.next.length c3,.slice a4 b.ends.length c4] 44 ∧ L16W (w.heap.size+2) wr.heap.size wr (bat (Zan a b) (0,0) k) vl vw)
  (fun _ _ _ _ i _=>1601-(intOf i).toNat)
 case atStart =>
  have r0:=(((((Bx.new w #[.slice a1 a.next.length c1,.slice a2 a.ends.length c2] 44).alloc (.cells #[.slice a3 b.next.length c3,.slice a4 b.ends.length c4] 44)).alloc (.cells #[.int .i64 0,.int .i64 0] 3)).alloc (.cells #[.slice (some ⟨w.heap.size+1+1,0,none⟩) 2 2] 38)).alloc (.cells #[.string { data:=#[] }] 9));have r1:=((((Bx.new (w.alloc (.cells #[.slice a1 a.next.length c1,.slice a2 a.ends.length c2] 44)) #[.slice a3 b.next.length c3,.slice a4 b.ends.length c4] 44).alloc (.cells #[.int .i64 0,.int .i64 0] 3)).alloc (.cells #[.slice (some ⟨w.heap.size+1+1,0,none⟩) 2 2] 38)).alloc (.cells #[.string { data:=#[] }] 9));have r2:=((Bx.new ((w.alloc (.cells #[.slice a1 a.next.length c1,.slice a2 a.ends.length c2] 44)).alloc (.cells #[.slice a3 b.next.length c3,.slice a4 b.ends.length c4] 44)) #[.int .i64 0,.int .i64 0] 3).alloc (.cells #[.slice (some ⟨w.heap.size+1+1,0,none⟩) 2 2] 38)).alloc (.cells #[.string { data:=#[] }] 9);have r3:=(Bx.new (((w.alloc (.cells #[.slice a1 a.next.length c1,.slice a2 a.ends.length c2] 44)).alloc (.cells #[.slice a3 b.next.length c3,.slice a4 b.ends.length c4] 44)).alloc (.cells #[.int .i64 0,.int .i64 0] 3)) #[.slice (some ⟨w.heap.size+1+1,0,none⟩) 2 2] 38).alloc (.cells #[.string { data:=#[] }] 9)
  have r4:=Bx.new ((((w.alloc (.cells #[.slice a1 a.next.length c1,.slice a2 a.ends.length c2] 44)).alloc (.cells #[.slice a3 b.next.length c3,.slice a4 b.ends.length c4] 44)).alloc (.cells #[.int .i64 0,.int .i64 0] 3)).alloc (.cells #[.slice (some ⟨w.heap.size+1+1,0,none⟩) 2 2] 38)) #[.string { data:=#[] }] 9;simp only[World.size_alloc] at r0 r1 r2 r3 r4;have bU:=(((((Below.refl w.heap.size w).alloc (Nat.le_refl _) (.cells #[.slice a1 a.next.length c1,.slice a2 a.ends.length c2] 44)).alloc (by simp) (.cells #[.slice a3 b.next.length c3,.slice a4 b.ends.length c4] 44)).alloc (by simp;omega) (.cells #[.int .i64 0,.int .i64 0] 3)).alloc (by simp;omega) (.cells #[.slice (some ⟨w.heap.size+1+1,0,none⟩) 2 2] 38)).alloc (by simp;omega) (.cells #[.string { data:=#[] }] 9);refine⟨0,rfl,by simp[bat],fun j hj=>absurd hj (by omega),bU,r0,r1,⟨[.slice (some ⟨w.heap.size+1+1,0,none⟩) 2 2],?_,fun i hi => ?_,fun i j' k' hij gJ => ?_⟩,?_⟩
  ·exact Zab (Zcz (cs:=[.slice (some ⟨w.heap.size+1+1,0,none⟩) 2 2]) r3 rfl (by omega) (by unfold maxLen;omega))
  ·simp only[bat,List.map_cons,List.map_nil,List.length_singleton] at hi;obtain rfl:i=0:=by omega
   exact Zab (Zcz (cs:=[.int .i64 0,.int .i64 0]) r2 rfl (by omega) (by unfold maxLen;omega))
  ·simp only[bat,List.map_cons,List.map_nil,List.length_singleton] at gJ;omega
  exact Zcz (cs:=[.string { data:=#[] }]) r4 rfl (by omega) (by unfold maxLen;omega)
 case round =>
  obtain⟨k,rfl,hk,dX,hb,bZ,bY,hl⟩:=hrel;obtain⟨S,hS⟩:=eI (bat (Zan a b) (0,0) k);have F:=ZaG (nx:=Zan a b) (a:=(0,0)) k;have hR:=hP.o k;have fR:=dC.o k;unfold metP at fR;rw[← hS] at hk dX hl F hR fR;have eJ:0<S.met.length:=by rw[hS];exact ZcZ k
  obtain⟨g,off,cap,rfl,hU,jI,jO,bJ⟩:=hl.row eJ;obtain⟨gw,cw,rfl,gX,iB,iX,eA⟩:=hl.word (by rw[F.2.1];exact eJ);rw[F.2.1] at gX eA hl;rw[F.2.1];obtain⟨wo,hI⟩:∃ wo:World,wo=wr:=⟨_,rfl⟩;subst hI;have x0:=bZ.cell 1;have x1:=bY.cell 1;have x2:=bZ.cell 0;have x3:=bY.cell 0;simp only[w_5,w_6,w_7] at x0 x1 x2 x3;have hG:=qh hl;clear hl;have bC:=qh hb;clear hb;have G:=qh hS;clear hS;have bO:=qh dX;clear dX;have aR:=qh F;clear F;have hQ:=qh hR;clear hR;have cQ:=qh bZ;clear bZ;have cR:=qh bY;clear bY;by_cases hlt:k<S.met.length
  ·obtain⟨rb,ro,rc,eB,iM,iI,bQ,aA,aB⟩:=bJ k hlt;obtain⟨i,j,hp,hi,hj⟩:=Zbf (hQ.o _ (memD (d:=(0,0)) hlt));rw[hp] at aA aB;simp only at aA aB;have cJ:=eA k hlt;obtain⟨wd,dK⟩:=eI (S.words.getD k []);rw[← dK] at cJ;obtain⟨q2,o2,rfl,-,fV,cZ⟩:=eQ.o (by have:=bD.o;omega);obtain⟨q4,o4,rfl,-,eL,cU⟩:=eD.o (by have:=aZ.o;omega);have gD:=(bcell bC.o q2 (o2+i) fV).trans (cZ i (by have:=bD.o;omega));have fE:=(bcell bC.o q4 (o4+j) eL).trans (cU j (by have:=aZ.o;omega));obtain⟨ea,cA⟩:=eI (a.ends.getD i false);obtain⟨eb,cL⟩:=eI (b.ends.getD j false);rw[← cA] at gD;rw[← cL] at fE;have jB:(i:Int)<a.ends.length:=by have:=bD.o;omega
   have jD:(j:Int)<b.ends.length:=by have:=aZ.o;omega
   have eH:(k:Int)<S.met.length:=by omega
   have bH:Zba (fun x y=>x != y) a b (S.met.getD k (0,0))=(ea != eb):=by rw[hp,cA,cL];rfl
   have fI:=qh hp;clear hp;have aQ:=qh dK;clear dK;have hW:=qh cA;clear cA;have hV:=qh cL;clear cL;have aG:=qh bH;clear bH;clear cZ cU bJ eA;by_cases hee:ea=eb
   ·have g1:(ea != eb)=false:=by simpa using hee
    have g2:(!(ea==eb))=false:=by simpa using hee
    have cS:=qh hee;clear hee;go_wp2
    go_quiet (fail)
    go_wp2
    go_quiet (fail)
    go_wp2
    go_loopw [8,9,13] (fun vl vw i wi=>∃ n:Nat,i = .int .i64 n∧n≤3∧Below w.heap.size w wi∧Bx wi w.heap.size #[.slice a1 a.next.length c1,.slice (some ⟨q2,o2,none⟩) a.ends.length c2] 44 ∧ Bx wi (w.heap.size+1) #[.slice a3 b.next.length c3,.slice (some ⟨q4,o4,none⟩) b.ends.length c4] 44 ∧ L16W (w.heap.size+2) wi.heap.size wi (bpart (Zan a b) (0,0) k n) vl vw)
     (fun _ _ i _=>3-(intOf i).toNat)
    case atStart =>
     have cH:=fun m=>below_drewN (Below.refl wo.heap.size wo) m
     exact⟨0,rfl,by omega,below_drewN bC.o _,cQ.o.below (cH _) cQ.o.lt,cR.o.below (cH _) cR.o.lt,by rw[Zap,← G.o];exact(hG.o.below (cH _)).up (cH _).size⟩
    case round =>
     obtain⟨n,rfl,hn,I,bS,bM,hli⟩:=hrel;have aJ:k<(bat (Zan a b) (0,0) k).met.length:=by rw[← G.o];exact hlt
     have dV:(bat (Zan a b) (0,0) k).met.getD k (0,0)=((i:Int),(j:Int)):=by rw[← G.o];exact fI.o
     obtain⟨r,hD⟩:∃ r:World,r=wr:=⟨_,rfl⟩;subst hD;clear x0 x1 x2 x3 gD fE eB aA aB cJ;by_cases hn3:n<3
     ·have aY:=Zb2 aJ hn;have hM:(bpart (Zan a b) (0,0) k n).met.length≤1600:=Nat.le_trans (ZaF aJ hn (show k<k+1 by omega)).1.length_le (dC.o (k+1));have hle:=Za7 (nx:=Zan a b) (a:=(0,0)) (k:=k) (Nat.zero_le n);rw[Zap,← G.o] at hle;have X:=Zbp (nx:=Zan a b) (a:=(0,0)) (k:=k) (n:=n);have H:=Zbi (nx:=Zan a b) (a:=(0,0)) (k:=k) (n:=n);rw[dV] at X H;rw[← G.o,← aQ.o] at H;obtain⟨T,hT⟩:=eI (bpart (Zan a b) (0,0) k n);rw[← hT] at hli X H aY hM hle;have fU:k<T.met.length:=Nat.lt_of_lt_of_le hlt hle.1.length_le;have dI:T.met.getD k (0,0)=((i:Int),(j:Int)):=(Zas hle.1 hlt _).trans fI.o;have dE:T.words.getD k []=wd:=(Zas hle.2 (by rw[aR.o.2.1];exact hlt) _).trans aQ.o.symm;obtain⟨g',eK,cap',rfl,hL,iN,fM,R⟩:=hli.row (by omega);obtain⟨aW,jZ,rfl,gL,hB,hJ,aE⟩:=hli.word (by rw[aY.2.1];omega);rw[aY.2.1] at gL aE hli;rw[aY.2.1];have cJ:=aE k fU;rw[dE] at cJ;obtain⟨dQ,dZ,hE,eB,gU,gZ,iK,aA,aB⟩:=R k fU;rw[dI] at aA aB;simp only at aA aB;have x2:=bS.cell 0;have x3:=bM.cell 0;simp only[w_5,w_6] at x2 x3;obtain⟨q1,o1,rfl,-,gS,cX⟩:=fY.o (by omega);obtain⟨q3,o3,rfl,-,eW,dA⟩:=gM.o (by omega);obtain⟨r1,s1,hc1',cV,iY,dY⟩:=cX i hi;obtain⟨r3,s3,aF,dB,iZ,dL⟩:=dA j hj;obtain⟨cG,gW⟩:=dN.o i hi;obtain⟨cE,gY⟩:=dR.o j hj;obtain⟨ra,cM⟩:=eI (a.next.getD i []);obtain⟨rb,bQ⟩:=eI (b.next.getD j [])
      rw[← cM] at hc1' cV dY cG;rw[← bQ] at aF dB dL cE;obtain⟨_,_,eT,-,-,hC⟩:=dY.form;obtain⟨_,_,fK,-,-,hN⟩:=dL.form;simp only[Value.slice.injEq,true_and] at eT fK;obtain⟨rfl,rfl⟩:=eT;obtain⟨rfl,rfl⟩:=fK;obtain⟨z1,t1,rfl,-,eO,bX⟩:=hC (by omega);obtain⟨z3,t3,rfl,-,fC,fW⟩:=hN (by omega);rw[cG] at hc1' cV;rw[cE] at aF dB;have k1:=(bcell I q1 (o1+i) gS).trans hc1';have k3:=(bcell I q3 (o3+j) eW).trans aF;have k2:=(bcell I z1 (t1+n) eO).trans (bX n (by omega));have k4:=(bcell I z3 (t3+n) fC).trans (fW n (by omega));obtain⟨ta,cD⟩:=eI (ra.getD n 0);obtain⟨Z,cI⟩:=eI (rb.getD n 0);rw[← cD] at k2;rw[← cI] at k4;have aC:Zan a b ((i:Int),(j:Int)) n=(ta,Z):=by simp only[Zan,Int.toNat_natCast,← cM,← bQ,← cD,← cI]
      rw[aC] at X H;have jE:(i:Int)<a.next.length:=by omega
      have jR:(j:Int)<b.next.length:=by omega
      have kA:(n:Int)<3:=by omega
      have iS:(k:Int)<T.met.length:=by omega
      have jJ:=I.size;have jC:=qh hT;clear hT;have dG:=qh X;clear X;have dS:=qh H;clear H;have eU:=qh aY;clear aY;have iW:=qh hle;clear hle;have hX:=qh dI;clear dI;have gB:=qh dE;clear dE;have bN:=qh hli;clear hli;have aM:=qh I;clear I;have aI:=qh bS;clear bS;have z:=qh bM;clear bM;have iV:=qh cM;clear cM;have iL:=qh bQ;clear bQ;have iH:=qh cD;clear cD;have iG:=qh cI;clear cI;have gT:=qh aC;clear aC;have bR:=qh R;clear R;have gV:=qh aE;clear aE;have iF:=qh dV;clear dV;have iR:=qh cG;clear cG;have iD:=qh cE;clear cE;clear cX dA bX fW hc1' aF dY dL gW gY;go_wp2
      go_region_held3 (fun w'=>w'.cell? ⟨w.heap.size,0,none⟩=some (.slice (some ⟨q1,o1,none⟩) a.next.length c1)∧w'.cell? ⟨w.heap.size+1,0,none⟩=some (.slice (some ⟨q3,o3,none⟩) b.next.length c3)∧w'.cell? ⟨q1,o1+i,none⟩=some (.slice (some ⟨z1,t1,none⟩) 3 s1)∧w'.cell? ⟨q3,o3+j,none⟩=some (.slice (some ⟨z3,t3,none⟩) 3 s3)∧w'.cell? ⟨z1,t1+n,none⟩=some (.int .i64 ta)∧w'.cell? ⟨z3,t3+n,none⟩=some (.int .i64 Z) ∧
        w'.cell? ⟨g',eK+k,none⟩=some (.slice (some ⟨dQ,dZ,none⟩) 2 hE)∧w'.cell? ⟨dQ,dZ,none⟩=some (.int .i64 i)∧w'.cell? ⟨dQ,dZ+1,none⟩=some (.int .i64 j))
       (first|go_keep) (fail)
      obtain⟨w3,aX⟩:=eI ((r.alloc (.cells #[.int .i64 ta,.int .i64 Z] 3)).drew);have gQ:Below r.heap.size r w3:=by rw[aX];exact((Below.refl _ _).alloc (Nat.le_refl _) _).drew
      have x5:Bx w3 r.heap.size #[.int .i64 ta,.int .i64 Z] 3:=by rw[aX];exact(Bx.new r _ _).drew
      have jV:r.heap.size<w3.heap.size:=by rw[aX];simp
      rw[← aX];have iQ:=qh aX;clear aX;have cP:=qh gQ;clear gQ;have cK:=qh x5;clear x5;clear k1 k2 k3 k4 eB aA aB x2 x3;go_wp2
      go_loopw [15,16] (fun f jj wj=>∃ m:Nat,jj = .int .i64 m∧m≤T.met.length∧(∃ fb:Bool,f = .bool fb∧fb = !decide ((ta,Z)∈T.met.take m))∧Below w3.heap.size w3 wj) (fun _ jj _=>T.met.length-(intOf jj).toNat)
      case atStart=>exact⟨0,rfl,Nat.zero_le _,⟨true,rfl,by simp⟩,Below.refl _ _⟩
      case round =>
       obtain⟨m,rfl,hm,⟨fb,rfl,M⟩,N⟩:=hrel;have B:Below r.heap.size r wr:=cP.o.trans (N.mono cP.o.size);by_cases hmT:m<T.met.length
       ·obtain⟨rm,om,jL,hr0,hZ,iT,cN,aU,aL⟩:=bR.o m hmT;replace hr0:=(bcell B g' _ fM).trans hr0;replace aU:=(bcell B rm _ cN).trans aU;replace aL:=(bcell B rm _ cN).trans aL;have y5:=cK.o.below N cK.o.lt;have e0:=y5.cell 0;have e1:=y5.cell 1;simp only[w_5,w_6,w_7] at e0 e1;obtain⟨p,cC⟩:=eI (T.met.getD m (0,0));rw[← cC] at aU aL;obtain⟨xm,ym⟩:=p;simp only at aU aL;have gN:T.met.take (m+1)=T.met.take m++[(xm,ym)]:=by rw[List.take_succ_eq_append_getElem hmT,← Zbg (d:=(0,0)) hmT,← cC]
        have iC:(m:Int)<T.met.length:=by omega
        have hY:=qh cC;clear cC;have aO:=qh gN;clear gN;have bP:=qh M;clear M;have l:=qh N;clear N;have bA:=qh B;clear B;have jQ:=qh y5;clear y5;have aK:=qh (fun (b':Bool) (h:b' = !decide ((ta,Z)∈T.met.take (m+1))) (q:Nat)=>(show(∃ m':Nat,Value.int .i64 ((m:Int)+1) = .int .i64 (m':Int)∧m'≤T.met.length∧(∃ fb:Bool,Value.bool b' = .bool fb∧fb = !decide ((ta,Z)∈T.met.take m'))∧Below w3.heap.size w3 (wr.drewN q)) from⟨m+1,by go_num,by omega,⟨b',rfl,h⟩,below_drewN l.o _⟩));cases fb
        ·go_wp2
         go_quiet (fail)
         go_wp2;go_roundw
         case rel =>
          refine aK.o false ?_ _;have h1:(ta,Z)∈T.met.take m:=by have:=bP.o;simpa using this.symm
          rw[aO.o];simp[h1]
         case measure=>simp[intOf];omega
        by_cases hxe:xm=ta
        ·subst hxe;by_cases hye:ym=Z
         ·subst hye;go_wp2
          go_quiet (fail)
          go_wp2;go_roundw
          case rel=>exact aK.o false (by rw[aO.o];simp) _
          case measure=>simp[intOf];omega
         have bX:(ym != Z)=true:=by simpa using hye
         have hA:(!(ym==Z))=true:=by simpa using hye
         have gA:=qh hye;clear hye;go_wp2
         go_quiet (fail)
         go_wp2;go_roundw
         case rel =>
          refine aK.o true ?_ _;have h1:¬ (xm,Z)∈T.met.take m:=by have:=bP.o;simpa using this.symm
          rw[aO.o];simp[h1,Ne.symm gA.o]
         case measure=>simp[intOf];omega
        have bX:(xm != ta)=true:=by simpa using hxe
        have hA:(!(xm==ta))=true:=by simpa using hxe
        have eX:=qh hxe;clear hxe;go_wp2
        go_quiet (fail)
        go_wp2;go_roundw
        case rel =>
         refine aK.o true ?_ _;have h1:¬ (ta,Z)∈T.met.take m:=by have:=bP.o;simpa using this.symm
         rw[aO.o];simp[h1,Ne.symm eX.o]
        case measure=>simp[intOf];omega
       obtain rfl:m=T.met.length:=by omega
       rw[List.take_length] at M;have O:Below w.heap.size w wr:=aM.o.trans (B.mono aM.o.size);have aV:=aI.o.below B aI.o.lt;have aP:=z.o.below B z.o.lt;have hlj:=bN.o.below B;have jH:=N.size;by_cases hmem:(ta,Z)∈T.met
       ·rw[decide_eq_true hmem] at M;have eE:=dG.o hmem;simp only[Bool.not_true] at M;subst M;have fL:=qh eE;clear eE;have dH:=qh hmem;clear hmem;have l:=qh N;clear N;have bA:=qh B;clear B;replace O:=qh O;have L:=qh aV;clear aV;have P:=qh aP;clear aP;have aS:=qh hlj;clear hlj;go_wp2;go_roundw
        case rel=>exact⟨n+1,by go_num,by omega,O.o,L.o,P.o,by rw[fL.o];exact aS.o.up (by omega)⟩
        case measure=>simp[intOf];omega
       rw[decide_eq_false hmem] at M;have fZ:=dS.o hmem;simp only[Bool.not_false] at M;subst M;have eR:=qh fZ;clear fZ;have dH:=qh hmem;clear hmem;have l:=qh N;clear N;have bA:=qh B;clear B;replace O:=qh O;have L:=qh aV;clear aV;have P:=qh aP;clear aP;have aS:=qh hlj;clear hlj;have dJ:=(Below.refl wr.heap.size wr).alloc (Nat.le_refl _) (.cells #[.slice (some ⟨r.heap.size,0,none⟩) 2 2] 38);obtain⟨vs,dU,eY,eG⟩:=(aS.o.below dJ).li;have bB:=dU.1;rw[List.length_map] at bB;have aN:=qh dJ;clear dJ;have gH:=qh dU;clear dU;have fX:=qh eY;clear eY;have fT:=qh eG;clear eG;have aD:=qh bB;clear bB;go_wp2_with (at_builtin;refine wpList_append_lies _ rfl _ _ _ rfl (w.heap.size+2) 38 i0 (.slice none 0 0) 1 24 Tryz.underlying41 gR.o fO.o eS.o eN.o rfl (by omega) _ T.met.length _ rfl aD.o ⟨wr.heap.size,0,none⟩ 1 1 [.slice (some ⟨r.heap.size,0,none⟩) 2 2] rfl rfl (World.news_of_block (heap_alloc_new wr _)) (by intro u hu;simp at hu;subst hu;rfl) (by omega) (by unfold maxLen;omega) (by omega) (by have:=O.o.size;simp;omega) _ rfl ?_;intro g4 c4 J bE aH fD bF;have dO:=qh bE;have D:=qh (show(wr.alloc (.cells #[.slice (some ⟨r.heap.size,0,none⟩) 2 2] 38)).grownBy J _ from aH);clear bE aH fD)
       have dD:∀ e,38 ≠ e→ZbF (wr.alloc (.cells #[.slice (some ⟨r.heap.size,0,none⟩) 2 2] 38)) _ e:=fun e he=>Zah aD.o he
       have cY:OIntSS 38 3 (w.heap.size+2) J.heap.size J (.slice (some ⟨g4,0,none⟩) (T.met.length+1) c4) (T.met.map Zde++[[ta,Z]]):=by refine OIntSS.snoc gH.o fX.o fT.o (lr:=r.heap.size) (hr:=(wr.alloc (.cells #[.slice (some ⟨r.heap.size,0,none⟩) 2 2] 38)).heap.size) (rv:=.slice (some ⟨r.heap.size,0,none⟩) 2 2) ?_ (Nat.le_refl _) (by have:=z.o.lt;omega) (by decide) D.o (by rw[List.length_map];exact dO.o);have hx:=(cK.o.below l.o cK.o.lt).below aN.o (by have:=l.o.size;omega);exact Zab (Zcz (cs:=[.int .i64 ta,.int .i64 Z]) hx rfl (Nat.le_refl _) (by unfold maxLen;omega))
       have Y:=Zad (aS.o.below aN.o).wo D.o (dD _ (by decide));have cW:=(L.o.below aN.o L.o.lt).grown D.o (dD _ (by decide));have cO:=(P.o.below aN.o P.o.lt).grown D.o (dD _ (by decide));have cB:Below w.heap.size w J:=(O.o.alloc O.o.size _).grown D.o (Nat.le_trans O.o.size (by simp)) (fun j hj=>Nat.le_trans (Nat.le_add_right _ 2) (World.ownsRow.lt aD.o j hj).1);have dT:T.words.length=T.met.length:=eU.o.2.1;rw[dT] at Y;have fF:J.cell? ⟨aW,k,none⟩=some (.string (wdB wd)):=by rw[Y.cellAt k (by omega),← gB.o];simp[show k<T.words.length by omega]
       have bF:aW<J.heap.size:=(Y.lt aW rfl).2;have dM:(wdB wd).size≤100000:=by have:=Zew (nx:=Zan a b) (a:=(0,0)) k wd (by rw[aQ.o,G.o];exact memD (by rw[(ZaG k).2.1];exact aJ));rw[Zep];omega
       have dP:(wdB [n]).size≤100:=by rw[Zep];simp
       have iP:IntKind.i64.wrap (97+(n:Int))=97+(n:Int):=IntWalk.i64_in _ (by omega);have dF:=qh cY;clear cY;have bV:=qh Y;clear Y;have C:=qh cW;clear cW;have bT:=qh cO;clear cO;replace cB:=qh cB;have gC:=qh dT;clear dT;have jU:=Zf4 n hn3;have b1:=(Below.refl J.heap.size J).alloc (Nat.le_refl _) (.cells #[.int .u8 (97+(n:Int))] 5);have b2:=b1.alloc (by simp) (.cells #[.string (wdB wd++wdB [n])] 9);have jK:=ZhM n hn3 (J.alloc (.cells #[.int .u8 (97+(n:Int))] 5)).drew J.heap.size 1 (Zex _ _ _ 0);have jT:(J.alloc (.cells #[.int .u8 (97+(n:Int))] 5)).drew.cell? ⟨aW,k,none⟩=some (.string (wdB wd)):=(bcell b1 _ _ bF).trans fF;have jF:((J.alloc (.cells #[.int .u8 (97+(n:Int))] 5)).alloc (.cells #[.string (wdB wd++wdB [n])] 9)).drew.cell? ⟨aW,k,none⟩=some (.string (wdB wd)):=(bcell b2 _ _ bF).trans fF;have cT:((J.alloc (.cells #[.int .u8 (97+(n:Int))] 5)).alloc (.cells #[.string (wdB wd++wdB [n])] 9)).drew.ownsRow (w.heap.size+2) 9 1 _ T.met.length (wdCells T.words):=(Own.below (Zab bV.o) b2.drew).1;have hF:=(C.o.below b2.drew C.o.lt).cell 0
       have gK:((J.alloc (.cells #[.int .u8 (97+(n:Int))] 5)).alloc (.cells #[.string (wdB wd++wdB [n])] 9)).drew.heap[J.heap.size+1]? = some (.cells #[.string (wdB wd++wdB [n])] 9 (0,0)):=by have:=heap_alloc_new (J.alloc (.cells #[.int .u8 (97+(n:Int))] 5)) (.cells #[.string (wdB wd++wdB [n])] 9);simp only[World.size_alloc] at this;exact this
       have hH:=C.o.cell 0;simp only[w_5,w_6] at hF hH;have iE:w.heap.size+2≤J.heap.size:=by have:=(bV.o.lt aW rfl).1;omega
       replace b1:=qh b1;have bW:=qh b2;clear b2;have V:=qh cT;clear cT;have gI:=qh gK;clear gK;have iU:∀ w':World,(Op.stringOp .add (wdB wd) (wdB [n])).run Tryz.prog w' = .ok (.string (wdB wd++wdB [n])) w':=fun w'=>run_string_add_sum w' _ _ (by omega)
       have iA:¬ 9223372036854775807<(wdB wd).size+(wdB [n]).size:=by omega
       go_region_law (first|(refine step_append_lies _ (by rfl) _ _ _ (by rfl) (w.heap.size+2) 9 s0 (.string { data:=#[] }) 1 16 Tryz.underlying88 fJ.o fH.o gO.o fB.o (by rfl) (by omega) _ T.met.length (wdCells T.words) (by rfl) V.o ⟨J.heap.size+1,0,none⟩ 1 1 [.string (wdB wd++wdB [n])] (by rfl) (by rfl) (World.news_of_block gI.o) (by intro u hu;simp at hu;subst hu;rfl) (by omega) (by unfold maxLen;omega) (by omega) (by simp;omega) _ (by rfl) ?_;intro g7 c7 w7 bG U gP iO;have jA:w7.cell? ⟨w.heap.size,0,none⟩=some (.slice (some ⟨q1,o1,none⟩) a.next.length c1):=(((C.o.below bW.o.drew C.o.lt).grown U (Zah V.o (by decide))).cell 0);have dW:=qh bG;have E:=qh U;clear bG U gP))
       all_goals
        go_wp2;go_roundw
        case rel =>
         have cF:∀ e,9 ≠ e→ZbF ((J.alloc (.cells #[.int .u8 (97+(n:Int))] 5)).alloc (.cells #[.string (wdB wd++wdB [n])] 9)).drew _ e:=fun e he=>Zah V.o he
         have hO:=((dF.o.below bW.o.drew).grown E.o (cF _ (by decide)) (cF _ (by decide))).mono (hi':=w7.heap.size) (Nat.le_refl _) (by have:=E.o.size;simp at this;omega);have eV:Below w.heap.size w w7:=(cB.o.trans (bW.o.drew.mono cB.o.size)).grown E.o (by simp;omega) (fun j hj=>Nat.le_trans (Nat.le_add_right _ 2) (World.ownsRow.lt V.o j hj).1);have bI:=(C.o.below bW.o.drew C.o.lt).grown E.o (cF _ (by decide));have bK:=(bT.o.below bW.o.drew bT.o.lt).grown E.o (cF _ (by decide))
         have eF:L16W (w.heap.size+2) w7.heap.size w7 ⟨T.met++[(ta,Z)],T.words++[wd++[n]]⟩ (.slice (some ⟨g4,0,none⟩) (T.met.length+1) c4) (.slice (some ⟨g7,0,none⟩) (T.met.length+1) c7):=by
          refine⟨?_,?_⟩
          ·simp only[List.map_append,List.map_cons,List.map_nil];exact hO
          have h:=dW.o;simp only[List.length_append,List.length_singleton,gC.o,wdCells,List.map_append,List.map_cons,List.map_nil,ZiU];exact h
         have eC:=(Below.refl w7.heap.size w7).drew;refine⟨n+1,by go_num,by omega,?_,?_,?_,?_⟩
         ·first|exact eV|exact eV.drew
         ·first|exact bI|exact bI.below eC bI.lt
         ·first|exact bK|exact bK.below eC bK.lt
         rw[eR.o]
         first|exact eF|exact eF.below eC
        case measure=>simp[intOf];omega
     obtain rfl:n=3:=by omega
     have aM:=qh I;clear I;have aI:=qh bS;clear bS;have z:=qh bM;clear bM;have bN:=qh hli;clear hli;go_wp2;go_roundw
     case rel =>
      have bU:=ZaP aJ;have hle:=Za7 (nx:=Zan a b) (a:=(0,0)) (k:=k) (Nat.zero_le 3);rw[Zap,← G.o] at hle;have jN:=hle.1.length_le;refine⟨k+1,by go_num,by rw[bU];omega,fun j' gJ => ?_,aM.o,aI.o,z.o,by rw[bU];exact bN.o⟩;rw[bU,Zas hle.1 (by omega)];by_cases hjk:j'<k
      ·exact bO.o j' hjk
      obtain rfl:j'=k:=by omega
      rw[aG.o,cS.o];simp
     case measure=>simp[intOf];omega
   have g1:(ea != eb)=true:=by simpa using hee
   have g2:(!(ea==eb))=true:=by simpa using hee
   have aT:=aG.o.trans g1;have bL:=qh aT;clear aT;have cS:=qh hee;clear hee;go_wp2
   go_quiet (fail)
   go_wp2
   go_quiet (fail)
   go_wp2
   go_ret2
   refine⟨?_,below_drewN bC.o _⟩;unfold hitK;rw[ZeX (s:=S) (d:=(0,0)) (by rw[G.o];exact ZdY (by have:=hK.o;omega)) aR.o.2.1 (ZaG _).2.1 hlt bO.o bL.o,← aQ.o];rfl
  go_wp2
  go_ret2
  have eH:k=S.met.length:=by omega
  refine⟨?_,bC.o⟩;unfold hitK;rw[Zbc (k:=k) (by rw[← G.o];omega) (by have:=hK.o;omega),← G.o,ZdQ (d:=(0,0)) (by rw[← eH];exact bO.o)];rfl
theorem Zkr (a b:DfaD) (v1 v2:Value) (w:World) (hda:Zac a.next a.ends=true) (hdb:Zac b.next b.ends=true) (h1:DfaR 0 w v1 a) (h2:DfaR 0 w v2 b) :
  Calls Tryz.prog 79 #[v1,v2,.int .i64 3] w fun e w'=>e=ZaQ (hitP a b)∧Below w.heap.size w w':=Zjp Zhq rfl a b v1 v2 w hda hdb h1 h2
def fdO (a b:DfaD):Option (List Nat):=if (Zac a.next a.ends&&Zac b.next b.ends)=true then hitP a b else none
theorem ZeK (a b:DfaD) (v1 v2:Value) (w:World) (h1:DfaR 0 w v1 a) (h2:DfaR 0 w v2 b) (o:Option (List Nat)) (J:fdO a b=o) :
  Calls Tryz.prog 39 #[v1,v2] w fun e w'=>e=ZaQ o∧Below w.heap.size w w':=by
 obtain⟨G,F,rfl,g1,g2⟩:=h1;obtain⟨I,H,rfl,g3,g4⟩:=h2;have hb2:Below w.heap.size w ((w.alloc (.cells #[G,F] 44)).alloc (.cells #[I,H] 44)):=((Below.refl _ _).alloc (Nat.le_refl _) _).alloc (by simp) _;have Z:QH (DfaR 0 ((w.alloc (.cells #[G,F] 44)).alloc (.cells #[I,H] 44)) (.agg #[G,F]) a):=qh ⟨_,_,rfl,g1.below hb2,g2.below hb2⟩;have m:QH (DfaR 0 ((w.alloc (.cells #[G,F] 44)).alloc (.cells #[I,H] 44)) (.agg #[I,H]) b):=qh ⟨_,_,rfl,g3.below hb2,g4.below hb2⟩;have c:Bx ((w.alloc (.cells #[G,F] 44)).alloc (.cells #[I,H] 44)) w.heap.size #[G,F] 44:=(Bx.new w _ _).alloc _;have x1:Bx ((w.alloc (.cells #[G,F] 44)).alloc (.cells #[I,H] 44)) (w.heap.size+1) #[I,H] 44:=by simpa using Bx.new (w.alloc (.cells #[G,F] 44)) #[I,H] 44
 obtain⟨s,hs⟩:=Za3 (hitP a b);have C:=qh hb2;clear hb2;replace hs:=qh hs;replace J:=qh J;have R:=qh c;clear c;have L:=qh x1;clear x1;clear g1 g2 g3 g4;cases hda:Zac a.next a.ends
 all_goals
  replace hda:=qh hda
  go_enter Tryz.func39, Tryz.ntmps39
  go_wp2_with fail;refine(Zco a _ _ Z.o _ hda.o).mono ?_;rintro e w1 ⟨rfl,hb1⟩;have X:=R.o.below hb1 R.o.lt;have y1:=L.o.below hb1 L.o.lt;have c0:=y1.cell 0;have c1:=y1.cell 1;simp only[w_5,w_6,w_7] at c0 c1;have Q:=C.o.trans (hb1.mono C.o.size);have g:=qh (Z.o.below hb1);have Y:=qh (m.o.below hb1);replace hb1:=qh hb1;have E:=qh Q;clear Q;have N:=qh X;clear X;have S:=qh y1;clear y1
 ·go_wp2
  go_ret2
  exact⟨by rw[← J.o,fdO,hda.o];rfl,E.o⟩
 cases hdb:Zac b.next b.ends
 all_goals
  have B:=qh hdb;clear hdb;go_wp2_with fail;refine(Zco b _ _ Y.o _ B.o).mono ?_;rintro e w2 ⟨rfl,hb2⟩;have V:=N.o.below hb2 N.o.lt;have U:=S.o.below hb2 S.o.lt;have P:=E.o.trans (hb2.mono E.o.size);have i:=qh (g.o.below hb2);have k:=qh (Y.o.below hb2);have j:=V.cell 0;have e1:=V.cell 1;have e2:=U.cell 0;have e3:=U.cell 1;simp only[w_5,w_6,w_7] at j e1 e2 e3;have C:=qh hb2;clear hb2;have D:=qh P;clear P;have l:=qh V;clear V;have d:=qh U;clear U;clear c0 c1
 ·go_wp2
  go_ret2
  exact⟨by rw[← J.o,fdO,hda.o,B.o];rfl,D.o⟩
 go_wp2_with fail;refine(Zkr a b _ _ _ hda.o B.o i.o k.o).mono ?_;rintro e n ⟨he,M⟩;rw[hs.o] at he;subst he;have O:=D.o.trans (M.mono D.o.size);have T:=qh O;clear O;clear M;go_wp2
 go_ret2
 refine⟨?_,T.o⟩;rw[← J.o,fdO,hda.o,B.o,if_pos (by rfl),hs.o];rfl
theorem ZpZ (w:World):(zeroValue 4).run Tryz.prog w = .ok (.bool false) w:=by kernel_rfl
end Go.Proofs.YtncekbbhgipdlaaGreat
namespace Go.Proofs.YtncekbbhgipdlaaGreat
open Go.RowKit
section
variable {α:Type} [DecidableEq α] {nx:α→Nat→α} {a:α} {en:α→Bool} {K:Nat}
theorem ZmV {F:List α} {x:α} (h:x∈F) (d:α):F.getD (Zam F x) d=x:=by have h1:=ZaV h;rw[Zbg h1];exact List.getElem_idxOf h1
theorem Zlb (C:(bat nx a K).met.length≤K):∀ (w:List Nat),isW w→∀ x∈(bat nx a K).met,w.foldl nx x∈(bat nx a K).met∧runD (Zar nx en (bat nx a K).met) (Zam (bat nx a K).met x:Nat) w=(Zam (bat nx a K).met (w.foldl nx x):Nat)
 | [],_,x,hx=>⟨hx,rfl⟩
 | c::w,D,x,hx=>by have hc:c<3:=D c (by simp);have B:=ZcN C hx hc;have h1:=ZaV hx;obtain⟨h2,h3⟩:=Zlb C w (fun b hb=>D b (by simp[hb])) (nx x c) B;refine⟨h2,?_⟩;unfold runD at *;rw[List.foldl_cons,List.foldl_cons,← h3,ZjG (a:=a) (by omega) (by omega) hc];unfold Zbs;rw[Int.toNat_natCast,ZmV hx]
theorem ZfE (B:(bat nx a K).met.length≤K) {w:List Nat} (C:isW w):accD (Zar nx en (bat nx a K).met) w=en (w.foldl nx a):=by
 have h0:=ZfC (nx:=nx) (a:=a) K;obtain⟨h1,h2⟩:=Zlb (en:=en) B w C a h0;have h3:Zam (bat nx a K).met a=0:=by have hp:=ZcZ (nx:=nx) (a:=a) K;have hf:=ZhV (nx:=nx) (a:=a) K;have hn:=(ZaG (nx:=nx) (a:=a) K).1;rw[Zbg hp] at hf;have:=List.Nodup.idxOf_getElem hn 0 hp;rw[hf] at this;exact this
 rw[h3] at h2;unfold accD;rw[show((0:Nat):Int)=0 from rfl] at h2;rw[h2,ZjJ (ZaV h1)];congr 1;exact List.getElem_idxOf _
end
theorem ZgG (d:DfaD) (s:Int):runD d s []=s:=rfl
theorem Za4 (d:DfaD) (s:Int) (c:Nat) (w:List Nat):runD d s (c::w)=runD d (dnx d s c) w:=rfl
theorem Zcr {c:Nat} {w:List Nat} (h:isW (c::w)):c<3∧isW w:=⟨h c (by simp),fun b hb=>h b (by simp[hb])⟩
theorem ZoZ:isW []:=fun c hc=>by simp at hc
theorem Zru {c:Nat} {w:List Nat} (hc:c<3) (h:isW w):isW (c::w):=fun b hb=>by
 rcases List.mem_cons.1 hb with rfl|hb
 ·exact hc
 exact h b hb
theorem ZbY {d:DfaD} (hd:fine d) {s c:Nat} (hs:s<d.next.length) (hc:c<3):nxD d s c<d.next.length∧dnx d (s:Int) c=((nxD d s c:Nat):Int):=Zcv hd hs hc
theorem ZgH {d:DfaD} (hd:fine d):∀ (w:List Nat) {s:Nat},isW w→s<d.next.length→∃ t:Nat,t<d.next.length∧runD d (s:Int) w=(t:Int)
 | [],s,_,hs=>⟨s,hs,rfl⟩
 | c::w,s,B,hs=>by obtain⟨h1,h2⟩:=Zcr B;obtain⟨h3,h4⟩:=ZbY hd hs h1;rw[Za4,h4];exact ZgH hd w h2 h3
theorem Zby (d:DfaD) (s:Nat):den d (s:Int)=enD d s:=by simp[den,enD]
theorem Zry {d:DfaD} (hd:fine d):∀ (w:List Nat) {s t:Nat},isW w→s<d.next.length→t<d.next.length→clD d s=clD d t→den d (runD d (s:Int) w)=den d (runD d (t:Int) w)
 | [],s,t,_,hs,ht,h=>by rw[ZgG,ZgG,Zby,Zby];exact Zdx hs ht h
 | c::w,s,t,B,hs,ht,h=>by obtain⟨h1,h2⟩:=Zcr B;obtain⟨h3,h4⟩:=ZbY hd hs h1;obtain⟨h5,h6⟩:=ZbY hd ht h1;rw[Za4,Za4,h4,h6];exact Zry hd w h2 h3 h5 (ZjN (fun s c hs hc=>(ZbY hd hs hc).1) hs ht h c h1)
theorem Zi9 {d:DfaD} (hd:fine d):∀ (i:Nat) {s t:Nat},s<d.next.length→t<d.next.length→(∀ w,isW w→den d (runD d (s:Int) w)=den d (runD d (t:Int) w))→clAt d.next.length (nxD d) (enD d) i s=clAt d.next.length (nxD d) (enD d) i t
 | 0,s,t,hs,ht,h=>by
  refine(ZiN hs ht).2 ?_;have:=h [] ZoZ
  rwa [ZgG,ZgG,Zby,Zby] at this
 | i+1,s,t,hs,ht,h=>by
  refine(Zb7 hs ht).2 ((ZaB _).2 ⟨Zi9 hd i hs ht h,fun c hc => ?_⟩);obtain⟨h3,h4⟩:=ZbY hd hs hc;obtain⟨h5,h6⟩:=ZbY hd ht hc;refine Zi9 hd i h3 h5 fun w B => ?_
  have:=h (c::w) (Zru hc B)
  rwa [Za4,Za4,h4,h6] at this
theorem ZnZ {d:DfaD} (hd:fine d) {s t:Nat} (hs:s<d.next.length) (ht:t<d.next.length) (h:∀ w,isW w→den d (runD d (s:Int) w)=den d (runD d (t:Int) w)):clD d s=clD d t:=Zi9 hd _ hs ht h
theorem ZdX {d:DfaD} {s:Nat} (hs:s<d.next.length):clD d s<d.next.length:=by have:=(ZbH (d:=d) s hs).1;omega
theorem ZhO {d:DfaD} (hd:fine d) {s:Nat} (hs:s<d.next.length) {w:List Nat} (B:isW w):den d (runD d ((clD d s:Nat):Int) w)=den d (runD d (s:Int) w) :=
 Zry hd w B (ZdX hs) hs (ZbH s hs).2
theorem ZcJ {d:DfaD} (hf:fine d) (K:Nat):(∀ x∈(bat (nxM d) ((clD d 0:Nat):Int) K).met,∃ s:Nat,x=(s:Int)∧s<d.next.length∧clD d s=s)∧(bat (nxM d) ((clD d 0:Nat):Int) K).met.length≤d.next.length:=by
 have hl:1≤d.next.length:=hf.1
 have h1:∀ x∈(bat (nxM d) ((clD d 0:Nat):Int) K).met,∃ s:Nat,x=(s:Int)∧s<d.next.length∧clD d s=s:=by
  refine ZbA (Q:=fun x=>∃ s:Nat,x=(s:Int)∧s<d.next.length∧clD d s=s) ?_ (fun x c hc hx => ?_) K
  ·exact⟨clD d 0,rfl,ZdX (by omega),(ZbH 0 (by omega)).2⟩
  obtain⟨s,rfl,hs,-⟩:=hx;have h2:=(Zcv hf hs hc).1;exact⟨clD d (nxD d s c),by simp[nxM],ZdX h2,(ZbH _ h2).2⟩
 refine⟨h1,?_⟩;have h2:=ZdJ (ZaG (nx:=nxM d) (a:=((clD d 0:Nat):Int)) K).1 (m:=ZaY d.next.length) (fun x hx=>by obtain⟨s,rfl,hs,-⟩:=h1 x hx;rw[Zch];exact hs);rw[Zcf] at h2;exact h2
theorem ZoD {d:DfaD} (hd:fine d) {K:Nat} (B:d.next.length≤K):minD d=Zar (nxM d) (den d) (bat (nxM d) ((clD d 0:Nat):Int) K).met:=by unfold minD;rw[Zbc (ZcJ hd _).2 B]
theorem Zq7 {d:DfaD} (hd:fine d):fine (minD d):=Zeu (ZcJ hd _).2 hd.2.1
theorem ZhH {d:DfaD} (hd:fine d):∀ (w:List Nat) {s:Nat},isW w→s<d.next.length→∃ t:Nat,t<d.next.length∧w.foldl (nxM d) ((clD d s:Nat):Int)=((clD d t:Nat):Int)∧runD d (s:Int) w=(t:Int)
 | [],s,_,hs=>⟨s,hs,rfl,rfl⟩
 | c::w,s,B,hs=>by
  obtain⟨h1,h2⟩:=Zcr B;obtain⟨h3,h4⟩:=ZbY hd hs h1;obtain⟨t,ht,e1,e2⟩:=ZhH hd w h2 h3;refine⟨t,ht,?_,by rw[Za4,h4];exact e2⟩;have e3:nxM d ((clD d s:Nat):Int) c=((clD d (nxD d s c):Nat):Int):=by unfold nxM;rw[Int.toNat_natCast];congr 1;exact ZjN (fun s c hs hc=>(ZbY hd hs hc).1) (ZdX hs) hs (ZbH s hs).2 c h1
  rw[List.foldl_cons,e3];exact e1
theorem ZoC {d:DfaD} (hd:fine d) {w:List Nat} (B:isW w):accD (minD d) w=accD d w:=by unfold minD;rw[ZfE (ZcJ hd _).2 B];obtain⟨t,ht,e1,e2⟩:=ZhH hd w B (show 0<d.next.length from hd.1);rw[e1,Zby];unfold accD;rw[show(0:Int)=((0:Nat):Int) from rfl,e2,Zby];exact Zdx (ZdX ht) ht (ZbH t ht).2
theorem Zp8 {d:DfaD} (hd:fine d) {w:List Nat} (B:isW w):accD (Zbj d) w=accD d w:=by unfold Zbj;rw[ZfE (ZbL hd _).2 B];rfl
theorem ZoB {x y:DfaD} (hx:fine x) (hy:fine y) (h:∀ w,isW w→accD x w=accD y w):minD x=minD y:=by
 obtain⟨K,N⟩:=eI (x.next.length+y.next.length);rw[ZoD hx (show x.next.length≤K by omega),ZoD hy (show y.next.length≤K by omega)];have F:0<x.next.length:=hx.1;have E:0<y.next.length:=hy.1
 let nq:Int × Int→Nat→Int × Int:=fun p c=>(nxM x p.1 c,nxM y p.2 c)
 let Q:Int × Int→Prop:=fun p=>∃ s t:Nat,p=((s:Int),(t:Int))∧s<x.next.length∧t<y.next.length∧clD x s=s∧clD y t=t∧∀ w,isW w→den x (runD x (s:Int) w)=den y (runD y (t:Int) w)
 let a:Int × Int:=(((clD x 0:Nat):Int),((clD y 0:Nat):Int))
 have h0:Q a:=⟨clD x 0,clD y 0,rfl,ZdX F,ZdX E,(ZbH 0 F).2,(ZbH 0 E).2,fun w B=>by rw[ZhO hx F B,ZhO hy E B];exact h w B⟩
 have H:∀ p c,c<3→Q p→Q (nq p c):=by
  rintro p c hc ⟨s,t,rfl,hs,ht,-,-,hr⟩;obtain⟨h3,h4⟩:=ZbY hx hs hc;obtain⟨h5,h6⟩:=ZbY hy ht hc;refine⟨clD x (nxD x s c),clD y (nxD y t c),by simp[nq,nxM],ZdX h3,ZdX h5,(ZbH _ h3).2,(ZbH _ h5).2,fun w B => ?_⟩;rw[ZhO hx h3 B,ZhO hy h5 B];have:=hr (c::w) (Zru hc B)
  rwa [Za4,Za4,h4,h6] at this
 have f1:∀ p q,Q p→Q q→p.1=q.1→p=q:=by
  rintro p q ⟨s,t,rfl,hs,ht,-,e1,r1⟩ ⟨I,M,rfl,C,D,-,e2,G⟩ he;simp only[Int.ofNat_inj] at he;subst he;have:=ZnZ hy ht D fun w B=>(r1 w B).symm.trans (G w B)
  rw[e1,e2] at this;rw[this]
 have f2:∀ p q,Q p→Q q→p.2=q.2→p=q:=by
  rintro p q ⟨s,t,rfl,hs,ht,e1,-,r1⟩ ⟨I,M,rfl,C,D,e2,-,G⟩ he;simp only[Int.ofNat_inj] at he;subst he;have:=ZnZ hx hs C fun w B=>(r1 w B).trans (G w B).symm
  rw[e1,e2] at this;rw[this]
 have J:=ZdI (nx:=nq) (nx':=nxM x) (a:=a) (f:=Prod.fst) (Q:=Q) (en:=fun p=>den x p.1) (en':=den x) (K:=K) h0 H f1 (fun _ _ _ _=>rfl) (fun _ _=>rfl);have L:=ZdI (nx:=nq) (nx':=nxM y) (a:=a) (f:=Prod.snd) (Q:=Q) (en:=fun p=>den x p.1) (en':=den y) (K:=K) h0 H f2 (fun _ _ _ _=>rfl) (fun p hp=>by obtain⟨s,t,rfl,-,-,-,-,r⟩:=hp;exact(r [] ZoZ).symm);exact J.trans L.symm
theorem ZrR {d:DfaD} (hd:fine d):minD (minD d)=minD d:=ZoB (Zq7 hd) hd fun _ B=>ZoC hd B
theorem ZqF {d:DfaD} (hd:fine d) (ht:Zbj d=d) (hr:∀ s t:Nat,s<d.next.length→t<d.next.length→(∀ w,isW w→den d (runD d (s:Int) w)=den d (runD d (t:Int) w))→s=t):minD d=d:=by
 have hc:∀ s,s<d.next.length→clD d s=s:=fun s hs=>hr _ _ (ZdX hs) hs fun w C=>ZhO hd hs C
 have h0:0<d.next.length:=hd.1
 have hb:=ZfD (nx:=dnx d) (nx':=nxM d) (a:=(0:Int)) (Q:=fun x=>∃ s:Nat,x=(s:Int)∧s<d.next.length) ⟨0,rfl,h0⟩ (by
  rintro x c hc ⟨s,rfl,hs⟩;obtain⟨h3,h4⟩:=ZbY hd hs hc;exact⟨_,h4,h3⟩) (by
  rintro x c B ⟨s,rfl,hs⟩;obtain⟨h3,h4⟩:=ZbY hd hs B;unfold nxM;rw[Int.toNat_natCast,hc _ h3,h4]) d.next.length
 refine Eq.trans ?_ ht;unfold minD Zbj;rw[hc 0 h0,show((0:Nat):Int)=0 from rfl,← hb];unfold Zar;congr 1;refine List.map_congr_left fun x hx => ?_
 unfold Zai;refine List.map_congr_left fun c B => ?_
 obtain⟨h1,-⟩:=ZbL hd d.next.length;obtain⟨g1,g2⟩:=h1 x hx;obtain⟨s,rfl⟩:=Int.eq_ofNat_of_zero_le g1;obtain⟨h3,h4⟩:=ZbY hd (show s<d.next.length by omega) (List.mem_range.1 B);unfold nxM;rw[Int.toNat_natCast,hc _ h3,h4]
theorem Zgb {α:Type} [DecidableEq α] {nx:α→Nat→α} {a:α} {en:α→Bool} {K:Nat} (B:(bat nx a K).met.length≤K) {i:Nat} (hi:i<(bat nx a K).met.length) {w:List Nat} (C:isW w) :
  den (Zar nx en (bat nx a K).met) (runD (Zar nx en (bat nx a K).met) (i:Int) w)=en (w.foldl nx ((bat nx a K).met.getD i a)):=by
 obtain⟨h1,h2⟩:=Zlb (en:=en) B w C _ (memD (d:=a) hi);rw[Zfq hi (ZaG K).1] at h2;rw[h2,ZjJ (ZaV h1)];congr 1;exact List.getElem_idxOf _
theorem Zlm {d:DfaD} (hd:fine d) {s t:Nat} (hs:s<(minD d).next.length) (ht:t<(minD d).next.length) (h:∀ w,isW w→den (minD d) (runD (minD d) (s:Int) w)=den (minD d) (runD (minD d) (t:Int) w)):s=t:=by
 have I:=(ZcJ hd d.next.length).2;have hin:=(ZcJ hd d.next.length).1;have hl:(minD d).next.length=(bat (nxM d) ((clD d 0:Nat):Int) d.next.length).met.length:=ZaW _ _ _;rw[hl] at hs ht;have h1:=hin _ (memD (d:=((clD d 0:Nat):Int)) hs);have h2:=hin _ (memD (d:=((clD d 0:Nat):Int)) ht);obtain⟨p,hp,E,B⟩:=h1;obtain⟨q,hq,D,C⟩:=h2
 have key:p=q:=by
  rw[← B,← C];refine ZnZ hd E D fun w F => ?_
  have h3:=h w F;unfold minD at h3;rw[Zgb I hs F,Zgb I ht F,hp,hq] at h3;have e:=fun (r:Nat) (hr:r<d.next.length) (hc:clD d r=r)=>ZhH hd w F hr
  obtain⟨u,hu,H,J⟩:=e p E B;obtain⟨v,G,v1,v2⟩:=e q D C;rw[B] at H;rw[C] at v1;rw[H,v1,Zby,Zby] at h3;rw[J,v2,Zby,Zby,← Zdx (ZdX hu) hu (ZbH u hu).2,h3];exact Zdx (ZdX G) G (ZbH v G).2
 have e1:=Zfq hs (ZaG (nx:=nxM d) (a:=((clD d 0:Nat):Int)) d.next.length).1 ((clD d 0:Nat):Int);have e2:=Zfq ht (ZaG (nx:=nxM d) (a:=((clD d 0:Nat):Int)) d.next.length).1 ((clD d 0:Nat):Int);rw[hp] at e1;rw[hq,← key] at e2;exact e1.symm.trans e2
theorem ZqE {d:DfaD} (hd:fine d):Zbj (minD d)=minD d:=Zp6 (ZcJ hd _).2
theorem ZoF (a b:DfaD) (K:Nat):((0,0):Int × Int)∈metP a b K:=ZfC K
theorem ZoE {a b:DfaD} {S:List (Int × Int)} (hc:∀ p∈S,∀ c,c<3→Zan a b p c∈S):∀ (w:List Nat),isW w→∀ p∈S,(runD a p.1 w,runD b p.2 w)∈S
 | [],_,p,hp=>hp
 | c::w,B,p,hp=>by obtain⟨h1,h2⟩:=Zcr B;have:=ZoE hc w h2 (Zan a b p c) (hc p hp c h1);exact this
theorem ZrN {a b:DfaD} (ha:Zac a.next a.ends=true) (hb:Zac b.next b.ends=true) {K:Nat} (B:1600≤K):(metP a b K).length≤K:=Nat.le_trans (Zfg ha hb K) B
theorem Zln {a b:DfaD} (ha:Zac a.next a.ends=true) (hb:Zac b.next b.ends=true) {K:Nat} (B:1600≤K):∀ p∈metP a b K,∀ c,c<3→Zan a b p c∈metP a b K:=fun _ hp _ hc=>ZcN (ZrN ha hb B) hp hc
theorem ZqA:1600≤Zhq:=Nat.le_refl _
def vl (w:List Nat):Nat:=w.foldl (fun n c=>3*n+c+1) 0
section
variable {α:Type} [DecidableEq α] {nx:α→Nat→α} {a:α}
structure BI (s:Bs α) (B:Nat):Prop where
 len:s.words.length=s.met.length
 inc:∀ i j,i<j→j<s.met.length→vl (s.words.getD i [])<vl (s.words.getD j [])
 bnd:∀ j,j<s.met.length→vl (s.words.getD j [])≤B
omit [DecidableEq α] in
theorem BI.up {s:Bs α} {B C:Nat} (h:BI s B) (D:B≤C):BI s C:=⟨h.len,h.inc,fun j hj=>Nat.le_trans (h.bnd j hj) D⟩
end
def Strs (B:Nat) (w:World) (v:Value) (ws:List (List Nat)):Prop:=Sl B w v ws.length 1 (wdCells ws)
theorem Strs.below {B:Nat} {w w':World} {v:Value} {ws:List (List Nat)} (h:Strs B w v ws) (he:Below w.heap.size w w'):Strs B w' v ws:=Sl.below h he
theorem Strs.form {B:Nat} {w:World} {v:Value} {ws:List (List Nat)} (h:Strs B w v ws):∃ a cap,v = .slice a ws.length cap∧ws.length≤cap∧cap≤9223372036854775807 ∧
  (0<ws.length→∃ b off,a=some ⟨b,off,none⟩∧b<w.heap.size∧∀ j,j<ws.length→w.cell? ⟨b,off+j,none⟩=some (.string (wdB (ws.getD j [])))):=by
 obtain⟨hl,a,cap,C,h1,h2,h3⟩:=h;refine⟨a,cap,C,h1,h2,fun hn => ?_⟩;obtain⟨b,off,ha,hb,hlt,hc⟩:=h3 hn;refine⟨b,off,ha,hlt,fun j hj => ?_⟩;rw[hc j (by omega)];simp[hj]
def okWs (ws:List (List Nat)):Prop:=∀ x∈ws,isW x∧x.length≤400000
def LOk (st:List (List Nat)):Prop:=(∀ x∈st,isW x)∧∀ i,i<st.length→(st.getD i []).length≤i
theorem LOk.visit {β:Type} [DecidableEq β] {key:List Nat→β} {s:List (List Nat)} (h:LOk s) {w:List Nat} (B:isW w) (hl:w.length≤s.length):LOk (kvisit key s w):=by
 unfold kvisit
 split
 ·exact h
 refine⟨fun x hx => ?_,fun i hi => ?_⟩
 ·rcases List.mem_append.1 hx with hx|hx
  ·exact h.1 x hx
  simp only[List.mem_singleton] at hx;rw[hx];exact B
 simp only[List.length_append,List.length_singleton] at hi;by_cases hin:i<s.length
 ·have:=h.2 i hin;simp only[List.getD_eq_getElem?_getD] at this ⊢;rw[List.getElem?_append_left hin];exact this
 obtain rfl:i=s.length:=by omega
 simpa using hl
theorem LOk.row {β:Type} [DecidableEq β] {key:List Nat→β} {s:List (List Nat)} (h:LOk s) {k:Nat} (hk:k<s.length):∀ n,n≤3→LOk (krow key s (s.getD k []) n)∧s.length≤(krow key s (s.getD k []) n).length
 | 0,_=>⟨h,Nat.le_refl _⟩
 | n+1,hn=>by obtain⟨h1,h2⟩:=h.row (key:=key) hk n (by omega);have h3:=(ZiE (key:=key) (krow key s (s.getD k []) n) (s.getD k []++[n])).length_le;refine⟨h1.visit (ZfT (h.1 _ (memD hk)) (ZlA (by omega))) ?_,Nat.le_trans h2 h3⟩;have:=h.2 k hk;rw[List.length_append,List.length_singleton];omega
theorem LOk.kat {β:Type} [DecidableEq β] {key:List Nat→β} {s:List (List Nat)} (h:LOk s):∀ k,LOk (kat key s k)
 | 0=>h
 | k+1=>by
  have B:=LOk.kat (key:=key) h k;by_cases hk:k<(Go.Proofs.YtncekbbhgipdlaaGreat.kat key s k).length
  ·rw[Zfj hk];exact(B.row hk 3 (by omega)).1
  rw[Zfk (by omega)];exact B
theorem LOk.okWs {st:List (List Nat)} (h:LOk st) (hl:st.length≤1000):∀ x∈st,isW x∧x.length≤399999:=fun x hx=>by refine⟨h.1 x hx,?_⟩;obtain⟨i,hi,e⟩:=List.getElem_of_mem hx;have:=h.2 i hi;rw[Zbg hi,e] at this;omega
def hitD (d:DfaD) (g:DfaD):Option (List Nat):=hitP d g
theorem Zo7 (d g:DfaD):hitD d g=hitK Zhq d g:=rfl
theorem Zqz:Zhq≤1600:=Nat.le_refl _
theorem Zkw {d g:DfaD} {w:List Nat} (h:hitD d g=some w):isW w∧accD d w≠accD g w:=by rw[Zo7] at h;exact Zjy h
theorem Zo6 (d:DfaD):Zsz d (hitD d):=fun _ _ _ h=>Zkw h
theorem Zq2 {K:Nat} {a b:DfaD} {w:List Nat} (h:hitK K a b=some w):w.length≤K:=by have B:=(ZaG (nx:=Zan a b) (a:=((0,0):Int × Int)) K).2.1;obtain⟨i,hi,C,-⟩:=ZdP (d:=((0,0):Int × Int)) B h;rw[← C];exact Zew (nx:=Zan a b) (a:=((0,0):Int × Int)) K _ (memD (by omega))
theorem Zq3 {d g:DfaD} {w:List Nat} (h:hitD d g=some w):w.length≤1600:=by rw[Zo7] at h;have:=Zq2 h;have:=Zqz;omega
def preW (d:DfaD):Nat→List (List Nat)
 | 0=>[[]]
 | j+1=>(tabW d (hitD d) j).1
def resW (d:DfaD) (j:Nat):List (List Nat):=(tabW d (hitD d) j).2
def staW (d:DfaD) (j:Nat):List (List Nat):=(tabW d (hitD d) j).1
def gueW (d:DfaD) (j:Nat):DfaD:=gssW d (hitD d) j
theorem ZmX {α:Type} {l m:List α} (h:l <+: m) (hm:m.Nodup):l.Nodup:=by obtain⟨t,rfl⟩:=h;exact(List.nodup_append.1 hm).1
theorem Zn8 (d:DfaD) (j:Nat) {w:List Nat} (h:hitD d (gueW d j)=some w):resW d (j+1)=resW d j++[w.drop (cutW d (staW d j) (gueW d j) w+1)]:=by show(tabW d (hitD d) j).2++_=_;have B:hitD d (ZaI d (tabW d (hitD d) j).1 (tabW d (hitD d) j).2)=some w:=h;simp only[B,w_8];rfl
structure LTab (d:DfaD) (j:Nat):Prop where
 pre:LOk (preW d j)
 nd:((preW d j).map (rowW d (resW d j))).Nodup
 re:okWs (resW d j)
 rl:(resW d j).length≤j+1
 inv:LInv d (staW d j) (resW d j)
 st:LOk (staW d j)
theorem LTab.at {d:DfaD} (hd:Zac d.next d.ends=true):∀ j,(∀ i,i<j→(hitD d (gueW d i)).isSome=true)→LTab d j
 | 0,hy=>by
  have B:=(ZkY hd (Zo6 d) 0 hy).1
  have h0:LOk [[]]:=⟨fun x hx=>by simp at hx;subst hx;intro c hc;simp at hc,fun i hi=>by
   obtain rfl:i=0:=by simpa using hi
   simp⟩
  exact⟨h0,by simp[preW],fun x hx=>by simp[resW,tabW] at hx;subst hx;exact⟨fun c hc=>by simp at hc,by simp⟩,by simp[resW,tabW],B,LOk.kat h0 _⟩
 | j+1,hy=>by
  have D:=LTab.at hd j fun i hi=>hy i (by omega)
  have B:=(ZkY hd (Zo6 d) (j+1) hy).1;obtain⟨w,F⟩:=Option.isSome_iff_exists.1 (hy j (by omega));have hr:=Zn8 d j F;have E:=(Zkw F).1;have C:preW d (j+1) <+: staW d (j+1):=Zjs (key:=rowW d (resW d (j+1))) (s0:=preW d (j+1)) (Nat.zero_le (d.next.length+1));refine⟨D.st,?_,fun x hx => ?_,?_,B,LOk.kat (s:=preW d (j+1)) D.st _⟩
  ·obtain⟨t,ht⟩:=C;have h1:=B.nd;refine ZmX (m:=(staW d (j+1)).map (rowW d (resW d (j+1)))) ⟨t.map (rowW d (resW d (j+1))),?_⟩ h1;rw[← List.map_append,ht]
  ·rw[hr] at hx;rcases List.mem_append.1 hx with hx|hx
   ·exact D.re x hx
   simp only[List.mem_singleton] at hx;subst hx;refine⟨Zmh E _,?_⟩;have:=Zq3 F;rw[List.length_drop];omega
  rw[hr,List.length_append,List.length_singleton];have:=D.rl;omega
def Ent.sub (X y:Ent):Prop:=(∀ w,X.holds w→y.holds w)∧∀ k,y.foot k→X.foot k
def GMem (X:Ent) (vals:List (Value × Value)) (gs:List DfaD):Prop:=vals.length=gs.length∧∀ i,i<gs.length →
 ∃ a1 c1 a2 c2 vs,vals.getD i (undef,undef)=(.slice a1 (gs.getD i ⟨[],[]⟩).next.length c1,.slice a2 (gs.getD i ⟨[],[]⟩).next.length c2) ∧
  Ent.sub X (Ent.rows 38 3 (.slice a1 (gs.getD i ⟨[],[]⟩).next.length c1) vs ((gs.getD i ⟨[],[]⟩).next.map intCells))∧Ent.sub X (Ent.row 4 1 (.slice a2 (gs.getD i ⟨[],[]⟩).next.length c2) (gs.getD i ⟨[],[]⟩).next.length (boolCells (gs.getD i ⟨[],[]⟩).ends))
theorem GMem.nil (X:Ent):GMem X [] []:=⟨rfl,fun i hi=>absurd hi (by simp)⟩
theorem Tryz.infoDfa:(Tryz.prog.info? 44).map (fun i=>(i.zero,i.size,i.bytes))=some (some (.agg #[.slice none 0 0,.slice none 0 0]),2,48):=by kernel_rfl
theorem GMem.own {w0 w:World} {L:List Ent} (h:St w0 w L) (i:Nat) {X:Ent} (hx:L[i]? = some X) {vals:List (Value × Value)} {gs:List DfaD} (E:GMem X vals gs) {k:Nat} (hk:k<gs.length) :
  ∃ a1 c1 a2 c2,vals.getD k (undef,undef)=(.slice a1 (gs.getD k ⟨[],[]⟩).next.length c1,.slice a2 (gs.getD k ⟨[],[]⟩).next.length c2)∧(gs.getD k ⟨[],[]⟩).ends.length=(gs.getD k ⟨[],[]⟩).next.length ∧
   DfaO 38 3 4 w0.heap.size w.heap.size w (.agg #[.slice a1 (gs.getD k ⟨[],[]⟩).next.length c1,.slice a2 (gs.getD k ⟨[],[]⟩).next.length c2]) (gs.getD k ⟨[],[]⟩):=by
 obtain⟨a1,c1,a2,c2,vs,e,C,D⟩:=E.2 k hk;have B:i<L.length:=(List.getElem?_eq_some_iff.1 hx).1;have h1:=h.same i hx _ (C.1 w) C.2;have h2:=h.same i hx _ (D.1 w) D.2;have g1:=h1.intSS i (by rw[List.getElem?_set,if_pos rfl,if_pos B]);have g2:=h2.row i (by rw[List.getElem?_set,if_pos rfl,if_pos B]);have hl:(gs.getD k ⟨[],[]⟩).ends.length=(gs.getD k ⟨[],[]⟩).next.length:=by have:=g2.1;simp at this;simpa using this
 refine⟨a1,c1,a2,c2,e,hl,_,_,rfl,g1,?_⟩;unfold OBools;rw[hl];exact Zab g2
def xb (b x:Bool):Bool:=b != x
def flB (b:Bool) (g:DfaD):DfaD:=⟨g.next,g.ends.map (xb b)⟩
theorem ZlC (b:Bool) (g:DfaD) (s:Int) (w:List Nat):runD (flB b g) s w=runD g s w:=rfl
theorem Zrw {b:Bool} {g:DfaD} (h:Zac g.next g.ends=true):Zac (flB b g).next (flB b g).ends=true:=by
 have hl:=Zaf h;refine ZjH hl.1 hl.2.1 ?_ fun i hi=>ZaM h hi
 show(g.ends.map (xb b)).length=g.next.length;rw[List.length_map];exact hl.2.2
theorem Zr4 {b:Bool} {g:DfaD} (h:Zac g.next g.ends=true) {w:List Nat} (B:isW w):accD (flB b g) w=xb b (accD g w):=by have hl:=Zaf h;obtain⟨t,ht,hr⟩:=ZgH (ZaS h) w (s:=0) B (by omega);have hr:runD g 0 w=(t:Int):=hr;unfold accD;rw[ZlC,hr,Zby,Zby];show(g.ends.map (xb b)).getD t false=xb b (g.ends.getD t false);rw[List.getD_eq_getElem?_getD,List.getElem?_map,List.getD_eq_getElem?_getD,List.getElem?_eq_getElem (show t<g.ends.length by omega)];rfl
section
variable {key key':List Nat→List Bool} {f:List Bool→List Bool}
end
section
variable {b:Bool} {d M:DfaD}
end
def Zkn (p:Int × Int):DfaD:=if p.1=1 then Zfc else if p.1=2 then oneD else minD ⟨[[2,2,2].set p.2.toNat 1,[2,2,2],[2,2,2]],[false,true,false]⟩
def oneQ (K:Nat) (k:Int) (a:DfaD):Option DfaD:=if k=8 then(ZgA 81 K (Zc0 (ZaL a))).map minD else some (flB true a)
def twoQ (K:Nat) (k:Int) (a b:DfaD):Option DfaD :=
 if k=4 then(ZgA 81 K (Zef (ZaL a) (ZaL b))).map minD else if k=5 then(ZbV K (fun p q=>p||q) a b).map minD else(ZbV K (fun p q=>p&&q) a b).map minD
def Zgr (K:Nat) (p:Int × Int) (st:List DfaD):Option (List DfaD) :=
 if Zag p=0 then some (Zkn p::st)
 else if Zag p=1 then
  match st with
  | a::r=>(oneQ K p.1 a).map (·::r)
  | []=>none
 else
  match st with
  | b::a::r=>(twoQ K p.1 a b).map (·::r)
  | _=>none
def runC (K:Nat):List (Int × Int)→List DfaD→Option (List DfaD)
 | [],st=>some st
 | p::ps,st=>(Zgr K p st).bind (runC K ps)
theorem Zp7 {d:DfaD} (hd:fine d):Zbj (flB true d)=flB true (Zbj d):=by
 have hm:=(ZbL hd d.next.length).1;unfold Zbj Zar flB;show DfaD.mk _ _=DfaD.mk _ _;congr 1;rw[List.map_map];refine List.map_congr_left fun x hx => ?_
 obtain⟨h1,h2⟩:=hm x hx;have h3:=hd.2.2.1;have hlt:x.toNat<d.ends.length:=by omega
 simp[den,hlt]
theorem ZrS {d:DfaD} (hd:Zac d.next d.ends=true) (hm:minD d=d):minD (flB true d)=flB true d:=by
 have hf:=ZaS hd;have G:=ZaS (Zrw (b:=true) hd);have ht:Zbj d=d:=by have:=ZqE hf;rw[hm] at this;exact this
 refine ZqF G (by rw[Zp7 hf,ht]) fun s t hs B h => ?_
 have hs:s<d.next.length:=hs;have B:t<d.next.length:=B;refine Zlm hf (by rw[hm];exact hs) (by rw[hm];exact B) fun w F => ?_
 rw[hm];obtain⟨a,ha,D⟩:=ZgH hf w F hs;obtain⟨b,hb,C⟩:=ZgH hf w F B;have h1:=h w F;rw[ZlC,ZlC,D,C,Zby,Zby] at h1;rw[D,C,Zby,Zby]
 have e:∀ i,i<d.next.length→enD (flB true d) i = !enD d i:=fun i hi=>by
  have h3:=(Zaf hd).2.2;have E:i<d.ends.length:=by omega
  simp[enD,flB,E,xb]
 rw[e a ha,e b hb] at h1;simpa using h1
theorem ZjK {K:Nat} (B:K=40) (t:Ex) {d:DfaD} (h:Zat K t=some d):minD d=d:=by
 have key:∀ {y:DfaD},Zac y.next y.ends=true→Zao y=d→minD d=d:=fun {y} hy e=>by rw[← e,ZcR (ZaS hy)];exact ZrR (ZaS hy)
 cases t with
 | zero=>simp only[Zat,w_9] at h;exact key Zfb h
 | one=>simp only[Zat,w_9] at h;exact key Zhk h
 | ltr c=>simp only[Zat,w_9] at h;exact key (ZeT c) h
 | join a b =>simp only[Zat,Option.bind_eq_some_iff,Option.map_eq_some_iff] at h;obtain⟨x,-,y,-,z,hz,e⟩:=h;exact key (Zdl B hz) e
 | alt a b =>simp only[Zat,Option.bind_eq_some_iff,Option.map_eq_some_iff] at h;obtain⟨x,-,y,-,z,hz,e⟩:=h;exact key (ZbP B hz) e
 | both a b =>simp only[Zat,Option.bind_eq_some_iff,Option.map_eq_some_iff] at h;obtain⟨x,-,y,-,z,hz,e⟩:=h;exact key (ZbP B hz) e
 | neg a =>simp only[Zat,Option.map_eq_some_iff] at h;obtain⟨x,hx,e⟩:=h;exact key (Zho (ZbS B a hx)) e
 | star a =>simp only[Zat,Option.bind_eq_some_iff,Option.map_eq_some_iff] at h;obtain⟨x,-,z,hz,e⟩:=h;exact key (Zdl B hz) e
theorem Zfh {o:Option DfaD} (h:∀ d,o=some d→Zac d.next d.ends=true):o.map Zao=o.map minD:=by
 cases o with
 | none=>rfl
 | some d=>exact congrArg some (ZcR (ZaS (h d rfl)))
theorem Zou (d:DfaD):negD d=flB true d:=by unfold negD flB;congr 1;exact List.map_congr_left fun x _=>by cases x<;>rfl
theorem ZoO:Zao Zfc=Zfc:=by decide +kernel
theorem ZqO:Zao oneD=oneD:=by decide +kernel
theorem Zn2 {K:Nat} (B:K=40):∀ (t:Ex) (rest:List (Int × Int)) (st:List DfaD),runC K (t.post++rest) st=(Zat K t).bind fun d=>runC K rest (d::st):=by
 intro t
 induction t with
 | zero =>intro rest st;show(some (Zfc::st)).bind (runC K rest)=_;simp only[Zat,ZoO];rfl
 | one =>intro rest st;show(some (oneD::st)).bind (runC K rest)=_;simp only[Zat,ZqO];rfl
 | ltr c =>
  intro rest st;have e:Zgr K (3,(c.val:Int)) st=some (Zkn (3,(c.val:Int))::st):=by unfold Zgr;rw[if_pos (Zet c)]
  show(Zgr K (3,(c.val:Int)) st).bind (runC K rest)=_;rw[e];simp only[Zat];rw[ZcR (ZaS (ZeT c))];rfl
 | join a b ha hb =>
  intro rest st;show runC K ((a.post++b.post++[(4,0)])++rest) st=_;rw[List.append_assoc,List.append_assoc,ha];simp only[Zat];cases hx:Zat K a with
  | none=>rfl
  | some x =>
   show runC K (b.post++([(4,0)]++rest)) (x::st)=_;rw[hb];show _=((Zat K b).bind fun y=>(detM 81 K (ZdA x y)).map Zao).bind _;cases hy:Zat K b with
   | none=>rfl
   | some y =>show((twoQ K 4 x y).map (·::st)).bind (runC K rest)=((detM 81 K (ZdA x y)).map Zao).bind _;rw[show twoQ K 4 x y=(detM 81 K (ZdA x y)).map Zao by rw[Zfh fun d hd=>Zdl B hd,← Zmr,← ZhB];rfl];cases (detM 81 K (ZdA x y)).map Zao<;>rfl
 | alt a b ha hb =>
  intro rest st;show runC K ((a.post++b.post++[(5,0)])++rest) st=_;rw[List.append_assoc,List.append_assoc,ha];simp only[Zat];cases hx:Zat K a with
  | none=>rfl
  | some x =>
   show runC K (b.post++([(5,0)]++rest)) (x::st)=_;rw[hb];show _=((Zat K b).bind fun y=>(ZbV K (fun p q=>p||q) x y).map Zao).bind _;cases hy:Zat K b with
   | none=>rfl
   | some y =>show((twoQ K 5 x y).map (·::st)).bind (runC K rest)=((ZbV K (fun p q=>p||q) x y).map Zao).bind _;rw[show twoQ K 5 x y=(ZbV K (fun p q=>p||q) x y).map Zao by rw[Zfh fun d hd=>ZbP B hd];rfl];cases (ZbV K (fun p q=>p||q) x y).map Zao<;>rfl
 | both a b ha hb =>
  intro rest st;show runC K ((a.post++b.post++[(6,0)])++rest) st=_;rw[List.append_assoc,List.append_assoc,ha];simp only[Zat];cases hx:Zat K a with
  | none=>rfl
  | some x =>
   show runC K (b.post++([(6,0)]++rest)) (x::st)=_;rw[hb];show _=((Zat K b).bind fun y=>(ZbV K (fun p q=>p&&q) x y).map Zao).bind _;cases hy:Zat K b with
   | none=>rfl
   | some y =>show((twoQ K 6 x y).map (·::st)).bind (runC K rest)=((ZbV K (fun p q=>p&&q) x y).map Zao).bind _;rw[show twoQ K 6 x y=(ZbV K (fun p q=>p&&q) x y).map Zao by rw[Zfh fun d hd=>ZbP B hd];rfl];cases (ZbV K (fun p q=>p&&q) x y).map Zao<;>rfl
 | neg a ha =>
  intro rest st;show runC K ((a.post++[(7,0)])++rest) st=_;rw[List.append_assoc,ha];simp only[Zat];cases hx:Zat K a with
  | none=>rfl
  | some x =>have hok:=ZbS B a hx;show runC K rest (flB true x::st)=runC K rest (Zao (negD x)::st);rw[ZcR (ZaS (Zho hok)),Zou,ZrS hok (ZjK B a hx)]
 | star a ha =>
  intro rest st;show runC K ((a.post++[(8,0)])++rest) st=_;rw[List.append_assoc,ha];simp only[Zat];cases hx:Zat K a with
  | none=>rfl
  | some x =>show((oneQ K 8 x).map (·::st)).bind (runC K rest)=((detM 81 K (Zd0 x)).map Zao).bind _;rw[show oneQ K 8 x=(detM 81 K (Zd0 x)).map Zao by rw[Zfh fun d hd=>Zdl B hd,← Zmr,← Zg0];rfl];cases (detM 81 K (Zd0 x)).map Zao<;>rfl
theorem ZmN {K:Nat} (B:K=40) (t:Ex):runC K t.post []=(Zat K t).map fun d=>[d]:=by have h:=Zn2 B t [] [];rw[List.append_nil] at h;rw[h];cases Zat K t<;>rfl
theorem ZqP {p:Int × Int} (h:pOk p=true) (hn:Zag p=0):Zac (Zkn p).next (Zkn p).ends=true:=by
 unfold Zkn
 split
 ·exact Zfb
 split
 ·exact Zhk
 rename_i h1 h2
 have h3:p.1=3∧0≤p.2∧p.2≤2:=by
  unfold Zag at hn;rw[if_pos h] at hn;simp only[pOk,inB,Bool.and_eq_true,Bool.or_eq_true,decide_eq_true_eq,Bool.not_eq_true',decide_eq_false_iff_not] at h
  split at hn
  ·omega
  split at hn<;>omega
 obtain⟨c,hc⟩:∃ c:Fin 3,p.2.toNat=c.val:=⟨⟨p.2.toNat,by omega⟩,rfl⟩;rw[hc];have:=Zcp (ZeT c);rw[ZcR (ZaS (ZeT c))] at this;exact this
theorem ZoA {d:DfaD} (h:Zac d.next d.ends=true):Zac (minD d).next (minD d).ends=true:=by rw[← ZcR (ZaS h)];exact Zcp h
end Go.Proofs.YtncekbbhgipdlaaGreat
