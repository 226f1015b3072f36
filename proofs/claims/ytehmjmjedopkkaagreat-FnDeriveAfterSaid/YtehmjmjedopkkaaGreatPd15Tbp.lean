/-
  Tables of truth values as the reference keeps them: a slice of slices, each in a block of its own.
  No condition.
-/
import Derived.Test.YtehmjmjedopkkaaGreatPd05Wr
import Derived.Test.YtehmjmjedopkkaaGreatPd11Ex
namespace Go.Proofs.YtehmjmjedopkkaaGreat
open Go.RowKit
def rowA (N:Nat) (T:Nat→Nat→Bool) (i:Nat):Array Value:=((List.range N).map fun j=>Value.bool (T i j)).toArray
theorem Zlx {N:Nat} (T:Nat→Nat→Bool) {i j:Nat} (hj:j<N):(rowA N T i)[j]? = some (.bool (T i j)):=by unfold rowA;rw[List.getElem?_toArray,List.getElem?_map,List.getElem?_range hj];rfl
theorem Zm2 {N:Nat} (T:Nat→Nat→Bool) {i j:Nat} (hj:j<N) (r:Bool):(rowA N T i).setIfInBounds j (.bool r)=rowA N (fun a b=>if a=i∧b=j then r else T a b) i:=by
 unfold rowA;rw[List.setIfInBounds_toArray];congr 1;apply List.ext_getElem?;intro k;rw[List.getElem?_set,List.getElem?_map,List.getElem?_map];by_cases hk:k<N
 ·rw[List.getElem?_range hk];by_cases he:j=k
  ·subst he;rw[if_pos rfl,if_pos (by simp;omega),Option.map_some];exact congrArg (fun x=>some (Value.bool x)) (if_pos ⟨rfl,rfl⟩).symm
  rw[if_neg he,Option.map_some,Option.map_some];exact congrArg (fun x=>some (Value.bool x)) (if_neg (fun h=>he h.2.symm)).symm
 rw[List.getElem?_eq_none (by simp;omega)];by_cases he:j=k
 ·omega
 rw[if_neg he];rfl
theorem Zew {N:Nat} {T U:Nat→Nat→Bool} {i:Nat} (h:∀ j,j<N→T i j=U i j):rowA N T i=rowA N U i:=by unfold rowA;congr 1;apply List.map_congr_left;intro j hj;rw[h j (List.mem_range.1 hj)]
def Ent.bxs (R:Nat→Nat) (m N:Nat) (T:Nat→Nat→Bool):Ent :=
 ⟨fun k=>∃ i,i<m∧k=R i,fun w=>(∀ i,i<m→Bx w (R i) (rowA N T i) 4)∧∀ i j,i<j→j<m→R i≠R j,fun _ _ h hk=>⟨fun i hi=>(hk _ ⟨i,hi,rfl⟩).trans (h.1 i hi),h.2⟩⟩
theorem Ent.bxs_nil (R:Nat→Nat) (N:Nat) (T:Nat→Nat→Bool) (w:World):(Ent.bxs R 0 N T).holds w:=⟨fun i hi=>absurd hi (by omega),fun i j _ hj=>absurd hj (by omega)⟩
def upR (R:Nat→Nat) (q h i:Nat):Nat:=if i=q then h else R i
theorem Zh0 {R:Nat→Nat} {q h i:Nat} (hi:i<q):upR R q h i=R i:=if_neg (by omega)
theorem ZjC (R:Nat→Nat) (q h:Nat):upR R q h q=h:=if_pos rfl
theorem St.bxsAdd {w0 w:World} {L:List Ent} (h:St w0 w L) (i j:Nat) (hij:i≠j) {R:Nat→Nat} {q N b:Nat} {T:Nat→Nat→Bool} (hx:L[i]? = some (Ent.bxs R q N T)) (hy:L[j]? = some (Ent.box b (rowA N T q) 4)) :
  St w0 w ((L.set i (Ent.bxs (upR R q b) (q+1) N T)).set j Ent.nil):=by
 refine h.merge i j hij hx hy _ (fun h1 h2 h3 => ?_) fun k hk => ?_
 ·refine⟨fun a ha => ?_,fun a c hac hc => ?_⟩
  ·by_cases e:a=q
   ·subst e;rw[ZjC];exact h2
   rw[Zh0 (by omega)];exact h1.1 a (by omega)
  rw[Zh0 (show a<q by omega)];by_cases e:c=q
  ·subst e;rw[ZjC];exact fun e=>h3 (R a) ⟨a,by omega,rfl⟩ e
  rw[Zh0 (by omega)];exact h1.2 a c hac (by omega)
 obtain⟨a,ha,rfl⟩:=hk;by_cases e:a=q
 ·subst e;rw[ZjC];exact .inr rfl
 rw[Zh0 (by omega)];exact .inl ⟨a,by omega,rfl⟩
theorem St.bxsSet {w0 w:World} {L:List Ent} (h:St w0 w L) (i:Nat) {R:Nat→Nat} {m N:Nat} {T U:Nat→Nat→Bool} (hx:L[i]? = some (Ent.bxs R m N T)) {a j:Nat} (ha:a<m) (hj:j<N) (r:Bool) (hU:∀ x y,x<m→y<N→U x y=if x=a∧y=j then r else T x y) :
  St w0 (w.setCell ⟨R a,j,none⟩ (.bool r)) (L.set i (Ent.bxs R m N U)):=by
 obtain⟨h1,h2⟩:(∀ i,i<m→Bx w (R i) (rowA N T i) 4)∧∀ i j,i<j→j<m→R i≠R j:=(h.has i _ hx).1;have hb:=(h1 a ha).set j (.bool r)
 have hne:∀ x,x<m→x≠a→R x≠R a:=fun x hxm hxa=>by
  rcases Nat.lt_or_gt_of_ne hxa with hl|hl
  ·exact h2 x a hl ha
  exact(h2 a x hl hxm).symm
 refine h.turn i hx _ rfl rfl rfl (by simp[World.setCell]) (fun k _ hk=>Below.heap_setCell _ _ _ _ (fun e=>hk ⟨a,ha,e⟩)) ⟨fun x hxm => ?_,h2⟩ fun k hk => ?_
 ·by_cases e:x=a
  ·subst e;rw[Zm2 T hj] at hb;rw[Zew (T:=U) (U:=fun p q=>if p=x∧q=j then r else T p q) fun y hy=>hU x y hxm hy];exact hb
  rw[Zew (T:=U) (U:=T) fun y hy=>by rw[hU x y hxm hy,if_neg fun g=>e g.1]];exact(Below.heap_setCell _ _ _ _ (hne x hxm e)).trans (h1 x hxm)
 obtain⟨x,hxm,rfl⟩:=hk;refine⟨?_,.inl ⟨x,hxm,rfl⟩⟩;have:=((h.has i _ hx).2 (R x) ⟨x,hxm,rfl⟩).2;simpa [World.setCell] using this
theorem St.bxsCell {w0 w:World} {L:List Ent} (h:St w0 w L) (i:Nat) {R:Nat→Nat} {m N:Nat} {T:Nat→Nat→Bool} (hx:L[i]? = some (Ent.bxs R m N T)) {a j:Nat} (ha:a<m) (hj:j<N):w.cell? ⟨R a,j,none⟩=some (.bool (T a j))∧w.frozen? ⟨R a,j,none⟩=false:=by have h1:Bx w (R a) (rowA N T a) 4:=(h.has i _ hx).1.1 a ha;exact⟨(h1.cell j).trans (Zlx T hj),h1.fr j⟩
def rowV (R:Nat→Nat) (N m:Nat):List Value:=(List.range m).map fun i => .slice (some ⟨R i,0,none⟩) N N
theorem Zi5 (R:Nat→Nat) (N:Nat) {m i:Nat} (hi:i<m):(rowV R N m)[i]? = some (.slice (some ⟨R i,0,none⟩) N N):=by unfold rowV;rw[List.getElem?_map,List.getElem?_range hi];rfl
theorem Zls (R:Nat→Nat) (N m b:Nat):rowV R N m++[.slice (some ⟨b,0,none⟩) N N]=rowV (upR R m b) N (m+1):=by unfold rowV;rw[List.range_succ,List.map_append,List.map_singleton,ZjC];congr 1;apply List.map_congr_left;intro i hi;rw[Zh0 (List.mem_range.1 hi)]
def TbH (X:Ent) (v:Value) (N:Nat) (T:Nat→Nat→Bool):Prop:=∃ (B c:Nat) (R:Nat→Nat),v = .slice (some ⟨B,0,none⟩) N c∧∀ u,X.holds u→(∀ i,i<N→u.cell? ⟨B,i,none⟩=some (.slice (some ⟨R i,0,none⟩) N N))∧∀ i j,i<N→j<N→u.cell? ⟨R i,j,none⟩=some (.bool (T i j))
theorem TbH.left {E F:Ent} {v:Value} {N:Nat} {T:Nat→Nat→Bool} (h:TbH E v N T):TbH (Ent.all [E,F]) v N T:=by obtain⟨B,c,R,hv,h1⟩:=h;exact⟨B,c,R,hv,fun u hu=>h1 u (hu _ (by simp))⟩
theorem TbH.right {E F:Ent} {v:Value} {N:Nat} {T:Nat→Nat→Bool} (h:TbH F v N T):TbH (Ent.all [E,F]) v N T:=by obtain⟨B,c,R,hv,h1⟩:=h;exact⟨B,c,R,hv,fun u hu=>h1 u (hu _ (by simp))⟩
theorem TbH.made (B c N:Nat) (R:Nat→Nat) (T:Nat→Nat→Bool):TbH (Ent.all [Ent.row 30 1 (.slice (some ⟨B,0,none⟩) N c) N (rowV R N N),Ent.bxs R N N T]) (.slice (some ⟨B,0,none⟩) N c) N T:=by
 refine⟨B,c,R,rfl,fun u hu=>⟨fun i hi => ?_,fun i j hi hj => ?_⟩⟩
 ·have h1:u.ownsRow 0 30 1 (.slice (some ⟨B,0,none⟩) N c) N (rowV R N N):=hu _ (List.Mem.head _);exact(h1.cellAt i (by omega)).trans (Zi5 R N hi)
 have h1:(Ent.bxs R N N T).holds u:=hu _ (List.Mem.tail _ (List.Mem.head _));exact((h1.1 i hi).cell j).trans (Zlx T hj)
theorem TbH.congr {X:Ent} {v:Value} {N:Nat} {T U:Nat→Nat→Bool} (h:TbH X v N T) (hc:∀ i j,i<N→j<N→T i j=U i j):TbH X v N U:=by obtain⟨B,c,R,hv,h1⟩:=h;exact⟨B,c,R,hv,fun u hu=>⟨(h1 u hu).1,fun i j hi hj=>by rw[(h1 u hu).2 i j hi hj,hc i j hi hj]⟩⟩
theorem ZkJ (k:Nat):madeCells #[.bool false] k=(List.replicate k (Value.bool false)).toArray:=by
 unfold madeCells;apply Array.ext_getElem?;intro i;by_cases h:i<k
 ·simp[h,Nat.mod_one]
 simp[h]
theorem Zkz (N i:Nat):rowA N (fun _ _=>false) i=(List.replicate N (Value.bool false)).toArray:=by
 unfold rowA;congr 1;apply List.ext_getElem?;intro k;rw[List.getElem?_map,List.getElem?_replicate];by_cases h:k<N
 ·rw[List.getElem?_range h,if_pos h];rfl
 rw[List.getElem?_eq_none (by simp;omega),if_neg h];rfl
theorem St.newRow0 {w0 w:World} {L:List Ent} (h:St w0 w L) (T size:Nat):St w0 (w.alloc (.cells #[] T)) (L++[Ent.row T size (.slice (some ⟨w.heap.size,0,none⟩) 0 0) 0 []]):=by have h1:=(h.alloc w.heap.size rfl #[] T).boxrow (b:=w.heap.size) (T:=T) L.length 0 size [] (by simp) (by simp) (by unfold maxLen;omega);simpa using h1
theorem St.bxsNil {w0 w:World} {L:List Ent} (h:St w0 w L) (N:Nat) (T:Nat→Nat→Bool):St w0 w (L++[Ent.bxs (fun _=>0) 0 N T]):=h.add (Below.refl _ _) _ (Ent.bxs_nil _ N T w) fun k hk=>by obtain⟨i,hi,-⟩:=hk;exact absurd hi (by omega)
theorem St.bxsTo {w0 w:World} {L:List Ent} (h:St w0 w L) (i:Nat) {R:Nat→Nat} {m N:Nat} {T:Nat→Nat→Bool} (hx:L[i]? = some (Ent.bxs R m N T)) (U:Nat→Nat→Bool) (hU:∀ a b,a<m→b<N→T a b=U a b):St w0 w (L.set i (Ent.bxs R m N U)) :=
 h.same i hx _ (fun hb=>⟨fun a ha=>by rw[← Zew fun b hb=>hU a b ha hb];exact hb.1 a ha,hb.2⟩) fun k hk=>hk
end Go.Proofs.YtehmjmjedopkkaaGreat
namespace Go.Proofs.YtehmjmjedopkkaaGreat
def StarL (L:List Nat→Prop) (w:List Nat):Prop:=∃ ws:List (List Nat),w=ws.flatten∧∀ u∈ws,L u
theorem StarL.nil {L:List Nat→Prop}:StarL L []:=⟨[],rfl,by simp⟩
theorem StarL.cons {L:List Nat→Prop} {u w:List Nat} (h:L u) (h':StarL L w):StarL L (u++w):=by
 obtain⟨ws,rfl,hw⟩:=h'
 exact⟨u::ws,rfl,fun x hx=>by
  rcases List.mem_cons.1 hx with rfl|hx
  ·exact h
  exact hw x hx⟩
def memE:Ex→List Nat→Prop
 | .zero,_=>False
 | .one,w=>w=[]
 | .ltr c,w=>w=[c.val]
 | .join a b,w=>∃ u v,w=u++v∧memE a u∧memE b v
 | .alt a b,w=>memE a w∨memE b w
 | .both a b,w=>memE a w∧memE b w
 | .neg a,w=>¬ memE a w
 | .star a,w=>StarL (memE a) w
def seg (w:List Nat) (i j:Nat):List Nat:=(w.drop i).take (j-i)
theorem ZdL {w:List Nat} {i j:Nat} (hij:i≤j) (hj:j≤w.length):(seg w i j).length=j-i:=by unfold seg;rw[List.length_take,List.length_drop];omega
theorem ZjM (w:List Nat) (i:Nat):seg w i i=[]:=by unfold seg;simp
theorem ZdX {w:List Nat} {i k j:Nat} (h1:i≤k) (h2:k≤j):seg w i j=seg w i k++seg w k j:=by
 unfold seg;have e:j-i=(k-i)+(j-k):=by omega
 rw[e,List.take_add,List.drop_drop];congr 3;omega
theorem ZfD {w u v:List Nat} {i j:Nat} (hij:i≤j) (hj:j≤w.length) (h:seg w i j=u++v):i+u.length≤j∧u=seg w i (i+u.length)∧v=seg w (i+u.length) j:=by
 have hl:=ZdL hij hj;rw[h,List.length_append] at hl;have hk:i+u.length≤j:=by omega
 have hs:=ZdX (w:=w) (i:=i) (k:=i+u.length) (j:=j) (by omega) hk;rw[h] at hs;have hul:u.length=(seg w i (i+u.length)).length:=by rw[ZdL (by omega) (by omega)];omega
 obtain⟨e1,e2⟩:=List.append_inj hs hul;exact⟨hk,e1,e2⟩
theorem Zlk {w:List Nat} {i c:Nat} (hi:i<w.length):seg w i (i+1)=[c]↔w.getD i 0=c:=by
 have e:seg w i (i+1)=[w.getD i 0]:=by unfold seg;rw[Nat.add_sub_cancel_left,List.drop_eq_getElem_cons hi,List.take_succ_cons,List.take_zero];simp[hi]
 rw[e];simp
def memS (t:Ex) (w:List Nat) (i j:Nat):Prop:=memE t (seg w i j)
theorem ZlS (w:List Nat) (i j:Nat):¬ memS .zero w i j:=fun h=>h
theorem Zne {w:List Nat} {i j:Nat} (hij:i≤j) (hj:j≤w.length):memS .one w i j↔i=j:=by
 show seg w i j=[]↔_;have hl:=ZdL hij hj;constructor
 ·intro h;rw[h] at hl;simp at hl;omega
 rintro rfl;exact ZjM w i
theorem Znf {w:List Nat} {i j:Nat} {c:Fin 3} (hij:i≤j) (hj:j≤w.length):memS (.ltr c) w i j↔j=i+1∧w.getD i 0=c.val:=by
 show seg w i j=[c.val]↔_;have hl:=ZdL hij hj;constructor
 ·intro h;have e:j=i+1:=by rw[h] at hl;simp at hl;omega
  subst e;exact⟨rfl,(Zlk (by omega)).1 h⟩
 rintro⟨rfl,h⟩;exact(Zlk (by omega)).2 h
theorem ZlT {a b:Ex} {w:List Nat} {i j:Nat} (hij:i≤j) (hj:j≤w.length):memS (.join a b) w i j↔∃ k,i≤k∧k≤j∧memS a w i k∧memS b w k j:=by
 constructor
 ·rintro⟨u,v,h,h1,h2⟩;obtain⟨hk,e1,e2⟩:=ZfD hij hj h;exact⟨i+u.length,by omega,hk,by unfold memS;rw[← e1];exact h1,by unfold memS;rw[← e2];exact h2⟩
 rintro⟨k,h1,h2,h3,h4⟩;exact⟨_,_,ZdX h1 h2,h3,h4⟩
theorem StarL.first {L:List Nat→Prop} {w:List Nat} (h:StarL L w):w=[]∨∃ u v,u≠[]∧w=u++v∧L u∧StarL L v:=by
 obtain⟨ws,rfl,hs⟩:=h
 induction ws with
 | nil=>exact .inl rfl
 | cons u ws ih =>
  by_cases hu:u=[]
  ·subst hu;exact ih fun x hx=>hs x (by simp[hx])
  exact .inr ⟨u,ws.flatten,hu,rfl,hs u (by simp),ws,rfl,fun x hx=>hs x (by simp[hx])⟩
theorem StarL.snoc {L:List Nat→Prop} {u w:List Nat} (h:StarL L w) (h':L u):StarL L (w++u):=by
 obtain⟨ws,rfl,hw⟩:=h;refine⟨ws++[u],by simp,fun x hx => ?_⟩;rcases List.mem_append.1 hx with hx|hx
 ·exact hw x hx
 simp at hx;subst hx;exact h'
theorem StarL.last {L:List Nat→Prop} {w:List Nat} (h:StarL L w):w=[]∨∃ u v,v≠[]∧w=u++v∧StarL L u∧L v:=by
 obtain⟨ws,rfl,hs⟩:=h;obtain⟨rs,rfl⟩:∃ rs:List (List Nat),ws=rs.reverse:=⟨ws.reverse,by simp⟩
 induction rs with
 | nil=>exact .inl rfl
 | cons u rs ih =>
  have hu:L u:=hs u (by simp);have hr:∀ x∈rs.reverse,L x:=fun x hx=>hs x (by simp at hx ⊢;exact .inl hx)
  rw[List.reverse_cons,List.flatten_append];by_cases hn:u=[]
  ·subst hn;simpa using ih hr
  exact .inr ⟨rs.reverse.flatten,u,hn,by simp,⟨rs.reverse,rfl,hr⟩,hu⟩
theorem Zij {a:Ex} {w:List Nat} {i j:Nat} (hij:i≤j) (hj:j≤w.length):memS (.star a) w i j↔i=j∨∃ k,i+1≤k∧k≤j∧memS a w i k∧memS (.star a) w k j:=by
 constructor
 ·intro h;rcases StarL.first h with h|⟨u,v,hu,h,h1,h2⟩
  ·have hl:=ZdL hij hj;rw[h] at hl;simp at hl;exact .inl (by omega)
  obtain⟨hk,e1,e2⟩:=ZfD hij hj h;have hpos:=List.length_pos_iff.2 hu;exact .inr ⟨i+u.length,by omega,hk,by unfold memS;rw[← e1];exact h1,by unfold memS;rw[← e2];exact h2⟩
 rintro(rfl|⟨k,h1,h2,h3,h4⟩)
 ·unfold memS;rw[ZjM];exact StarL.nil
 unfold memS;rw[ZdX (show i≤k by omega) h2];exact StarL.cons h3 h4
def stR (A:Nat→Nat→Prop):Nat→Nat→Nat→Prop
 | 0,i,j=>i=j
 | m+1,i,j=>stR A m i j∨∃ k,i≤k∧k≤j∧stR A m i k∧A k j
theorem ZmU {A:Nat→Nat→Prop} {i j:Nat}:∀ {m n:Nat},m≤n→stR A m i j→stR A n i j
 | m,n,h,hm=>by
  induction n with
  | zero=>obtain rfl:m=0:=by omega
          exact hm
  | succ n ih =>
   by_cases he:m=n+1
   ·subst he;exact hm
   exact .inl (ih (by omega))
theorem Zha {a:Ex} {w:List Nat}:∀ (m:Nat) {i j:Nat},i≤j→j≤w.length→stR (memS a w) m i j→memS (.star a) w i j
 | 0,i,j,hij,hj,h=>(Zij hij hj).2 (.inl h)
 | m+1,i,j,hij,hj,h=>by
  rcases h with h|⟨k,h1,h2,h3,h4⟩
  ·exact Zha m hij hj h
  have hs:=Zha m h1 (by omega) h3;unfold memS at hs h4 ⊢;rw[ZdX h1 h2];exact StarL.snoc hs h4
theorem ZmS {a:Ex} {w:List Nat}:∀ (d:Nat) {i j:Nat},i≤j→j≤w.length→j-i≤d→memS (.star a) w i j→stR (memS a w) d i j:=by
 intro d
 induction d with
 | zero =>intro i j hij hj hd h;exact(show i=j by omega)
 | succ d ih =>
  intro i j hij hj hd h;rcases StarL.last h with h|⟨u,v,hv,h,h1,h2⟩
  ·have hl:=ZdL hij hj;rw[h] at hl;simp at hl;exact ZmU (Nat.zero_le _) (show i=j by omega)
  obtain⟨hk,e1,e2⟩:=ZfD hij hj h;have hl:=ZdL hij hj;rw[h,List.length_append] at hl;have hpos:=List.length_pos_iff.2 hv;exact .inr ⟨i+u.length,by omega,hk,ih (by omega) (by omega) (by omega) (by unfold memS;rw[← e1];exact h1),by unfold memS;rw[← e2];exact h2⟩
theorem Zoe {a:Ex} {w:List Nat} {i j:Nat} (hij:i≤j) (hj:j≤w.length):stR (memS a w) w.length i j↔memS (.star a) w i j :=
 ⟨Zha _ hij hj,ZmS _ hij hj (by omega)⟩
end Go.Proofs.YtehmjmjedopkkaaGreat
namespace Go.Proofs.YtehmjmjedopkkaaGreat
open Go.RowKit
def ZbH (n:Nat) (F:Nat→Nat→Bool) (a b:Nat):Bool:=decide (a≤b∧b≤n)&&F a b
def Zjh (A B:Nat→Nat→Bool) (i j:Nat):Bool:=(List.range 9).any fun k=>decide (i≤k∧k≤j)&&(A i k&&B k j)
theorem Zf5 {A B:Nat→Nat→Bool} {n i j:Nat} (hn:n≤8) (hj:j≤n):Zjh A B i j=true↔∃ k,i≤k∧k≤j∧A i k=true∧B k j=true:=by
 unfold Zjh;rw[List.any_eq_true];constructor
 ·rintro⟨k,-,h⟩;rw[Bool.and_eq_true,Bool.and_eq_true,decide_eq_true_eq] at h;exact⟨k,h.1.1,h.1.2,h.2.1,h.2.2⟩
 rintro⟨k,h1,h2,h3,h4⟩;refine⟨k,List.mem_range.2 (by omega),?_⟩;rw[Bool.and_eq_true,Bool.and_eq_true,decide_eq_true_eq];exact⟨⟨h1,h2⟩,h3,h4⟩
def stB (n:Nat) (A:Nat→Nat→Bool):Nat→Nat→Nat→Bool
 | 0=>fun i j=>decide (i=j)
 | m+1=>fun i j=>stB n A m i j||Zjh (ZbH n (stB n A m)) A i j
theorem Zb9 {n i j:Nat} (F:Nat→Nat→Bool) (h1:i≤j) (h2:j≤n):ZbH n F i j=F i j:=by unfold ZbH;rw[decide_eq_true ⟨h1,h2⟩,Bool.true_and]
theorem ZiX {n:Nat} (hn:n≤8) (A:Nat→Nat→Bool):∀ (m:Nat) {i j:Nat},i≤j→j≤n→(stB n A m i j=true↔stR (fun a b=>A a b=true) m i j)
 | 0,i,j,_,_=>by simp[stB,stR]
 | m+1,i,j,hij,hj=>by show(stB n A m i j||Zjh _ A i j)=true↔stR _ m i j∨_;rw[Bool.or_eq_true,ZiX hn A m hij hj,Zf5 hn hj];refine or_congr Iff.rfl (exists_congr fun k=>and_congr_right fun h1=>and_congr_right fun h2 => ?_);rw[Zb9 _ h1 (by omega),ZiX hn A m h1 (by omega)]
theorem Zfy {A B:Nat→Nat→Prop} {n:Nat} (h:∀ a b,a≤b→b≤n→(A a b↔B a b)):∀ (m:Nat) {i j:Nat},i≤j→j≤n→(stR A m i j↔stR B m i j)
 | 0,_,_,_,_=>Iff.rfl
 | m+1,i,j,hij,hj=>or_congr (Zfy h m hij hj) (exists_congr fun k=>and_congr_right fun h1=>and_congr_right fun h2=>and_congr (Zfy h m h1 (by omega)) (h k j h2 hj))
def tabE (n:Nat) (ls:List Nat):Ex→Nat→Nat→Bool
 | .zero=>fun _ _=>false
 | .one=>fun i j=>decide (i=j)
 | .ltr c=>fun i j=>decide (j=i+1∧ls.getD i 0=c.val)
 | .join a b=>Zjh (ZbH n (tabE n ls a)) (ZbH n (tabE n ls b))
 | .alt a b=>fun i j=>ZbH n (tabE n ls a) i j||ZbH n (tabE n ls b) i j
 | .both a b=>fun i j=>ZbH n (tabE n ls a) i j&&ZbH n (tabE n ls b) i j
 | .neg a=>fun i j => !ZbH n (tabE n ls a) i j
 | .star a=>stB n (ZbH n (tabE n ls a)) n
theorem Zbv {n:Nat} {ls:List Nat} (hl:ls.length=n) (hn:n≤8):∀ (t:Ex) {i j:Nat},i≤j→j≤n→(tabE n ls t i j=true↔memS t ls i j)
 | .zero,i,j,_,_=>by simp[tabE,ZlS]
 | .one,i,j,hij,hj=>by rw[Zne hij (by omega)];simp[tabE]
 | .ltr c,i,j,hij,hj=>by rw[Znf hij (by omega)];simp[tabE]
 | .join a b,i,j,hij,hj=>by
  rw[ZlT hij (by omega)];show Zjh _ _ i j=true↔_;rw[Zf5 hn hj];refine exists_congr fun k=>and_congr_right fun h1=>and_congr_right fun h2 => ?_
  rw[Zb9 _ h1 (by omega),Zb9 _ h2 hj,Zbv hl hn a h1 (by omega),Zbv hl hn b h2 hj]
 | .alt a b,i,j,hij,hj=>by show(ZbH n _ i j||ZbH n _ i j)=true↔_;rw[Zb9 _ hij hj,Zb9 _ hij hj,Bool.or_eq_true,Zbv hl hn a hij hj,Zbv hl hn b hij hj];rfl
 | .both a b,i,j,hij,hj=>by show(ZbH n _ i j&&ZbH n _ i j)=true↔_;rw[Zb9 _ hij hj,Zb9 _ hij hj,Bool.and_eq_true,Zbv hl hn a hij hj,Zbv hl hn b hij hj];rfl
 | .neg a,i,j,hij,hj=>by show(!ZbH n _ i j)=true↔¬ memS a ls i j;rw[Zb9 _ hij hj,← Zbv hl hn a hij hj];simp
 | .star a,i,j,hij,hj=>by show stB n _ n i j=true↔_;rw[ZiX hn _ n hij hj,← Zoe hij (by omega),hl];refine Zfy (n:=n) (fun x y hx hy => ?_) n hij hj;rw[Zb9 _ hx hy,Zbv hl hn a hx hy]
theorem Zk4 {n:Nat} {ls:List Nat} (hl:ls.length=n) (hn:n≤8) (a:Ex) {i j:Nat} (hij:i≤j) (hj:j≤n):tabE n ls (.star a) i j=true↔i=j∨∃ k,i+1≤k∧k≤j∧tabE n ls a i k=true∧tabE n ls (.star a) k j=true:=by rw[Zbv hl hn _ hij hj,Zij hij (by omega)];refine or_congr Iff.rfl (exists_congr fun k=>and_congr_right fun h1=>and_congr_right fun h2 => ?_);rw[Zbv hl hn a (by omega) (by omega),Zbv hl hn _ h2 hj]
def mkE (p:Int × Int) (a b:Ex):Ex:=if p.1=1 then .zero else if p.1=2 then .one else if p.1=3 then .ltr (if p.2=1 then 1 else if p.2=2 then 2 else 0) else if p.1=4 then .join a b else if p.1=5 then .alt a b else if p.1=6 then .both a b else if p.1=7 then .neg a else .star a
theorem Zor (c:Fin 3) (a b:Ex):mkE (3,(c.val:Int)) a b = .ltr c:=by
 have:c=0∨c=1∨c=2:=by omega
 rcases this with rfl|rfl|rfl<;>rfl
def subs:Ex→List Ex
 | .zero=>[.zero]
 | .one=>[.one]
 | .ltr c=>[.ltr c]
 | .join a b=>subs a++subs b++[.join a b]
 | .alt a b=>subs a++subs b++[.alt a b]
 | .both a b=>subs a++subs b++[.both a b]
 | .neg a=>subs a++[.neg a]
 | .star a=>subs a++[.star a]
theorem ZaT:∀ t:Ex,(subs t).length=t.post.length
 | .zero=>rfl
 | .one=>rfl
 | .ltr _=>rfl
 | .join a b=>by simp[subs,Ex.post,ZaT a,ZaT b]
 | .alt a b=>by simp[subs,Ex.post,ZaT a,ZaT b]
 | .both a b=>by simp[subs,Ex.post,ZaT a,ZaT b]
 | .neg a=>by simp[subs,Ex.post,ZaT a]
 | .star a=>by simp[subs,Ex.post,ZaT a]
def SubAt (es:List (Int × Int)) (ts:List Ex) (k:Nat):Prop :=
 (Zab (es.getD k (0,0))=0∧ts.getD k .zero=mkE (es.getD k (0,0)) .zero .zero) ∨
 (Zab (es.getD k (0,0))=1∧∃ q,k=q+1∧ts.getD k .zero=mkE (es.getD k (0,0)) (ts.getD q .zero) (ts.getD q .zero)) ∨
 (Zab (es.getD k (0,0))=2∧∃ q a,k=q+1∧a+1≤q∧beginsAt es (q+1) (a+1)∧ts.getD k .zero=mkE (es.getD k (0,0)) (ts.getD a .zero) (ts.getD q .zero))
theorem Zcp {xs ys:List Ex} {k:Nat} (h:k<xs.length):(xs++ys).getD k .zero=xs.getD k .zero:=by simp[List.getD_eq_getElem?_getD,List.getElem?_append_left h]
theorem ZgS (xs ys:List Ex) (k:Nat):(xs++ys).getD (xs.length+k) .zero=ys.getD k .zero:=by simp[List.getD_eq_getElem?_getD,List.getElem?_append_right (show xs.length≤xs.length+k by omega)]
theorem beginsAt.left {es ys:List (Int × Int)} {n a:Nat} (h:beginsAt es n a) (hn:n≤es.length):beginsAt (es++ys) n a:=by
 obtain⟨h1,h2,h3⟩:=h;refine⟨h1,?_,fun j h4 h5 => ?_⟩
 ·rw[ZaQ _ _ _ (by omega),ZaQ _ _ _ hn];exact h2
 rw[ZaQ _ _ _ (by omega),ZaQ _ _ _ hn];exact h3 j h4 h5
theorem beginsAt.right (xs:List (Int × Int)) {ys:List (Int × Int)} {n a:Nat} (h:beginsAt ys n a):beginsAt (xs++ys) (xs.length+n) (xs.length+a):=by
 obtain⟨h1,h2,h3⟩:=h;refine⟨by omega,?_,fun j h4 h5 => ?_⟩
 ·rw[ZcE,ZcE];omega
 obtain⟨i,rfl⟩:=Nat.exists_eq_add_of_le (show xs.length≤j by omega);rw[ZcE,ZcE];have:=h3 i (by omega) (by omega);omega
theorem SubAt.left {es ys:List (Int × Int)} {ts us:List Ex} {k:Nat} (hl:ts.length=es.length) (hk:k<es.length) (h:SubAt es ts k):SubAt (es++ys) (ts++us) k:=by
 unfold SubAt at h ⊢;rw[Zeg hk,Zcp (show k<ts.length by omega)];rcases h with h|⟨h1,q,rfl,h2⟩|⟨h1,q,a,rfl,h2,h3,h4⟩
 ·exact .inl h
 ·exact .inr (.inl ⟨h1,q,rfl,by rw[Zcp (by omega)];exact h2⟩)
 exact .inr (.inr ⟨h1,q,a,rfl,h2,h3.left (by omega),by rw[Zcp (by omega),Zcp (by omega)];exact h4⟩)
theorem SubAt.right {es xs:List (Int × Int)} {ts us:List Ex} {k:Nat} (hx:us.length=xs.length) (h:SubAt es ts k):SubAt (xs++es) (us++ts) (xs.length+k):=by
 have g:∀ i,(us++ts).getD (xs.length+i) .zero=ts.getD i .zero:=fun i=>by rw[← hx];exact ZgS us ts i
 unfold SubAt at h ⊢;rw[ZdF,g];rcases h with h|⟨h1,q,rfl,h2⟩|⟨h1,q,a,rfl,h2,h3,h4⟩
 ·exact .inl h
 ·exact .inr (.inl ⟨h1,xs.length+q,rfl,by rw[g];exact h2⟩)
 exact .inr (.inr ⟨h1,xs.length+q,xs.length+a,rfl,by omega,h3.right xs,by rw[g,g];exact h4⟩)
theorem ZdU (t:Ex):(subs t).getD (t.post.length-1) .zero=t:=by
 have key:∀ (l:List Ex) (x:Ex) (n:Nat),n=l.length→(l++[x]).getD n .zero=x:=fun l x n e=>by subst e;simp[List.getD_eq_getElem?_getD]
 cases t with
 | zero=>rfl
 | one=>rfl
 | ltr c=>rfl
 | join a b=>exact key _ _ _ (by simp[Ex.post,ZaT])
 | alt a b=>exact key _ _ _ (by simp[Ex.post,ZaT])
 | both a b=>exact key _ _ _ (by simp[Ex.post,ZaT])
 | neg a=>exact key _ _ _ (by simp[Ex.post,ZaT])
 | star a=>exact key _ _ _ (by simp[Ex.post,ZaT])
theorem ZkY (a b:Ex) (rest:List (Int × Int)):beginsAt (a.post++b.post++rest) (a.post.length+b.post.length) a.post.length:=by
 obtain⟨a1,a2⟩:=ZfM a;obtain⟨b1,b2⟩:=ZfM b;have hd:∀ j,j≤b.post.length→dep (a.post++b.post++rest) (a.post.length+j)=1+dep b.post j:=fun j hj=>by rw[ZaQ _ _ _ (by simp;omega),ZcE,a2]
 have h0:=hd 0 (Nat.zero_le _);have hn:=hd b.post.length (Nat.le_refl _);rw[b2] at hn;rw[Nat.add_zero] at h0;refine⟨by have:=Zap b;omega,by rw[h0,hn];rfl,fun j h1 h2 => ?_⟩;obtain⟨i,rfl⟩:=Nat.exists_eq_add_of_le (Nat.le_of_lt h1);rw[hd i (by omega),hn];have:=ZgL b1 (show 0<i by omega) (by omega);omega
theorem Zfv {a b t:Ex} {p:Int × Int} (hp:Zab p=2) (ht:t=mkE p a b) (ha:∀ k,k<a.post.length→SubAt a.post (subs a) k) (hb:∀ k,k<b.post.length→SubAt b.post (subs b) k):∀ k,k<(a.post++b.post++[p]).length→SubAt (a.post++b.post++[p]) (subs a++subs b++[t]) k:=fun k hk=>by
 have la:=ZaT a;have lb:=ZaT b;have pa:=Zap a;have pb:=Zap b;simp only[List.length_append,List.length_cons,List.length_nil] at hk;by_cases h1:k<a.post.length
 ·rw[List.append_assoc,List.append_assoc];exact(ha k h1).left la h1
 by_cases h2:k<a.post.length+b.post.length
 ·obtain⟨i,rfl⟩:=Nat.exists_eq_add_of_le (show a.post.length≤k by omega);rw[List.append_assoc,List.append_assoc];exact((hb i (by omega)).left lb (by omega)).right la
 obtain rfl:k=a.post.length+b.post.length:=by omega
 obtain⟨x,hx⟩:∃ x,a.post.length=x+1:=⟨a.post.length-1,by omega⟩;obtain⟨y,hy⟩:∃ y,b.post.length=y+1:=⟨b.post.length-1,by omega⟩;have e1:(a.post++b.post++[p]).getD (a.post.length+b.post.length) (0,0)=p:=by simp[List.getD_eq_getElem?_getD]
 have e2:(subs a++subs b++[t]).getD (a.post.length+b.post.length) .zero=t:=by simp[List.getD_eq_getElem?_getD,← la,← lb]
 have e3:(subs a++subs b++[t]).getD x .zero=a:=by
  rw[List.append_assoc,Zcp (by omega)];have:=ZdU a
  rwa [hx,Nat.add_sub_cancel] at this
 have e4:(subs a++subs b++[t]).getD (a.post.length+y) .zero=b:=by
  rw[List.append_assoc,← la,ZgS,Zcp (by omega)];have:=ZdU b
  rwa [hy,Nat.add_sub_cancel] at this
 refine .inr (.inr ⟨by rw[e1];exact hp,a.post.length+y,x,by omega,by omega,?_,by rw[e1,e2,e3,e4];exact ht⟩);have:=ZkY a b [p];rw[hx] at this ⊢
 rwa [hy] at this
theorem Zh3 {a t:Ex} {p:Int × Int} (hp:Zab p=1) (ht:t=mkE p a a) (ha:∀ k,k<a.post.length→SubAt a.post (subs a) k):∀ k,k<(a.post++[p]).length→SubAt (a.post++[p]) (subs a++[t]) k:=fun k hk=>by
 have la:=ZaT a;have pa:=Zap a;simp only[List.length_append,List.length_cons,List.length_nil] at hk;by_cases h1:k<a.post.length
 ·exact(ha k h1).left la h1
 obtain rfl:k=a.post.length:=by omega
 obtain⟨x,hx⟩:∃ x,a.post.length=x+1:=⟨a.post.length-1,by omega⟩;have e1:(a.post++[p]).getD a.post.length (0,0)=p:=by simp[List.getD_eq_getElem?_getD]
 have e2:(subs a++[t]).getD a.post.length .zero=t:=by simp[List.getD_eq_getElem?_getD,← la]
 have e3:(subs a++[t]).getD x .zero=a:=by
  rw[Zcp (by omega)];have:=ZdU a
  rwa [hx,Nat.add_sub_cancel] at this
 exact .inr (.inl ⟨by rw[e1];exact hp,x,hx,by rw[e1,e2,e3];exact ht⟩)
theorem Zbw:∀ (t:Ex) (k:Nat),k<t.post.length→SubAt t.post (subs t) k
 | .zero,k,h=>by
  obtain rfl:k=0:=by simpa [Ex.post] using h
  exact .inl ⟨Zb5,rfl⟩
 | .one,k,h=>by
  obtain rfl:k=0:=by simpa [Ex.post] using h
  exact .inl ⟨Zb4,rfl⟩
 | .ltr c,k,h=>by
  obtain rfl:k=0:=by simpa [Ex.post] using h
  exact .inl ⟨ZbN c,(Zor c _ _).symm⟩
 | .join a b,k,h=>Zfv ZcW rfl (Zbw a) (Zbw b) k h
 | .alt a b,k,h=>Zfv Zd0 rfl (Zbw a) (Zbw b) k h
 | .both a b,k,h=>Zfv ZcX rfl (Zbw a) (Zbw b) k h
 | .neg a,k,h=>Zh3 ZdZ rfl (Zbw a) k h
 | .star a,k,h=>Zh3 ZcV rfl (Zbw a) k h
def lsT (l:List Nat):List Nat:=l.map (·-97)
theorem Zow (l:List Nat):(lsT l).length=l.length:=by simp[lsT]
theorem Zpg {l:List Nat} {i:Nat} (hi:i<l.length):(lsT l).getD i 0=l.getD i 0-97:=by simp[lsT,hi]
theorem ZcF {l:List Nat} (h:wdOk l=true):l.length≤8∧∀ i,i<l.length→97≤l.getD i 0∧l.getD i 0≤99:=by unfold wdOk okT at h;rw[Bool.and_eq_true,decide_eq_true_eq,List.all_eq_true] at h;refine⟨h.2,fun i hi => ?_⟩;have h1:=h.1 i (List.mem_range.2 hi);simp only[inB,Bool.and_eq_true,decide_eq_true_eq] at h1;omega
def anyU (f:Nat→Bool) (lo:Nat):Nat→Bool
 | 0=>false
 | d+1=>anyU f lo d||f (lo+d)
theorem ZhX (f:Nat→Bool) (lo:Nat):∀ d,anyU f lo d=true↔∃ m,lo≤m∧m<lo+d∧f m=true
 | 0=>⟨fun h=>(by cases h),fun ⟨m,h1,h2,_⟩=>(by omega)⟩
 | d+1=>by
  rw[anyU,Bool.or_eq_true,ZhX f lo d];constructor
  ·rintro(⟨m,h1,h2,h3⟩|h)
   ·exact⟨m,h1,by omega,h3⟩
   exact⟨lo+d,by omega,by omega,h⟩
  rintro⟨m,h1,h2,h3⟩;by_cases e:m=lo+d
  ·subst e;exact .inr h3
  exact .inl ⟨m,h1,by omega,h3⟩
theorem ZcR {n:Nat} {F:Nat→Nat→Bool} {i j:Nat} (h1:i≤j) (h2:j≤n):ZbH n F i j=F i j:=by unfold ZbH;rw[decide_eq_true ⟨h1,h2⟩,Bool.true_and]
theorem ZmP {n:Nat} (ls:List Nat) (a b:Ex) {i j:Nat} (hn:n≤8) (hij:i≤j) (hj:j≤n):tabE n ls (.join a b) i j=anyU (fun m=>ZbH n (tabE n ls a) i m&&ZbH n (tabE n ls b) m j) i (j+1-i):=by
 rw[Bool.eq_iff_iff,ZhX];rw[show tabE n ls (.join a b) i j=Zjh (ZbH n (tabE n ls a)) (ZbH n (tabE n ls b)) i j from rfl,Zf5 hn hj];constructor
 ·rintro⟨k,h1,h2,h3,h4⟩;exact⟨k,h1,by omega,by rw[h3,h4];rfl⟩
 rintro⟨k,h1,h2,h3⟩;rw[Bool.and_eq_true] at h3;exact⟨k,h1,by omega,h3.1,h3.2⟩
theorem ZmN {n:Nat} {ls:List Nat} (hl:ls.length=n) (a:Ex) {i j:Nat} (hn:n≤8) (hij:i≤j) (hj:j≤n):tabE n ls (.star a) i j=(decide (i=j)||anyU (fun m=>ZbH n (tabE n ls a) i m&&ZbH n (tabE n ls (.star a)) m j) (i+1) (j-i)):=by
 rw[Bool.eq_iff_iff,Zk4 hl hn a hij hj,Bool.or_eq_true,decide_eq_true_eq,ZhX];refine or_congr Iff.rfl ⟨?_,?_⟩
 ·rintro⟨k,h1,h2,h3,h4⟩;exact⟨k,h1,by omega,by rw[ZcR (by omega) (by omega),ZcR h2 hj,h3,h4];rfl⟩
 rintro⟨k,h1,h2,h3⟩;rw[ZcR (by omega) (by omega),ZcR (by omega) hj,Bool.and_eq_true] at h3;exact⟨k,h1,by omega,h3.1,h3.2⟩
theorem kinds {p1 p2 r:Int} (h:Zab (p1,p2)=r) (ho:pOk (p1,p2)=true):(p1=1∧r=0)∨(p1=2∧r=0)∨(p1=3∧r=0∧0≤p2∧p2≤2)∨(p1=4∧r=2)∨(p1=5∧r=2)∨(p1=6∧r=2)∨(p1=7∧r=1)∨(p1=8∧r=1):=by
 subst h;unfold Zab;rw[if_pos ho];unfold pOk inB at ho;simp only[Bool.and_eq_true,Bool.or_eq_true,decide_eq_true_eq,Bool.not_eq_true',decide_eq_false_iff_not] at ho;obtain⟨h1,h2⟩:=ho;have h8:p1=1∨p1=2∨p1=3∨p1=4∨p1=5∨p1=6∨p1=7∨p1=8:=by omega
 rcases h8 with rfl|rfl|rfl|rfl|rfl|rfl|rfl|rfl
 all_goals simp
 omega
theorem Zob {n:Nat} {l:List Nat} {p2:Int} (h0:0≤p2) (h2:p2≤2) {i j:Nat} (hi:i<l.length) (a b:Ex):tabE n (lsT l) (mkE (3,p2) a b) i j=(decide (j=i+1)&&(((l.getD i 0-97:Nat):Int)==p2)):=by
 have e:mkE (3,p2) a b = .ltr (if p2=1 then 1 else if p2=2 then 2 else 0):=rfl;rw[e,tabE];show decide (j=i+1∧(lsT l).getD i 0=_)=_;rw[Zpg hi,Bool.eq_iff_iff,decide_eq_true_eq,Bool.and_eq_true,decide_eq_true_eq,beq_iff_eq];refine and_congr Iff.rfl ?_;have h3:p2=0∨p2=1∨p2=2:=by omega
 rcases h3 with rfl|rfl|rfl
 ·simp
 ·simp;omega
 simp;omega
theorem ZmO {n:Nat} {ls:List Nat} {p2:Int} {i j:Nat} (hj:j≠i+1) (a b:Ex):tabE n ls (mkE (3,p2) a b) i j=false:=by have e:mkE (3,p2) a b = .ltr (if p2=1 then 1 else if p2=2 then 2 else 0):=rfl;rw[e,tabE];exact decide_eq_false fun h=>hj h.1
theorem yesI {a b:Int} (h:a=b):(a==b)=true∧(a=b)=True∧(a != b)=false:=by simp[h]
theorem Zol {A B C:Prop} (h:((0:Int)=0∧A)∨((0:Int)=1∧B)∨((0:Int)=2∧C)):A:=by
 rcases h with⟨-,h⟩|⟨h,-⟩|⟨h,-⟩
 ·exact h
 ·exact absurd h (by decide)
 exact absurd h (by decide)
theorem Zmc {vs:List Value} {q:Nat} (h:q<vs.length):vs[q]? = some (vs.getD q undef):=by rw[List.getD_eq_getElem?_getD,List.getElem?_eq_getElem h];rfl
theorem St.tab {w0 w:World} {L:List Ent} (h:St w0 w L) (i x:Nat) {T k c g q N:Nat} {vs:List Value} {X:Ent} {F:Nat→Nat→Bool} (hx:L[i]? = some (Ent.row T 1 (.slice (some ⟨g,0,none⟩) k c) k vs)) (hX:L[x]? = some X) (hvs:vs.length=k) (hq:q<k) (ht:TbH X (vs.getD q undef) N F) :
  ∃ (B c':Nat) (R:Nat→Nat),w.cell? ⟨g,q,none⟩=some (.slice (some ⟨B,0,none⟩) N c')∧(∀ i,i<N→w.cell? ⟨B,i,none⟩=some (.slice (some ⟨R i,0,none⟩) N N))∧∀ i j,i<N→j<N→w.cell? ⟨R i,j,none⟩=some (.bool (F i j)):=by
 obtain⟨B,c',R,hv,h1⟩:=ht;obtain⟨h2,h3⟩:=h1 w (h.has x _ hX).1;exact⟨B,c',R,by rw[← hv];exact h.rcell i q hx (by omega) (Zmc (by omega)),h2,h3⟩
end Go.Proofs.YtehmjmjedopkkaaGreat
