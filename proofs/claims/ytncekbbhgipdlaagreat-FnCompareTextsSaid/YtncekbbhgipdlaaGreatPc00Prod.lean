/-
  Small facts about slices in memory: what a slice value reads as, and that it still reads so in a later world.
  No condition: this text speaks of no program.
-/
import Derived.BigQuiet
import Derived.BigRegion
import Derived.Deep.AppendLies
import Derived.Deep.Cut
import Derived.Deep.CutBlock
import Derived.Deep.CutRange
import Derived.Deep.DeepAppendWide
import Derived.Deep.LoopGhost
import Derived.Deep.MidRow
import Derived.Deep.RegionHeld3
import Derived.Deep.RegionHeldLaw
import Derived.Deep.RegionLaw
import Derived.Deep.Slices
import Derived.Deep.Strs
import Derived.Deep.Upon
import Derived.Deep.WholeRow
import Derived.DeepKeys4
import Derived.Great.BuildSlice
import Derived.KernelRfl
import Derived.Laws.BitsAllLaws
import Derived.Laws.BytesArg
import Derived.Laws.Strings
import Derived.Lib.AppendZerosOnto
import Derived.Lib.Bytealg
import Derived.Lib.Hide
import Derived.Lib.SliceRun
import Derived.Lib.SmallJoins
import Derived.Maps.Keyed
import Derived.Maps.Own
import Derived.OpenShut
import Derived.ProofKit
import Derived.RegionTactic
import Derived.Room.AppendOwn
import Derived.Shelf.Strings.Search1
import Derived.StillTailTactics
import Derived.Tactics
import Derived.Test.YtncekbbhgipdlaaGreatProg
import Derived.WalkKit
import Derived.WalkLawsBesides
import Derived.WalkSmall
import Derived.WalkSpells
set_option maxHeartbeats 1600000
set_option maxRecDepth 100000
namespace Go.Proofs.YtncekbbhgipdlaaGreat
theorem eI {α:Sort _} (e:α):∃ x,x=e:=⟨e,rfl⟩
theorem eJ {α:Sort _} (e:α):∃ x,e=x:=⟨e,rfl⟩
theorem w_1 {α:Type _} (l:List α) (i:Nat) (a:α):l.toArray.setIfInBounds i a=(l.set i a).toArray:=List.setIfInBounds_toArray ..
theorem w_2 {α:Type _} {a b:α} {l:List α}:(a::l).set 0 b=b::l:=rfl
theorem w_3 {α:Type _} {a b:α} {l:List α} {n:Nat}:(a::l).set (n+1) b=a::l.set n b:=rfl
theorem w_4 {α:Type _} {x:Array α} {i:Nat} {d:α}:x.getD i d=x[i]?.getD d:=Array.getD_eq_getD_getElem? ..
theorem w_5 {α:Type _} {l:List α} {i:Nat}:l.toArray[i]?=l[i]?:=List.getElem?_toArray ..
theorem w_6 {α:Type _} {a:α} {l:List α}:(a::l)[0]?=some a:=rfl
theorem w_7 {α:Type _} {a:α} {i:Nat} {l:List α}:(a::l)[i+1]?=l[i]?:=rfl
theorem w_8 {α:Type _} {a b:α}:(some a).getD b=a:=rfl
theorem w_9 {α:Type _} (a b:α):(some a=some b)=(a=b):=Option.some.injEq ..
def alT:List Bool → Prop
 | [] => True
 | b::l => b=true∧alT l
theorem alT_of:∀ (l:List Bool),(∀ i,i<l.length→l.getD i true=true)→alT l
 | [],_ => trivial
 | _::l,h => ⟨h 0 (Nat.zero_lt_succ _),alT_of l fun i hi=>h (i+1) (Nat.succ_lt_succ hi)⟩
theorem zA {listed:Array Bool} {n:Nat} (h:∀ i,i<n→listed.getD i true=true) (hs:listed.size=n):alT listed.toList:=alT_of _ fun i hi=>by have h1:=h i (by rw[← hs];simpa using hi);rw[List.getD_eq_getElem?_getD,List.getElem?_eq_getElem hi];rw[Array.getD_eq_getD_getElem?,Array.getElem?_eq_getElem (by simpa using hi)] at h1;simpa using h1
structure QH (p:Prop):Prop where
 o:p
theorem qh {p:Prop} (h:p):QH p:=⟨h⟩
open Go.RowKit
structure Ext (B:Nat) (w w':World):Prop where
 size:w.heap.size≤w'.heap.size
 block:∀ k,k<B→w'.heap[k]? = w.heap[k]?
theorem Ext.refl (B:Nat) (w:World):Ext B w w:=⟨Nat.le_refl _,fun _ _=>rfl⟩
theorem Ext.of {B:Nat} {w w':World} (h:Below B w w'):Ext B w w':=⟨h.size,h.block⟩
structure Sl (B:Nat) (w:World) (v:Value) (n size:Nat) (cs:List Value):Prop where
 len:cs.length=n*size
 form:∃ a cap,v = .slice a n cap∧n≤cap∧cap≤maxLen ∧
  (0<n→∃ b off,a=some ⟨b,off,none⟩∧B≤b∧b<w.heap.size∧∀ j,j<n*size→w.cell? ⟨b,off+j,none⟩=cs[j]?)
theorem Sl.mono {B C:Nat} {w:World} {v:Value} {n size:Nat} {cs:List Value} (h:Sl B w v n size cs) (E:C≤B):Sl C w v n size cs:=by obtain⟨hl,a,cap,D,h1,h2,h3⟩:=h;refine⟨hl,a,cap,D,h1,h2,fun hn => ?_⟩;obtain⟨b,off,ha,hb,hlt,hc⟩:=h3 hn;exact⟨b,off,ha,by omega,hlt,hc⟩
theorem Sl.ext {B C:Nat} {w w':World} {v:Value} {n size:Nat} {cs:List Value} (h:Sl B w v n size cs) (he:Ext C w w') (E:w.heap.size≤C):Sl B w' v n size cs:=by obtain⟨hl,a,cap,D,h1,h2,h3⟩:=h;refine⟨hl,a,cap,D,h1,h2,fun hn => ?_⟩;obtain⟨b,off,ha,hb,hlt,hc⟩:=h3 hn;refine⟨b,off,ha,hb,Nat.lt_of_lt_of_le hlt he.size,fun j hj => ?_⟩;rw[← hc j hj];exact World.cell?_of_block (he.block b (by omega))
theorem Sl.below {B:Nat} {w w':World} {v:Value} {n size:Nat} {cs:List Value} (h:Sl B w v n size cs) (he:Below w.heap.size w w'):Sl B w' v n size cs :=
 h.ext (Ext.of he) (Nat.le_refl _)
theorem bcell {B:Nat} {W w1:World} (hb:Below B W w1):∀ b o,b<B→w1.cell? ⟨b,o,none⟩=W.cell? ⟨b,o,none⟩ :=
 fun b o h=>hb.cell (p:=⟨b,o,none⟩) h
theorem Zb5 {a b:Bool} (h:a=b):Ending.returned (.bool a) = .returned (.bool b):=by rw[h]
theorem ZfJ {k:IntKind} {a b:Int} (h:a=b):Ending.returned (.int k a) = .returned (.int k b):=by rw[h]
theorem ZpP (a b:Nat):((a:Int)==b)=decide (a=b):=by rw[Bool.eq_iff_iff];simp;omega
theorem Zex (w:World) (cs:Array Value) (T:TypeId) (j:Nat):(w.alloc (.cells cs T)).cell? ⟨w.heap.size,j,none⟩=cs[j]?:=by have h:=heap_alloc_new w (.cells cs T);unfold World.cell?;show(match (w.alloc (.cells cs T)).heap[w.heap.size]? with|some (.cells c _ _)=>if (none:Option Nat).isSome then none else c[j]? | _=>none)=_;rw[h];rfl
theorem ZbB (w:World) (o:Obj) (b j:Nat) (h:b<w.heap.size):(w.alloc o).cell? ⟨b,j,none⟩=w.cell? ⟨b,j,none⟩ :=
 World.cell?_of_block (Below.heap_alloc w o b h)
theorem ZjP {w wr:World} {cs:Array Value} {T:TypeId} (hb:Below (w.heap.size+1) (w.alloc (.cells cs T)) wr) (j:Nat):wr.cell? ⟨w.heap.size,j,none⟩=cs[j]? :=
 (bcell hb _ j (by omega)).trans (Zex w cs T j)
theorem ZlJ {w wr:World} {o:Obj} (hb:Below (w.heap.size+1) (w.alloc o) wr) (b j:Nat) (h:b<w.heap.size):wr.cell? ⟨b,j,none⟩=w.cell? ⟨b,j,none⟩ :=
 (bcell hb b j (by omega)).trans (ZbB w o b j h)
theorem ZsC {w wr:World} {o:Obj} (hb:Below (w.heap.size+1) (w.alloc o) wr):w.heap.size<wr.heap.size:=by have:=hb.size;simp at this;omega
def Bx (w:World) (b:Nat) (cs:Array Value) (T:TypeId):Prop:=w.heap[b]? = some (.cells cs T (0,0))
theorem Bx.lt {w:World} {b:Nat} {cs:Array Value} {T:TypeId} (h:Bx w b cs T):b<w.heap.size:=(Array.getElem?_eq_some_iff.1 h).1
theorem Bx.cell {w:World} {b:Nat} {cs:Array Value} {T:TypeId} (h:Bx w b cs T) (j:Nat):w.cell? ⟨b,j,none⟩=cs[j]?:=cell_of_row w b j cs T (0,0) h
theorem Bx.fr {w:World} {b:Nat} {cs:Array Value} {T:TypeId} (h:Bx w b cs T) (j:Nat):w.frozen? ⟨b,j,none⟩=false:=frozen_of_row w b j cs T h
theorem Bx.new (w:World) (cs:Array Value) (T:TypeId):Bx (w.alloc (.cells cs T)) w.heap.size cs T:=heap_alloc_new w _
theorem Bx.alloc {w:World} {b:Nat} {cs:Array Value} {T:TypeId} (h:Bx w b cs T) (o:Obj):Bx (w.alloc o) b cs T:=(Below.heap_alloc w o b h.lt).trans h
theorem Bx.drew {w:World} {b:Nat} {cs:Array Value} {T:TypeId} (h:Bx w b cs T):Bx w.drew b cs T:=h
theorem Bx.set {w:World} {b:Nat} {cs:Array Value} {T:TypeId} (h:Bx w b cs T) (j:Nat) (v:Value):Bx (w.setCell ⟨b,j,none⟩ v) b (cs.setIfInBounds j v) T:=heap_setCell_same w b j cs T v h
theorem Bx.set_ne {w:World} {b:Nat} {cs:Array Value} {T:TypeId} (h:Bx w b cs T) (a:Addr) (v:Value) (B:b≠a.block):Bx (w.setCell a v) b cs T:=(Below.heap_setCell w a v b B).trans h
theorem Bx.below {B:Nat} {w w':World} {b:Nat} {cs:Array Value} {T:TypeId} (h:Bx w b cs T) (hb:Below B w w') (C:b<B):Bx w' b cs T:=(hb.block b C).trans h
def Ints (B:Nat) (w:World) (v:Value) (xs:List Int):Prop:=Sl B w v xs.length 1 (xs.map (Value.int .i64))
def Bools (B:Nat) (w:World) (v:Value) (xs:List Bool):Prop:=Sl B w v xs.length 1 (xs.map Value.bool)
def IntSS (B:Nat) (w:World) (v:Value) (xss:List (List Int)):Prop :=
 ∃ vs:List Value,Sl B w v xss.length 1 vs∧∀ i,i<xss.length→Ints B w (vs.getD i undef) (xss.getD i [])
theorem Ints.below {B:Nat} {w w':World} {v:Value} {xs:List Int} (h:Ints B w v xs) (he:Below w.heap.size w w'):Ints B w' v xs:=Sl.below h he
theorem Bools.below {B:Nat} {w w':World} {v:Value} {xs:List Bool} (h:Bools B w v xs) (he:Below w.heap.size w w'):Bools B w' v xs:=Sl.below h he
theorem IntSS.below {B:Nat} {w w':World} {v:Value} {xss:List (List Int)} (h:IntSS B w v xss) (he:Below w.heap.size w w'):IntSS B w' v xss:=by obtain⟨vs,h1,h2⟩:=h;exact⟨vs,h1.below he,fun i hi=>(h2 i hi).below he⟩
theorem Ints.drew {B:Nat} {w:World} {v:Value} {xs:List Int} (h:Ints B w v xs):Ints B w.drew v xs:=h.below (Below.refl _ _).drew
theorem Bools.drew {B:Nat} {w:World} {v:Value} {xs:List Bool} (h:Bools B w v xs):Bools B w.drew v xs:=h.below (Below.refl _ _).drew
theorem IntSS.drew {B:Nat} {w:World} {v:Value} {xs:List (List Int)} (h:IntSS B w v xs):IntSS B w.drew v xs:=h.below (Below.refl _ _).drew
theorem Ints.form {B:Nat} {w:World} {v:Value} {xs:List Int} (h:Ints B w v xs):∃ a cap,v = .slice a xs.length cap∧xs.length≤cap∧cap≤9223372036854775807 ∧
  (0<xs.length→∃ b off,a=some ⟨b,off,none⟩∧B≤b∧b<w.heap.size∧∀ j,j<xs.length→w.cell? ⟨b,off+j,none⟩=some (.int .i64 (xs.getD j 0))):=by
 obtain⟨hl,a,cap,C,h1,h2,h3⟩:=h;refine⟨a,cap,C,h1,h2,fun hn => ?_⟩;obtain⟨b,off,ha,hb,hlt,hc⟩:=h3 hn;refine⟨b,off,ha,hb,hlt,fun j hj => ?_⟩;rw[hc j (by omega)];simp[hj]
theorem Bools.form {B:Nat} {w:World} {v:Value} {xs:List Bool} (h:Bools B w v xs):∃ a cap,v = .slice a xs.length cap∧xs.length≤cap∧cap≤9223372036854775807 ∧
  (0<xs.length→∃ b off,a=some ⟨b,off,none⟩∧B≤b∧b<w.heap.size∧∀ j,j<xs.length→w.cell? ⟨b,off+j,none⟩=some (.bool (xs.getD j false))):=by
 obtain⟨hl,a,cap,C,h1,h2,h3⟩:=h;refine⟨a,cap,C,h1,h2,fun hn => ?_⟩;obtain⟨b,off,ha,hb,hlt,hc⟩:=h3 hn;refine⟨b,off,ha,hb,hlt,fun j hj => ?_⟩;rw[hc j (by omega)];simp[hj]
theorem IntSS.form {B:Nat} {w:World} {v:Value} {xss:List (List Int)} (h:IntSS B w v xss):∃ a cap,v = .slice a xss.length cap∧xss.length≤cap∧cap≤9223372036854775807 ∧
  (0<xss.length→∃ b off,a=some ⟨b,off,none⟩∧B≤b∧b<w.heap.size∧∀ i,i<xss.length→∃ D cap',w.cell? ⟨b,off+i,none⟩=some (.slice D (xss.getD i []).length cap')∧(xss.getD i []).length≤cap'∧cap'≤9223372036854775807 ∧
   (0<(xss.getD i []).length→∃ E C,D=some ⟨E,C,none⟩∧B≤E∧E<w.heap.size∧∀ j,j<(xss.getD i []).length→w.cell? ⟨E,C+j,none⟩=some (.int .i64 ((xss.getD i []).getD j 0)))):=by
 obtain⟨vs,⟨hl,a,cap,J,h1,h2,h3⟩,hr⟩:=h;refine⟨a,cap,J,h1,h2,fun hn => ?_⟩;obtain⟨b,off,ha,hb,hlt,hc⟩:=h3 hn;refine⟨b,off,ha,hb,hlt,fun i hi => ?_⟩;obtain⟨D,cap',G,F,I,H⟩:=(hr i hi).form;refine⟨D,cap',?_,F,I,H⟩;rw[hc i (by omega),← G];simp at hl;simp[show i<vs.length by omega]
theorem IntSS.formI {B:Nat} {w:World} {v:Value} {xss:List (List Int)} (h:IntSS B w v xss):∃ a cap,v = .slice a xss.length cap∧xss.length≤cap∧cap≤9223372036854775807 ∧
  (0<xss.length→∃ b off,a=some ⟨b,off,none⟩∧B≤b∧b<w.heap.size∧∀ i,i<xss.length→∃ D cap',w.cell? ⟨b,off+i,none⟩=some (.slice D (xss.getD i []).length cap')∧(xss.getD i []).length≤cap'∧cap'≤9223372036854775807 ∧
   Ints B w (.slice D (xss.getD i []).length cap') (xss.getD i [])):=by
 obtain⟨vs,⟨hl,a,cap,G,h1,h2,h3⟩,hr⟩:=h;refine⟨a,cap,G,h1,h2,fun hn => ?_⟩;obtain⟨b,off,ha,hb,hlt,hc⟩:=h3 hn;refine⟨b,off,ha,hb,hlt,fun i hi => ?_⟩;obtain⟨D,cap',C,E,F,H⟩:=(hr i hi).form;refine⟨D,cap',?_,E,F,?_⟩
 ·rw[hc i (by omega),← C];simp at hl;simp[show i<vs.length by omega]
 rw[← C];exact hr i hi
theorem Zcs {α:Type} (f:α→List Value) (s:Nat) (hf:∀ a,(f a).length=s):∀ (l:List α) (i j:Nat) (d:α),i<l.length→j<s→(l.flatMap f)[i*s+j]? = (f (l.getD i d))[j]?
 | [],i,j,d,hi,_=>by simp at hi
 | a::l,0,j,d,_,hj=>by simp only[List.flatMap_cons,Nat.zero_mul,Nat.zero_add,List.getD_cons_zero];rw[List.getElem?_append_left (by rw[hf];exact hj)]
 | a::l,i+1,j,d,hi,hj=>by have B:=Zcs f s hf l i j d (by simpa using hi) hj;simp only[List.flatMap_cons,List.getD_cons_succ];rw[List.getElem?_append_right (by rw[hf,Nat.succ_mul];omega),← B,hf,Nat.succ_mul];congr 1;omega
def Zaa (p:Int × Int):List Value:=[.int .i64 p.1,.int .i64 p.2]
def Zae (p:Int × Int × Int):List Value:=[.int .i64 p.1,.int .i64 p.2.1,.int .i64 p.2.2]
def Pairs (B:Nat) (w:World) (v:Value) (ps:List (Int × Int)):Prop:=Sl B w v ps.length 2 (ps.flatMap Zaa)
def Moves (B:Nat) (w:World) (v:Value) (ms:List (Int × Int × Int)):Prop:=Sl B w v ms.length 3 (ms.flatMap Zae)
theorem Pairs.below {B:Nat} {w w':World} {v:Value} {xs:List (Int × Int)} (h:Pairs B w v xs) (he:Below w.heap.size w w'):Pairs B w' v xs:=Sl.below h he
theorem Moves.below {B:Nat} {w w':World} {v:Value} {xs:List (Int × Int × Int)} (h:Moves B w v xs) (he:Below w.heap.size w w'):Moves B w' v xs:=Sl.below h he
theorem Pairs.form {B:Nat} {w:World} {v:Value} {xs:List (Int × Int)} (h:Pairs B w v xs):∃ a cap,v = .slice a xs.length cap∧xs.length≤cap∧cap≤9223372036854775807 ∧
  (0<xs.length→∃ b off,a=some ⟨b,off,none⟩∧B≤b∧b<w.heap.size∧∀ j,j<xs.length →
   w.cell? ⟨b,off+j*2,none⟩=some (.int .i64 (xs.getD j (0,0)).1)∧w.cell? ⟨b,off+j*2+1,none⟩=some (.int .i64 (xs.getD j (0,0)).2)):=by
 obtain⟨hl,a,cap,C,h1,h2,h3⟩:=h;refine⟨a,cap,C,h1,h2,fun hn => ?_⟩;obtain⟨b,off,ha,hb,hlt,hc⟩:=h3 hn;refine⟨b,off,ha,hb,hlt,fun j hj=>⟨?_,?_⟩⟩
 ·rw[hc (j*2) (by omega)];have:=Zcs Zaa 2 (fun _=>rfl) xs j 0 (0,0) hj (by omega);simpa [Zaa] using this
 rw[show off+j*2+1=off+(j*2+1) from by omega,hc (j*2+1) (by omega)];have:=Zcs Zaa 2 (fun _=>rfl) xs j 1 (0,0) hj (by omega);simpa [Zaa] using this
theorem Moves.form {B:Nat} {w:World} {v:Value} {xs:List (Int × Int × Int)} (h:Moves B w v xs):∃ a cap,v = .slice a xs.length cap∧xs.length≤cap∧cap≤9223372036854775807 ∧
  (0<xs.length→∃ b off,a=some ⟨b,off,none⟩∧B≤b∧b<w.heap.size∧∀ j,j<xs.length →
   w.cell? ⟨b,off+j*3,none⟩=some (.int .i64 (xs.getD j (0,0,0)).1)∧w.cell? ⟨b,off+j*3+1,none⟩=some (.int .i64 (xs.getD j (0,0,0)).2.1)∧w.cell? ⟨b,off+j*3+2,none⟩=some (.int .i64 (xs.getD j (0,0,0)).2.2)):=by
 obtain⟨hl,a,cap,C,h1,h2,h3⟩:=h;refine⟨a,cap,C,h1,h2,fun hn => ?_⟩;obtain⟨b,off,ha,hb,hlt,hc⟩:=h3 hn;refine⟨b,off,ha,hb,hlt,fun j hj=>⟨?_,?_,?_⟩⟩
 ·rw[hc (j*3) (by omega)];have:=Zcs Zae 3 (fun _=>rfl) xs j 0 (0,0,0) hj (by omega);simpa [Zae] using this
 ·rw[show off+j*3+1=off+(j*3+1) from by omega,hc (j*3+1) (by omega)];have:=Zcs Zae 3 (fun _=>rfl) xs j 1 (0,0,0) hj (by omega);simpa [Zae] using this
 rw[show off+j*3+2=off+(j*3+2) from by omega,hc (j*3+2) (by omega)];have:=Zcs Zae 3 (fun _=>rfl) xs j 2 (0,0,0) hj (by omega);simpa [Zae] using this
theorem Zf6 {α:Type} {xs ys:List α} {k:Nat} {d:α} (hx:k<xs.length) (hy:k<ys.length) (h:xs.take k=ys.take k) (he:xs.getD k d=ys.getD k d):xs.take (k+1)=ys.take (k+1):=by rw[List.take_succ_eq_append_getElem hx,List.take_succ_eq_append_getElem hy,h];simp[hx,hy] at he;rw[he]
theorem Ziz {α:Type} {xs ys:List α} {k:Nat} {d:α} (he:xs.getD k d≠ys.getD k d):xs≠ys:=fun h=>he (by rw[h])
end Go.Proofs.YtncekbbhgipdlaaGreat
namespace Go.Proofs.YtncekbbhgipdlaaGreat
open Go.RowKit
structure Only (lo hi:Nat) (w w':World):Prop where
 os:w'.os=w.os
 tape:w'.tape=w.tape
 output:w'.output=w.output
 size:w.heap.size≤w'.heap.size
 block:∀ k,k<w.heap.size→(k<lo∨hi≤k)→w'.heap[k]? = w.heap[k]?
theorem Only.refl (lo hi:Nat) (w:World):Only lo hi w w:=⟨rfl,rfl,rfl,Nat.le_refl _,fun _ _ _=>rfl⟩
theorem Only.trans {lo hi:Nat} {a b c:World} (h:Only lo hi a b) (k:Only lo hi b c):Only lo hi a c :=
 ⟨k.os.trans h.os,k.tape.trans h.tape,k.output.trans h.output,Nat.le_trans h.size k.size,fun i hi hh=>(k.block i (Nat.lt_of_lt_of_le hi h.size) hh).trans (h.block i hi hh)⟩
theorem Only.mono {lo hi B hi':Nat} {a b:World} (h:Only lo hi a b) (h1:B≤lo) (h2:hi≤hi'):Only B hi' a b :=
 ⟨h.os,h.tape,h.output,h.size,fun k hk hh=>h.block k hk (by omega)⟩
theorem Only.below {lo hi:Nat} {a b:World} (h:Only lo hi a b) (B:lo≤a.heap.size):Below lo a b :=
 ⟨h.os,h.tape,h.output,h.size,fun k hk=>h.block k (by omega) (Or.inl hk)⟩
theorem Only.of_below {lo hi:Nat} {a b:World} (h:Below a.heap.size a b):Only lo hi a b :=
 ⟨h.os,h.tape,h.output,h.size,fun k hk _=>h.block k hk⟩
theorem Only.setCell {lo hi:Nat} {w w':World} (h:Only lo hi w w') {a:Addr} (h1:lo≤a.block) (h2:a.block<hi) (v:Value):Only lo hi w (w'.setCell a v) :=
 h.trans ⟨rfl,rfl,rfl,by simp[World.setCell],fun k _ hh=>Below.heap_setCell _ _ _ _ (by omega)⟩
theorem Only.next {lo hi:Nat} {w w' w2:World} (h:Only lo hi w w') (hb:Below w'.heap.size w' w2):Only lo hi w w2:=h.trans (Only.of_below hb)
theorem ZaU (w:World) (a:Addr) (v:Value):(w.setCell a v).heap.size=w.heap.size:=by simp[World.setCell]
def Own (lo hi:Nat) (w:World) (e size:Nat) (v:Value) (n:Nat) (cs:List Value):Prop :=
 w.ownsRow lo e size v n cs∧∀ k,v.ownBlock=some k→k<hi
theorem Own.sl {lo hi:Nat} {w:World} {e size:Nat} {v:Value} {n:Nat} {cs:List Value} (h:Own lo hi w e size v n cs) (_:0<size):Sl lo w v n size cs:=by
 obtain⟨⟨hl,h2⟩,hh⟩:=h;rcases h2 with⟨rfl,rfl⟩|⟨g,cap,cur,rfl,hb,B,hn,hm,hz,ht⟩
 ·exact⟨hl,none,0,rfl,Nat.le_refl _,Nat.zero_le _,fun h=>absurd h (by omega)⟩
 refine⟨hl,_,cap,rfl,hn,hm,fun h0=>⟨g,0,rfl,hb,(Array.getElem?_eq_some_iff.1 B).1,fun j hj => ?_⟩⟩;rw[cell_of_row w g (0+j) cur e (0,0) B,← ht,List.getElem?_take,if_pos hj];simp
theorem Own.kept {lo hi:Nat} {w w':World} {e size:Nat} {v:Value} {n:Nat} {cs:List Value} (h:Own lo hi w e size v n cs)
  (hk:∀ k,v.ownBlock=some k→w'.heap[k]? = w.heap[k]?):Own lo hi w' e size v n cs:=by
 obtain⟨⟨hl,h2⟩,hh⟩:=h;refine⟨⟨hl,?_⟩,hh⟩;rcases h2 with h2|⟨g,cap,cur,rfl,hb,B,r⟩
 ·exact .inl h2
 exact .inr ⟨g,cap,cur,rfl,hb,by rw[hk g rfl];exact B,r⟩
theorem Own.lt {lo hi:Nat} {w:World} {e size:Nat} {v:Value} {n:Nat} {cs:List Value} (h:Own lo hi w e size v n cs):∀ k,v.ownBlock=some k→lo≤k∧k<hi∧k<w.heap.size :=
 fun k hk=>⟨(h.1.lt k hk).1,h.2 k hk,(h.1.lt k hk).2⟩
theorem Own.only {lo hi B hi':Nat} {w w':World} {e size:Nat} {v:Value} {n:Nat} {cs:List Value} (h:Own lo hi w e size v n cs) (C:Only B hi' w w') (hd:hi≤B∨hi'≤lo):Own lo hi w' e size v n cs :=
 h.kept fun k hk=>by obtain⟨h1,h2,h3⟩:=h.lt k hk;exact C.block k h3 (by omega)
theorem Own.below {lo hi:Nat} {w w':World} {e size:Nat} {v:Value} {n:Nat} {cs:List Value} (h:Own lo hi w e size v n cs) (hb:Below w.heap.size w w'):Own lo hi w' e size v n cs :=
 h.kept fun k hk=>hb.block k (h.lt k hk).2.2
theorem Own.mono {lo hi B hi':Nat} {w:World} {e size:Nat} {v:Value} {n:Nat} {cs:List Value} (h:Own lo hi w e size v n cs) (h1:B≤lo) (h2:hi≤hi'):Own B hi' w e size v n cs:=by
 obtain⟨⟨hl,h3⟩,hh⟩:=h;refine⟨⟨hl,?_⟩,fun k hk=>Nat.lt_of_lt_of_le (hh k hk) h2⟩;rcases h3 with h3|⟨g,cap,cur,rfl,hb,r⟩
 ·exact .inl h3
 exact .inr ⟨g,cap,cur,rfl,Nat.le_trans h1 hb,r⟩
theorem Zc1 {w:World} {B e size g n cap:Nat} {xs:List Value} (h:w.ownsRow B e size (.slice (some ⟨g,0,none⟩) n cap) n xs) (j:Nat) (hj:j<n*size):∃ u,w.cell? ⟨g,j,none⟩=some u :=
 ⟨xs[j]'(by rw[h.1];exact hj),(h.cellAt j hj).trans (by simp[show j<xs.length from by rw[h.1];exact hj])⟩
abbrev intCells (xs:List Int):List Value:=xs.map (Value.int .i64)
abbrev boolCells (xs:List Bool):List Value:=xs.map Value.bool
def OInts (e lo hi:Nat) (w:World) (v:Value) (xs:List Int):Prop:=Own lo hi w e 1 v xs.length (intCells xs)
def OBools (e lo hi:Nat) (w:World) (v:Value) (xs:List Bool):Prop:=Own lo hi w e 1 v xs.length (boolCells xs)
def OPairs (e lo hi:Nat) (w:World) (v:Value) (xs:List (Int × Int)):Prop:=Own lo hi w e 2 v xs.length (xs.flatMap Zaa)
def OMoves (e lo hi:Nat) (w:World) (v:Value) (xs:List (Int × Int × Int)):Prop:=Own lo hi w e 3 v xs.length (xs.flatMap Zae)
def OIntSS (es e lo hi:Nat) (w:World) (v:Value) (xss:List (List Int)):Prop :=
 ∃ vs:List Value,Own lo hi w es 1 v xss.length vs∧(∀ i,i<xss.length→OInts e lo hi w (vs.getD i undef) (xss.getD i [])) ∧
  (∀ i j k,i<j→j<xss.length→(vs.getD i undef).ownBlock=some k→(vs.getD j undef).ownBlock≠some k)
theorem OInts.ints {e lo hi:Nat} {w:World} {v:Value} {xs:List Int} (h:OInts e lo hi w v xs):Ints lo w v xs:=Own.sl h (by omega)
theorem OBools.bools {e lo hi:Nat} {w:World} {v:Value} {xs:List Bool} (h:OBools e lo hi w v xs):Bools lo w v xs:=Own.sl h (by omega)
theorem OMoves.moves {e lo hi:Nat} {w:World} {v:Value} {xs:List (Int × Int × Int)} (h:OMoves e lo hi w v xs):Moves lo w v xs:=Own.sl h (by omega)
theorem OIntSS.intSS {es e lo hi:Nat} {w:World} {v:Value} {xss:List (List Int)} (h:OIntSS es e lo hi w v xss):IntSS lo w v xss:=by obtain⟨vs,h1,h2,_⟩:=h;exact⟨vs,h1.sl (by omega),fun i hi=>(h2 i hi).ints⟩
theorem OIntSS.kept {es e lo hi:Nat} {w w':World} {v:Value} {xss:List (List Int)} (h:OIntSS es e lo hi w v xss)
  (hk:∀ k,lo≤k→k<hi→k<w.heap.size→w'.heap[k]? = w.heap[k]?):OIntSS es e lo hi w' v xss:=by
 obtain⟨vs,h1,h2,h3⟩:=h;refine⟨vs,h1.kept fun k B => ?_,fun i hi=>Own.kept (h2 i hi) fun k B => ?_,h3⟩
 ·obtain⟨a,b,c⟩:=h1.lt k B;exact hk k a b c
 obtain⟨a,b,c⟩:=Own.lt (h2 i hi) k B;exact hk k a b c
theorem OBools.only {e lo hi B hi':Nat} {w w':World} {v:Value} {xs:List Bool} (h:OBools e lo hi w v xs) (C:Only B hi' w w') (hd:hi≤B∨hi'≤lo):OBools e lo hi w' v xs:=Own.only h C hd
theorem OInts.only {e lo hi B hi':Nat} {w w':World} {v:Value} {xs:List Int} (h:OInts e lo hi w v xs) (C:Only B hi' w w') (hd:hi≤B∨hi'≤lo):OInts e lo hi w' v xs:=Own.only h C hd
theorem OMoves.only {e lo hi B hi':Nat} {w w':World} {v:Value} {xs:List (Int × Int × Int)} (h:OMoves e lo hi w v xs) (C:Only B hi' w w') (hd:hi≤B∨hi'≤lo):OMoves e lo hi w' v xs:=Own.only h C hd
theorem OPairs.only {e lo hi B hi':Nat} {w w':World} {v:Value} {xs:List (Int × Int)} (h:OPairs e lo hi w v xs) (C:Only B hi' w w') (hd:hi≤B∨hi'≤lo):OPairs e lo hi w' v xs:=Own.only h C hd
theorem OIntSS.mono {es e lo hi B hi':Nat} {w:World} {v:Value} {xss:List (List Int)} (h:OIntSS es e lo hi w v xss) (h1:B≤lo) (h2:hi≤hi'):OIntSS es e B hi' w v xss:=by obtain⟨vs,a,b,c⟩:=h;exact⟨vs,a.mono h1 h2,fun i hi=>Own.mono (b i hi) h1 h2,c⟩
theorem OInts.mono {e lo hi B hi':Nat} {w:World} {v:Value} {xs:List Int} (h:OInts e lo hi w v xs) (h1:B≤lo) (h2:hi≤hi'):OInts e B hi' w v xs:=Own.mono h h1 h2
theorem OBools.mono {e lo hi B hi':Nat} {w:World} {v:Value} {xs:List Bool} (h:OBools e lo hi w v xs) (h1:B≤lo) (h2:hi≤hi'):OBools e B hi' w v xs:=Own.mono h h1 h2
theorem OMoves.mono {e lo hi B hi':Nat} {w:World} {v:Value} {xs:List (Int × Int × Int)} (h:OMoves e lo hi w v xs) (h1:B≤lo) (h2:hi≤hi'):OMoves e B hi' w v xs:=Own.mono h h1 h2
theorem OPairs.mono {e lo hi B hi':Nat} {w:World} {v:Value} {xs:List (Int × Int)} (h:OPairs e lo hi w v xs) (h1:B≤lo) (h2:hi≤hi'):OPairs e B hi' w v xs:=Own.mono h h1 h2
theorem OIntSS.below {es e lo hi:Nat} {w w':World} {v:Value} {xss:List (List Int)} (h:OIntSS es e lo hi w v xss) (hb:Below w.heap.size w w'):OIntSS es e lo hi w' v xss:=h.kept fun k _ _ hk=>hb.block k hk
theorem OIntSS.only {es e lo hi B hi':Nat} {w w':World} {v:Value} {xss:List (List Int)} (h:OIntSS es e lo hi w v xss) (C:Only B hi' w w') (hd:hi≤B∨hi'≤lo):OIntSS es e lo hi w' v xss :=
 h.kept fun k h1 h2 h3=>C.block k h3 (by omega)
theorem Zab {lo:Nat} {w:World} {e size:Nat} {v:Value} {n:Nat} {cs:List Value} (h:w.ownsRow lo e size v n cs):Own lo w.heap.size w e size v n cs :=
 ⟨h,fun k hk=>(h.lt k hk).2⟩
def RowsTo (es e B n:Nat) (xss:List (List Int)) (k:Nat) (w:World) (cs:List Value):Prop :=
 w.ownsRow B es 1 (.slice (some ⟨B,0,none⟩) n n) n cs∧(∀ i,i<k→OInts e (B+1) w.heap.size w (cs.getD i undef) (xss.getD i [])) ∧
  (∀ i j b,i<j→j<k→(cs.getD i undef).ownBlock=some b→(cs.getD j undef).ownBlock≠some b)
theorem RowsTo.below {es e B n k:Nat} {xss:List (List Int)} {w w':World} {cs:List Value} (h:RowsTo es e B n xss k w cs) (hb:Below w.heap.size w w'):RowsTo es e B n xss k w' cs:=by obtain⟨h1,h2,h3⟩:=h;exact⟨(Own.below (Zab h1) hb).1,fun i hi=>(Own.below (h2 i hi) hb).mono (Nat.le_refl _) hb.size,h3⟩
theorem RowsTo.step {es e B n k:Nat} {xss:List (List Int)} {w w2:World} {cs:List Value} {v2:Value} (h:RowsTo es e B n xss k w cs) (I:B<w.heap.size) (hk:k<n)
  (hb:Below w.heap.size w w2) (F:OInts e w.heap.size w2.heap.size w2 v2 (xss.getD k [])):RowsTo es e B n xss (k+1) (w2.setCell ⟨B,k,none⟩ v2) (cs.set k v2):=by
 have H:=h.below hb;obtain⟨h1,h2,h3⟩:=H;have hlen:cs.length=n:=by have:=h1.1;omega
 have G:(w2.setCell ⟨B,k,none⟩ v2).heap.size=w2.heap.size:=by simp[World.setCell]
 have C:∀ i,i<k→(cs.set k v2).getD i undef=cs.getD i undef:=fun i hi=>by simp[List.getElem?_set_ne (show k≠i by omega)]
 have D:(cs.set k v2).getD k undef=v2:=by simp[show k<cs.length by omega]
 have E:∀ j,j≠B→(w2.setCell ⟨B,k,none⟩ v2).heap[j]? = w2.heap[j]?:=fun j hj=>Below.heap_setCell _ _ _ _ hj
 refine⟨(h1.stored k v2).1,fun i hi => ?_,fun i j b hij hj hb1 => ?_⟩
 ·rw[G];by_cases hik:i<k
  ·rw[C i hik];exact Own.kept (h2 i hik) fun m hm=>E m (by have:=(Own.lt (h2 i hik) m hm).1;omega)
  obtain rfl:i=k:=by omega
  rw[D];exact Own.kept (Own.mono F (by omega) (Nat.le_refl _)) fun m hm=>E m (by have:=(Own.lt F m hm).1;omega)
 by_cases hjk:j<k
 ·rw[C i (by omega)] at hb1;rw[C j hjk];exact h3 i j b hij hjk hb1
 obtain rfl:j=k:=by omega
 rw[C i hij] at hb1;rw[D];intro hb2;have a1:=(Own.lt (h.2.1 i hij) b hb1).2.1;have a2:=(Own.lt F b hb2).1;omega
structure DfaD where
 next:List (List Int)
 ends:List Bool
deriving DecidableEq
structure NfaD where
 states:Int
 moves:List (Int × Int × Int)
 firsts:List Int
 ends:List Int
deriving DecidableEq
def DfaR (B:Nat) (w:World) (v:Value) (d:DfaD):Prop:=∃ v1 v2,v = .agg #[v1,v2]∧IntSS B w v1 d.next∧Bools B w v2 d.ends
def NfaR (B:Nat) (w:World) (v:Value) (n:NfaD):Prop:=∃ v1 v2 v3,v = .agg #[.int .i64 n.states,v1,v2,v3]∧Moves B w v1 n.moves∧Ints B w v2 n.firsts∧Ints B w v3 n.ends ∧
 -9223372036854775808≤n.states∧n.states≤9223372036854775807
theorem DfaR.below {B:Nat} {w w':World} {v:Value} {d:DfaD} (h:DfaR B w v d) (he:Below w.heap.size w w'):DfaR B w' v d:=by obtain⟨v1,v2,C,h1,h2⟩:=h;exact⟨v1,v2,C,h1.below he,h2.below he⟩
theorem NfaR.below {B:Nat} {w w':World} {v:Value} {n:NfaD} (h:NfaR B w v n) (he:Below w.heap.size w w'):NfaR B w' v n:=by obtain⟨v1,v2,v3,C,h1,h2,h3,h4⟩:=h;exact⟨v1,v2,v3,C,h1.below he,h2.below he,h3.below he,h4⟩
def DfaO (tS tI tB lo hi:Nat) (w:World) (v:Value) (d:DfaD):Prop:=∃ v1 v2,v = .agg #[v1,v2]∧OIntSS tS tI lo hi w v1 d.next∧OBools tB lo hi w v2 d.ends
def NfaO (tM tI lo hi:Nat) (w:World) (v:Value) (n:NfaD):Prop:=∃ v1 v2 v3,v = .agg #[.int .i64 n.states,v1,v2,v3]∧OMoves tM lo hi w v1 n.moves∧OInts tI lo hi w v2 n.firsts∧OInts tI lo hi w v3 n.ends ∧
 -9223372036854775808≤n.states∧n.states≤9223372036854775807∧∀ k,v2.ownBlock=some k→v3.ownBlock≠some k
theorem DfaO.r {tS tI tB lo hi:Nat} {w:World} {v:Value} {d:DfaD} (h:DfaO tS tI tB lo hi w v d):DfaR lo w v d:=by obtain⟨v1,v2,B,h1,h2⟩:=h;exact⟨v1,v2,B,h1.intSS,h2.bools⟩
theorem NfaO.r {tM tI lo hi:Nat} {w:World} {v:Value} {n:NfaD} (h:NfaO tM tI lo hi w v n):NfaR lo w v n:=by obtain⟨v1,v2,v3,B,h1,h2,h3,h4,h5,_⟩:=h;exact⟨v1,v2,v3,B,h1.moves,h2.ints,h3.ints,h4,h5⟩
theorem Ints.mono {B C:Nat} {w:World} {v:Value} {xs:List Int} (h:Ints B w v xs) (D:C≤B):Ints C w v xs:=Sl.mono h D
theorem Bools.mono {B C:Nat} {w:World} {v:Value} {xs:List Bool} (h:Bools B w v xs) (D:C≤B):Bools C w v xs:=Sl.mono h D
theorem Pairs.mono {B C:Nat} {w:World} {v:Value} {xs:List (Int × Int)} (h:Pairs B w v xs) (D:C≤B):Pairs C w v xs:=Sl.mono h D
theorem Moves.mono {B C:Nat} {w:World} {v:Value} {xs:List (Int × Int × Int)} (h:Moves B w v xs) (D:C≤B):Moves C w v xs:=Sl.mono h D
theorem IntSS.mono {B C:Nat} {w:World} {v:Value} {xss:List (List Int)} (h:IntSS B w v xss) (D:C≤B):IntSS C w v xss:=by obtain⟨vs,h1,h2⟩:=h;exact⟨vs,h1.mono D,fun i hi=>Sl.mono (h2 i hi) D⟩
theorem DfaR.mono {B C:Nat} {w:World} {v:Value} {d:DfaD} (h:DfaR B w v d) (D:C≤B):DfaR C w v d:=by obtain⟨v1,v2,E,h1,h2⟩:=h;exact⟨v1,v2,E,h1.mono D,Sl.mono h2 D⟩
theorem NfaR.mono {B D:Nat} {w:World} {v:Value} {n:NfaD} (h:NfaR B w v n) (C:D≤B):NfaR D w v n:=by obtain⟨v1,v2,v3,E,h1,h2,h3,h4⟩:=h;exact⟨v1,v2,v3,E,Sl.mono h1 C,Sl.mono h2 C,Sl.mono h3 C,h4⟩
end Go.Proofs.YtncekbbhgipdlaaGreat
namespace Go.Proofs.YtncekbbhgipdlaaGreat
open Go.RowKit Go.Maps
section
variable {α:Type} [DecidableEq α]
def look (a:α):List (α × Value)→Option Value
 | []=>none
 | (b,v)::L=>if a=b then some v else look a L
def upd (a:α) (v:Value):List (α × Value)→List (α × Value)
 | []=>[(a,v)]
 | (b,u)::L=>if a=b then(a,v)::L else(b,u)::upd a v L
theorem Zkm {a:α} {L:List (α × Value)} (h:∀ p∈L,p.1≠a):look a L=none:=by
 induction L with
 | nil=>rfl
 | cons p L B =>obtain⟨b,v⟩:=p;unfold look;rw[if_neg (fun e=>h (b,v) (by simp) e.symm)];exact B fun q hq=>h q (by simp[hq])
theorem Zmc {a:α} {v:Value} {L:List (α × Value)} (hn:(L.map (·.1)).Nodup) {j:Nat} (h:L[j]? = some (a,v)):look a L=some v:=by
 induction L generalizing j with
 | nil=>simp at h
 | cons p L B =>
  obtain⟨b,u⟩:=p;unfold look;simp only[List.map_cons,List.nodup_cons] at hn;cases j with
  | zero =>simp at h;rw[if_pos h.1.symm,h.2]
  | succ j =>
   simp at h;have hm:a∈L.map (·.1):=by have:=List.mem_of_getElem? h;exact List.mem_map.2 ⟨_,this,rfl⟩
   rw[if_neg (fun e:a=b=>hn.1 (by rw[← e];exact hm))];exact B hn.2 h
theorem ZlQ {a:α} {v:Value} {L:List (α × Value)} (h:∀ p∈L,p.1≠a):upd a v L=L++[(a,v)]:=by
 induction L with
 | nil=>rfl
 | cons p L B =>obtain⟨b,u⟩:=p;unfold upd;rw[if_neg (fun e=>h (b,u) (by simp) e.symm),B fun q hq=>h q (by simp[hq])];rfl
theorem ZrB {a:α} {u v:Value} {L:List (α × Value)} (hn:(L.map (·.1)).Nodup) {j:Nat} (h:L[j]? = some (a,u)):upd a v L=L.set j (a,v):=by
 induction L generalizing j with
 | nil=>simp at h
 | cons p L B =>
  obtain⟨b,t⟩:=p;unfold upd;simp only[List.map_cons,List.nodup_cons] at hn;cases j with
  | zero =>simp at h;rw[if_pos h.1.symm];rfl
  | succ j =>
   simp at h;have hm:a∈L.map (·.1):=by have:=List.mem_of_getElem? h;exact List.mem_map.2 ⟨_,this,rfl⟩
   rw[if_neg (fun e:a=b=>hn.1 (by rw[← e];exact hm)),B hn.2 h];rfl
theorem Zgf {a:α} {v:Value} {L:List (α × Value)} {b:α}:b∈(upd a v L).map (·.1)↔b=a∨b∈L.map (·.1):=by
 induction L with
 | nil=>simp[upd]
 | cons p L B =>
  obtain⟨c,u⟩:=p;unfold upd;by_cases h:a=c
  ·rw[if_pos h];subst h;simp
  rw[if_neg h];simp only[List.map_cons,List.mem_cons,B];constructor
  ·rintro(h|h|h)<;>simp[h]
  rintro(h|h|h)<;>simp[h]
theorem Zke {a:α} {v:Value} {L:List (α × Value)} (hn:(L.map (·.1)).Nodup):((upd a v L).map (·.1)).Nodup:=by
 induction L with
 | nil=>simp[upd]
 | cons p L B =>
  obtain⟨c,u⟩:=p;simp only[List.map_cons,List.nodup_cons] at hn;unfold upd;by_cases h:a=c
  ·rw[if_pos h];subst h;simpa using hn
  rw[if_neg h];simp only[List.map_cons,List.nodup_cons];refine⟨fun hm => ?_,B hn.2⟩;rcases Zgf.1 hm with e|e
  ·exact h e.symm
  exact hn.1 e
theorem Zht {a:α} {L:List (α × Value)}:(look a L).isSome=true↔a∈L.map (·.1):=by
 induction L with
 | nil=>simp[look]
 | cons p L B =>
  obtain⟨c,u⟩:=p;unfold look;by_cases h:a=c
  ·simp[h]
  simp[h,B]
def MapL (P:Program) (kt:TypeId) (enc:α→Value) (w:World) (b:Nat) (L:List (α × Value)):Prop :=
 (L.map (·.1)).Nodup∧(∀ p∈L,∃ l,keyOf P kt (enc p.1)=some l) ∧
 ∃ es clock,w.heap[b]? = some (.map es clock)∧es.toList.map (fun e=>(e.key,e.val))=L.map fun p=>(enc p.1,p.2)
variable {P:Program} {kt:TypeId} {enc:α→Value} {w:World} {b:Nat} {L:List (α × Value)}
omit [DecidableEq α] in
theorem MapL.lt (h:MapL P kt enc w b L):b<w.heap.size:=by obtain⟨_,_,es,clock,hb,_⟩:=h;exact(Array.getElem?_eq_some_iff.1 hb).1
omit [DecidableEq α] in
theorem MapL.kept {w':World} (h:MapL P kt enc w b L) (hk:w'.heap[b]? = w.heap[b]?):MapL P kt enc w' b L:=by obtain⟨h1,h2,es,clock,hb,h3⟩:=h;exact⟨h1,h2,es,clock,hk.trans hb,h3⟩
omit [DecidableEq α] in
theorem MapL.below {w':World} (h:MapL P kt enc w b L) (hb:Below w.heap.size w w'):MapL P kt enc w' b L:=h.kept (hb.block b h.lt)
omit [DecidableEq α] in
theorem MapL.made (w:World):MapL P kt enc (w.alloc (.map #[] 0)) w.heap.size ([]:List (α × Value)) :=
 ⟨by simp,by simp,#[],0,heap_alloc_new w _,rfl⟩
omit [DecidableEq α] in
theorem Zom {es:List MapEntry} {L:List (α × Value)} (h:es.map (fun e=>(e.key,e.val))=L.map fun p=>(enc p.1,p.2)) {j:Nat} {e:MapEntry} (he:es[j]? = some e) :
  ∃ p,L[j]? = some p∧e.key=enc p.1∧e.val=p.2:=by
 have h1:=congrArg (fun l=>l[j]?) h;simp only[List.getElem?_map,he,Option.map_some] at h1;cases hp:L[j]? with
 | none=>rw[hp] at h1;simp at h1
 | some p =>rw[hp] at h1;simp at h1;exact⟨p,rfl,h1.1,h1.2⟩
theorem MapL.find (h:MapL P kt enc w b L) (K:Keyed P kt) (hi:∀ x y:α,enc x=enc y→x=y) {a:α} {l:Lit} (ha:keyOf P kt (enc a)=some l) {es:Array MapEntry} {clock:Nat} (hb:w.heap[b]? = some (.map es clock)) :
  ((Instr.findKey kt (enc a) es.toList).run P w = .ok none w∧look a L=none∧∀ p∈L,p.1≠a) ∨
    ∃ j v,(Instr.findKey kt (enc a) es.toList).run P w = .ok (some (j,v)) w∧L[j]? = some (a,v)∧look a L=some v:=by
 obtain⟨h1,h2,es',F,B,h3⟩:=h;rw[hb] at B;simp only[w_9,Obj.map.injEq] at B;obtain⟨rfl,rfl⟩:=B;have hall:∀ e∈es.toList,∃ l,keyOf P kt e.key=some l:=fun e he=>by obtain⟨j,hj,rfl⟩:=List.mem_iff_getElem.1 he;obtain⟨p,hp,hk,_⟩:=Zom h3 (j:=j) (e:=es.toList[j]) (by simp);rw[hk];exact h2 p (List.mem_of_getElem? hp)
 rcases K.find w ha es.toList hall with⟨hr,H⟩|⟨j,e,hr,hj,hk⟩
 ·have hm:∀ p∈L,p.1≠a:=fun p hp C=>by
   have hmem:(enc p.1,p.2)∈L.map fun p=>(enc p.1,p.2):=List.mem_map.2 ⟨p,hp,rfl⟩
   rw[← h3] at hmem;obtain⟨e,he,D⟩:=List.mem_map.1 hmem;simp only[Prod.mk.injEq] at D;exact H e he (by rw[D.1,C])
  exact .inl ⟨hr,Zkm hm,hm⟩
 obtain⟨p,hp,hpk,G⟩:=Zom h3 hj;have C:p.1=a:=hi _ _ (by rw[← hpk,hk]);have E:L[j]? = some (a,e.val):=by rw[hp,← C,G]
 exact .inr ⟨j,e.val,hr,E,Zmc h1 E⟩
theorem MapL.lookup (h:MapL P kt enc w b L) (K:Keyed P kt) (hi:∀ x y:α,enc x=enc y→x=y) {t e:TypeId} (ht:P.underlying t=some (.map kt e)) {z:Value} (hz:(zeroValue e).run P w = .ok z w)
  {a:α} {l:Lit} (ha:keyOf P kt (enc a)=some l):(Instr.lookup t (.map (some b)) (enc a) false).run P w = .ok ((look a L).getD z) w:=by
 obtain⟨es,clock,hb,-⟩:=h.2.2;have hc:=K.check w es.isEmpty ha;rcases h.find K hi ha hb with⟨hr,hl,-⟩|⟨j,v,hr,-,hl⟩
 ·rw[hl];simp[Instr.lookup,run_underlying ht,getObj,hb,hc,hr,hz,Result.andThen,Sem.run]
 rw[hl];simp[Instr.lookup,run_underlying ht,getObj,hb,hc,hr,Result.andThen,Sem.run]
theorem MapL.lookupOk (h:MapL P kt enc w b L) (K:Keyed P kt) (hi:∀ x y:α,enc x=enc y→x=y) {t e:TypeId} (ht:P.underlying t=some (.map kt e)) {z:Value} (hz:(zeroValue e).run P w = .ok z w)
  {a:α} {l:Lit} (ha:keyOf P kt (enc a)=some l):(Instr.lookup t (.map (some b)) (enc a) true).run P w = .ok (.tuple #[(look a L).getD z,.bool (look a L).isSome]) w:=by
 obtain⟨es,clock,hb,-⟩:=h.2.2;have hc:=K.check w es.isEmpty ha;rcases h.find K hi ha hb with⟨hr,hl,-⟩|⟨j,v,hr,-,hl⟩
 ·rw[hl];simp[Instr.lookup,run_underlying ht,getObj,hb,hc,hr,hz,Result.andThen,Sem.run]
 rw[hl];simp[Instr.lookup,run_underlying ht,getObj,hb,hc,hr,Result.andThen,Sem.run]
theorem MapL.store (h:MapL P kt enc w b L) (K:Keyed P kt) (hi:∀ x y:α,enc x=enc y→x=y) {t e:TypeId} (ht:P.underlying t=some (.map kt e))
  {a:α} {l:Lit} (ha:keyOf P kt (enc a)=some l) (v:Value):∃ w',(Instr.mapUpdate t (.map (some b)) (enc a) v).run P w = .ok () w'∧MapL P kt enc w' b (upd a v L)∧w.grownBy w' (some b):=by
 have I:=h;obtain⟨h1,h2,es,clock,hb,h3⟩:=h;have hc:=K.check w false ha;have hlt:=(Array.getElem?_eq_some_iff.1 hb).1
 have C:∀ p∈upd a v L,∃ l,keyOf P kt (enc p.1)=some l:=fun p hp=>by
  rcases Zgf.1 (List.mem_map.2 ⟨p,hp,rfl⟩:p.1∈(upd a v L).map (·.1)) with e|e
  ·rw[e];exact⟨l,ha⟩
  obtain⟨q,hq,G⟩:=List.mem_map.1 e;rw[← G];exact h2 q hq
 have B:∀ o:Obj,w.grownBy { w with heap:=w.heap.setIfInBounds b o } (some b):=fun o =>
  ⟨rfl,rfl,rfl,by simp,fun k _ hk=>by show(w.heap.setIfInBounds b o)[k]? = _;rw[Array.getElem?_setIfInBounds_ne (fun e=>hk (by rw[e]))]⟩
 have E:∀ o:Obj,(w.heap.setIfInBounds b o)[b]? = some o:=fun o=>by simp[hlt]
 rcases I.find K hi ha hb with⟨hr,hl,hm⟩|⟨j,u,hr,hj,hl⟩
 ·refine⟨{ w with heap:=w.heap.setIfInBounds b (.map (es.push { key:=enc a,val:=v,born:=clock }) (clock+1)) },?_,⟨Zke h1,C,_,_,E _,?_⟩,B _⟩
  ·simp[Instr.mapUpdate,run_underlying ht,getObj,hb,hc,hr,setObj,Result.andThen,Sem.run]
  rw[ZlQ hm];simp[h3]
 have hs:=K.stays w ha
 have D:∃ e,es[j]? = some e∧e.key=enc a:=by
  have h4:=congrArg (fun l=>l[j]?) h3;simp only[List.getElem?_map,hj,Option.map_some] at h4;cases he:es.toList[j]? with
  | none=>rw[he] at h4;simp at h4
  | some e =>rw[he] at h4;simp at h4;exact⟨e,by simpa using he,h4.1⟩
 obtain⟨e,D,H⟩:=D;refine⟨{ w with heap:=w.heap.setIfInBounds b (.map (es.modify j fun e=>{ e with key:=enc a,val:=v }) clock) },?_,⟨Zke h1,C,_,_,E _,?_⟩,B _⟩
 ·simp[Instr.mapUpdate,run_underlying ht,getObj,hb,hc,hr,D,H,hs,setObj,Result.andThen,Sem.run]
 rw[ZrB h1 hj];apply List.ext_getElem?;intro i;have h4:=congrArg (fun l=>l[i]?) h3;simp only[List.getElem?_map] at h4 ⊢;by_cases hij:j=i
 ·subst hij;have hjl:j<L.length:=(List.getElem?_eq_some_iff.1 hj).1;have F:j<es.size:=(Array.getElem?_eq_some_iff.1 D).1;simp[hjl,F]
 simp only[List.getElem?_set_ne hij];rw[← h4];simp[hij]
end
end Go.Proofs.YtncekbbhgipdlaaGreat
namespace Go.Proofs.YtncekbbhgipdlaaGreat
open Go.RowKit
def ZbF (w:World) (row:Option Nat) (e:TypeId):Prop:=∀ k,row=some k→∀ cur fr,w.heap[k]? ≠ some (.cells cur e fr)
def ZgT (w:World) (row:Option Nat):Prop:=∀ k,row=some k→∃ cur e fr,w.heap[k]? = some (.cells cur e fr)
theorem Za9 {w:World} {B e size n:Nat} {v:Value} {cs:List Value} (h:w.ownsRow B e size v n cs) {k:Nat} (hk:v.ownBlock=some k):∃ cur,w.heap[k]? = some (.cells cur e (0,0)):=by
 rcases h.2 with⟨rfl,_⟩|⟨g,cap,cur,rfl,_,C,_⟩
 ·cases hk
 have:g=k:=by simpa [Value.ownBlock] using hk
 subst this;exact⟨cur,C⟩
theorem Zah {w:World} {B e size n:Nat} {v:Value} {cs:List Value} (h:w.ownsRow B e size v n cs) {e':Nat} (C:e≠e'):ZbF w v.ownBlock e':=fun k hk cur fr hh=>by obtain⟨c,hc⟩:=Za9 h hk;rw[hc] at hh;simp only[w_9,Obj.cells.injEq] at hh;exact C hh.2.1
theorem ZcE {w:World} {B e size n:Nat} {v:Value} {cs:List Value} (h:w.ownsRow B e size v n cs):ZgT w v.ownBlock:=fun k hk=>by obtain⟨c,hc⟩:=Za9 h hk;exact⟨_,_,_,hc⟩
theorem Bx.apart {w:World} {b:Nat} {cs:Array Value} {T e':TypeId} (h:Bx w b cs T) (B:T≠e'):ZbF w (some b) e':=fun k hk cur fr hh=>by cases hk;unfold Bx at h;rw[h] at hh;simp only[w_9,Obj.cells.injEq] at hh;exact B hh.2.1
theorem Bx.cells {w:World} {b:Nat} {cs:Array Value} {T:TypeId} (h:Bx w b cs T):ZgT w (some b):=fun k hk=>by cases hk;exact⟨_,_,_,h⟩
theorem MapL.apart {α:Type} {P:Program} {kt e':TypeId} {enc:α→Value} {w:World} {b:Nat} {L:List (α × Value)} (h:MapL P kt enc w b L):ZbF w (some b) e':=fun k hk cur fr hh=>by cases hk;obtain⟨_,_,es,clock,hb,_⟩:=h;rw[hb] at hh;cases hh
theorem Zad {w w':World} {B e size n:Nat} {v:Value} {cs:List Value} {row:Option Nat} (h:w.ownsRow B e size v n cs) (C:w.grownBy w' row) (ha:ZbF w row e):w'.ownsRow B e size v n cs:=by
 have hk:∀ k,v.ownBlock=some k→w'.heap[k]? = w.heap[k]?:=fun k hk=>by obtain⟨cur,hc⟩:=Za9 h hk;exact C.block k (h.lt k hk).2 fun hr=>ha k hr.symm _ _ hc
 exact(Own.kept (Zab h) hk).1
theorem Own.grown {lo hi:Nat} {w w':World} {e size:Nat} {v:Value} {n:Nat} {cs:List Value} {row:Option Nat} (h:Own lo hi w e size v n cs) (B:w.grownBy w' row) (ha:ZbF w row e):Own lo hi w' e size v n cs :=
 ⟨Zad h.1 B ha,h.2⟩
theorem OIntSS.grown {es e lo hi:Nat} {w w':World} {v:Value} {xss:List (List Int)} {row:Option Nat} (h:OIntSS es e lo hi w v xss) (B:w.grownBy w' row) (h1:ZbF w row es) (h2:ZbF w row e):OIntSS es e lo hi w' v xss:=by obtain⟨vs,a,b,c⟩:=h;exact⟨vs,a.grown B h1,fun i hi=>Own.grown (b i hi) B h2,c⟩
theorem Bx.grown {w w':World} {b:Nat} {cs:Array Value} {T:TypeId} {row:Option Nat} (h:Bx w b cs T) (B:w.grownBy w' row) (ha:ZbF w row T):Bx w' b cs T :=
 (B.block b h.lt fun hr=>ha b hr.symm _ _ h).trans h
theorem MapL.grown {α:Type} {P:Program} {kt:TypeId} {enc:α→Value} {w w':World} {b:Nat} {L:List (α × Value)} {row:Option Nat} (h:MapL P kt enc w b L) (B:w.grownBy w' row) (ha:ZgT w row):MapL P kt enc w' b L :=
 h.kept (B.block b h.lt fun hr=>by obtain⟨cur,e,fr,hc⟩:=ha b hr.symm;obtain⟨_,_,es,clock,hb,_⟩:=h;rw[hb] at hc;cases hc)
theorem ZaA (w:World) (b j:Nat) (v:Value):w.grownBy (w.setCell ⟨b,j,none⟩ v) (some b) :=
 ⟨rfl,rfl,rfl,by simp[World.setCell],fun k _ hk=>Below.heap_setCell _ _ _ _ (fun e=>hk (by rw[e]))⟩
theorem OIntSS.far {es e lo hi:Nat} {w:World} {v:Value} {xss:List (List Int)} (h:OIntSS es e lo hi w v xss) {b:Nat} (hb:hi≤b) (j:Nat) (u:Value):OIntSS es e lo hi (w.setCell ⟨b,j,none⟩ u) v xss :=
 h.kept fun k _ h2 _=>Below.heap_setCell _ _ _ _ (show k≠b by omega)
theorem OIntSS.snoc {es e lo hi:Nat} {w w':World} {v J rv:Value} {xss:List (List Int)} {vs:List Value} {x:List Int} {lr hr:Nat}
  (h1:Own lo hi w es 1 v xss.length vs) (h2:∀ i,i<xss.length→OInts e lo hi w (vs.getD i undef) (xss.getD i []))
  (h3:∀ i j k,i<j→j<xss.length→(vs.getD i undef).ownBlock=some k→(vs.getD j undef).ownBlock≠some k)
  (D:OInts e lr hr w rv x) (L:hi≤lr) (G:lo≤lr) (H:es≠e) (I:w.grownBy w' v.ownBlock) (E:w'.ownsRow lo es 1 J (xss.length+1) (vs++[rv])) :
  OIntSS es e lo w'.heap.size w' J (xss++[x]):=by
 have hl:vs.length=xss.length:=by have:=h1.1.1;omega
 have ha:ZbF w v.ownBlock e:=Zah h1.1 H;have B:∀ i,i<xss.length→(vs++[rv]).getD i undef=vs.getD i undef:=fun i hi=>by simp only[List.getD_eq_getElem?_getD];rw[List.getElem?_append_left (by omega)]
 have C:(vs++[rv]).getD xss.length undef=rv:=by simp[← hl]
 refine⟨vs++[rv],?_,fun i hi => ?_,fun i j k hij hj hk => ?_⟩
 ·rw[List.length_append];exact Zab E
 ·rw[List.length_append,List.length_singleton] at hi;by_cases hin:i<xss.length
  ·rw[B i hin];have e2:(xss++[x]).getD i []=xss.getD i []:=by simp only[List.getD_eq_getElem?_getD];rw[List.getElem?_append_left hin]
   rw[e2];exact Zab (Own.grown (h2 i hin) I ha).1
  obtain rfl:i=xss.length:=by omega
  rw[C];have e2:(xss++[x]).getD xss.length []=x:=by simp
  rw[e2];exact Own.mono (Zab (Own.grown D I ha).1) G (Nat.le_refl _)
 rw[List.length_append,List.length_singleton] at hj;rw[B i (by omega)] at hk;by_cases hjn:j<xss.length
 ·rw[B j hjn];exact h3 i j k hij hjn hk
 obtain rfl:j=xss.length:=by omega
 rw[C];intro F;have a1:=(Own.lt (h2 i hij) k hk).2.1;have a2:=(Own.lt D k F).1;omega
theorem Zcz {w:World} {b n size e B:Nat} {cs:List Value} (h:w.heap[b]? = some (.cells cs.toArray e (0,0))) (hl:cs.length=n*size) (hb:B≤b) (hn:n≤maxLen):w.ownsRow B e size (.slice (some ⟨b,0,none⟩) n n) n cs :=
 ⟨hl,.inr ⟨b,n,cs.toArray,rfl,hb,h,Nat.le_refl _,hn,by simpa using hl,by simp[← hl]⟩⟩
end Go.Proofs.YtncekbbhgipdlaaGreat
namespace Go.Proofs.YtncekbbhgipdlaaGreat
structure Bs (α:Type) where
 met:List α
 words:List (List Nat)
section
variable {α:Type} [DecidableEq α]
def bvisit (nx:α→Nat→α) (x:α) (wd:List Nat) (s:Bs α) (c:Nat):Bs α :=
 if nx x c∈s.met then s else⟨s.met++[nx x c],s.words++[wd++[c]]⟩
def brow (nx:α→Nat→α) (x:α) (wd:List Nat) (s:Bs α):Nat→Bs α
 | 0=>s
 | n+1=>bvisit nx x wd (brow nx x wd s n) n
def bat (nx:α→Nat→α) (a:α):Nat→Bs α
 | 0=>⟨[a],[[]]⟩
 | k+1=>if k<(bat nx a k).met.length then brow nx ((bat nx a k).met.getD k a) ((bat nx a k).words.getD k []) (bat nx a k) 3 else bat nx a k
def bpart (nx:α→Nat→α) (a:α) (k n:Nat):Bs α:=brow nx ((bat nx a k).met.getD k a) ((bat nx a k).words.getD k []) (bat nx a k) n
variable {nx:α→Nat→α} {a:α}
theorem Zap (k:Nat):bpart nx a k 0=bat nx a k:=rfl
theorem ZaP {k:Nat} (h:k<(bat nx a k).met.length):bat nx a (k+1)=bpart nx a k 3:=by simp only[bat,if_pos h];rfl
theorem ZbU {k:Nat} (h:(bat nx a k).met.length≤k):bat nx a (k+1)=bat nx a k:=by simp only[bat,if_neg (show ¬ k<(bat nx a k).met.length by omega)]
theorem ZiP (k n:Nat):bpart nx a k (n+1)=bvisit nx ((bat nx a k).met.getD k a) ((bat nx a k).words.getD k []) (bpart nx a k n) n:=rfl
theorem Zbp {k n:Nat} (h:nx ((bat nx a k).met.getD k a) n∈(bpart nx a k n).met):bpart nx a k (n+1)=bpart nx a k n:=by rw[ZiP,bvisit,if_pos h]
theorem Zbi {k n:Nat} (h:nx ((bat nx a k).met.getD k a) n ∉ (bpart nx a k n).met):bpart nx a k (n+1)=⟨(bpart nx a k n).met++[nx ((bat nx a k).met.getD k a) n],(bpart nx a k n).words++[(bat nx a k).words.getD k []++[n]]⟩:=by rw[ZiP,bvisit,if_neg h]
theorem ZgS (Q:Bs α→Prop) {x:α} {wd:List Nat} {s:Bs α} (hs:Q s) (B:∀ t c,c<3→Q t→Q (bvisit nx x wd t c)):∀ n,n≤3→Q (brow nx x wd s n)
 | 0,_=>hs
 | n+1,h=>B _ n (by omega) (ZgS Q hs B n (by omega))
theorem Zf2 (Q:Bs α→Prop) (h0:Q ⟨[a],[[]]⟩) (C:∀ s k,k<s.met.length→∀ t c,c<3→Q s→Q t→Q (bvisit nx (s.met.getD k a) (s.words.getD k []) t c)):∀ k,Q (bat nx a k)
 | 0=>h0
 | k+1=>by
  have B:=Zf2 Q h0 C k;by_cases h:k<(bat nx a k).met.length
  ·rw[ZaP h];exact ZgS Q B (fun t c hc ht=>C _ k h t c hc B ht) 3 (by omega)
  rw[ZbU (by omega)];exact B
theorem ZkN (Q:Bs α→Prop) (h0:Q ⟨[a],[[]]⟩) (B:∀ s k,k<s.met.length→∀ t c,c<3→Q s→Q t→Q (bvisit nx (s.met.getD k a) (s.words.getD k []) t c)) {k n:Nat} (hk:k<(bat nx a k).met.length) (hn:n≤3):Q (bpart nx a k n) :=
 ZgS Q (Zf2 Q h0 B k) (fun t c hc ht=>B _ k hk t c hc (Zf2 Q h0 B k) ht) n hn
omit [DecidableEq α] in
theorem Zdp {l:List α} {x:α} (h:l.Nodup) (hx:x ∉ l):(l++[x]).Nodup:=by rw[List.nodup_append];refine⟨h,by simp,?_⟩;intro b hb c hc;simp only[List.mem_singleton] at hc;subst hc;intro e;subst e;exact hx hb
theorem ZhT (x:α) (wd:List Nat) {t:Bs α} (c:Nat) (h:t.met.Nodup∧t.words.length=t.met.length∧t.met.head? = some a) :
  (bvisit nx x wd t c).met.Nodup∧(bvisit nx x wd t c).words.length=(bvisit nx x wd t c).met.length∧(bvisit nx x wd t c).met.head? = some a:=by
 unfold bvisit
 split
 ·exact h
 rename_i hx;obtain⟨h1,h2,h3⟩:=h;exact⟨Zdp h1 hx,by simp[h2],by simp[h3]⟩
theorem ZaG (k:Nat):(bat nx a k).met.Nodup∧(bat nx a k).words.length=(bat nx a k).met.length∧(bat nx a k).met.head? = some a :=
 Zf2 (fun s=>s.met.Nodup∧s.words.length=s.met.length∧s.met.head? = some a) (by simp) (fun s k _ t c _ _ ht=>ZhT _ _ _ ht) k
theorem Zb2 {k n:Nat} (hk:k<(bat nx a k).met.length) (hn:n≤3):(bpart nx a k n).met.Nodup∧(bpart nx a k n).words.length=(bpart nx a k n).met.length∧(bpart nx a k n).met.head? = some a :=
 ZkN (fun s=>s.met.Nodup∧s.words.length=s.met.length∧s.met.head? = some a) (by simp) (fun s k _ t c _ _ ht=>ZhT _ _ _ ht) hk hn
theorem ZcZ (k:Nat):0<(bat nx a k).met.length:=by
 have:=(ZaG (nx:=nx) (a:=a) k).2.2;cases h:(bat nx a k).met with
 | nil=>rw[h] at this;simp at this
 | cons=>simp
theorem ZhV (k:Nat):(bat nx a k).met.getD 0 a=a:=by
 have:=(ZaG (nx:=nx) (a:=a) k).2.2;cases h:(bat nx a k).met with
 | nil=>rw[h] at this;simp at this
 | cons=>rw[h] at this;simpa using this
theorem ZbA {Q:α→Prop} (h0:Q a) (B:∀ x c,c<3→Q x→Q (nx x c)) (k:Nat):∀ x∈(bat nx a k).met,Q x:=by
 refine Zf2 (fun s=>∀ x∈s.met,Q x) (by simpa using h0) (fun s k hk t c hc hs ht => ?_) k;unfold bvisit
 split
 ·exact ht
 intro x hx;simp only[List.mem_append,List.mem_singleton] at hx;rcases hx with hx|rfl
 ·exact ht x hx
 refine B _ c hc (hs _ ?_);rw[List.getD_eq_getElem?_getD,List.getElem?_eq_getElem hk];simp
theorem ZkO {Q:α→Prop} (h0:Q a) (B:∀ x c,c<3→Q x→Q (nx x c)) {k n:Nat} (hk:k<(bat nx a k).met.length) (hn:n≤3):∀ x∈(bpart nx a k n).met,Q x:=by
 refine ZkN (fun s=>∀ x∈s.met,Q x) (by simpa using h0) (fun s k hk t c hc hs ht => ?_) hk hn;unfold bvisit
 split
 ·exact ht
 intro x hx;simp only[List.mem_append,List.mem_singleton] at hx;rcases hx with hx|rfl
 ·exact ht x hx
 refine B _ c hc (hs _ ?_);rw[List.getD_eq_getElem?_getD,List.getElem?_eq_getElem hk];simp
def Bs.le (s t:Bs α):Prop:=s.met <+: t.met∧s.words <+: t.words
omit [DecidableEq α] in
theorem Bs.le_refl (s:Bs α):s.le s:=⟨List.prefix_rfl,List.prefix_rfl⟩
omit [DecidableEq α] in
theorem Bs.le_trans {s t u:Bs α} (h:s.le t) (k:t.le u):s.le u:=⟨h.1.trans k.1,h.2.trans k.2⟩
theorem ZpK (x:α) (wd:List Nat) (s:Bs α) (c:Nat):s.le (bvisit nx x wd s c):=by
 unfold bvisit
 split
 ·exact Bs.le_refl _
 exact⟨List.prefix_append _ _,List.prefix_append _ _⟩
theorem ZpL (x:α) (wd:List Nat) (s:Bs α) (n m:Nat) (h:n≤m):(brow nx x wd s n).le (brow nx x wd s m):=by
 induction m with
 | zero=>obtain rfl:n=0:=by omega
         exact Bs.le_refl _
 | succ m B =>
  by_cases hn:n=m+1
  ·subst hn;exact Bs.le_refl _
  exact Bs.le_trans (B (by omega)) (ZpK _ _ _ _)
theorem Za7 {k n m:Nat} (h:n≤m):(bpart nx a k n).le (bpart nx a k m):=ZpL _ _ _ n m h
theorem ZlL (k:Nat):(bat nx a k).le (bat nx a (k+1)):=by
 by_cases h:k<(bat nx a k).met.length
 ·rw[ZaP h];exact ZpL _ _ _ 0 3 (by omega)
 rw[ZbU (by omega)];exact Bs.le_refl _
theorem ZdY {k m:Nat} (h:k≤m):(bat nx a k).le (bat nx a m):=by
 induction m with
 | zero=>obtain rfl:k=0:=by omega
         exact Bs.le_refl _
 | succ m B =>
  by_cases hn:k=m+1
  ·subst hn;exact Bs.le_refl _
  exact Bs.le_trans (B (by omega)) (ZlL _)
theorem ZaF {k n m:Nat} (hk:k<(bat nx a k).met.length) (hn:n≤3) (hm:k<m):(bpart nx a k n).le (bat nx a m):=by
 have h1:(bpart nx a k n).le (bat nx a (k+1)):=by rw[ZaP hk];exact Za7 hn
 exact Bs.le_trans h1 (ZdY hm)
theorem Zbc {k m:Nat} (h:(bat nx a k).met.length≤k) (hm:k≤m):bat nx a m=bat nx a k:=by
 induction m with
 | zero=>obtain rfl:k=0:=by omega
         rfl
 | succ m B =>
  by_cases hn:k=m+1
  ·subst hn;rfl
  have e:=B (by omega);rw[ZbU (by rw[e];omega),e]
def Zam (l:List α) (x:α):Nat:=l.idxOf x
theorem ZaV {l:List α} {x:α} (h:x∈l):Zam l x<l.length:=List.idxOf_lt_length_iff.2 h
omit [DecidableEq α] in
theorem Zas {l m:List α} (h:l <+: m) {k:Nat} (hk:k<l.length) (d:α):m.getD k d=l.getD k d:=by obtain⟨t,rfl⟩:=h;simp[List.getElem?_append_left hk]
theorem Zbe {l m:List α} (h:l <+: m) {x:α} (hx:x∈l):Zam m x=Zam l x:=by obtain⟨t,rfl⟩:=h;unfold Zam;rw[List.idxOf_append,if_pos hx]
theorem ZgO {l m:List α} {x:α} (h:l++[x] <+: m) (hx:x ∉ l):Zam m x=l.length:=by rw[Zbe h (by simp)];unfold Zam;rw[List.idxOf_append,if_neg hx];simp
theorem Zfq {l:List α} {k:Nat} (hk:k<l.length) (hn:l.Nodup) (d:α):Zam l (l.getD k d)=k:=by unfold Zam;rw[List.getD_eq_getElem?_getD,List.getElem?_eq_getElem hk];simp[hn]
theorem ZjA {l:List α} {x:α} (hx:x∈l) (d:α):l.getD (Zam l x) d=x:=by unfold Zam;rw[List.getD_eq_getElem?_getD,List.getElem?_eq_getElem (List.idxOf_lt_length_iff.2 hx)];simp
theorem ZkM {k n c:Nat} (hc:c<n):nx ((bat nx a k).met.getD k a) c∈(bpart nx a k n).met:=by
 have h1:nx ((bat nx a k).met.getD k a) c∈(bpart nx a k (c+1)).met:=by
  by_cases h:nx ((bat nx a k).met.getD k a) c∈(bpart nx a k c).met
  ·rw[Zbp h];exact h
  rw[Zbi h];simp
 exact(Za7 (nx:=nx) (a:=a) (k:=k) (show c+1≤n by omega)).1.subset h1
theorem ZdJ {l m:List α} (hn:l.Nodup) (hs:∀ x∈l,x∈m):l.length≤m.length:=by
 induction l generalizing m with
 | nil=>simp
 | cons x l B =>
  rw[List.nodup_cons] at hn;have h1:=B (m:=m.erase x) hn.2 fun y hy=>(List.mem_erase_of_ne (fun e=>hn.1 (by rw[← e];exact hy))).2 (hs y (by simp[hy]))
  have h2:=List.length_erase_of_mem (hs x (by simp));have h3:=List.length_pos_of_mem (hs x (by simp));simp only[List.length_cons];omega
end
def Zbs {α:Type} [DecidableEq α] (nx:α→Nat→α) (a:α) (F:List α) (s:Int) (c:Nat):Int:=Zam F (nx (F.getD s.toNat a) c)
def ZaY (n:Nat):List Int:=(List.range n).map Int.ofNat
theorem ZkV (n:Nat):ZaY (n+1)=ZaY n++[(n:Int)]:=by simp[ZaY,List.range_succ]
theorem Zch {n:Nat} {x:Nat}:(x:Int)∈ZaY n↔x<n:=by
 simp only[ZaY,List.mem_map,List.mem_range];constructor
 ·rintro⟨y,hy,e⟩;have e2:(y:Int)=(x:Int):=e;omega
 intro h;exact⟨x,h,rfl⟩
theorem ZgW {n k:Nat} (h:k<n):(ZaY n).getD k 0=(k:Int):=by simp[ZaY,h]
theorem Zcf (n:Nat):(ZaY n).length=n:=by simp[ZaY]
theorem Zlk {α:Type} [DecidableEq α] (nx:α→Nat→α) (a:α) (K:Nat):∀ k,k≤K →
  bat (Zbs nx a (bat nx a K).met) 0 k=⟨ZaY (bat nx a k).met.length,(bat nx a k).words⟩
 | 0,_=>rfl
 | k+1,G=>by
  have C:=Zlk nx a K k (by omega);have hlen:(bat (Zbs nx a (bat nx a K).met) 0 k).met.length=(bat nx a k).met.length:=by rw[C];exact Zcf _
  by_cases h:k<(bat nx a k).met.length
  ·rw[ZaP h,ZaP (by rw[hlen];exact h)]
   have D:∀ n,n≤3→bpart (Zbs nx a (bat nx a K).met) 0 k n=⟨ZaY (bpart nx a k n).met.length,(bpart nx a k n).words⟩:=by
    intro n
    induction n with
    | zero=>intro _;rw[Zap,Zap];exact C
    | succ n E =>
     intro hn;have e:=E (by omega);have hx:(bat (Zbs nx a (bat nx a K).met) 0 k).met.getD k 0=(k:Int):=by rw[C];exact ZgW h
     have F:(bat nx a K).met.getD k a=(bat nx a k).met.getD k a:=Zas (ZdY (show k≤K by omega)).1 h a;have B:Zbs nx a (bat nx a K).met (k:Int) n=(Zam (bat nx a K).met (nx ((bat nx a k).met.getD k a) n):Int):=by unfold Zbs;rw[show((k:Int).toNat)=k from rfl,F]
     by_cases hm:nx ((bat nx a k).met.getD k a) n∈(bpart nx a k n).met
     ·rw[Zbp hm];have hi:=Zbe (ZaF (m:=K) h (show n≤3 by omega) (by omega)).1 hm;have hlt:Zam (bat nx a K).met (nx ((bat nx a k).met.getD k a) n)<(bpart nx a k n).met.length:=by rw[hi];exact ZaV hm
      rw[Zbp (by rw[hx,B,e];exact Zch.2 hlt),e]
     have hb:=ZaF (nx:=nx) (a:=a) (m:=K) h hn (by omega);rw[Zbi hm] at hb;have hi:=ZgO hb.1 hm;rw[Zbi (by rw[hx,B,e,hi];simp[Zch]),Zbi hm,hx,B,hi,e,C];simp[ZkV]
   exact D 3 (by omega)
  rw[ZbU (k:=k) (a:=a) (by omega),ZbU (by rw[hlen];omega)];exact C
end Go.Proofs.YtncekbbhgipdlaaGreat
namespace Go.Proofs.YtncekbbhgipdlaaGreat
open Go.RowKit
section
variable {α:Type} [DecidableEq α]
def numbered (l:List α):List (α × Value):=l.zipIdx.map fun p=>(p.1,Value.int .i64 (p.2:Int))
omit [DecidableEq α] in
theorem Zjj (l:List α) (x:α):numbered (l++[x])=numbered l++[(x,Value.int .i64 (l.length:Int))]:=by simp[numbered,List.zipIdx_append]
omit [DecidableEq α] in
theorem ZdH (l:List α):(numbered l).map (·.1)=l:=by simp only[numbered,List.map_map];have:((fun x:α × Value=>x.1) ∘ fun p:α × Nat=>(p.1,Value.int .i64 (p.2:Int)))=Prod.fst:=rfl;rw[this,List.zipIdx_map_fst]
theorem ZbD {l:List α} (hn:l.Nodup) {x:α} (hx:x∈l):look x (numbered l)=some (.int .i64 (Zam l x:Int)):=by refine Zmc (by rw[ZdH];exact hn) (j:=Zam l x) ?_;have hlt:=List.idxOf_lt_length_iff.2 hx;unfold Zam;simp only[numbered,List.getElem?_map,List.getElem?_zipIdx,List.getElem?_eq_getElem hlt,Option.map_some,Nat.zero_add,List.getElem_idxOf]
theorem ZcV {l:List α} {x:α} (hx:x ∉ l):look x (numbered l)=none :=
 Zkm fun p hp e=>hx (by rw[← ZdH l,← e];exact List.mem_map.2 ⟨p,hp,rfl⟩)
theorem Zdc {l:List α} {x:α} (hx:x ∉ l):upd x (.int .i64 (l.length:Int)) (numbered l)=numbered (l++[x]):=by rw[Zjj];exact ZlQ fun p hp e=>hx (by rw[← ZdH l,← e];exact List.mem_map.2 ⟨p,hp,rfl⟩)
end
theorem memD {α:Type} {xs:List α} {k:Nat} {d:α} (h:k<xs.length):xs.getD k d∈xs:=by rw[List.getD_eq_getElem?_getD,List.getElem?_eq_getElem h];simp
theorem Zbg {α:Type} {xs:List α} {k:Nat} {d:α} (h:k<xs.length):xs.getD k d=xs[k]:=by simp[h]
def dnx (d:DfaD) (s:Int) (c:Nat):Int:=(d.next.getD s.toNat []).getD c 0
def den (d:DfaD) (s:Int):Bool:=d.ends.getD s.toNat false
def ZaO {α:Type} (en:α→Bool) (s:Bs α):Option (List Nat):=((s.met.zip s.words).find? fun p=>en p.1).map (·.2)
def fine (d:DfaD):Prop:=1≤d.next.length∧d.next.length≤100000∧d.ends.length=d.next.length∧∀ i,i<d.next.length→(d.next.getD i []).length=3∧∀ c,c<3→0≤(d.next.getD i []).getD c 0∧(d.next.getD i []).getD c 0<d.next.length
theorem ZeX {α:Type} {en:α→Bool} {s t:Bs α} {k:Nat} {d:α} (C:s.le t) (hl:s.words.length=s.met.length) (H:t.words.length=t.met.length) (hk:k<s.met.length) (F:∀ j,j<k→en (s.met.getD j d)=false) (D:en (s.met.getD k d)=true):ZaO en t=some (s.words.getD k []):=by
 have I:s.met.length≤t.met.length:=C.1.length_le;have B:∀ j,j<s.met.length→t.met.getD j d=s.met.getD j d:=fun j hj=>by obtain⟨u,hu⟩:=C.1;rw[← hu];simp[List.getElem?_append_left hj]
 have E:t.words.getD k []=s.words.getD k []:=by obtain⟨u,hu⟩:=C.2;rw[← hu];simp[List.getElem?_append_left (show k<s.words.length by omega)]
 have G:∀ j,(hj:j<t.met.length)→t.met[j]=t.met.getD j d:=fun j hj=>by simp[hj]
 have hf:(t.met.zip t.words).find? (fun p=>en p.1)=some (t.met.getD k d,t.words.getD k []):=by
  rw[List.find?_eq_some_iff_getElem];refine⟨by simp only;rw[B k hk];exact D,k,by rw[List.length_zip];omega,?_,fun j hj => ?_⟩
  ·simp[List.getElem_zip,show k<t.met.length by omega,show k<t.words.length by omega]
  simp only[List.getElem_zip];rw[G j (by omega),B j (by omega),F j hj];rfl
 unfold ZaO;rw[hf,← E];rfl
theorem ZdQ {α:Type} {en:α→Bool} {s:Bs α} {d:α} (B:∀ j,j<s.met.length→en (s.met.getD j d)=false):ZaO en s=none:=by
 unfold ZaO;rw[List.find?_eq_none.2]
 ·rfl
 intro p hp;obtain⟨j,hj,rfl⟩:=List.mem_iff_getElem.1 hp;have hjm:j<s.met.length:=by rw[List.length_zip] at hj;omega
 have:=B j hjm;simp only[List.getElem_zip];rw[List.getD_eq_getElem?_getD,List.getElem?_eq_getElem hjm] at this;simpa using this
theorem Zdj {α β:Type} (e1:α→Bool) (e2:β→Bool):∀ (l1:List α) (l2:List β) (ws:List (List Nat)),l1.length=l2.length→(∀ j (h1:j<l1.length) (h2:j<l2.length),e1 l1[j]=e2 l2[j])→ZaO e1 ⟨l1,ws⟩=ZaO e2 ⟨l2,ws⟩
 | [],[],ws,_,_=>by simp[ZaO]
 | [],_::_,_,h,_=>by simp at h
 | _::_,[],_,h,_=>by simp at h
 | x::l1,y::l2,[],_,_=>by simp[ZaO]
 | x::l1,y::l2,v::ws,hl,h=>by have B:=Zdj e1 e2 l1 l2 ws (by simpa using hl) (fun j h1 h2=>by have:=h (j+1) (by simpa using h1) (by simpa using h2);simpa using this);have h0:e1 x=e2 y:=h 0 (by simp) (by simp);unfold ZaO at B ⊢;simp only[List.zip_cons_cons,List.find?_cons,h0];cases e2 y<;>simp_all
section
variable {α:Type} [DecidableEq α] {nx nx':α→Nat→α} {a:α}
theorem ZiO {x:α} {wd:List Nat} {s:Bs α} (h:∀ c,c<3→nx x c=nx' x c):∀ n,n≤3→brow nx x wd s n=brow nx' x wd s n
 | 0,_=>rfl
 | n+1,hn=>by show bvisit nx x wd (brow nx x wd s n) n=bvisit nx' x wd (brow nx' x wd s n) n;rw[ZiO h n (by omega)];unfold bvisit;rw[h n (by omega)]
theorem ZfD {Q:α→Prop} (h0:Q a) (C:∀ x c,c<3→Q x→Q (nx x c)) (he:∀ x c,c<3→Q x→nx x c=nx' x c):∀ k,bat nx a k=bat nx' a k
 | 0=>rfl
 | k+1=>by
  have B:=ZfD h0 C he k;by_cases h:k<(bat nx a k).met.length
  ·rw[ZaP h,ZaP (by rw[← B];exact h)];unfold bpart;rw[← B];exact ZiO (fun c hc=>he _ c hc (ZbA h0 C k _ (memD h))) 3 (by omega)
  rw[ZbU (by omega),ZbU (by rw[← B];omega),B]
theorem ZcN {K:Nat} (C:(bat nx a K).met.length≤K) {x:α} (hx:x∈(bat nx a K).met) {c:Nat} (hc:c<3):nx x c∈(bat nx a K).met:=by
 obtain⟨k,hk,rfl⟩:=List.mem_iff_getElem.1 hx
 have B:k<(bat nx a k).met.length:=by
  by_cases h:k<(bat nx a k).met.length
  ·exact h
  have:=Zbc (nx:=nx) (a:=a) (k:=k) (m:=K) (by omega) (by omega);rw[this] at hk;omega
 have e:(bat nx a K).met[k]=(bat nx a k).met.getD k a:=by rw[← Zas (ZdY (nx:=nx) (a:=a) (show k≤K by omega)).1 B a,Zbg hk]
 rw[e];exact(ZaF (nx:=nx) (a:=a) B (Nat.le_refl 3) (show k<K by omega)).1.subset (ZkM hc)
theorem Zew:∀ k:Nat,∀ wd∈(bat nx a k).words,wd.length≤k
 | 0,wd,h=>by simp[bat] at h;simp[h]
 | k+1,wd,h=>by
  have C:=Zew k;by_cases hk:k<(bat nx a k).met.length
  ·rw[ZaP hk] at h;have D:=(ZaG (nx:=nx) (a:=a) k).2.1;refine ZgS (fun t=>∀ wd∈t.words,wd.length≤k+1) (fun wd h=>Nat.le_succ_of_le (C wd h)) (fun t c _ ht => ?_) 3 (Nat.le_refl 3) wd h;unfold bvisit
   split
   ·exact ht
   intro v B;simp only[List.mem_append,List.mem_singleton] at B;rcases B with B|rfl
   ·exact ht v B
   have:=C _ (memD (d:=[]) (show k<(bat nx a k).words.length by omega));simpa using this
  rw[ZbU (by omega)] at h;exact Nat.le_succ_of_le (C wd h)
theorem ZfC (K:Nat):a∈(bat nx a K).met:=by
 have h:=memD (d:=a) (ZcZ (nx:=nx) (a:=a) K)
 rwa [ZhV] at h
def Zai (nx:α→Nat→α) (F:List α) (x:α):List Int:=(List.range 3).map fun c=>(Zam F (nx x c):Int)
def Zar (nx:α→Nat→α) (en:α→Bool) (F:List α):DfaD:=⟨F.map (Zai nx F),F.map en⟩
theorem ZaW (nx:α→Nat→α) (en:α→Bool) (F:List α):(Zar nx en F).next.length=F.length:=by simp[Zar]
theorem ZfQ {en:α→Bool} {F:List α} {i:Nat} (hi:i<F.length):(Zar nx en F).next.getD i []=Zai nx F (F.getD i a):=by simp[Zar,List.getElem?_eq_getElem hi]
theorem Zhm {F:List α} {x:α} {c:Nat} (hc:c<3):(Zai nx F x).getD c 0=(Zam F (nx x c):Int):=by simp[Zai,hc]
theorem ZjG {en:α→Bool} {F:List α} {s:Int} {c:Nat} (h0:0≤s) (h1:s<F.length) (hc:c<3):dnx (Zar nx en F) s c=Zbs nx a F s c:=by unfold dnx Zbs;rw[ZfQ (a:=a) (by omega),Zhm hc]
theorem ZjJ {en:α→Bool} {F:List α} {i:Nat} (hi:i<F.length):den (Zar nx en F) (i:Int)=en F[i]:=by simp[den,Zar,hi]
theorem Zeu {en:α→Bool} {K:Nat} (C:(bat nx a K).met.length≤K) (B:K≤100000):fine (Zar nx en (bat nx a K).met):=by
 refine⟨?_,?_,?_,fun i hi => ?_⟩
 ·rw[ZaW];exact ZcZ K
 ·rw[ZaW];omega
 ·simp[Zar]
 rw[ZaW] at hi;rw[ZfQ (a:=a) hi];refine⟨by simp[Zai],fun c hc => ?_⟩;rw[Zhm hc,ZaW];exact⟨by omega,by exact_mod_cast ZaV (ZcN C (memD hi) hc)⟩
theorem Zgk {en:α→Bool} {K:Nat} (B:(bat nx a K).met.length≤K) :
  ZaO (den (Zar nx en (bat nx a K).met)) (bat (dnx (Zar nx en (bat nx a K).met)) 0 (Zar nx en (bat nx a K).met).next.length)=ZaO en (bat nx a K):=by
 rw[ZaW];obtain⟨m,hm⟩:=eI ((bat nx a K).met.length);have hle:(bat nx a m).met.length≤m:=by have:=(ZdY (nx:=nx) (a:=a) (show m≤K by omega)).1.length_le;omega
 have hd:bat nx a K=bat nx a m:=Zbc hle (by omega);have hp:=ZcZ (nx:=nx) (a:=a) K;have hlt:∀ (s:Int) c,c<3→0≤s∧s<m→0≤Zbs nx a (bat nx a K).met s c∧Zbs nx a (bat nx a K).met s c<m:=fun s c hc hs=>by unfold Zbs;have:=ZaV (ZcN B (memD (d:=a) (show s.toNat<(bat nx a K).met.length by omega)) hc);omega
 have e1:bat (Zbs nx a (bat nx a K).met) 0 m=bat (dnx (Zar nx en (bat nx a K).met)) 0 m :=
  ZfD (Q:=fun s=>0≤s∧s<(m:Int)) (by omega) (fun s c hc hs=>hlt s c hc hs) (fun s c hc hs=>(ZjG (by omega) (by omega) hc).symm) m
 rw[← hm,← e1,Zlk nx a K m (by omega),← hd];show ZaO _ _=ZaO en ⟨(bat nx a K).met,(bat nx a K).words⟩;refine Zdj _ _ _ _ _ (by simp[ZaY]) fun j h1 h2 => ?_
 have:(ZaY (bat nx a K).met.length)[j]=(j:Int):=by simp[ZaY]
 rw[this];exact ZjJ h2
end
theorem Tryz.infoInt:(Tryz.prog.info? 3).map (fun i=>(i.zero,i.size,i.bytes))=some (some (.int .i64 0),1,8):=by kernel_rfl
theorem Tryz.infoBool:(Tryz.prog.info? 4).map (fun i=>(i.zero,i.size,i.bytes))=some (some (.bool false),1,1):=by kernel_rfl
theorem Tryz.infoInts:(Tryz.prog.info? 38).map (fun i=>(i.zero,i.size,i.bytes))=some (some (.slice none 0 0),1,24):=by kernel_rfl
theorem Zdy {xs:List Value} {n k:Nat} {cs:List Value} {u:Value} (hl:cs.length=n) (hx:xs.length=n) (hk:k<n) (h:cs.take k=xs.take k) (hu:xs[k]? = some u) :
  (cs.set k u).take (k+1)=xs.take (k+1):=by
 apply List.ext_getElem?;intro j;rw[List.getElem?_take,List.getElem?_take];by_cases hj:j<k+1
 ·rw[if_pos hj,if_pos hj,List.getElem?_set];by_cases he:k=j
  ·subst he;rw[if_pos rfl,if_pos (by omega),hu]
  rw[if_neg he];have:=congrArg (fun l=>l[j]?) h;simpa [List.getElem?_take,show j<k by omega] using this
 rw[if_neg hj,if_neg hj]
def small (d:DfaD):Prop:=d.next.length≤1048576∧(∀ i,i<d.next.length→(d.next.getD i []).length≤1048576)∧d.ends.length≤1048576
end Go.Proofs.YtncekbbhgipdlaaGreat
namespace Go.Proofs.YtncekbbhgipdlaaGreat
open Go.RowKit Go.Maps
section
variable {α:Type}
structure ExW (kt sz:Nat) (enc:α→Value) (cel:α→List Value) (B B1 B2 B4 hi:Nat) (w:World) (met:List α) (rows:List (List Int)) (ends:List Bool) (vm vn ve:Value):Prop where
 m:w.ownsRow B kt sz vm met.length (met.flatMap cel)
 n:MapL Tryz.prog kt enc w B2 (numbered met)
 r:Bx w B1 #[.slice none 0 0,.slice none 0 0] 44
 d:Bx w B4 #[vn,ve] 44
 nx:OIntSS 38 3 B hi w vn rows
 en:w.ownsRow B 4 1 ve ends.length (boolCells ends)
 ne:B1≠B4
variable {kt sz B B1 B2 B4 hi:Nat} {enc:α→Value} {cel:α→List Value} {w w':World} {met:List α} {rows:List (List Int)} {ends:List Bool} {vm vn ve:Value}
theorem ExW.below (h:ExW kt sz enc cel B B1 B2 B4 hi w met rows ends vm vn ve) (hb:Below w.heap.size w w'):ExW kt sz enc cel B B1 B2 B4 hi w' met rows ends vm vn ve :=
 ⟨(Own.below (Zab h.m) hb).1,h.n.below hb,h.r.below hb h.r.lt,h.d.below hb h.d.lt,h.nx.below hb,(Own.below (Zab h.en) hb).1,h.ne⟩
theorem ExW.up {hi':Nat} (h:ExW kt sz enc cel B B1 B2 B4 hi w met rows ends vm vn ve) (hh:hi≤hi'):ExW kt sz enc cel B B1 B2 B4 hi' w met rows ends vm vn ve :=
 ⟨h.m,h.n,h.r,h.d,h.nx.mono (Nat.le_refl _) hh,h.en,h.ne⟩
def Own4 (kt:Nat):Prop:=kt ≠ 3 ∧ kt ≠ 38 ∧ kt ≠ 4 ∧ kt ≠ 44
theorem ExW.newState (hk:Own4 kt) (h:ExW kt sz enc cel B B1 B2 B4 hi w met rows ends vm vn ve) {x:α} {w1 w2 G:World} {F:Value} (hn:MapL Tryz.prog kt enc w1 B2 (numbered (met++[x]))) (C:w.grownBy w1 (some B2))
  (hb:Below w1.heap.size w1 w2) (E:G.ownsRow B kt sz F (met.length+1) (met.flatMap cel++cel x)) (D:w2.grownBy G vm.ownBlock) :
  ExW kt sz enc cel B B1 B2 B4 hi G (met++[x]) rows ends F vn ve:=by
 obtain⟨L,J,M,H⟩:=hk;have a:∀ e,ZbF w (some B2) e:=fun e=>h.n.apart
 have I:w2.ownsRow B kt sz vm met.length (met.flatMap cel):=(Own.below (Zab (Zad h.m C (a _))) hb).1;have b:∀ e,kt≠e→ZbF w2 vm.ownBlock e:=fun e he=>Zah I he
 refine⟨?_,(hn.below hb).grown D (ZcE I),?_,?_,?_,?_,h.ne⟩
 ·simpa using E
 ·have r1:=h.r.grown C (a _);exact(r1.below hb r1.lt).grown D (b _ H)
 ·have r1:=h.d.grown C (a _);exact(r1.below hb r1.lt).grown D (b _ H)
 ·exact((h.nx.grown C (a _) (a _)).below hb).grown D (b _ J) (b _ L)
 exact Zad (Own.below (Zab (Zad h.en C (a _))) hb).1 D (b _ M)
theorem ExW.setRow (hk:Own4 kt) (h:ExW kt sz enc cel B B1 B2 B4 hi w met rows ends vm vn ve) {R n:Nat} {cs:List Value} (G:hi≤R) {E:Nat} (C:w.ownsRow E 3 1 (.slice (some ⟨R,0,none⟩) n n) n cs) (j:Nat) (v:Value) :
  ExW kt sz enc cel B B1 B2 B4 hi (w.setCell ⟨R,j,none⟩ v) met rows ends vm vn ve:=by
 obtain⟨F,H,J,I⟩:=hk;have D:=ZaA w R j v;have a:∀ e,3 ≠ e→ZbF w (some R) e:=fun e he=>Zah (v:=.slice (some ⟨R,0,none⟩) n n) C he
 have c:ZgT w (some R):=ZcE (v:=.slice (some ⟨R,0,none⟩) n n) C;exact⟨Zad h.m D (a _ (Ne.symm F)),h.n.grown D c,h.r.grown D (a _ (by decide)),h.d.grown D (a _ (by decide)),h.nx.far G j v,Zad h.en D (a _ (by decide)),h.ne⟩
theorem Zl2 {w1 w2 H:World} {R n B e:Nat} {cs:List Value} {vm:Value} {b2 I:Nat} {ms:List Value} (C:w.ownsRow B e 1 (.slice (some ⟨R,0,none⟩) n n) n cs) (G:kt≠e)
  (E:w2.ownsRow I kt sz vm b2 ms) (ha:ZbF w (some B2) e) (D:w.grownBy w1 (some B2)) (hb:Below w1.heap.size w1 w2) (F:w2.grownBy H vm.ownBlock):H.ownsRow B e 1 (.slice (some ⟨R,0,none⟩) n n) n cs :=
 Zad (Own.below (Zab (Zad C D ha)) hb).1 F (Zah E G)
theorem ExW.addRow (hk:Own4 kt) (h:ExW kt sz enc cel B B1 B2 B4 hi w met rows ends vm vn ve) {vs:List Value} {rv C:Value} {x:List Int} {E:World} {lr:Nat}
  (h1:Own B hi w 38 1 vn rows.length vs) (h2:∀ i,i<rows.length→OInts 3 B hi w (vs.getD i undef) (rows.getD i []))
  (h3:∀ i j k,i<j→j<rows.length→(vs.getD i undef).ownBlock=some k→(vs.getD j undef).ownBlock≠some k)
  (H:OInts 3 lr w.heap.size w rv x) (I:hi≤lr) (L:B≤lr) (F:w.grownBy E vn.ownBlock) (G:E.ownsRow B 38 1 C (rows.length+1) (vs++[rv])) :
  ExW kt sz enc cel B B1 B2 B4 E.heap.size (E.setCell ⟨B4,0,none⟩ C) met (rows++[x]) ends vm C ve:=by
 obtain⟨Q,M,R,N⟩:=hk;have a:∀ e,38 ≠ e→ZbF w vn.ownBlock e:=fun e he=>Zah h1.1 he
 have J:Bx E B4 #[vn,ve] 44:=h.d.grown F (a _ (by decide));have D:=ZaA E B4 0 C;have b:∀ e,44 ≠ e→ZbF E (some B4) e:=fun e he=>J.apart he
 have P:Bx E B1 #[.slice none 0 0,.slice none 0 0] 44:=h.r.grown F (a _ (by decide));have O:MapL Tryz.prog kt enc (E.setCell ⟨B4,0,none⟩ C) B2 (numbered met):=(h.n.grown F (ZcE h1.1)).grown D J.cells;refine⟨Zad (Zad h.m F (a _ (Ne.symm M))) D (b _ (Ne.symm N)),O,?_,J.set 0 C,?_,Zad (Zad h.en F (a _ (by decide))) D (b _ (by decide)),h.ne⟩
 ·exact P.set_ne _ _ h.ne
 exact(OIntSS.snoc h1 h2 h3 H I L (by decide) F G).grown D (b _ (by decide)) (b _ (by decide))
theorem ExW.addEnd (hk:Own4 kt) (h:ExW kt sz enc cel B B1 B2 B4 hi w met rows ends vm vn ve) {E:World} {C:Value} {e:Bool} (G:w.grownBy E ve.ownBlock) (F:E.ownsRow B 4 1 C (ends.length+1) (boolCells ends++[.bool e])) :
  ExW kt sz enc cel B B1 B2 B4 hi (E.setCell ⟨B4,1,none⟩ C) met rows (ends++[e]) vm vn C:=by
 obtain⟨O,N,M,I⟩:=hk;have a:∀ t,4 ≠ t→ZbF w ve.ownBlock t:=fun t ht=>Zah h.en ht
 have H:Bx E B4 #[vn,ve] 44:=h.d.grown G (a _ (by decide));have D:=ZaA E B4 1 C;have b:∀ t,44 ≠ t→ZbF E (some B4) t:=fun t ht=>H.apart ht
 have L:Bx E B1 #[.slice none 0 0,.slice none 0 0] 44:=h.r.grown G (a _ (by decide));have J:MapL Tryz.prog kt enc (E.setCell ⟨B4,1,none⟩ C) B2 (numbered met):=(h.n.grown G (ZcE h.en)).grown D H.cells;refine⟨Zad (Zad h.m G (a _ (Ne.symm M))) D (b _ (Ne.symm I)),J,L.set_ne _ _ h.ne,H.set 1 C,(h.nx.grown G (a _ (by decide)) (a _ (by decide))).grown D (b _ (by decide)) (b _ (by decide)),?_,h.ne⟩;refine Zad ?_ D (b _ (by decide));simpa using F
end
end Go.Proofs.YtncekbbhgipdlaaGreat
namespace Go.Proofs.YtncekbbhgipdlaaGreat
open Go.RowKit
structure Touch (e lo hi:Nat) (w w':World):Prop where
 os:w'.os=w.os
 tape:w'.tape=w.tape
 output:w'.output=w.output
 size:w.heap.size≤w'.heap.size
 block:∀ k,k<w.heap.size→((k<lo∨hi≤k)∨∀ cur fr,w.heap[k]? ≠ some (.cells cur e fr))→w'.heap[k]? = w.heap[k]?
theorem Touch.refl (e lo hi:Nat) (w:World):Touch e lo hi w w:=⟨rfl,rfl,rfl,Nat.le_refl _,fun _ _ _=>rfl⟩
theorem Touch.trans {e lo hi:Nat} {a b c:World} (h:Touch e lo hi a b) (k:Touch e lo hi b c):Touch e lo hi a c:=by
 refine⟨k.os.trans h.os,k.tape.trans h.tape,k.output.trans h.output,Nat.le_trans h.size k.size,fun i hi hh => ?_⟩;have e1:=h.block i hi hh;refine(k.block i (Nat.lt_of_lt_of_le hi h.size) ?_).trans e1;rcases hh with hh|hh
 ·exact .inl hh
 exact .inr (by rw[e1];exact hh)
theorem Touch.only {e lo hi:Nat} {a b:World} (h:Touch e lo hi a b):Only lo hi a b:=⟨h.os,h.tape,h.output,h.size,fun k hk hh=>h.block k hk (.inl hh)⟩
theorem Own.lt' {lo hi e size n:Nat} {w:World} {v:Value} {cs:List Value} (h:Own lo hi w e size v n cs):w.ownsRow lo e size v n cs:=h.1
theorem OIntSS.row {es e lo hi:Nat} {w w':World} {v:Value} {xss:List (List Int)} {vs:List Value} {x:List Int} {j:Nat} (D:es≠e)
  (h1:Own lo hi w es 1 v xss.length vs) (h2:∀ i,i<xss.length→OInts e lo hi w (vs.getD i undef) (xss.getD i []))
  (h3:∀ i j k,i<j→j<xss.length→(vs.getD i undef).ownBlock=some k→(vs.getD j undef).ownBlock≠some k)
  (hj:j<xss.length) (hx:OInts e lo hi w' (vs.getD j undef) x) (E:w.grownBy w' (vs.getD j undef).ownBlock) :
  Own lo hi w' es 1 v (xss.set j x).length vs∧(∀ i,i<(xss.set j x).length→OInts e lo hi w' (vs.getD i undef) ((xss.set j x).getD i [])) ∧
   (∀ i C k,i<C→C<(xss.set j x).length→(vs.getD i undef).ownBlock=some k→(vs.getD C undef).ownBlock≠some k):=by
 have ha:ZbF w (vs.getD j undef).ownBlock es:=Zah (Own.lt' (h2 j hj)) (Ne.symm D);rw[List.length_set];refine⟨h1.grown E ha,fun i hi => ?_,h3⟩;by_cases hij:j=i
 ·subst hij;have:(xss.set j x).getD j []=x:=by simp[hj]
  rw[this];exact hx
 have:(xss.set j x).getD i []=xss.getD i []:=by simp[List.getElem?_set_ne hij]
 rw[this];refine Own.kept (h2 i hi) fun k hk=>E.block k (Own.lt (h2 i hi) k hk).2.2 fun hr => ?_
 rcases Nat.lt_or_gt_of_ne hij with hlt|B
 ·exact h3 j i k hlt hi hr.symm hk
 exact h3 i j k B hj hk hr.symm
end Go.Proofs.YtncekbbhgipdlaaGreat
namespace Go.Proofs.YtncekbbhgipdlaaGreat
open Go.RowKit Go.Maps
def fitI (x:Int):Prop:=-9223372036854775808≤x∧x≤9223372036854775807
theorem Zml {x:Int} (h:fitI x):(Lit.int .i64 x).wf=true:=WalkArith.wf_i64 h
theorem Tryz.laidOut:laidOutB Tryz.prog=true:=by kernel_rfl
theorem ZfW:5+1≤10000:=by omega
def Za0 (p:Int × Int):Value:=.agg #[.int .i64 p.1,.int .i64 p.2]
theorem ZbW:∀ x y:Int × Int,Za0 x=Za0 y→x=y:=by rintro⟨a,b⟩ ⟨c,d⟩ h;simp only[Za0,Value.agg.injEq] at h;have h1:=congrArg (fun (l:Array Value)=>l[0]?) h;have h2:=congrArg (fun (l:Array Value)=>l[1]?) h;simp at h1 h2;rw[h1,h2]
theorem ZhA {P:Program} {t:TypeId} {D:Nat} {x:Int} (ht:P.underlying t=some (.int .i64)) (hx:fitI x):P.keyLits (D+1) t [.int .i64 x]=some [.int .i64 x]:=by unfold Program.keyLits;rw[ht];simp[Zml hx]
theorem Zhz {P:Program} {t:TypeId} {D:Nat} {q:IntKind} {x:Int} (ht:P.underlying t=some (.int q)) (hx:(Lit.int q x).wf=true):P.keyLits (D+1) t [.int q x]=some [.int q x]:=by unfold Program.keyLits;rw[ht];simp[hx]
theorem Zku {P:Program} {t e:TypeId} {q:IntKind} (hu:P.underlying t=some (.array 2 e)) (he:P.underlying e=some (.int q)) (hk:P.keyType t=true) (hc:P.cellsOf t=2) (C:P.cellsOf e=1) (B:t<P.types.size)
  (x y:Int) (hx:(Lit.int q x).wf=true) (hy:(Lit.int q y).wf=true):∃ l,keyOf P t (.agg #[.int q x,.int q y])=some l:=by
 have hfm:(Value.agg #[.int q x,.int q y]).formed P t=true:=by simp[Value.formed,hu,hc]
 obtain⟨n,hn⟩:∃ n,P.types.size=n+1:=⟨P.types.size-1,(Nat.succ_pred_eq_of_pos (Nat.lt_of_le_of_lt (Nat.zero_le _) B)).symm⟩;have e1:=Zhz (D:=n) he hx;have e2:=Zhz (D:=n) he hy;have hlits:P.keyLits (P.types.size+1) t (Value.agg #[.int q x,.int q y]).cells.toList=some [.int q x,.int q y]:=by rw[hn];show P.keyLits (n+1+1) t [.int q x,.int q y]=_;unfold Program.keyLits;rw[hu];simp[hc,C,List.range_succ,e1,e2]
 exact⟨_,by unfold keyOf;rw[hu];simp only[hk,hfm,Bool.and_self,if_true,hlits];rfl⟩
theorem Zse {q:IntKind}:∀ x y:Int × Int,(Value.agg #[.int q x.1,.int q x.2]) = .agg #[.int q y.1,.int q y.2]→x=y:=by rintro⟨a,b⟩ ⟨c,d⟩ h;simp only[Value.agg.injEq] at h;have h1:=congrArg (fun (l:Array Value)=>l[0]?) h;have h2:=congrArg (fun (l:Array Value)=>l[1]?) h;simp at h1 h2;rw[h1,h2]
theorem Tryz.rowPr:(170:TypeId)<Tryz.prog.types.size:=of_decide_eq_true (by kernel_rfl)
theorem Tryz.widePr:(match Tryz.prog.underlying 170 with|some (.array _ _)|some (.struct _)=>true|_=>false)=true:=by kernel_rfl
theorem Tryz.keyPr:Tryz.prog.keyType 170 = true:=by kernel_rfl
theorem Tryz.keyAtPr:Tryz.prog.keyTypeAt 5 170 = true:=by kernel_rfl
theorem Tryz.cellsPr:Tryz.prog.cellsOf 170 = 2:=by kernel_rfl
theorem Tryz.cellsInt:Tryz.prog.cellsOf 3 = 1:=by kernel_rfl
theorem Tryz.kindPr:Tryz.prog.underlying 170 = some (.array 2 3):=by kernel_rfl
theorem Tryz.lawPr:Keyed Tryz.prog 170:=Keyed.of_law (deep_law_laid Tryz.laidOut ZfW Tryz.rowPr Tryz.keyAtPr Tryz.widePr)
theorem Tryz.keyOfPr (p:Int × Int) (h1:fitI p.1) (h2:fitI p.2):∃ l,keyOf Tryz.prog 170 (Za0 p)=some l :=
 Zku Tryz.kindPr Tryz.underlying3 Tryz.keyPr Tryz.cellsPr Tryz.cellsInt Tryz.rowPr _ _ (Zml h1) (Zml h2)
def fitU (x:Int):Prop:=0≤x∧x≤18446744073709551615
theorem Zpj {x:Int} (h:fitU x):(Lit.int .u64 x).wf=true:=WalkArith.wf_u64 h
def ZcS (p:Int × Int):Value:=.agg #[.int .u64 p.1,.int .u64 p.2]
theorem ZcI:∀ x y:Int × Int,ZcS x=ZcS y→x=y:=Zse
def ZbC (p:Int × Int):List Value:=[.int .u64 p.1,.int .u64 p.2]
def ZsX (e lo hi:Nat) (w:World) (v:Value) (xs:List (Int × Int)):Prop:=Own lo hi w e 2 v xs.length (xs.flatMap ZbC)
theorem Tryz.rowSet:(149:TypeId)<Tryz.prog.types.size:=of_decide_eq_true (by kernel_rfl)
theorem Tryz.wideSet:(match Tryz.prog.underlying 149 with|some (.array _ _)|some (.struct _)=>true|_=>false)=true:=by kernel_rfl
theorem Tryz.keySet:Tryz.prog.keyType 149 = true:=by kernel_rfl
theorem Tryz.keyAtSet:Tryz.prog.keyTypeAt 5 149 = true:=by kernel_rfl
theorem Tryz.cellsSet:Tryz.prog.cellsOf 149 = 2:=by kernel_rfl
theorem Tryz.cellsU64:Tryz.prog.cellsOf 147 = 1:=by kernel_rfl
theorem Tryz.kindSet:Tryz.prog.underlying 149 = some (.array 2 147):=by kernel_rfl
theorem Tryz.lawSet:Keyed Tryz.prog 149:=Keyed.of_law (deep_law_laid Tryz.laidOut ZfW Tryz.rowSet Tryz.keyAtSet Tryz.wideSet)
theorem Tryz.keyOfSet (p:Int × Int) (h1:fitU p.1) (h2:fitU p.2):∃ l,keyOf Tryz.prog 149 (ZcS p)=some l :=
 Zku Tryz.kindSet Tryz.underlying147 Tryz.keySet Tryz.cellsSet Tryz.cellsU64 Tryz.rowSet _ _ (Zpj h1) (Zpj h2)
end Go.Proofs.YtncekbbhgipdlaaGreat
namespace Go.Proofs.YtncekbbhgipdlaaGreat
open Go.RowKit
def inB (x lo hi:Int):Bool:=decide (lo≤x)&&decide (x≤hi)
theorem Zcq (x lo hi:Int) (w:World) (r:Bool) (hr:inB x lo hi=r) :
  Calls Tryz.prog 87 #[.int .i64 x,.int .i64 lo,.int .i64 hi] w fun e w'=>e = .returned (.bool r)∧w=w':=by
 subst hr;unfold inB
 go_enter Tryz.func87,Tryz.ntmps87
 go_wp2
 all_goals (go_ret;exact⟨by simp[*]<;>omega,rfl⟩)
theorem Zbd (x lo hi:Int) (w:World) (r:Bool) (hr:inB x lo hi=r) :
  Calls Tryz.prog 110 #[.int .i64 x,.int .i64 lo,.int .i64 hi] w fun e w'=>e = .returned (.bool r)∧w=w':=by
 subst hr;unfold inB
 go_enter Tryz.func110,Tryz.ntmps110
 go_wp2
 all_goals (go_ret;exact⟨by simp[*]<;>omega,rfl⟩)
def ZdZ (n:Int) (row:List Int):Bool:=decide (row.length=3)&&row.all fun t=>inB t 0 (n-1)
def Zac (next:List (List Int)) (ends:List Bool):Bool :=
 next.all (ZdZ next.length)&&inB next.length 1 40&&decide (ends.length=next.length)
theorem Zfu {next:List (List Int)} {ends:List Bool} {k:Nat} (hk:k<next.length) (h:ZdZ next.length (next.getD k [])=false):Zac next ends=false:=by
 unfold Zac;have:next.all (ZdZ next.length)=false:=by rw[List.all_eq_false];refine⟨next[k],List.getElem_mem hk,?_⟩;simpa [hk] using h
 simp[this]
theorem Zj7 {n:Int} {row:List Int} (h:row.length≠3):ZdZ n row=false:=by simp[ZdZ,h]
theorem Zn6 {n:Int} {row:List Int} {c:Nat} (hc:c<row.length) (h:inB (row.getD c 0) 0 (n-1)=false):ZdZ n row=false:=by
 unfold ZdZ;have:(row.all fun t=>inB t 0 (n-1))=false:=by rw[List.all_eq_false];refine⟨row[c],List.getElem_mem hc,?_⟩;simpa [hc] using h
 simp[this]
theorem ZjU {α:Type} {p:α→Bool} {l:List α} {k:Nat} {d:α} (hk:k<l.length) (h:(l.take k).all p=true) (hp:p (l.getD k d)=true):(l.take (k+1)).all p=true:=by rw[List.take_succ_eq_append_getElem hk,List.all_append,h];simpa [hk] using hp
theorem Zcy (next:List (List Int)) (ends:List Bool) (v1 v2:Value) (w:World) (h1:IntSS 0 w v1 next) (h2:Bools 0 w v2 ends) (r:Bool) (hr:Zac next ends=r) :
  Calls Tryz.prog 46 #[.agg #[v1,v2]] w fun e w'=>e = .returned (.bool r)∧Below w.heap.size w w':=by
 obtain⟨a1,c1,rfl,q,z,T⟩:=h1.form;obtain⟨a2,c2,rfl,u,x,Z⟩:=h2.form;have Hr:=qh hr;clear h1 h2 hr
 go_enter Tryz.func46,Tryz.ntmps46
 go_wp2
 go_loopw [2,3,4] (fun r i j wr=>∃ k:Nat,k≤next.length∧i = .int .i64 k∧(next.take k).all (ZdZ next.length)=true∧Below (w.heap.size+1) (w.alloc (.cells #[.slice a1 next.length c1,.slice a2 ends.length c2] 44)) wr)
  (fun _ i _ _=>next.length-(intOf i).toNat)
 case atStart=>exact⟨0,Nat.zero_le _,rfl,rfl,Below.refl _ _⟩
 case round =>
  obtain⟨k,hk,rfl,hall,hb⟩:=hrel;have N:Below w.heap.size w wr:=((Below.refl _ _).alloc (Nat.le_refl _) _).trans (hb.mono (by omega));have F:=qh N;clear N;have S:=ZjP hb 0;have U:=ZjP hb 1;simp only[w_5,w_6,w_7] at S U;by_cases hlt:k<next.length
  ·obtain⟨b,off,rfl,hB,a,X⟩:=T (by omega);obtain⟨row,Q⟩:=eI (next.getD k []);have M:=X k hlt;rw[← Q] at M;have P:=qh Q;clear Q X T Z;obtain⟨a',cap',I,aB,aA,V⟩:=M;have m:=(ZlJ hb b (off+k) a).trans I;have aE:=ZsC hb;replace hall:=qh hall;by_cases hlen:row.length=3
   ·have B:=qh hlen;have g:((row.length:Int) != 3)=false:=by rw[hlen];rfl
    obtain⟨n,L,rfl,y,Y,G⟩:=V (by omega);clear hlen U;go_wp2
    go_loopw [2,4] (fun r j s=>∃ c:Nat,c≤3∧j = .int .i64 c∧(row.take c).all (fun t=>inB t 0 ((next.length:Int)-1))=true∧Below (w.heap.size+1) (w.alloc (.cells #[.slice (some ⟨b,off,none⟩) next.length c1,.slice a2 ends.length c2] 44)) s)
     (fun _ j _=>3-(intOf j).toNat)
    case atStart=>exact⟨0,by omega,rfl,rfl,hb⟩
    case round =>
     obtain⟨c,hc,rfl,H,E⟩:=hrel;have J:=qh H;clear H;have R:=qh E;by_cases hc3:c<3
     ·have S:=ZjP E 0;have m:=(ZlJ E b (off+k) a).trans I;have l:=(ZlJ E n (L+c) Y).trans (G c (by have:=B.o;omega));simp only[w_5,w_6] at S;obtain⟨t,ht⟩:=eI (row.getD c 0);rw[← ht] at l;have p:=qh ht;clear ht E;have aC:(c:Int)<row.length:=by have:=B.o;omega
      have aD:IntKind.i64.wrap ((next.length:Int)-1)=(next.length:Int)-1:=IntWalk.i64_in _ (by omega);clear G;cases hin:inB t 0 ((next.length:Int)-1)
      all_goals
       have D:=qh hin;clear hin;go_wp2
       go_region_held3 (fun w'=>w'.cell? ⟨w.heap.size,0,none⟩=some (.slice (some ⟨b,off,none⟩) next.length c1)∧w'.cell? ⟨b,off+k,none⟩=some (.slice (some ⟨n,L,none⟩) row.length cap')∧w'.cell? ⟨n,L+c,none⟩=some (.int .i64 t))
        (go_keep)
        (first|(go_at_call 87;refine(Zcq _ _ _ _ _ D.o).mono ?_;rintro e w' ⟨rfl,rfl⟩))
       go_wp2
      ·go_ret;have C:Zac next ends=false:=Zfu hlt (by rw[← P.o];exact Zn6 (c:=c) (by have:=B.o;omega) (by rw[← p.o];exact D.o));exact⟨by rw[← Hr.o,C];rfl,(((Below.refl _ _).alloc (Nat.le_refl _) _).trans (R.o.mono (by omega))).drew⟩
      go_roundw
      case rel=>exact⟨c+1,by omega,by go_num,ZjU (d:=0) (by have:=B.o;omega) J.o (by rw[← p.o];exact D.o),R.o.drew⟩
      case measure=>simp[intOf];omega
     obtain rfl:c=3:=by omega
     clear E G;go_wp2;go_roundw
     case rel =>
      have hok:ZdZ next.length (next.getD k [])=true:=by rw[← P.o];unfold ZdZ;have h3:=J.o;rw[List.take_of_length_le (by have:=B.o;omega)] at h3;simp[B.o,h3]
      exact⟨k+1,by omega,by go_num,ZjU (d:=[]) hlt hall.o hok,R.o⟩
     case measure=>simp[intOf];omega
   have g:((row.length:Int) != 3)=true:=by rw[bne_iff_ne];omega
   go_wp2;go_ret;have C:Zac next ends=false:=Zfu hlt (by rw[← P.o];exact Zj7 hlen);exact⟨by rw[← Hr.o,C];rfl,F.o⟩
  have C:Zac next ends=(inB next.length 1 40&&decide (ends.length=next.length)):=by have h3:=hall;rw[List.take_of_length_le (by omega)] at h3;simp[Zac,h3]
  have O:=qh C;clear C hall T Z;cases hin:inB next.length 1 40
  ·have D:=qh hin;clear hin;go_wp2_with (go_at_call 87;refine(Zcq _ _ _ _ _ D.o).mono ?_;rintro e w' ⟨rfl,rfl⟩);go_ret;exact⟨by rw[← Hr.o,O.o,D.o];rfl,F.o⟩
  have D:=qh hin;clear hin;go_wp2_with (go_at_call 87;refine(Zcq _ _ _ _ _ D.o).mono ?_;rintro e w' ⟨rfl,rfl⟩);go_ret;refine⟨?_,F.o⟩;rw[← Hr.o,O.o,D.o];exact Zb5 (by rw[ZpP];rfl)
theorem Ze4 {P:Program} {f:FuncId} {args:Array Value} {w:World} {n:Nat} {v:Value}
  (h:Calls P f args (w.drewN n) fun e w'=>e = .returned v∧w.drewN n=w'):Calls P f args (w.drewN n) fun e B=>e = .returned v∧∃ m,B=w.drewN m :=
 h.mono fun _ _ ⟨he,hm⟩=>⟨he,n,hm.symm⟩
theorem Zc6 {α:Type} {l:List α} {k:Nat} {d:α} (hk:k<l.length):l.getD k d∈l:=by simp[hk]
theorem Zpo {P:Program} {ti:TypeId} {fs:List Field} (d:Nat) (x1 x2 y1 y2:Int) (w:World) (hi:P.underlying ti=some (.int .i64))
  (hf : fs.map (fun f => (f.name == "_", f.type, f.offset)) = [(false, ti, 0), (false, ti, 1)]) :
  (Op.eqFields (d+1) #[.int .i64 x1,.int .i64 x2] #[.int .i64 y1,.int .i64 y2] fs).run P w = .ok (x1==y1&&x2==y2) w:=by
 obtain⟨f,g,rfl⟩:∃ f g,fs=[f,g]:=by
  have hl:fs.length=2:=by simpa using congrArg List.length hf
  match fs with
  | []=>simp at hl
  | [_]=>simp at hl
  | [f,g]=>exact⟨f,g,rfl⟩
  | _::_::_::_=>simp at hl
 simp only[List.map_cons,List.map_nil,List.cons.injEq,Prod.mk.injEq,and_true] at hf
 obtain⟨⟨f1,f2,f3⟩,g1,g2,g3⟩:=hf
 have f1' : f.name ≠ "_" := by simpa using f1
 have g1' : g.name ≠ "_" := by simpa using g1
 simp only[Op.eqFields,f1',g1',f2,f3,g2,g3,ne_eq,not_false_eq_true,if_true]
 cases h1:x1==y1<;>cases h2:x2==y2<;>simp[go_sem,hi,h1,h2,part,isAgg,run_underlying hi]
def badT (n t:Int):Bool:=!inB t 0 (n-1)
def Zc8 {α:Type} (p:α→Bool) (xs:List α):Int:=if xs.any p then(xs.findIdx p:Int) else -1
theorem Zgi {α:Type} {p:α→Bool} {xs:List α} {k:Nat} {d:α} (hk:k<xs.length) (h:(xs.take k).any p=false) (hp:p (xs.getD k d)=true):Zc8 p xs=k:=by
 have B:p xs[k]=true:=by simpa [hk] using hp
 have h1:xs.any p=true:=List.any_eq_true.2 ⟨xs[k],List.getElem_mem hk,B⟩;unfold Zc8;rw[if_pos h1];have:xs.findIdx p=k:=by rw[List.findIdx_eq hk];refine⟨B,fun j hj => ?_⟩;rw[List.any_eq_false] at h;have:=h xs[j] (by rw[List.mem_take_iff_getElem];exact⟨j,by omega,rfl⟩);simpa using this
 rw[this]
theorem Zfs {α:Type} {p:α→Bool} {xs:List α} {k:Nat} (hk:xs.length≤k) (h:(xs.take k).any p=false):Zc8 p xs = -1:=by rw[List.take_of_length_le hk] at h;unfold Zc8;rw[h];rfl
theorem Zgj {α:Type} (p:α→Bool) (xs:List α):decide (0≤Zc8 p xs)=xs.any p:=by unfold Zc8;cases h:xs.any p<;>simp
theorem ZmG {α:Type} {p:α→Bool} {l:List α} {k:Nat} {d:α} (hk:k<l.length) (h:(l.take k).any p=false) (hp:p (l.getD k d)=false):(l.take (k+1)).any p=false:=by rw[List.take_succ_eq_append_getElem hk,List.any_append,h];simpa [hk] using hp
theorem Zft (x n:Int) (b:Nat) (w:World) (hn:0≤n∧n≤9223372036854775807) (hc:w.cell? ⟨b,0,none⟩=some (.int .i64 n)) (r:Bool) (hr:badT n x=r) :
  Calls Tryz.prog 109 #[.int .i64 x,.pointer (some ⟨b,0,none⟩)] w fun e w'=>e = .returned (.bool r)∧w=w':=by
 subst hr;obtain⟨h1,h2⟩:=hn
 go_enter Tryz.func109, Tryz.ntmps109
 go_wp2_with (go_at_call 110;refine(Zbd _ _ _ _ _ rfl).mono ?_;rintro e w' ⟨rfl,rfl⟩);go_ret;exact⟨rfl,rfl⟩
theorem ZhC (xs:List Int) (v:Value) (n:Int) (b:Nat) (w:World) (hn:0≤n∧n≤9223372036854775807) (hc:w.cell? ⟨b,0,none⟩=some (.int .i64 n)) (h1:Ints 0 w v xs) :
  Calls Tryz.prog 141 #[v,.func (.func 109) #[] #[.pointer (some ⟨b,0,none⟩)]] w fun e w'=>e = .returned (.int .i64 (Zc8 (badT n) xs))∧w=w':=by
 obtain⟨a1,c1,rfl,I,J,F⟩:=h1.form;clear h1
 go_enter Tryz.func141, Tryz.ntmps141
 go_wp2
 go_loop [4,8] (fun r i=>∃ k:Nat,k≤xs.length∧i = .int .i64 k∧(xs.take k).any (badT n)=false) (fun _ i=>xs.length-(intOf i).toNat)
 case atStart=>exact⟨0,Nat.zero_le _,rfl,rfl⟩
 case round =>
  obtain⟨k,hk,rfl,B⟩:=hrel;replace B:=qh B;by_cases hlt:k<xs.length
  ·obtain⟨b1,o1,rfl,L,H,D⟩:=F (by omega);have G:=D k hlt;obtain⟨x,E⟩:=eI (xs.getD k 0);rw[← E] at G;have C:=qh E;clear E;clear D F;cases hb:badT n x
   ·replace hb:=qh hb;go_wp2_with (go_at_call 109;refine(Zft x n b _ hn hc _ hb.o).mono ?_;rintro e w' ⟨rfl,rfl⟩)
    go_round
    case rel=>exact⟨k+1,by omega,by go_num,ZmG (d:=0) hlt B.o (by rw[← C.o];exact hb.o)⟩
    case measure=>simp[intOf];omega
   replace hb:=qh hb;go_wp2_with (go_at_call 109;refine(Zft x n b _ hn hc _ hb.o).mono ?_;rintro e w' ⟨rfl,rfl⟩);go_ret;exact⟨ZfJ (by rw[Zgi (d:=0) hlt B.o (by rw[← C.o];exact hb.o)]),rfl⟩
  clear F;go_wp2;go_ret;exact⟨ZfJ (by rw[Zfs (by omega) B.o]),rfl⟩
theorem Zda (xs:List Int) (v:Value) (n:Int) (b:Nat) (w:World) (hn:0≤n∧n≤9223372036854775807) (hc:w.cell? ⟨b,0,none⟩=some (.int .i64 n)) (h1:Ints 0 w v xs) (r:Bool) (hr:xs.any (badT n)=r) :
  Calls Tryz.prog 108 #[v,.func (.func 109) #[] #[.pointer (some ⟨b,0,none⟩)]] w fun e w'=>e = .returned (.bool r)∧w=w':=by
 obtain⟨a1,c1,C,-⟩:=h1.form;have B:=qh h1;subst C;clear h1;replace hr:=qh hr
 go_enter Tryz.func108, Tryz.ntmps108
 go_wp2_with (go_at_call 141;refine(ZhC xs _ n b _ hn hc B.o).mono ?_;rintro e w' ⟨rfl,rfl⟩);go_ret;exact⟨Zb5 (by rw[← hr.o,Zgj]),rfl⟩
theorem Zn7 {n:Int} {row:List Int} (h:row.any (badT n)=true):ZdZ n row=false:=by
 unfold ZdZ;have:(row.all fun t=>inB t 0 (n-1))=false:=by rw[List.any_eq_true] at h;obtain⟨x,hx,hp⟩:=h;rw[List.all_eq_false];exact⟨x,hx,by simpa [badT] using hp⟩
 simp[this]
theorem Zn5 {n:Int} {row:List Int} (hl:row.length=3) (h:row.any (badT n)=false):ZdZ n row=true:=by unfold ZdZ;rw[List.any_eq_false] at h;simp only[hl,decide_true,Bool.true_and,List.all_eq_true];intro x hx;have:=h x hx;simpa [badT] using this
theorem ZdV (d:DfaD) (v:Value) (w:World) (h:DfaR 0 w v d) (r:Bool) (hr:Zac d.next d.ends=r) :
  Calls Tryz.prog 64 #[v] w fun e w'=>e = .returned (.bool r)∧Below w.heap.size w w':=by
 obtain⟨next,ends⟩:=d;obtain⟨v1,v2,rfl,h1,h2⟩:=h;simp only at h1 h2 hr;obtain⟨a1,c1,rfl,Z,j,P⟩:=h1.formI;obtain⟨a2,c2,rfl,c,g,X⟩:=h2.form;have Hr:=qh hr;clear h1 h2 hr X
 go_enter Tryz.func64, Tryz.ntmps64
 go_wp2
 go_loopw [2,12] (fun r i wr=>∃ k:Nat,k≤next.length∧i = .int .i64 k∧(next.take k).all (ZdZ next.length)=true∧Below (w.heap.size+2) ((w.alloc (.cells #[.slice a1 next.length c1,.slice a2 ends.length c2] 44)).alloc (.cells #[.int .i64 next.length] 3)) wr)
  (fun _ i _=>next.length-(intOf i).toNat)
 case atStart=>exact⟨0,Nat.zero_le _,rfl,rfl,Below.refl _ _⟩
 case round =>
  obtain⟨k,hk,rfl,hall,hb⟩:=hrel;have M:Below w.heap.size w wr:=(((Below.refl _ _).alloc (Nat.le_refl _) _).alloc (by simp) _).trans (hb.mono (by omega));have V:=((Bx.new w _ _).alloc _).below hb (by omega);have x1:=(Bx.new (w.alloc _) _ _).below hb (by simp);have U:=V.cell 0;have T:=V.cell 1;have O:=x1.cell 0;simp only[w_5,w_6,w_7,World.size_alloc] at U O T;have C:=qh M;clear M V x1;by_cases hlt:k<next.length
  ·obtain⟨b,off,rfl,n,Y,Q⟩:=P (by omega);obtain⟨row,F⟩:=eI (next.getD k []);have I:=Q k hlt;rw[← F] at I;replace F:=qh F;obtain⟨p,cap',H,l,m,L⟩:=I;have a:=(bcell C.o b (off+k) Y).trans H;have J:=qh (L.below C.o);replace hall:=qh hall;have R:=qh hb;clear hb;clear Q P H L;by_cases hlen:row.length=3
   ·have S:((row.length:Int) != 3)=false:=by rw[hlen];rfl
    have E:=qh hlen;clear hlen;cases hany:row.any (badT next.length)
    ·have B:=qh hany;clear hany;go_wp2_with (go_at_call 108;refine(Zda row _ next.length _ _ (by omega) O J.o _ B.o).mono ?_;rintro e w' ⟨rfl,rfl⟩);go_roundw
     case rel=>exact⟨k+1,by omega,by go_num,ZjU (d:=[]) hlt hall.o (by rw[← F.o];exact Zn5 E.o B.o),R.o⟩
     case measure=>simp[intOf];omega
    have B:=qh hany;clear hany;go_wp2_with (go_at_call 108;refine(Zda row _ next.length _ _ (by omega) O J.o _ B.o).mono ?_;rintro e w' ⟨rfl,rfl⟩);go_ret;exact⟨by rw[← Hr.o,Zfu hlt (by rw[← F.o];exact Zn7 B.o)];rfl,C.o⟩
   have S:((row.length:Int) != 3)=true:=by rw[bne_iff_ne];omega
   have E:=qh hlen;clear hlen;go_wp2;go_ret;exact⟨by rw[← Hr.o,Zfu hlt (by rw[← F.o];exact Zj7 E.o)];rfl,C.o⟩
  have N:Zac next ends=(inB next.length 1 40&&decide (ends.length=next.length)):=by have h3:=hall;rw[List.take_of_length_le (by omega)] at h3;simp[Zac,h3]
  have G:=qh N;clear N;have R:=qh hb;clear hb;clear hall P;cases hin:inB next.length 1 40
  ·have D:=qh hin;clear hin;go_wp2_with (go_at_call 110;refine(Zbd _ _ _ _ _ D.o).mono ?_;rintro e w' ⟨rfl,rfl⟩);go_ret;exact⟨by rw[← Hr.o,G.o,D.o];rfl,C.o⟩
  have D:=qh hin;clear hin;go_wp2_with (go_at_call 110;refine(Zbd _ _ _ _ _ D.o).mono ?_;rintro e w' ⟨rfl,rfl⟩);go_ret;exact⟨Zb5 (by rw[← Hr.o,G.o,D.o,ZpP];rfl),C.o⟩
theorem Zco (d:DfaD) (v:Value) (w:World) (h:DfaR 0 w v d) (r:Bool) (hr:Zac d.next d.ends=r) :
  Calls Tryz.prog 46 #[v] w fun e w'=>e = .returned (.bool r)∧Below w.heap.size w w':=by
 obtain⟨v1,v2,rfl,h1,h2⟩:=h;exact Zcy d.next d.ends v1 v2 w h1 h2 r hr
def Zan (a b:DfaD) (p:Int × Int) (c:Nat):Int × Int:=((a.next.getD p.1.toNat []).getD c 0,(b.next.getD p.2.toNat []).getD c 0)
def ZbG (a b:DfaD) (p:Int × Int):Bool:=inB p.1 0 ((a.next.length:Int)-1)&&inB p.2 0 ((b.next.length:Int)-1)
theorem Zfo {x lo hi:Int} (h:inB x lo hi=true):lo≤x∧x≤hi:=by simpa [inB] using h
theorem ZaM {next:List (List Int)} {ends:List Bool} (h:Zac next ends=true) {i:Nat} (hi:i<next.length) :
  (next.getD i []).length=3∧∀ c,c<3→0≤(next.getD i []).getD c 0∧(next.getD i []).getD c 0<next.length:=by
 simp only[Zac,Bool.and_eq_true,List.all_eq_true] at h;have hr:=h.1.1 _ (Zc6 (d:=[]) hi);simp only[ZdZ,Bool.and_eq_true,decide_eq_true_eq,List.all_eq_true] at hr;refine⟨hr.1,fun c hc => ?_⟩;have:=Zfo (hr.2 _ (Zc6 (d:=0) (show c<(next.getD i []).length by omega)));omega
theorem Zaf {next:List (List Int)} {ends:List Bool} (h:Zac next ends=true):1≤next.length∧next.length≤40∧ends.length=next.length:=by simp only[Zac,Bool.and_eq_true,decide_eq_true_eq] at h;have:=Zfo h.1.2;omega
theorem Zmq {w:World} {v1:Value} {next:List (List Int)} {ends:List Bool} (h:IntSS 0 w v1 next) (hd:Zac next ends=true) {i c:Nat} (hi:i<next.length) (hc:c<3) :
  ∃ q o cap z t s,v1 = .slice (some ⟨q,o,none⟩) next.length cap∧next.length≤cap∧cap≤9223372036854775807∧w.cell? ⟨q,o+i,none⟩=some (.slice (some ⟨z,t,none⟩) 3 s)∧3≤s∧s≤9223372036854775807 ∧
   w.cell? ⟨z,t+c,none⟩=some (.int .i64 ((next.getD i []).getD c 0))∧q<w.heap.size∧z<w.heap.size:=by
 obtain⟨a,cap,rfl,h1,h2,h3⟩:=h.form;obtain⟨q,o,rfl,_,hq,hr⟩:=h3 (by omega);obtain⟨C,s,e1,e2,e3,e4⟩:=hr i hi;obtain⟨hl,_⟩:=ZaM hd hi;rw[hl] at e1 e2 e4;obtain⟨z,t,rfl,_,hz,B⟩:=e4 (by omega);exact⟨q,o,cap,z,t,s,rfl,h1,h2,e1,e2,e3,B c hc,hq,hz⟩
theorem Zcx {w:World} {v1:Value} {xs:List Bool} (h:Bools 0 w v1 xs) {i:Nat} (hi:i<xs.length) :
  ∃ q o cap,v1 = .slice (some ⟨q,o,none⟩) xs.length cap∧xs.length≤cap∧cap≤9223372036854775807∧w.cell? ⟨q,o+i,none⟩=some (.bool (xs.getD i false))∧q<w.heap.size:=by
 obtain⟨a,cap,rfl,h1,h2,h3⟩:=h.form;obtain⟨q,o,rfl,_,hq,hr⟩:=h3 (by omega);exact⟨q,o,cap,rfl,h1,h2,hr i hi,hq⟩
theorem Zbf {a b:DfaD} {p:Int × Int} (h:ZbG a b p=true):∃ i j:Nat,p=((i:Int),(j:Int))∧i<a.next.length∧j<b.next.length:=by unfold ZbG at h;rw[Bool.and_eq_true] at h;obtain⟨x,y⟩:=p;obtain⟨h1,h2⟩:=Zfo h.1;obtain⟨h3,h4⟩:=Zfo h.2;simp only at h1 h2 h3 h4;obtain⟨i,rfl⟩:=Int.eq_ofNat_of_zero_le h1;obtain⟨j,rfl⟩:=Int.eq_ofNat_of_zero_le h3;exact⟨i,j,rfl,by omega,by omega⟩
def DfaAt (w:World) (b:Nat) (d:DfaD):Prop:=∃ v1 v2,Bx w b #[v1,v2] 44 ∧ IntSS 0 w v1 d.next∧Bools 0 w v2 d.ends
theorem DfaAt.below {w w':World} {b:Nat} {d:DfaD} (h:DfaAt w b d) (hb:Below w.heap.size w w'):DfaAt w' b d:=by obtain⟨v1,v2,h1,h2,h3⟩:=h;exact⟨v1,v2,h1.below hb h1.lt,h2.below hb,h3.below hb⟩
theorem Zga (a b:DfaD) (x:Int × Int) (c L O:Nat) (w:World) (hda:Zac a.next a.ends=true) (hdb:Zac b.next b.ends=true) (h1:DfaAt w L a) (h2:DfaAt w O b) (hx:ZbG a b x=true) (hc:c<3) :
  Calls Tryz.prog 153 #[.agg #[.int .i64 x.1,.int .i64 x.2],.int .i64 c,.pointer (some ⟨L,0,none⟩),.pointer (some ⟨O,0,none⟩)] w fun e w'=>e = .returned (.agg #[.int .i64 (Zan a b x c).1,.int .i64 (Zan a b x c).2])∧Below w.heap.size w w':=by
 obtain⟨i,j,rfl,hi,hj⟩:=Zbf hx;obtain⟨u1,y,C,g1,-⟩:=h1;obtain⟨u3,u4,B,g2,-⟩:=h2;obtain⟨R,o1,c1,H,N,d,rfl,S,Y,e1,l1,s,e2,z,r⟩:=Zmq g1 hda hi hc;obtain⟨Q,o2,c2,P,F,o,rfl,V,X,e3,l2,m2,e4,t,d4⟩:=Zmq g2 hdb hj hc;obtain⟨I,D⟩:=eI ((Zan a b ((i:Int),(j:Int)) c).1);obtain⟨J,E⟩:=eI ((Zan a b ((i:Int),(j:Int)) c).2);have l:w.cell? ⟨H,N+c,none⟩=some (.int .i64 I):=by rw[D];exact e2
 have m:w.cell? ⟨P,F+c,none⟩=some (.int .i64 J):=by rw[E];exact e4
 rw[← D,← E];have G:=Zaf hda;have M:=Zaf hdb;have Z:=C.cell 0;have k:=B.cell 0;simp only[w_5,w_6] at Z k;have d5:=C.lt;have u:=B.lt;have T:(c:Int)<3:=by omega
 have p:(i:Int)<a.next.length:=by omega
 have q:(j:Int)<b.next.length:=by omega
 clear g1 g2 C B D E e2 e4 hx hda hdb;obtain⟨h41,n,-⟩:=G;obtain⟨g,U,-⟩:=M
 go_enter Tryz.func153, Tryz.ntmps153
 go_wp2
 go_region_held3 (fun w'=>w'.cell? ⟨w.heap.size,0,none⟩=some (.int .i64 i)∧w'.cell? ⟨w.heap.size,1,none⟩=some (.int .i64 j)∧w'.cell? ⟨L,0,none⟩=some (.slice (some ⟨R,o1,none⟩) a.next.length c1)∧w'.cell? ⟨O,0,none⟩=some (.slice (some ⟨Q,o2,none⟩) b.next.length c2)∧w'.cell? ⟨R,o1+i,none⟩=some (.slice (some ⟨H,N,none⟩) 3 d)∧w'.cell? ⟨Q,o2+j,none⟩=some (.slice (some ⟨P,F,none⟩) 3 o)∧w'.cell? ⟨H,N+c,none⟩=some (.int .i64 I)∧w'.cell? ⟨P,F+c,none⟩=some (.int .i64 J))
  (first|go_keep) (fail)
 go_wp2;refine bodyPost_ret (v:=.agg #[.int .i64 I,.int .i64 J]) (by simp[results,Tryz.results153,go_sem]) rfl ⟨rfl,?_⟩;exact(((Below.refl _ _).alloc (Nat.le_refl _) _).alloc (by simp) _).drew
theorem ZlF (x y r:Bool) (hr:(x != y)=r) (w:World):Calls Tryz.prog 77 #[.bool x,.bool y] w fun e w'=>e = .returned (.bool r)∧w=w':=by
 subst hr
 go_enter Tryz.func77, Tryz.ntmps77
 go_wp2;go_ret;exact⟨rfl,rfl⟩
def Zba (f:Bool→Bool→Bool) (a b:DfaD) (p:Int × Int):Bool:=f (a.ends.getD p.1.toNat false) (b.ends.getD p.2.toNat false)
theorem Zhc (a b:DfaD) (x:Int × Int) (I J L:Nat) (w:World) (hda:Zac a.next a.ends=true) (hdb:Zac b.next b.ends=true) (hf:Bx w I #[.func (.func 77) #[] #[]] 98) (h1:DfaAt w J a) (h2:DfaAt w L b) (hx:ZbG a b x=true) :
  Calls Tryz.prog 154 #[.agg #[.int .i64 x.1,.int .i64 x.2],.pointer (some ⟨I,0,none⟩),.pointer (some ⟨J,0,none⟩),.pointer (some ⟨L,0,none⟩)] w fun e w'=>e = .returned (.bool (Zba (fun x y=>x != y) a b x))∧Below w.heap.size w w':=by
 obtain⟨i,j,rfl,hi,hj⟩:=Zbf hx;have G:=Zaf hda;have H:=Zaf hdb;obtain⟨p,m,D,-,g1⟩:=h1;obtain⟨s,q,C,-,g2⟩:=h2;obtain⟨u,o1,c1,rfl,M,T,e1,l⟩:=Zcx g1 (i:=i) (by omega);obtain⟨n,o2,c2,rfl,P,S,e2,g⟩:=Zcx g2 (i:=j) (by omega);obtain⟨Q,E⟩:=eI (a.ends.getD i false);obtain⟨R,F⟩:=eI (b.ends.getD j false);rw[← E] at e1;rw[← F] at e2;obtain⟨r,hr⟩:=eJ ((Q != R));have B:Zba (fun x y=>x != y) a b ((i:Int),(j:Int))=r:=by rw[← hr,E,F];rfl
 rw[B];have U:=D.cell 1;have Y:=C.cell 1;have N:=hf.cell 0;simp only[w_5,w_6,w_7] at U Y N;have z:=D.lt;have k:=C.lt;have c:=hf.lt;obtain⟨l1,l2,V⟩:=G;obtain⟨l4,d,O⟩:=H;have X:(i:Int)<a.ends.length:=by omega
 have Z:(j:Int)<b.ends.length:=by omega
 have Hr:=qh hr;clear g1 g2 D C E F hx hda hdb hf B hr V O
 go_enter Tryz.func154, Tryz.ntmps154
 go_wp2
 go_quiet ((go_at_call 77;with_reducible exact Ze4 (ZlF _ _ _ Hr.o _)))
 go_wp2;go_ret;exact⟨rfl,below_drewN ((Below.refl _ _).alloc (Nat.le_refl _) _) _⟩
end Go.Proofs.YtncekbbhgipdlaaGreat
