/-
  Small facts about slices in memory: what a slice value reads as, and that it still reads so in a later world.
  No condition: this text speaks of no program.
  What a call made for itself: slices in blocks of numbers from lo on and below hi, that may be written.
  No condition: this text speaks of no program.
  A map that a call makes, as a list of keys and values in the order in which the keys came: looking a key up, and storing.
  Conditions: the keys are encoded data that can be keys of the map's type; no key stands there twice.
  What a call made for itself, where one of its slices grows or one of its variables is written: blocks of different types are different blocks.
  No condition: this text speaks of no program.
-/
import Derived.BigQuiet
import Derived.BigRegion
import Derived.Deep.AppendLies
import Derived.Deep.Cut
import Derived.Deep.CutBlock
import Derived.Deep.CutRange
import Derived.Deep.DeepAppendWide
import Derived.Deep.LoopGhost
import Derived.Deep.MidRow
import Derived.Deep.RegionHeld3
import Derived.Deep.RegionHeldLaw
import Derived.Deep.RegionLaw
import Derived.Deep.Slices
import Derived.Deep.Strs
import Derived.Deep.Upon
import Derived.Deep.WholeRow
import Derived.DeepKeys4
import Derived.Great.BuildSlice
import Derived.KernelRfl
import Derived.Laws.BitsAllLaws
import Derived.Laws.BytesArg
import Derived.Laws.Strings
import Derived.Lib.AppendZerosOnto
import Derived.Lib.Bytealg
import Derived.Lib.Hide
import Derived.Lib.SliceRun
import Derived.Lib.SmallJoins
import Derived.Maps.Keyed
import Derived.Maps.Own
import Derived.OpenShut
import Derived.ProofKit
import Derived.RegionTactic
import Derived.Room.AppendOwn
import Derived.Shelf.Strings.Search1
import Derived.StillTailTactics
import Derived.Tactics
import Derived.Test.YtncekbbhgipdlaaGreatProg
import Derived.WalkKit
import Derived.WalkLawsBesides
import Derived.WalkSmall
import Derived.WalkSpells
namespace Go.Proofs.YtncekbbhgipdlaaGreat
theorem eI {α:Sort _} (e:α):∃ x,x=e:=⟨e,rfl⟩
theorem eJ {α:Sort _} (e:α):∃ x,e=x:=⟨e,rfl⟩
theorem w_1 {α:Type _} (l:List α) (i:Nat) (a:α):l.toArray.setIfInBounds i a=(l.set i a).toArray:=List.setIfInBounds_toArray ..
theorem w_2 {α:Type _} {a b:α} {l:List α}:(a::l).set 0 b=b::l:=rfl
theorem w_3 {α:Type _} {a b:α} {l:List α} {n:Nat}:(a::l).set (n+1) b=a::l.set n b:=rfl
theorem w_4 {α:Type _} {x:Array α} {i:Nat} {d:α}:x.getD i d=x[i]?.getD d:=Array.getD_eq_getD_getElem? ..
theorem w_5 {α:Type _} {l:List α} {i:Nat}:l.toArray[i]?=l[i]?:=List.getElem?_toArray ..
theorem w_6 {α:Type _} {a:α} {l:List α}:(a::l)[0]?=some a:=rfl
theorem w_7 {α:Type _} {a:α} {i:Nat} {l:List α}:(a::l)[i+1]?=l[i]?:=rfl
theorem w_8 {α:Type _} {a b:α}:(some a).getD b=a:=rfl
theorem w_9 {α:Type _} (a b:α):(some a=some b)=(a=b):=Option.some.injEq ..
def alT:List Bool → Prop
 | [] => True
 | b::l => b=true∧alT l
theorem alT_of:∀ (l:List Bool),(∀ i,i<l.length→l.getD i true=true)→alT l
 | [],_ => trivial
 | _::l,h => ⟨h 0 (Nat.zero_lt_succ _),alT_of l fun i hi=>h (i+1) (Nat.succ_lt_succ hi)⟩
theorem zA {listed:Array Bool} {n:Nat} (h:∀ i,i<n→listed.getD i true=true) (hs:listed.size=n):alT listed.toList:=alT_of _ fun i hi=>by have h1:=h i (by rw[← hs];simpa using hi);rw[List.getD_eq_getElem?_getD,List.getElem?_eq_getElem hi];rw[Array.getD_eq_getD_getElem?,Array.getElem?_eq_getElem (by simpa using hi)] at h1;simpa using h1
theorem qh {p:Prop} (h:p):Go.RowKit.Hid p:=Go.Lib.hid h
open Go.RowKit
structure Ext (B:Nat) (w w':World):Prop where
 size:w.heap.size≤w'.heap.size
 block:∀ k,k<B→w'.heap[k]? = w.heap[k]?
theorem Ext.refl (B:Nat) (w:World):Ext B w w:=⟨Nat.le_refl _,fun _ _=>rfl⟩
theorem Ext.of {B:Nat} {w w':World} (h:Below B w w'):Ext B w w':=⟨h.size,h.block⟩
structure Sl (B:Nat) (w:World) (v:Value) (n size:Nat) (cs:List Value):Prop where
 len:cs.length=n*size
 form:∃ a cap,v = .slice a n cap∧n≤cap∧cap≤maxLen ∧
  (0<n→∃ b off,a=some ⟨b,off,none⟩∧B≤b∧b<w.heap.size∧∀ j,j<n*size→w.cell? ⟨b,off+j,none⟩=cs[j]?)
theorem Sl.mono {B B':Nat} {w:World} {v:Value} {n size:Nat} {cs:List Value} (h:Sl B w v n size cs) (hB:B'≤B):Sl B' w v n size cs:=by obtain⟨hl,a,cap,hv,h1,h2,h3⟩:=h;refine⟨hl,a,cap,hv,h1,h2,fun hn => ?_⟩;obtain⟨b,off,ha,hb,hlt,hc⟩:=h3 hn;exact⟨b,off,ha,by omega,hlt,hc⟩
theorem Sl.ext {B B':Nat} {w w':World} {v:Value} {n size:Nat} {cs:List Value} (h:Sl B w v n size cs) (he:Ext B' w w') (hB:w.heap.size≤B'):Sl B w' v n size cs:=by obtain⟨hl,a,cap,hv,h1,h2,h3⟩:=h;refine⟨hl,a,cap,hv,h1,h2,fun hn => ?_⟩;obtain⟨b,off,ha,hb,hlt,hc⟩:=h3 hn;refine⟨b,off,ha,hb,Nat.lt_of_lt_of_le hlt he.size,fun j hj => ?_⟩;rw[← hc j hj];exact World.cell?_of_block (he.block b (by omega))
theorem Sl.below {B:Nat} {w w':World} {v:Value} {n size:Nat} {cs:List Value} (h:Sl B w v n size cs) (he:Below w.heap.size w w'):Sl B w' v n size cs :=
 h.ext (Ext.of he) (Nat.le_refl _)
theorem bcell {B:Nat} {W w1:World} (hb:Below B W w1):∀ b o,b<B→w1.cell? ⟨b,o,none⟩=W.cell? ⟨b,o,none⟩ :=
 fun b o h=>hb.cell (p:=⟨b,o,none⟩) h
theorem ZaT {a b:Bool} (h:a=b):Ending.returned (.bool a) = .returned (.bool b):=by rw[h]
theorem ZeL {k:IntKind} {a b:Int} (h:a=b):Ending.returned (.int k a) = .returned (.int k b):=by rw[h]
theorem ZnF (a b:Nat):((a:Int)==b)=decide (a=b):=by rw[Bool.eq_iff_iff];simp;omega
theorem ZlX (w:World) (cs:Array Value) (T:TypeId) (j:Nat):(w.alloc (.cells cs T)).cell? ⟨w.heap.size,j,none⟩=cs[j]?:=by have h:=heap_alloc_new w (.cells cs T);unfold World.cell?;show(match (w.alloc (.cells cs T)).heap[w.heap.size]? with|some (.cells c _ _)=>if (none:Option Nat).isSome then none else c[j]? | _=>none)=_;rw[h];rfl
theorem Zbe (w:World) (o:Obj) (b j:Nat) (h:b<w.heap.size):(w.alloc o).cell? ⟨b,j,none⟩=w.cell? ⟨b,j,none⟩ :=
 World.cell?_of_block (Below.heap_alloc w o b h)
theorem Ziz {w wr:World} {cs:Array Value} {T:TypeId} (hb:Below (w.heap.size+1) (w.alloc (.cells cs T)) wr) (j:Nat):wr.cell? ⟨w.heap.size,j,none⟩=cs[j]? :=
 (bcell hb _ j (by omega)).trans (ZlX w cs T j)
theorem Zkg {w wr:World} {o:Obj} (hb:Below (w.heap.size+1) (w.alloc o) wr) (b j:Nat) (h:b<w.heap.size):wr.cell? ⟨b,j,none⟩=w.cell? ⟨b,j,none⟩ :=
 (bcell hb b j (by omega)).trans (Zbe w o b j h)
theorem Zp0 {w wr:World} {o:Obj} (hb:Below (w.heap.size+1) (w.alloc o) wr):w.heap.size<wr.heap.size:=by have:=hb.size;simp at this;omega
def Bx (w:World) (b:Nat) (cs:Array Value) (T:TypeId):Prop:=w.heap[b]? = some (.cells cs T (0,0))
theorem Bx.lt {w:World} {b:Nat} {cs:Array Value} {T:TypeId} (h:Bx w b cs T):b<w.heap.size:=(Array.getElem?_eq_some_iff.1 h).1
theorem Bx.cell {w:World} {b:Nat} {cs:Array Value} {T:TypeId} (h:Bx w b cs T) (j:Nat):w.cell? ⟨b,j,none⟩=cs[j]?:=cell_of_row w b j cs T (0,0) h
theorem Bx.fr {w:World} {b:Nat} {cs:Array Value} {T:TypeId} (h:Bx w b cs T) (j:Nat):w.frozen? ⟨b,j,none⟩=false:=frozen_of_row w b j cs T h
theorem Bx.new (w:World) (cs:Array Value) (T:TypeId):Bx (w.alloc (.cells cs T)) w.heap.size cs T:=heap_alloc_new w _
theorem Bx.alloc {w:World} {b:Nat} {cs:Array Value} {T:TypeId} (h:Bx w b cs T) (o:Obj):Bx (w.alloc o) b cs T:=(Below.heap_alloc w o b h.lt).trans h
theorem Bx.drew {w:World} {b:Nat} {cs:Array Value} {T:TypeId} (h:Bx w b cs T):Bx w.drew b cs T:=h
theorem Bx.set {w:World} {b:Nat} {cs:Array Value} {T:TypeId} (h:Bx w b cs T) (j:Nat) (v:Value):Bx (w.setCell ⟨b,j,none⟩ v) b (cs.setIfInBounds j v) T:=heap_setCell_same w b j cs T v h
theorem Bx.set_ne {w:World} {b:Nat} {cs:Array Value} {T:TypeId} (h:Bx w b cs T) (a:Addr) (v:Value) (hne:b≠a.block):Bx (w.setCell a v) b cs T:=(Below.heap_setCell w a v b hne).trans h
theorem Bx.below {B:Nat} {w w':World} {b:Nat} {cs:Array Value} {T:TypeId} (h:Bx w b cs T) (hb:Below B w w') (hB:b<B):Bx w' b cs T:=(hb.block b hB).trans h
def Ints (B:Nat) (w:World) (v:Value) (xs:List Int):Prop:=Sl B w v xs.length 1 (xs.map (Value.int .i64))
def Bools (B:Nat) (w:World) (v:Value) (xs:List Bool):Prop:=Sl B w v xs.length 1 (xs.map Value.bool)
def IntSS (B:Nat) (w:World) (v:Value) (xss:List (List Int)):Prop :=
 ∃ vs:List Value,Sl B w v xss.length 1 vs∧∀ i,i<xss.length→Ints B w (vs.getD i undef) (xss.getD i [])
theorem Ints.below {B:Nat} {w w':World} {v:Value} {xs:List Int} (h:Ints B w v xs) (he:Below w.heap.size w w'):Ints B w' v xs:=Sl.below h he
theorem Bools.below {B:Nat} {w w':World} {v:Value} {xs:List Bool} (h:Bools B w v xs) (he:Below w.heap.size w w'):Bools B w' v xs:=Sl.below h he
theorem IntSS.below {B:Nat} {w w':World} {v:Value} {xss:List (List Int)} (h:IntSS B w v xss) (he:Below w.heap.size w w'):IntSS B w' v xss:=by obtain⟨vs,h1,h2⟩:=h;exact⟨vs,h1.below he,fun i hi=>(h2 i hi).below he⟩
theorem Ints.drew {B:Nat} {w:World} {v:Value} {xs:List Int} (h:Ints B w v xs):Ints B w.drew v xs:=h.below (Below.refl _ _).drew
theorem Bools.drew {B:Nat} {w:World} {v:Value} {xs:List Bool} (h:Bools B w v xs):Bools B w.drew v xs:=h.below (Below.refl _ _).drew
theorem IntSS.drew {B:Nat} {w:World} {v:Value} {xs:List (List Int)} (h:IntSS B w v xs):IntSS B w.drew v xs:=h.below (Below.refl _ _).drew
theorem Ints.form {B:Nat} {w:World} {v:Value} {xs:List Int} (h:Ints B w v xs):∃ a cap,v = .slice a xs.length cap∧xs.length≤cap∧cap≤9223372036854775807 ∧
  (0<xs.length→∃ b off,a=some ⟨b,off,none⟩∧B≤b∧b<w.heap.size∧∀ j,j<xs.length→w.cell? ⟨b,off+j,none⟩=some (.int .i64 (xs.getD j 0))):=by
 obtain⟨hl,a,cap,hv,h1,h2,h3⟩:=h;refine⟨a,cap,hv,h1,h2,fun hn => ?_⟩;obtain⟨b,off,ha,hb,hlt,hc⟩:=h3 hn;refine⟨b,off,ha,hb,hlt,fun j hj => ?_⟩;rw[hc j (by omega)];simp[hj]
theorem Bools.form {B:Nat} {w:World} {v:Value} {xs:List Bool} (h:Bools B w v xs):∃ a cap,v = .slice a xs.length cap∧xs.length≤cap∧cap≤9223372036854775807 ∧
  (0<xs.length→∃ b off,a=some ⟨b,off,none⟩∧B≤b∧b<w.heap.size∧∀ j,j<xs.length→w.cell? ⟨b,off+j,none⟩=some (.bool (xs.getD j false))):=by
 obtain⟨hl,a,cap,hv,h1,h2,h3⟩:=h;refine⟨a,cap,hv,h1,h2,fun hn => ?_⟩;obtain⟨b,off,ha,hb,hlt,hc⟩:=h3 hn;refine⟨b,off,ha,hb,hlt,fun j hj => ?_⟩;rw[hc j (by omega)];simp[hj]
theorem IntSS.form {B:Nat} {w:World} {v:Value} {xss:List (List Int)} (h:IntSS B w v xss):∃ a cap,v = .slice a xss.length cap∧xss.length≤cap∧cap≤9223372036854775807 ∧
  (0<xss.length→∃ b off,a=some ⟨b,off,none⟩∧B≤b∧b<w.heap.size∧∀ i,i<xss.length→∃ a' cap',w.cell? ⟨b,off+i,none⟩=some (.slice a' (xss.getD i []).length cap')∧(xss.getD i []).length≤cap'∧cap'≤9223372036854775807 ∧
   (0<(xss.getD i []).length→∃ b' off',a'=some ⟨b',off',none⟩∧B≤b'∧b'<w.heap.size∧∀ j,j<(xss.getD i []).length→w.cell? ⟨b',off'+j,none⟩=some (.int .i64 ((xss.getD i []).getD j 0)))):=by
 obtain⟨vs,⟨hl,a,cap,hv,h1,h2,h3⟩,hr⟩:=h;refine⟨a,cap,hv,h1,h2,fun hn => ?_⟩;obtain⟨b,off,ha,hb,hlt,hc⟩:=h3 hn;refine⟨b,off,ha,hb,hlt,fun i hi => ?_⟩;obtain⟨a',cap',hv',h1',h2',h3'⟩:=(hr i hi).form;refine⟨a',cap',?_,h1',h2',h3'⟩;rw[hc i (by omega),← hv'];simp at hl;simp[show i<vs.length by omega]
theorem IntSS.formI {B:Nat} {w:World} {v:Value} {xss:List (List Int)} (h:IntSS B w v xss):∃ a cap,v = .slice a xss.length cap∧xss.length≤cap∧cap≤9223372036854775807 ∧
  (0<xss.length→∃ b off,a=some ⟨b,off,none⟩∧B≤b∧b<w.heap.size∧∀ i,i<xss.length→∃ a' cap',w.cell? ⟨b,off+i,none⟩=some (.slice a' (xss.getD i []).length cap')∧(xss.getD i []).length≤cap'∧cap'≤9223372036854775807 ∧
   Ints B w (.slice a' (xss.getD i []).length cap') (xss.getD i [])):=by
 obtain⟨vs,⟨hl,a,cap,hv,h1,h2,h3⟩,hr⟩:=h;refine⟨a,cap,hv,h1,h2,fun hn => ?_⟩;obtain⟨b,off,ha,hb,hlt,hc⟩:=h3 hn;refine⟨b,off,ha,hb,hlt,fun i hi => ?_⟩;obtain⟨a',cap',hv',h1',h2',h3'⟩:=(hr i hi).form;refine⟨a',cap',?_,h1',h2',?_⟩
 ·rw[hc i (by omega),← hv'];simp at hl;simp[show i<vs.length by omega]
 rw[← hv'];exact hr i hi
/-! Slices of structs of ints -/
theorem Zb6 {α:Type} (f:α→List Value) (s:Nat) (hf:∀ a,(f a).length=s):∀ (l:List α) (i j:Nat) (d:α),i<l.length→j<s→(l.flatMap f)[i*s+j]? = (f (l.getD i d))[j]?
 | [],i,j,d,hi,_=>by simp at hi
 | a::l,0,j,d,_,hj=>by simp only[List.flatMap_cons,Nat.zero_mul,Nat.zero_add,List.getD_cons_zero];rw[List.getElem?_append_left (by rw[hf];exact hj)]
 | a::l,i+1,j,d,hi,hj=>by have ih:=Zb6 f s hf l i j d (by simpa using hi) hj;simp only[List.flatMap_cons,List.getD_cons_succ];rw[List.getElem?_append_right (by rw[hf,Nat.succ_mul];omega),← ih,hf,Nat.succ_mul];congr 1;omega
def Zaa (p:Int × Int):List Value:=[.int .i64 p.1,.int .i64 p.2]
def Zac (p:Int × Int × Int):List Value:=[.int .i64 p.1,.int .i64 p.2.1,.int .i64 p.2.2]
def Pairs (B:Nat) (w:World) (v:Value) (ps:List (Int × Int)):Prop:=Sl B w v ps.length 2 (ps.flatMap Zaa)
def Moves (B:Nat) (w:World) (v:Value) (ms:List (Int × Int × Int)):Prop:=Sl B w v ms.length 3 (ms.flatMap Zac)
theorem Pairs.below {B:Nat} {w w':World} {v:Value} {xs:List (Int × Int)} (h:Pairs B w v xs) (he:Below w.heap.size w w'):Pairs B w' v xs:=Sl.below h he
theorem Moves.below {B:Nat} {w w':World} {v:Value} {xs:List (Int × Int × Int)} (h:Moves B w v xs) (he:Below w.heap.size w w'):Moves B w' v xs:=Sl.below h he
theorem Pairs.form {B:Nat} {w:World} {v:Value} {xs:List (Int × Int)} (h:Pairs B w v xs):∃ a cap,v = .slice a xs.length cap∧xs.length≤cap∧cap≤9223372036854775807 ∧
  (0<xs.length→∃ b off,a=some ⟨b,off,none⟩∧B≤b∧b<w.heap.size∧∀ j,j<xs.length →
   w.cell? ⟨b,off+j*2,none⟩=some (.int .i64 (xs.getD j (0,0)).1)∧w.cell? ⟨b,off+j*2+1,none⟩=some (.int .i64 (xs.getD j (0,0)).2)):=by
 obtain⟨hl,a,cap,hv,h1,h2,h3⟩:=h;refine⟨a,cap,hv,h1,h2,fun hn => ?_⟩;obtain⟨b,off,ha,hb,hlt,hc⟩:=h3 hn;refine⟨b,off,ha,hb,hlt,fun j hj=>⟨?_,?_⟩⟩
 ·rw[hc (j*2) (by omega)];have:=Zb6 Zaa 2 (fun _=>rfl) xs j 0 (0,0) hj (by omega);simpa [Zaa] using this
 rw[show off+j*2+1=off+(j*2+1) from by omega,hc (j*2+1) (by omega)];have:=Zb6 Zaa 2 (fun _=>rfl) xs j 1 (0,0) hj (by omega);simpa [Zaa] using this
theorem Moves.form {B:Nat} {w:World} {v:Value} {xs:List (Int × Int × Int)} (h:Moves B w v xs):∃ a cap,v = .slice a xs.length cap∧xs.length≤cap∧cap≤9223372036854775807 ∧
  (0<xs.length→∃ b off,a=some ⟨b,off,none⟩∧B≤b∧b<w.heap.size∧∀ j,j<xs.length →
   w.cell? ⟨b,off+j*3,none⟩=some (.int .i64 (xs.getD j (0,0,0)).1)∧w.cell? ⟨b,off+j*3+1,none⟩=some (.int .i64 (xs.getD j (0,0,0)).2.1)∧w.cell? ⟨b,off+j*3+2,none⟩=some (.int .i64 (xs.getD j (0,0,0)).2.2)):=by
 obtain⟨hl,a,cap,hv,h1,h2,h3⟩:=h;refine⟨a,cap,hv,h1,h2,fun hn => ?_⟩;obtain⟨b,off,ha,hb,hlt,hc⟩:=h3 hn;refine⟨b,off,ha,hb,hlt,fun j hj=>⟨?_,?_,?_⟩⟩
 ·rw[hc (j*3) (by omega)];have:=Zb6 Zac 3 (fun _=>rfl) xs j 0 (0,0,0) hj (by omega);simpa [Zac] using this
 ·rw[show off+j*3+1=off+(j*3+1) from by omega,hc (j*3+1) (by omega)];have:=Zb6 Zac 3 (fun _=>rfl) xs j 1 (0,0,0) hj (by omega);simpa [Zac] using this
 rw[show off+j*3+2=off+(j*3+2) from by omega,hc (j*3+2) (by omega)];have:=Zb6 Zac 3 (fun _=>rfl) xs j 2 (0,0,0) hj (by omega);simpa [Zac] using this
/-! Comparing lists place by place -/
theorem Zfa {α:Type} {xs ys:List α} {k:Nat} {d:α} (hx:k<xs.length) (hy:k<ys.length) (h:xs.take k=ys.take k) (he:xs.getD k d=ys.getD k d):xs.take (k+1)=ys.take (k+1):=by rw[List.take_succ_eq_append_getElem hx,List.take_succ_eq_append_getElem hy,h];simp[hx,hy] at he;rw[he]
theorem Zhs {α:Type} {xs ys:List α} {k:Nat} {d:α} (he:xs.getD k d≠ys.getD k d):xs≠ys:=fun h=>he (by rw[h])
end Go.Proofs.YtncekbbhgipdlaaGreat
namespace Go.Proofs.YtncekbbhgipdlaaGreat
open Go.RowKit
structure Only (lo hi:Nat) (w w':World):Prop where
 os:w'.os=w.os
 tape:w'.tape=w.tape
 output:w'.output=w.output
 size:w.heap.size≤w'.heap.size
 block:∀ k,k<w.heap.size→(k<lo∨hi≤k)→w'.heap[k]? = w.heap[k]?
theorem Only.refl (lo hi:Nat) (w:World):Only lo hi w w:=⟨rfl,rfl,rfl,Nat.le_refl _,fun _ _ _=>rfl⟩
theorem Only.trans {lo hi:Nat} {a b c:World} (h:Only lo hi a b) (k:Only lo hi b c):Only lo hi a c :=
 ⟨k.os.trans h.os,k.tape.trans h.tape,k.output.trans h.output,Nat.le_trans h.size k.size,fun i hi hh=>(k.block i (Nat.lt_of_lt_of_le hi h.size) hh).trans (h.block i hi hh)⟩
theorem Only.mono {lo hi lo' hi':Nat} {a b:World} (h:Only lo hi a b) (h1:lo'≤lo) (h2:hi≤hi'):Only lo' hi' a b :=
 ⟨h.os,h.tape,h.output,h.size,fun k hk hh=>h.block k hk (by omega)⟩
theorem Only.below {lo hi:Nat} {a b:World} (h:Only lo hi a b) (hlo:lo≤a.heap.size):Below lo a b :=
 ⟨h.os,h.tape,h.output,h.size,fun k hk=>h.block k (by omega) (Or.inl hk)⟩
theorem Only.of_below {lo hi:Nat} {a b:World} (h:Below a.heap.size a b):Only lo hi a b :=
 ⟨h.os,h.tape,h.output,h.size,fun k hk _=>h.block k hk⟩
theorem Only.setCell {lo hi:Nat} {w w':World} (h:Only lo hi w w') {a:Addr} (h1:lo≤a.block) (h2:a.block<hi) (v:Value):Only lo hi w (w'.setCell a v) :=
 h.trans ⟨rfl,rfl,rfl,by simp[World.setCell],fun k _ hh=>Below.heap_setCell _ _ _ _ (by omega)⟩
theorem Only.next {lo hi:Nat} {w w' w2:World} (h:Only lo hi w w') (hb:Below w'.heap.size w' w2):Only lo hi w w2:=h.trans (Only.of_below hb)
theorem ZaN (w:World) (a:Addr) (v:Value):(w.setCell a v).heap.size=w.heap.size:=by simp[World.setCell]
def Own (lo hi:Nat) (w:World) (e size:Nat) (v:Value) (n:Nat) (cs:List Value):Prop :=
 w.ownsRow lo e size v n cs∧∀ k,v.ownBlock=some k→k<hi
theorem Own.sl {lo hi:Nat} {w:World} {e size:Nat} {v:Value} {n:Nat} {cs:List Value} (h:Own lo hi w e size v n cs) (_:0<size):Sl lo w v n size cs:=by
 obtain⟨⟨hl,h2⟩,hh⟩:=h;rcases h2 with⟨rfl,rfl⟩|⟨g,cap,cur,rfl,hb,hg,hn,hm,hz,ht⟩
 ·exact⟨hl,none,0,rfl,Nat.le_refl _,Nat.zero_le _,fun h=>absurd h (by omega)⟩
 refine⟨hl,_,cap,rfl,hn,hm,fun h0=>⟨g,0,rfl,hb,(Array.getElem?_eq_some_iff.1 hg).1,fun j hj => ?_⟩⟩;rw[cell_of_row w g (0+j) cur e (0,0) hg,← ht,List.getElem?_take,if_pos hj];simp
theorem Own.kept {lo hi:Nat} {w w':World} {e size:Nat} {v:Value} {n:Nat} {cs:List Value} (h:Own lo hi w e size v n cs)
  (hk:∀ k,v.ownBlock=some k→w'.heap[k]? = w.heap[k]?):Own lo hi w' e size v n cs:=by
 obtain⟨⟨hl,h2⟩,hh⟩:=h;refine⟨⟨hl,?_⟩,hh⟩;rcases h2 with h2|⟨g,cap,cur,rfl,hb,hg,r⟩
 ·exact .inl h2
 exact .inr ⟨g,cap,cur,rfl,hb,by rw[hk g rfl];exact hg,r⟩
theorem Own.lt {lo hi:Nat} {w:World} {e size:Nat} {v:Value} {n:Nat} {cs:List Value} (h:Own lo hi w e size v n cs):∀ k,v.ownBlock=some k→lo≤k∧k<hi∧k<w.heap.size :=
 fun k hk=>⟨(h.1.lt k hk).1,h.2 k hk,(h.1.lt k hk).2⟩
theorem Own.only {lo hi lo' hi':Nat} {w w':World} {e size:Nat} {v:Value} {n:Nat} {cs:List Value} (h:Own lo hi w e size v n cs) (ho:Only lo' hi' w w') (hd:hi≤lo'∨hi'≤lo):Own lo hi w' e size v n cs :=
 h.kept fun k hk=>by obtain⟨h1,h2,h3⟩:=h.lt k hk;exact ho.block k h3 (by omega)
theorem Own.below {lo hi:Nat} {w w':World} {e size:Nat} {v:Value} {n:Nat} {cs:List Value} (h:Own lo hi w e size v n cs) (hb:Below w.heap.size w w'):Own lo hi w' e size v n cs :=
 h.kept fun k hk=>hb.block k (h.lt k hk).2.2
theorem Own.mono {lo hi lo' hi':Nat} {w:World} {e size:Nat} {v:Value} {n:Nat} {cs:List Value} (h:Own lo hi w e size v n cs) (h1:lo'≤lo) (h2:hi≤hi'):Own lo' hi' w e size v n cs:=by
 obtain⟨⟨hl,h3⟩,hh⟩:=h;refine⟨⟨hl,?_⟩,fun k hk=>Nat.lt_of_lt_of_le (hh k hk) h2⟩;rcases h3 with h3|⟨g,cap,cur,rfl,hb,r⟩
 ·exact .inl h3
 exact .inr ⟨g,cap,cur,rfl,Nat.le_trans h1 hb,r⟩
theorem Zc3 {w:World} {base e size g n cap:Nat} {xs:List Value} (h:w.ownsRow base e size (.slice (some ⟨g,0,none⟩) n cap) n xs) (j:Nat) (hj:j<n*size):∃ u,w.cell? ⟨g,j,none⟩=some u :=
 ⟨xs[j]'(by rw[h.1];exact hj),(h.cellAt j hj).trans (by simp[show j<xs.length from by rw[h.1];exact hj])⟩
abbrev intCells (xs:List Int):List Value:=xs.map (Value.int .i64)
abbrev boolCells (xs:List Bool):List Value:=xs.map Value.bool
def OInts (e lo hi:Nat) (w:World) (v:Value) (xs:List Int):Prop:=Own lo hi w e 1 v xs.length (intCells xs)
def OBools (e lo hi:Nat) (w:World) (v:Value) (xs:List Bool):Prop:=Own lo hi w e 1 v xs.length (boolCells xs)
def OPairs (e lo hi:Nat) (w:World) (v:Value) (xs:List (Int × Int)):Prop:=Own lo hi w e 2 v xs.length (xs.flatMap Zaa)
def OMoves (e lo hi:Nat) (w:World) (v:Value) (xs:List (Int × Int × Int)):Prop:=Own lo hi w e 3 v xs.length (xs.flatMap Zac)
def OIntSS (es e lo hi:Nat) (w:World) (v:Value) (xss:List (List Int)):Prop :=
 ∃ vs:List Value,Own lo hi w es 1 v xss.length vs∧(∀ i,i<xss.length→OInts e lo hi w (vs.getD i undef) (xss.getD i [])) ∧
  (∀ i j k,i<j→j<xss.length→(vs.getD i undef).ownBlock=some k→(vs.getD j undef).ownBlock≠some k)
theorem OInts.ints {e lo hi:Nat} {w:World} {v:Value} {xs:List Int} (h:OInts e lo hi w v xs):Ints lo w v xs:=Own.sl h (by omega)
theorem OBools.bools {e lo hi:Nat} {w:World} {v:Value} {xs:List Bool} (h:OBools e lo hi w v xs):Bools lo w v xs:=Own.sl h (by omega)
theorem OMoves.moves {e lo hi:Nat} {w:World} {v:Value} {xs:List (Int × Int × Int)} (h:OMoves e lo hi w v xs):Moves lo w v xs:=Own.sl h (by omega)
theorem OIntSS.intSS {es e lo hi:Nat} {w:World} {v:Value} {xss:List (List Int)} (h:OIntSS es e lo hi w v xss):IntSS lo w v xss:=by obtain⟨vs,h1,h2,_⟩:=h;exact⟨vs,h1.sl (by omega),fun i hi=>(h2 i hi).ints⟩
theorem OIntSS.kept {es e lo hi:Nat} {w w':World} {v:Value} {xss:List (List Int)} (h:OIntSS es e lo hi w v xss)
  (hk:∀ k,lo≤k→k<hi→k<w.heap.size→w'.heap[k]? = w.heap[k]?):OIntSS es e lo hi w' v xss:=by
 obtain⟨vs,h1,h2,h3⟩:=h;refine⟨vs,h1.kept fun k hk' => ?_,fun i hi=>Own.kept (h2 i hi) fun k hk' => ?_,h3⟩
 ·obtain⟨a,b,c⟩:=h1.lt k hk';exact hk k a b c
 obtain⟨a,b,c⟩:=Own.lt (h2 i hi) k hk';exact hk k a b c
theorem OBools.only {e lo hi lo' hi':Nat} {w w':World} {v:Value} {xs:List Bool} (h:OBools e lo hi w v xs) (ho:Only lo' hi' w w') (hd:hi≤lo'∨hi'≤lo):OBools e lo hi w' v xs:=Own.only h ho hd
theorem OInts.only {e lo hi lo' hi':Nat} {w w':World} {v:Value} {xs:List Int} (h:OInts e lo hi w v xs) (ho:Only lo' hi' w w') (hd:hi≤lo'∨hi'≤lo):OInts e lo hi w' v xs:=Own.only h ho hd
theorem OMoves.only {e lo hi lo' hi':Nat} {w w':World} {v:Value} {xs:List (Int × Int × Int)} (h:OMoves e lo hi w v xs) (ho:Only lo' hi' w w') (hd:hi≤lo'∨hi'≤lo):OMoves e lo hi w' v xs:=Own.only h ho hd
theorem OPairs.only {e lo hi lo' hi':Nat} {w w':World} {v:Value} {xs:List (Int × Int)} (h:OPairs e lo hi w v xs) (ho:Only lo' hi' w w') (hd:hi≤lo'∨hi'≤lo):OPairs e lo hi w' v xs:=Own.only h ho hd
theorem OIntSS.mono {es e lo hi lo' hi':Nat} {w:World} {v:Value} {xss:List (List Int)} (h:OIntSS es e lo hi w v xss) (h1:lo'≤lo) (h2:hi≤hi'):OIntSS es e lo' hi' w v xss:=by obtain⟨vs,a,b,c⟩:=h;exact⟨vs,a.mono h1 h2,fun i hi=>Own.mono (b i hi) h1 h2,c⟩
theorem OInts.mono {e lo hi lo' hi':Nat} {w:World} {v:Value} {xs:List Int} (h:OInts e lo hi w v xs) (h1:lo'≤lo) (h2:hi≤hi'):OInts e lo' hi' w v xs:=Own.mono h h1 h2
theorem OBools.mono {e lo hi lo' hi':Nat} {w:World} {v:Value} {xs:List Bool} (h:OBools e lo hi w v xs) (h1:lo'≤lo) (h2:hi≤hi'):OBools e lo' hi' w v xs:=Own.mono h h1 h2
theorem OMoves.mono {e lo hi lo' hi':Nat} {w:World} {v:Value} {xs:List (Int × Int × Int)} (h:OMoves e lo hi w v xs) (h1:lo'≤lo) (h2:hi≤hi'):OMoves e lo' hi' w v xs:=Own.mono h h1 h2
theorem OPairs.mono {e lo hi lo' hi':Nat} {w:World} {v:Value} {xs:List (Int × Int)} (h:OPairs e lo hi w v xs) (h1:lo'≤lo) (h2:hi≤hi'):OPairs e lo' hi' w v xs:=Own.mono h h1 h2
theorem OIntSS.below {es e lo hi:Nat} {w w':World} {v:Value} {xss:List (List Int)} (h:OIntSS es e lo hi w v xss) (hb:Below w.heap.size w w'):OIntSS es e lo hi w' v xss:=h.kept fun k _ _ hk=>hb.block k hk
theorem OIntSS.only {es e lo hi lo' hi':Nat} {w w':World} {v:Value} {xss:List (List Int)} (h:OIntSS es e lo hi w v xss) (ho:Only lo' hi' w w') (hd:hi≤lo'∨hi'≤lo):OIntSS es e lo hi w' v xss :=
 h.kept fun k h1 h2 h3=>ho.block k h3 (by omega)
theorem Zab {lo:Nat} {w:World} {e size:Nat} {v:Value} {n:Nat} {cs:List Value} (h:w.ownsRow lo e size v n cs):Own lo w.heap.size w e size v n cs :=
 ⟨h,fun k hk=>(h.lt k hk).2⟩
def RowsTo (es e B n:Nat) (xss:List (List Int)) (k:Nat) (w:World) (cs:List Value):Prop :=
 w.ownsRow B es 1 (.slice (some ⟨B,0,none⟩) n n) n cs∧(∀ i,i<k→OInts e (B+1) w.heap.size w (cs.getD i undef) (xss.getD i [])) ∧
  (∀ i j b,i<j→j<k→(cs.getD i undef).ownBlock=some b→(cs.getD j undef).ownBlock≠some b)
theorem RowsTo.below {es e B n k:Nat} {xss:List (List Int)} {w w':World} {cs:List Value} (h:RowsTo es e B n xss k w cs) (hb:Below w.heap.size w w'):RowsTo es e B n xss k w' cs:=by obtain⟨h1,h2,h3⟩:=h;exact⟨(Own.below (Zab h1) hb).1,fun i hi=>(Own.below (h2 i hi) hb).mono (Nat.le_refl _) hb.size,h3⟩
theorem RowsTo.step {es e B n k:Nat} {xss:List (List Int)} {w w2:World} {cs:List Value} {v2:Value} (h:RowsTo es e B n xss k w cs) (hB:B<w.heap.size) (hk:k<n)
  (hb:Below w.heap.size w w2) (hv:OInts e w.heap.size w2.heap.size w2 v2 (xss.getD k [])):RowsTo es e B n xss (k+1) (w2.setCell ⟨B,k,none⟩ v2) (cs.set k v2):=by
 have h':=h.below hb;obtain⟨h1,h2,h3⟩:=h';have hlen:cs.length=n:=by have:=h1.1;omega
 have hsz:(w2.setCell ⟨B,k,none⟩ v2).heap.size=w2.heap.size:=by simp[World.setCell]
 have hget:∀ i,i<k→(cs.set k v2).getD i undef=cs.getD i undef:=fun i hi=>by simp[List.getElem?_set_ne (show k≠i by omega)]
 have hgetk:(cs.set k v2).getD k undef=v2:=by simp[show k<cs.length by omega]
 have hset:∀ j,j≠B→(w2.setCell ⟨B,k,none⟩ v2).heap[j]? = w2.heap[j]?:=fun j hj=>Below.heap_setCell _ _ _ _ hj
 refine⟨(h1.stored k v2).1,fun i hi => ?_,fun i j b hij hj hb1 => ?_⟩
 ·rw[hsz];by_cases hik:i<k
  ·rw[hget i hik];exact Own.kept (h2 i hik) fun m hm=>hset m (by have:=(Own.lt (h2 i hik) m hm).1;omega)
  obtain rfl:i=k:=by omega
  rw[hgetk];exact Own.kept (Own.mono hv (by omega) (Nat.le_refl _)) fun m hm=>hset m (by have:=(Own.lt hv m hm).1;omega)
 by_cases hjk:j<k
 ·rw[hget i (by omega)] at hb1;rw[hget j hjk];exact h3 i j b hij hjk hb1
 obtain rfl:j=k:=by omega
 rw[hget i hij] at hb1;rw[hgetk];intro hb2;have a1:=(Own.lt (h.2.1 i hij) b hb1).2.1;have a2:=(Own.lt hv b hb2).1;omega
theorem RowsTo.done {es e B:Nat} {xss:List (List Int)} {w:World} {cs:List Value} (h:RowsTo es e B xss.length xss xss.length w cs):OIntSS es e B w.heap.size w (.slice (some ⟨B,0,none⟩) xss.length xss.length) xss:=by obtain⟨h1,h2,h3⟩:=h;exact⟨cs,Zab h1,fun i hi=>Own.mono (h2 i hi) (by omega) (Nat.le_refl _),fun i j b=>h3 i j b⟩
structure DfaD where
 next:List (List Int)
 ends:List Bool
deriving DecidableEq
structure NfaD where
 states:Int
 moves:List (Int × Int × Int)
 firsts:List Int
 ends:List Int
deriving DecidableEq
def DfaR (B:Nat) (w:World) (v:Value) (d:DfaD):Prop:=∃ v1 v2,v = .agg #[v1,v2]∧IntSS B w v1 d.next∧Bools B w v2 d.ends
def NfaR (B:Nat) (w:World) (v:Value) (n:NfaD):Prop:=∃ v1 v2 v3,v = .agg #[.int .i64 n.states,v1,v2,v3]∧Moves B w v1 n.moves∧Ints B w v2 n.firsts∧Ints B w v3 n.ends ∧
 -9223372036854775808≤n.states∧n.states≤9223372036854775807
theorem DfaR.below {B:Nat} {w w':World} {v:Value} {d:DfaD} (h:DfaR B w v d) (he:Below w.heap.size w w'):DfaR B w' v d:=by obtain⟨v1,v2,hv,h1,h2⟩:=h;exact⟨v1,v2,hv,h1.below he,h2.below he⟩
theorem NfaR.below {B:Nat} {w w':World} {v:Value} {n:NfaD} (h:NfaR B w v n) (he:Below w.heap.size w w'):NfaR B w' v n:=by obtain⟨v1,v2,v3,hv,h1,h2,h3,h4⟩:=h;exact⟨v1,v2,v3,hv,h1.below he,h2.below he,h3.below he,h4⟩
def DfaO (tS tI tB lo hi:Nat) (w:World) (v:Value) (d:DfaD):Prop:=∃ v1 v2,v = .agg #[v1,v2]∧OIntSS tS tI lo hi w v1 d.next∧OBools tB lo hi w v2 d.ends
def NfaO (tM tI lo hi:Nat) (w:World) (v:Value) (n:NfaD):Prop:=∃ v1 v2 v3,v = .agg #[.int .i64 n.states,v1,v2,v3]∧OMoves tM lo hi w v1 n.moves∧OInts tI lo hi w v2 n.firsts∧OInts tI lo hi w v3 n.ends ∧
 -9223372036854775808≤n.states∧n.states≤9223372036854775807∧∀ k,v2.ownBlock=some k→v3.ownBlock≠some k
theorem DfaO.r {tS tI tB lo hi:Nat} {w:World} {v:Value} {d:DfaD} (h:DfaO tS tI tB lo hi w v d):DfaR lo w v d:=by obtain⟨v1,v2,hv,h1,h2⟩:=h;exact⟨v1,v2,hv,h1.intSS,h2.bools⟩
theorem NfaO.r {tM tI lo hi:Nat} {w:World} {v:Value} {n:NfaD} (h:NfaO tM tI lo hi w v n):NfaR lo w v n:=by obtain⟨v1,v2,v3,hv,h1,h2,h3,h4,h5,_⟩:=h;exact⟨v1,v2,v3,hv,h1.moves,h2.ints,h3.ints,h4,h5⟩
theorem Ints.mono {B B':Nat} {w:World} {v:Value} {xs:List Int} (h:Ints B w v xs) (hB:B'≤B):Ints B' w v xs:=Sl.mono h hB
theorem Bools.mono {B B':Nat} {w:World} {v:Value} {xs:List Bool} (h:Bools B w v xs) (hB:B'≤B):Bools B' w v xs:=Sl.mono h hB
theorem Pairs.mono {B B':Nat} {w:World} {v:Value} {xs:List (Int × Int)} (h:Pairs B w v xs) (hB:B'≤B):Pairs B' w v xs:=Sl.mono h hB
theorem Moves.mono {B B':Nat} {w:World} {v:Value} {xs:List (Int × Int × Int)} (h:Moves B w v xs) (hB:B'≤B):Moves B' w v xs:=Sl.mono h hB
theorem IntSS.mono {B B':Nat} {w:World} {v:Value} {xss:List (List Int)} (h:IntSS B w v xss) (hB:B'≤B):IntSS B' w v xss:=by obtain⟨vs,h1,h2⟩:=h;exact⟨vs,h1.mono hB,fun i hi=>Sl.mono (h2 i hi) hB⟩
theorem DfaR.mono {B B':Nat} {w:World} {v:Value} {d:DfaD} (h:DfaR B w v d) (hB:B'≤B):DfaR B' w v d:=by obtain⟨v1,v2,hv,h1,h2⟩:=h;exact⟨v1,v2,hv,h1.mono hB,Sl.mono h2 hB⟩
theorem NfaR.mono {B B':Nat} {w:World} {v:Value} {n:NfaD} (h:NfaR B w v n) (hB:B'≤B):NfaR B' w v n:=by obtain⟨v1,v2,v3,hv,h1,h2,h3,h4⟩:=h;exact⟨v1,v2,v3,hv,Sl.mono h1 hB,Sl.mono h2 hB,Sl.mono h3 hB,h4⟩
end Go.Proofs.YtncekbbhgipdlaaGreat
namespace Go.Proofs.YtncekbbhgipdlaaGreat
open Go.RowKit Go.Maps
section
variable {α:Type} [DecidableEq α]
def look (a:α):List (α × Value)→Option Value
 | []=>none
 | (b,v)::L=>if a=b then some v else look a L
def upd (a:α) (v:Value):List (α × Value)→List (α × Value)
 | []=>[(a,v)]
 | (b,u)::L=>if a=b then(a,v)::L else(b,u)::upd a v L
theorem Zi7 {a:α} {L:List (α × Value)} (h:∀ p∈L,p.1≠a):look a L=none:=by
 induction L with
 | nil=>rfl
 | cons p L ih =>obtain⟨b,v⟩:=p;unfold look;rw[if_neg (fun e=>h (b,v) (by simp) e.symm)];exact ih fun q hq=>h q (by simp[hq])
theorem ZkH {a:α} {v:Value} {L:List (α × Value)} (hn:(L.map (·.1)).Nodup) {j:Nat} (h:L[j]? = some (a,v)):look a L=some v:=by
 induction L generalizing j with
 | nil=>simp at h
 | cons p L ih =>
  obtain⟨b,u⟩:=p;unfold look;simp only[List.map_cons,List.nodup_cons] at hn;cases j with
  | zero =>simp at h;rw[if_pos h.1.symm,h.2]
  | succ j =>
   simp at h;have hm:a∈L.map (·.1):=by have:=List.mem_of_getElem? h;exact List.mem_map.2 ⟨_,this,rfl⟩
   rw[if_neg (fun e:a=b=>hn.1 (by rw[← e];exact hm))];exact ih hn.2 h
theorem Zkp {a:α} {v:Value} {L:List (α × Value)} (h:∀ p∈L,p.1≠a):upd a v L=L++[(a,v)]:=by
 induction L with
 | nil=>rfl
 | cons p L ih =>obtain⟨b,u⟩:=p;unfold upd;rw[if_neg (fun e=>h (b,u) (by simp) e.symm),ih fun q hq=>h q (by simp[hq])];rfl
theorem Zo8 {a:α} {u v:Value} {L:List (α × Value)} (hn:(L.map (·.1)).Nodup) {j:Nat} (h:L[j]? = some (a,u)):upd a v L=L.set j (a,v):=by
 induction L generalizing j with
 | nil=>simp at h
 | cons p L ih =>
  obtain⟨b,t⟩:=p;unfold upd;simp only[List.map_cons,List.nodup_cons] at hn;cases j with
  | zero =>simp at h;rw[if_pos h.1.symm];rfl
  | succ j =>
   simp at h;have hm:a∈L.map (·.1):=by have:=List.mem_of_getElem? h;exact List.mem_map.2 ⟨_,this,rfl⟩
   rw[if_neg (fun e:a=b=>hn.1 (by rw[← e];exact hm)),ih hn.2 h];rfl
theorem Zff {a:α} {v:Value} {L:List (α × Value)} {b:α}:b∈(upd a v L).map (·.1)↔b=a∨b∈L.map (·.1):=by
 induction L with
 | nil=>simp[upd]
 | cons p L ih =>
  obtain⟨c,u⟩:=p;unfold upd;by_cases h:a=c
  ·rw[if_pos h];subst h;simp
  rw[if_neg h];simp only[List.map_cons,List.mem_cons,ih];constructor
  ·rintro(h|h|h)<;>simp[h]
  rintro(h|h|h)<;>simp[h]
theorem ZiY {a:α} {v:Value} {L:List (α × Value)} (hn:(L.map (·.1)).Nodup):((upd a v L).map (·.1)).Nodup:=by
 induction L with
 | nil=>simp[upd]
 | cons p L ih =>
  obtain⟨c,u⟩:=p;simp only[List.map_cons,List.nodup_cons] at hn;unfold upd;by_cases h:a=c
  ·rw[if_pos h];subst h;simpa using hn
  rw[if_neg h];simp only[List.map_cons,List.nodup_cons];refine⟨fun hm => ?_,ih hn.2⟩;rcases Zff.1 hm with e|e
  ·exact h e.symm
  exact hn.1 e
theorem Zgp {a:α} {L:List (α × Value)}:(look a L).isSome=true↔a∈L.map (·.1):=by
 induction L with
 | nil=>simp[look]
 | cons p L ih =>
  obtain⟨c,u⟩:=p;unfold look;by_cases h:a=c
  ·simp[h]
  simp[h,ih]
def MapL (P:Program) (kt:TypeId) (enc:α→Value) (w:World) (b:Nat) (L:List (α × Value)):Prop :=
 (L.map (·.1)).Nodup∧(∀ p∈L,∃ l,keyOf P kt (enc p.1)=some l) ∧
 ∃ es clock,w.heap[b]? = some (.map es clock)∧es.toList.map (fun e=>(e.key,e.val))=L.map fun p=>(enc p.1,p.2)
variable {P:Program} {kt:TypeId} {enc:α→Value} {w:World} {b:Nat} {L:List (α × Value)}
omit [DecidableEq α] in
theorem MapL.lt (h:MapL P kt enc w b L):b<w.heap.size:=by obtain⟨_,_,es,clock,hb,_⟩:=h;exact(Array.getElem?_eq_some_iff.1 hb).1
omit [DecidableEq α] in
theorem MapL.kept {w':World} (h:MapL P kt enc w b L) (hk:w'.heap[b]? = w.heap[b]?):MapL P kt enc w' b L:=by obtain⟨h1,h2,es,clock,hb,h3⟩:=h;exact⟨h1,h2,es,clock,hk.trans hb,h3⟩
omit [DecidableEq α] in
theorem MapL.below {w':World} (h:MapL P kt enc w b L) (hb:Below w.heap.size w w'):MapL P kt enc w' b L:=h.kept (hb.block b h.lt)
omit [DecidableEq α] in
theorem MapL.made (w:World):MapL P kt enc (w.alloc (.map #[] 0)) w.heap.size ([]:List (α × Value)) :=
 ⟨by simp,by simp,#[],0,heap_alloc_new w _,rfl⟩
omit [DecidableEq α] in
theorem ZmF {es:List MapEntry} {L:List (α × Value)} (h:es.map (fun e=>(e.key,e.val))=L.map fun p=>(enc p.1,p.2)) {j:Nat} {e:MapEntry} (he:es[j]? = some e) :
  ∃ p,L[j]? = some p∧e.key=enc p.1∧e.val=p.2:=by
 have h1:=congrArg (fun l=>l[j]?) h;simp only[List.getElem?_map,he,Option.map_some] at h1;cases hp:L[j]? with
 | none=>rw[hp] at h1;simp at h1
 | some p =>rw[hp] at h1;simp at h1;exact⟨p,rfl,h1.1,h1.2⟩
theorem MapL.find (h:MapL P kt enc w b L) (K:Keyed P kt) (hi:∀ x y:α,enc x=enc y→x=y) {a:α} {l:Lit} (ha:keyOf P kt (enc a)=some l) {es:Array MapEntry} {clock:Nat} (hb:w.heap[b]? = some (.map es clock)) :
  ((Instr.findKey kt (enc a) es.toList).run P w = .ok none w∧look a L=none∧∀ p∈L,p.1≠a) ∨
    ∃ j v,(Instr.findKey kt (enc a) es.toList).run P w = .ok (some (j,v)) w∧L[j]? = some (a,v)∧look a L=some v:=by
 obtain⟨h1,h2,es',clock',hb',h3⟩:=h;rw[hb] at hb';simp only[w_9,Obj.map.injEq] at hb';obtain⟨rfl,rfl⟩:=hb';have hall:∀ e∈es.toList,∃ l,keyOf P kt e.key=some l:=fun e he=>by obtain⟨j,hj,rfl⟩:=List.mem_iff_getElem.1 he;obtain⟨p,hp,hk,_⟩:=ZmF h3 (j:=j) (e:=es.toList[j]) (by simp);rw[hk];exact h2 p (List.mem_of_getElem? hp)
 rcases K.find w ha es.toList hall with⟨hr,hne⟩|⟨j,e,hr,hj,hk⟩
 ·have hm:∀ p∈L,p.1≠a:=fun p hp hpa=>by
   have hmem:(enc p.1,p.2)∈L.map fun p=>(enc p.1,p.2):=List.mem_map.2 ⟨p,hp,rfl⟩
   rw[← h3] at hmem;obtain⟨e,he,heq⟩:=List.mem_map.1 hmem;simp only[Prod.mk.injEq] at heq;exact hne e he (by rw[heq.1,hpa])
  exact .inl ⟨hr,Zi7 hm,hm⟩
 obtain⟨p,hp,hpk,hpv⟩:=ZmF h3 hj;have hpa:p.1=a:=hi _ _ (by rw[← hpk,hk]);have hpj:L[j]? = some (a,e.val):=by rw[hp,← hpa,hpv]
 exact .inr ⟨j,e.val,hr,hpj,ZkH h1 hpj⟩
theorem MapL.lookup (h:MapL P kt enc w b L) (K:Keyed P kt) (hi:∀ x y:α,enc x=enc y→x=y) {t e:TypeId} (ht:P.underlying t=some (.map kt e)) {z:Value} (hz:(zeroValue e).run P w = .ok z w)
  {a:α} {l:Lit} (ha:keyOf P kt (enc a)=some l):(Instr.lookup t (.map (some b)) (enc a) false).run P w = .ok ((look a L).getD z) w:=by
 obtain⟨es,clock,hb,-⟩:=h.2.2;have hc:=K.check w es.isEmpty ha;rcases h.find K hi ha hb with⟨hr,hl,-⟩|⟨j,v,hr,-,hl⟩
 ·rw[hl];simp[Instr.lookup,run_underlying ht,getObj,hb,hc,hr,hz,Result.andThen,Sem.run]
 rw[hl];simp[Instr.lookup,run_underlying ht,getObj,hb,hc,hr,Result.andThen,Sem.run]
theorem MapL.lookupOk (h:MapL P kt enc w b L) (K:Keyed P kt) (hi:∀ x y:α,enc x=enc y→x=y) {t e:TypeId} (ht:P.underlying t=some (.map kt e)) {z:Value} (hz:(zeroValue e).run P w = .ok z w)
  {a:α} {l:Lit} (ha:keyOf P kt (enc a)=some l):(Instr.lookup t (.map (some b)) (enc a) true).run P w = .ok (.tuple #[(look a L).getD z,.bool (look a L).isSome]) w:=by
 obtain⟨es,clock,hb,-⟩:=h.2.2;have hc:=K.check w es.isEmpty ha;rcases h.find K hi ha hb with⟨hr,hl,-⟩|⟨j,v,hr,-,hl⟩
 ·rw[hl];simp[Instr.lookup,run_underlying ht,getObj,hb,hc,hr,hz,Result.andThen,Sem.run]
 rw[hl];simp[Instr.lookup,run_underlying ht,getObj,hb,hc,hr,Result.andThen,Sem.run]
theorem MapL.store (h:MapL P kt enc w b L) (K:Keyed P kt) (hi:∀ x y:α,enc x=enc y→x=y) {t e:TypeId} (ht:P.underlying t=some (.map kt e))
  {a:α} {l:Lit} (ha:keyOf P kt (enc a)=some l) (v:Value):∃ w',(Instr.mapUpdate t (.map (some b)) (enc a) v).run P w = .ok () w'∧MapL P kt enc w' b (upd a v L)∧w.grownBy w' (some b):=by
 have h':=h;obtain⟨h1,h2,es,clock,hb,h3⟩:=h;have hc:=K.check w false ha;have hlt:=(Array.getElem?_eq_some_iff.1 hb).1
 have hkeys:∀ p∈upd a v L,∃ l,keyOf P kt (enc p.1)=some l:=fun p hp=>by
  rcases Zff.1 (List.mem_map.2 ⟨p,hp,rfl⟩:p.1∈(upd a v L).map (·.1)) with e|e
  ·rw[e];exact⟨l,ha⟩
  obtain⟨q,hq,hqe⟩:=List.mem_map.1 e;rw[← hqe];exact h2 q hq
 have hgrow:∀ o:Obj,w.grownBy { w with heap:=w.heap.setIfInBounds b o } (some b):=fun o =>
  ⟨rfl,rfl,rfl,by simp,fun k _ hk=>by show(w.heap.setIfInBounds b o)[k]? = _;rw[Array.getElem?_setIfInBounds_ne (fun e=>hk (by rw[e]))]⟩
 have hnew:∀ o:Obj,(w.heap.setIfInBounds b o)[b]? = some o:=fun o=>by simp[hlt]
 rcases h'.find K hi ha hb with⟨hr,hl,hm⟩|⟨j,u,hr,hj,hl⟩
 ·refine⟨{ w with heap:=w.heap.setIfInBounds b (.map (es.push { key:=enc a,val:=v,born:=clock }) (clock+1)) },?_,⟨ZiY h1,hkeys,_,_,hnew _,?_⟩,hgrow _⟩
  ·simp[Instr.mapUpdate,run_underlying ht,getObj,hb,hc,hr,setObj,Result.andThen,Sem.run]
  rw[Zkp hm];simp[h3]
 have hs:=K.stays w ha
 have hje:∃ e,es[j]? = some e∧e.key=enc a:=by
  have h4:=congrArg (fun l=>l[j]?) h3;simp only[List.getElem?_map,hj,Option.map_some] at h4;cases he:es.toList[j]? with
  | none=>rw[he] at h4;simp at h4
  | some e =>rw[he] at h4;simp at h4;exact⟨e,by simpa using he,h4.1⟩
 obtain⟨e,hje,hek⟩:=hje;refine⟨{ w with heap:=w.heap.setIfInBounds b (.map (es.modify j fun e=>{ e with key:=enc a,val:=v }) clock) },?_,⟨ZiY h1,hkeys,_,_,hnew _,?_⟩,hgrow _⟩
 ·simp[Instr.mapUpdate,run_underlying ht,getObj,hb,hc,hr,hje,hek,hs,setObj,Result.andThen,Sem.run]
 rw[Zo8 h1 hj];apply List.ext_getElem?;intro i;have h4:=congrArg (fun l=>l[i]?) h3;simp only[List.getElem?_map] at h4 ⊢;by_cases hij:j=i
 ·subst hij;have hjl:j<L.length:=(List.getElem?_eq_some_iff.1 hj).1;have hjes:j<es.size:=(Array.getElem?_eq_some_iff.1 hje).1;simp[hjl,hjes]
 simp only[List.getElem?_set_ne hij];rw[← h4];simp[hij]
end
end Go.Proofs.YtncekbbhgipdlaaGreat
namespace Go.Proofs.YtncekbbhgipdlaaGreat
open Go.RowKit
def Zcc (w:World) (row:Option Nat) (e:TypeId):Prop:=∀ k,row=some k→∀ cur fr,w.heap[k]? ≠ some (.cells cur e fr)
def ZfW (w:World) (row:Option Nat):Prop:=∀ k,row=some k→∃ cur e fr,w.heap[k]? = some (.cells cur e fr)
theorem ZaZ {w:World} {base e size n:Nat} {v:Value} {cs:List Value} (h:w.ownsRow base e size v n cs) {k:Nat} (hk:v.ownBlock=some k):∃ cur,w.heap[k]? = some (.cells cur e (0,0)):=by
 rcases h.2 with⟨rfl,_⟩|⟨g,cap,cur,rfl,_,hg,_⟩
 ·cases hk
 have:g=k:=by simpa [Value.ownBlock] using hk
 subst this;exact⟨cur,hg⟩
theorem Zam {w:World} {base e size n:Nat} {v:Value} {cs:List Value} (h:w.ownsRow base e size v n cs) {e':Nat} (hne:e≠e'):Zcc w v.ownBlock e':=fun k hk cur fr hh=>by obtain⟨c,hc⟩:=ZaZ h hk;rw[hc] at hh;simp only[w_9,Obj.cells.injEq] at hh;exact hne hh.2.1
theorem Zci {w:World} {base e size n:Nat} {v:Value} {cs:List Value} (h:w.ownsRow base e size v n cs):ZfW w v.ownBlock:=fun k hk=>by obtain⟨c,hc⟩:=ZaZ h hk;exact⟨_,_,_,hc⟩
theorem Bx.apart {w:World} {b:Nat} {cs:Array Value} {T e':TypeId} (h:Bx w b cs T) (hne:T≠e'):Zcc w (some b) e':=fun k hk cur fr hh=>by cases hk;unfold Bx at h;rw[h] at hh;simp only[w_9,Obj.cells.injEq] at hh;exact hne hh.2.1
theorem Bx.cells {w:World} {b:Nat} {cs:Array Value} {T:TypeId} (h:Bx w b cs T):ZfW w (some b):=fun k hk=>by cases hk;exact⟨_,_,_,h⟩
theorem MapL.apart {α:Type} {P:Program} {kt e':TypeId} {enc:α→Value} {w:World} {b:Nat} {L:List (α × Value)} (h:MapL P kt enc w b L):Zcc w (some b) e':=fun k hk cur fr hh=>by cases hk;obtain⟨_,_,es,clock,hb,_⟩:=h;rw[hb] at hh;cases hh
theorem Zag {w w':World} {base e size n:Nat} {v:Value} {cs:List Value} {row:Option Nat} (h:w.ownsRow base e size v n cs) (hg:w.grownBy w' row) (ha:Zcc w row e):w'.ownsRow base e size v n cs:=by
 have hk:∀ k,v.ownBlock=some k→w'.heap[k]? = w.heap[k]?:=fun k hk=>by obtain⟨cur,hc⟩:=ZaZ h hk;exact hg.block k (h.lt k hk).2 fun hr=>ha k hr.symm _ _ hc
 exact(Own.kept (Zab h) hk).1
theorem Own.grown {lo hi:Nat} {w w':World} {e size:Nat} {v:Value} {n:Nat} {cs:List Value} {row:Option Nat} (h:Own lo hi w e size v n cs) (hg:w.grownBy w' row) (ha:Zcc w row e):Own lo hi w' e size v n cs :=
 ⟨Zag h.1 hg ha,h.2⟩
theorem OIntSS.grown {es e lo hi:Nat} {w w':World} {v:Value} {xss:List (List Int)} {row:Option Nat} (h:OIntSS es e lo hi w v xss) (hg:w.grownBy w' row) (h1:Zcc w row es) (h2:Zcc w row e):OIntSS es e lo hi w' v xss:=by obtain⟨vs,a,b,c⟩:=h;exact⟨vs,a.grown hg h1,fun i hi=>Own.grown (b i hi) hg h2,c⟩
theorem Bx.grown {w w':World} {b:Nat} {cs:Array Value} {T:TypeId} {row:Option Nat} (h:Bx w b cs T) (hg:w.grownBy w' row) (ha:Zcc w row T):Bx w' b cs T :=
 (hg.block b h.lt fun hr=>ha b hr.symm _ _ h).trans h
theorem MapL.grown {α:Type} {P:Program} {kt:TypeId} {enc:α→Value} {w w':World} {b:Nat} {L:List (α × Value)} {row:Option Nat} (h:MapL P kt enc w b L) (hg:w.grownBy w' row) (ha:ZfW w row):MapL P kt enc w' b L :=
 h.kept (hg.block b h.lt fun hr=>by obtain⟨cur,e,fr,hc⟩:=ha b hr.symm;obtain⟨_,_,es,clock,hb,_⟩:=h;rw[hb] at hc;cases hc)
theorem ZaI (w:World) (b j:Nat) (v:Value):w.grownBy (w.setCell ⟨b,j,none⟩ v) (some b) :=
 ⟨rfl,rfl,rfl,by simp[World.setCell],fun k _ hk=>Below.heap_setCell _ _ _ _ (fun e=>hk (by rw[e]))⟩
theorem OIntSS.far {es e lo hi:Nat} {w:World} {v:Value} {xss:List (List Int)} (h:OIntSS es e lo hi w v xss) {b:Nat} (hb:hi≤b) (j:Nat) (u:Value):OIntSS es e lo hi (w.setCell ⟨b,j,none⟩ u) v xss :=
 h.kept fun k _ h2 _=>Below.heap_setCell _ _ _ _ (show k≠b by omega)
theorem OIntSS.snoc {es e lo hi:Nat} {w w':World} {v v' rv:Value} {xss:List (List Int)} {vs:List Value} {x:List Int} {lr hr:Nat}
  (h1:Own lo hi w es 1 v xss.length vs) (h2:∀ i,i<xss.length→OInts e lo hi w (vs.getD i undef) (xss.getD i []))
  (h3:∀ i j k,i<j→j<xss.length→(vs.getD i undef).ownBlock=some k→(vs.getD j undef).ownBlock≠some k)
  (hrow:OInts e lr hr w rv x) (hlr:hi≤lr) (hlo:lo≤lr) (hne:es≠e) (hg:w.grownBy w' v.ownBlock) (hown:w'.ownsRow lo es 1 v' (xss.length+1) (vs++[rv])) :
  OIntSS es e lo w'.heap.size w' v' (xss++[x]):=by
 have hl:vs.length=xss.length:=by have:=h1.1.1;omega
 have ha:Zcc w v.ownBlock e:=Zam h1.1 hne;have hget:∀ i,i<xss.length→(vs++[rv]).getD i undef=vs.getD i undef:=fun i hi=>by simp only[List.getD_eq_getElem?_getD];rw[List.getElem?_append_left (by omega)]
 have hgetn:(vs++[rv]).getD xss.length undef=rv:=by simp[← hl]
 refine⟨vs++[rv],?_,fun i hi => ?_,fun i j k hij hj hk => ?_⟩
 ·rw[List.length_append];exact Zab hown
 ·rw[List.length_append,List.length_singleton] at hi;by_cases hin:i<xss.length
  ·rw[hget i hin];have e2:(xss++[x]).getD i []=xss.getD i []:=by simp only[List.getD_eq_getElem?_getD];rw[List.getElem?_append_left hin]
   rw[e2];exact Zab (Own.grown (h2 i hin) hg ha).1
  obtain rfl:i=xss.length:=by omega
  rw[hgetn];have e2:(xss++[x]).getD xss.length []=x:=by simp
  rw[e2];exact Own.mono (Zab (Own.grown hrow hg ha).1) hlo (Nat.le_refl _)
 rw[List.length_append,List.length_singleton] at hj;rw[hget i (by omega)] at hk;by_cases hjn:j<xss.length
 ·rw[hget j hjn];exact h3 i j k hij hjn hk
 obtain rfl:j=xss.length:=by omega
 rw[hgetn];intro hk2;have a1:=(Own.lt (h2 i hij) k hk).2.1;have a2:=(Own.lt hrow k hk2).1;omega
theorem Zh3 {w:World} {b n size e base:Nat} {cs:List Value} (h:w.heap[b]? = some (.cells cs.toArray e (0,0))) (hl:cs.length=n*size) (hb:base≤b) (hn:n≤maxLen):w.ownsRow base e size (.slice (some ⟨b,0,none⟩) n n) n cs :=
 ⟨hl,.inr ⟨b,n,cs.toArray,rfl,hb,h,Nat.le_refl _,hn,by simpa using hl,by simp[← hl]⟩⟩
end Go.Proofs.YtncekbbhgipdlaaGreat
namespace Go.Proofs.YtncekbbhgipdlaaGreat
structure Bs (α:Type) where
 met:List α
 words:List (List Nat)
section
variable {α:Type} [DecidableEq α]
def bvisit (nx:α→Nat→α) (x:α) (wd:List Nat) (s:Bs α) (c:Nat):Bs α :=
 if nx x c∈s.met then s else⟨s.met++[nx x c],s.words++[wd++[c]]⟩
def brow (nx:α→Nat→α) (x:α) (wd:List Nat) (s:Bs α):Nat→Bs α
 | 0=>s
 | n+1=>bvisit nx x wd (brow nx x wd s n) n
def bat (nx:α→Nat→α) (a:α):Nat→Bs α
 | 0=>⟨[a],[[]]⟩
 | k+1=>if k<(bat nx a k).met.length then brow nx ((bat nx a k).met.getD k a) ((bat nx a k).words.getD k []) (bat nx a k) 3 else bat nx a k
def bpart (nx:α→Nat→α) (a:α) (k n:Nat):Bs α:=brow nx ((bat nx a k).met.getD k a) ((bat nx a k).words.getD k []) (bat nx a k) n
variable {nx:α→Nat→α} {a:α}
theorem Zas (k:Nat):bpart nx a k 0=bat nx a k:=rfl
theorem ZaP {k:Nat} (h:k<(bat nx a k).met.length):bat nx a (k+1)=bpart nx a k 3:=by simp only[bat,if_pos h];rfl
theorem Zbx {k:Nat} (h:(bat nx a k).met.length≤k):bat nx a (k+1)=bat nx a k:=by simp only[bat,if_neg (show ¬ k<(bat nx a k).met.length by omega)]
theorem ZhJ (k n:Nat):bpart nx a k (n+1)=bvisit nx ((bat nx a k).met.getD k a) ((bat nx a k).words.getD k []) (bpart nx a k n) n:=rfl
theorem ZbR {k n:Nat} (h:nx ((bat nx a k).met.getD k a) n∈(bpart nx a k n).met):bpart nx a k (n+1)=bpart nx a k n:=by rw[ZhJ,bvisit,if_pos h]
theorem Zbr {k n:Nat} (h:nx ((bat nx a k).met.getD k a) n ∉ (bpart nx a k n).met):bpart nx a k (n+1)=⟨(bpart nx a k n).met++[nx ((bat nx a k).met.getD k a) n],(bpart nx a k n).words++[(bat nx a k).words.getD k []++[n]]⟩:=by rw[ZhJ,bvisit,if_neg h]
theorem ZfV (Q:Bs α→Prop) {x:α} {wd:List Nat} {s:Bs α} (hs:Q s) (hv:∀ t c,c<3→Q t→Q (bvisit nx x wd t c)):∀ n,n≤3→Q (brow nx x wd s n)
 | 0,_=>hs
 | n+1,h=>hv _ n (by omega) (ZfV Q hs hv n (by omega))
theorem Ze6 (Q:Bs α→Prop) (h0:Q ⟨[a],[[]]⟩) (hv:∀ s k,k<s.met.length→∀ t c,c<3→Q s→Q t→Q (bvisit nx (s.met.getD k a) (s.words.getD k []) t c)):∀ k,Q (bat nx a k)
 | 0=>h0
 | k+1=>by
  have ih:=Ze6 Q h0 hv k;by_cases h:k<(bat nx a k).met.length
  ·rw[ZaP h];exact ZfV Q ih (fun t c hc ht=>hv _ k h t c hc ih ht) 3 (by omega)
  rw[Zbx (by omega)];exact ih
theorem ZjB (Q:Bs α→Prop) (h0:Q ⟨[a],[[]]⟩) (hv:∀ s k,k<s.met.length→∀ t c,c<3→Q s→Q t→Q (bvisit nx (s.met.getD k a) (s.words.getD k []) t c)) {k n:Nat} (hk:k<(bat nx a k).met.length) (hn:n≤3):Q (bpart nx a k n) :=
 ZfV Q (Ze6 Q h0 hv k) (fun t c hc ht=>hv _ k hk t c hc (Ze6 Q h0 hv k) ht) n hn
omit [DecidableEq α] in
theorem ZcR {l:List α} {x:α} (h:l.Nodup) (hx:x ∉ l):(l++[x]).Nodup:=by rw[List.nodup_append];refine⟨h,by simp,?_⟩;intro b hb c hc;simp only[List.mem_singleton] at hc;subst hc;intro e;subst e;exact hx hb
theorem ZgW (x:α) (wd:List Nat) {t:Bs α} (c:Nat) (h:t.met.Nodup∧t.words.length=t.met.length∧t.met.head? = some a) :
  (bvisit nx x wd t c).met.Nodup∧(bvisit nx x wd t c).words.length=(bvisit nx x wd t c).met.length∧(bvisit nx x wd t c).met.head? = some a:=by
 unfold bvisit
 split
 ·exact h
 rename_i hx;obtain⟨h1,h2,h3⟩:=h;exact⟨ZcR h1 hx,by simp[h2],by simp[h3]⟩
theorem Zby (k:Nat):(bat nx a k).met.Nodup∧(bat nx a k).words.length=(bat nx a k).met.length∧(bat nx a k).met.head? = some a :=
 Ze6 (fun s=>s.met.Nodup∧s.words.length=s.met.length∧s.met.head? = some a) (by simp) (fun s k _ t c _ _ ht=>ZgW _ _ _ ht) k
theorem ZdN {k n:Nat} (hk:k<(bat nx a k).met.length) (hn:n≤3):(bpart nx a k n).met.Nodup∧(bpart nx a k n).words.length=(bpart nx a k n).met.length∧(bpart nx a k n).met.head? = some a :=
 ZjB (fun s=>s.met.Nodup∧s.words.length=s.met.length∧s.met.head? = some a) (by simp) (fun s k _ t c _ _ ht=>ZgW _ _ _ ht) hk hn
theorem ZdE (k:Nat):0<(bat nx a k).met.length:=by
 have:=(Zby (nx:=nx) (a:=a) k).2.2;cases h:(bat nx a k).met with
 | nil=>rw[h] at this;simp at this
 | cons=>simp
theorem ZgX (k:Nat):(bat nx a k).met.getD 0 a=a:=by
 have:=(Zby (nx:=nx) (a:=a) k).2.2;cases h:(bat nx a k).met with
 | nil=>rw[h] at this;simp at this
 | cons=>rw[h] at this;simpa using this
theorem Zce {Q:α→Prop} (h0:Q a) (hv:∀ x c,c<3→Q x→Q (nx x c)) (k:Nat):∀ x∈(bat nx a k).met,Q x:=by
 refine Ze6 (fun s=>∀ x∈s.met,Q x) (by simpa using h0) (fun s k hk t c hc hs ht => ?_) k;unfold bvisit
 split
 ·exact ht
 intro x hx;simp only[List.mem_append,List.mem_singleton] at hx;rcases hx with hx|rfl
 ·exact ht x hx
 refine hv _ c hc (hs _ ?_);rw[List.getD_eq_getElem?_getD,List.getElem?_eq_getElem hk];simp
theorem ZnD {Q:α→Prop} (h0:Q a) (hv:∀ x c,c<3→Q x→Q (nx x c)) {k n:Nat} (hk:k<(bat nx a k).met.length) (hn:n≤3):∀ x∈(bpart nx a k n).met,Q x:=by
 refine ZjB (fun s=>∀ x∈s.met,Q x) (by simpa using h0) (fun s k hk t c hc hs ht => ?_) hk hn;unfold bvisit
 split
 ·exact ht
 intro x hx;simp only[List.mem_append,List.mem_singleton] at hx;rcases hx with hx|rfl
 ·exact ht x hx
 refine hv _ c hc (hs _ ?_);rw[List.getD_eq_getElem?_getD,List.getElem?_eq_getElem hk];simp
def Bs.le (s t:Bs α):Prop:=s.met <+: t.met∧s.words <+: t.words
omit [DecidableEq α] in
theorem Bs.le_refl (s:Bs α):s.le s:=⟨List.prefix_rfl,List.prefix_rfl⟩
omit [DecidableEq α] in
theorem Bs.le_trans {s t u:Bs α} (h:s.le t) (k:t.le u):s.le u:=⟨h.1.trans k.1,h.2.trans k.2⟩
theorem ZnB (x:α) (wd:List Nat) (s:Bs α) (c:Nat):s.le (bvisit nx x wd s c):=by
 unfold bvisit
 split
 ·exact Bs.le_refl _
 exact⟨List.prefix_append _ _,List.prefix_append _ _⟩
theorem ZnC (x:α) (wd:List Nat) (s:Bs α) (n m:Nat) (h:n≤m):(brow nx x wd s n).le (brow nx x wd s m):=by
 induction m with
 | zero=>obtain rfl:n=0:=by omega
         exact Bs.le_refl _
 | succ m ih =>
  by_cases hn:n=m+1
  ·subst hn;exact Bs.le_refl _
  exact Bs.le_trans (ih (by omega)) (ZnB _ _ _ _)
theorem ZbS {k n m:Nat} (h:n≤m):(bpart nx a k n).le (bpart nx a k m):=ZnC _ _ _ n m h
theorem Zkj (k:Nat):(bat nx a k).le (bat nx a (k+1)):=by
 by_cases h:k<(bat nx a k).met.length
 ·rw[ZaP h];exact ZnC _ _ _ 0 3 (by omega)
 rw[Zbx (by omega)];exact Bs.le_refl _
theorem Zfm {k m:Nat} (h:k≤m):(bat nx a k).le (bat nx a m):=by
 induction m with
 | zero=>obtain rfl:k=0:=by omega
         exact Bs.le_refl _
 | succ m ih =>
  by_cases hn:k=m+1
  ·subst hn;exact Bs.le_refl _
  exact Bs.le_trans (ih (by omega)) (Zkj _)
theorem ZaF {k n m:Nat} (hk:k<(bat nx a k).met.length) (hn:n≤3) (hm:k<m):(bpart nx a k n).le (bat nx a m):=by
 have h1:(bpart nx a k n).le (bat nx a (k+1)):=by rw[ZaP hk];exact ZbS hn
 exact Bs.le_trans h1 (Zfm hm)
theorem ZbT {k m:Nat} (h:(bat nx a k).met.length≤k) (hm:k≤m):bat nx a m=bat nx a k:=by
 induction m with
 | zero=>obtain rfl:k=0:=by omega
         rfl
 | succ m ih =>
  by_cases hn:k=m+1
  ·subst hn;rfl
  have e:=ih (by omega);rw[Zbx (by rw[e];omega),e]
def Zai (l:List α) (x:α):Nat:=l.idxOf x
theorem ZaR {l:List α} {x:α} (h:x∈l):Zai l x<l.length:=List.idxOf_lt_length_iff.2 h
omit [DecidableEq α] in
theorem ZaE {l m:List α} (h:l <+: m) {k:Nat} (hk:k<l.length) (d:α):m.getD k d=l.getD k d:=by obtain⟨t,rfl⟩:=h;simp[List.getElem?_append_left hk]
theorem Za0 {l m:List α} (h:l <+: m) {x:α} (hx:x∈l):Zai m x=Zai l x:=by obtain⟨t,rfl⟩:=h;unfold Zai;rw[List.idxOf_append,if_pos hx]
theorem ZfQ {l m:List α} {x:α} (h:l++[x] <+: m) (hx:x ∉ l):Zai m x=l.length:=by rw[Za0 h (by simp)];unfold Zai;rw[List.idxOf_append,if_neg hx];simp
theorem Zev {l:List α} {k:Nat} (hk:k<l.length) (hn:l.Nodup) (d:α):Zai l (l.getD k d)=k:=by unfold Zai;rw[List.getD_eq_getElem?_getD,List.getElem?_eq_getElem hk];simp[hn]
theorem Zim {l:List α} {x:α} (hx:x∈l) (d:α):l.getD (Zai l x) d=x:=by unfold Zai;rw[List.getD_eq_getElem?_getD,List.getElem?_eq_getElem (List.idxOf_lt_length_iff.2 hx)];simp
theorem ZjA {k n c:Nat} (hc:c<n):nx ((bat nx a k).met.getD k a) c∈(bpart nx a k n).met:=by
 have h1:nx ((bat nx a k).met.getD k a) c∈(bpart nx a k (c+1)).met:=by
  by_cases h:nx ((bat nx a k).met.getD k a) c∈(bpart nx a k c).met
  ·rw[ZbR h];exact h
  rw[Zbr h];simp
 exact(ZbS (nx:=nx) (a:=a) (k:=k) (show c+1≤n by omega)).1.subset h1
theorem ZfK {l m:List α} (hn:l.Nodup) (hs:∀ x∈l,x∈m):l.length≤m.length:=by
 induction l generalizing m with
 | nil=>simp
 | cons x l ih =>
  rw[List.nodup_cons] at hn;have h1:=ih (m:=m.erase x) hn.2 fun y hy=>(List.mem_erase_of_ne (fun e=>hn.1 (by rw[← e];exact hy))).2 (hs y (by simp[hy]))
  have h2:=List.length_erase_of_mem (hs x (by simp));have h3:=List.length_pos_of_mem (hs x (by simp));simp only[List.length_cons];omega
end
def ZbK {α:Type} [DecidableEq α] (nx:α→Nat→α) (a:α) (F:List α) (s:Int) (c:Nat):Int:=Zai F (nx (F.getD s.toNat a) c)
def Za2 (n:Nat):List Int:=(List.range n).map Int.ofNat
theorem ZjH (n:Nat):Za2 (n+1)=Za2 n++[(n:Int)]:=by simp[Za2,List.range_succ]
theorem Zcp {n:Nat} {x:Nat}:(x:Int)∈Za2 n↔x<n:=by
 simp only[Za2,List.mem_map,List.mem_range];constructor
 ·rintro⟨y,hy,e⟩;have e2:(y:Int)=(x:Int):=e;omega
 intro h;exact⟨x,h,rfl⟩
theorem ZfY {n k:Nat} (h:k<n):(Za2 n).getD k 0=(k:Int):=by simp[Za2,h]
theorem Zcm (n:Nat):(Za2 n).length=n:=by simp[Za2]
theorem ZmJ {α:Type} [DecidableEq α] (nx:α→Nat→α) (a:α) (K:Nat):∀ k,k≤K →
  bat (ZbK nx a (bat nx a K).met) 0 k=⟨Za2 (bat nx a k).met.length,(bat nx a k).words⟩
 | 0,_=>rfl
 | k+1,hK=>by
  have ih:=ZmJ nx a K k (by omega);have hlen:(bat (ZbK nx a (bat nx a K).met) 0 k).met.length=(bat nx a k).met.length:=by rw[ih];exact Zcm _
  by_cases h:k<(bat nx a k).met.length
  ·rw[ZaP h,ZaP (by rw[hlen];exact h)]
   have hrow:∀ n,n≤3→bpart (ZbK nx a (bat nx a K).met) 0 k n=⟨Za2 (bpart nx a k n).met.length,(bpart nx a k n).words⟩:=by
    intro n
    induction n with
    | zero=>intro _;rw[Zas,Zas];exact ih
    | succ n ihn =>
     intro hn;have e:=ihn (by omega);have hx:(bat (ZbK nx a (bat nx a K).met) 0 k).met.getD k 0=(k:Int):=by rw[ih];exact ZfY h
     have hF:(bat nx a K).met.getD k a=(bat nx a k).met.getD k a:=ZaE (Zfm (show k≤K by omega)).1 h a;have hnx:ZbK nx a (bat nx a K).met (k:Int) n=(Zai (bat nx a K).met (nx ((bat nx a k).met.getD k a) n):Int):=by unfold ZbK;rw[show((k:Int).toNat)=k from rfl,hF]
     by_cases hm:nx ((bat nx a k).met.getD k a) n∈(bpart nx a k n).met
     ·rw[ZbR hm];have hi:=Za0 (ZaF (m:=K) h (show n≤3 by omega) (by omega)).1 hm;have hlt:Zai (bat nx a K).met (nx ((bat nx a k).met.getD k a) n)<(bpart nx a k n).met.length:=by rw[hi];exact ZaR hm
      rw[ZbR (by rw[hx,hnx,e];exact Zcp.2 hlt),e]
     have hb:=ZaF (nx:=nx) (a:=a) (m:=K) h hn (by omega);rw[Zbr hm] at hb;have hi:=ZfQ hb.1 hm;rw[Zbr (by rw[hx,hnx,e,hi];simp[Zcp]),Zbr hm,hx,hnx,hi,e,ih];simp[ZjH]
   exact hrow 3 (by omega)
  rw[Zbx (k:=k) (a:=a) (by omega),Zbx (by rw[hlen];omega)];exact ih
end Go.Proofs.YtncekbbhgipdlaaGreat
namespace Go.Proofs.YtncekbbhgipdlaaGreat
open Go.RowKit
section
variable {α:Type} [DecidableEq α]
def numbered (l:List α):List (α × Value):=l.zipIdx.map fun p=>(p.1,Value.int .i64 (p.2:Int))
omit [DecidableEq α] in
theorem Zh6 (l:List α) (x:α):numbered (l++[x])=numbered l++[(x,Value.int .i64 (l.length:Int))]:=by simp[numbered,List.zipIdx_append]
omit [DecidableEq α] in
theorem Zc8 (l:List α):(numbered l).map (·.1)=l:=by simp only[numbered,List.map_map];have:((fun x:α × Value=>x.1) ∘ fun p:α × Nat=>(p.1,Value.int .i64 (p.2:Int)))=Prod.fst:=rfl;rw[this,List.zipIdx_map_fst]
theorem Zbi {l:List α} (hn:l.Nodup) {x:α} (hx:x∈l):look x (numbered l)=some (.int .i64 (Zai l x:Int)):=by refine ZkH (by rw[Zc8];exact hn) (j:=Zai l x) ?_;have hlt:=List.idxOf_lt_length_iff.2 hx;unfold Zai;simp only[numbered,List.getElem?_map,List.getElem?_zipIdx,List.getElem?_eq_getElem hlt,Option.map_some,Nat.zero_add,List.getElem_idxOf]
theorem Zcy {l:List α} {x:α} (hx:x ∉ l):look x (numbered l)=none :=
 Zi7 fun p hp e=>hx (by rw[← Zc8 l,← e];exact List.mem_map.2 ⟨p,hp,rfl⟩)
theorem ZcI {l:List α} {x:α} (hx:x ∉ l):upd x (.int .i64 (l.length:Int)) (numbered l)=numbered (l++[x]):=by rw[Zh6];exact Zkp fun p hp e=>hx (by rw[← Zc8 l,← e];exact List.mem_map.2 ⟨p,hp,rfl⟩)
end
end Go.Proofs.YtncekbbhgipdlaaGreat
namespace Go.Proofs.YtncekbbhgipdlaaGreat
open Go.RowKit
theorem memD {α:Type} {xs:List α} {k:Nat} {d:α} (h:k<xs.length):xs.getD k d∈xs:=by rw[List.getD_eq_getElem?_getD,List.getElem?_eq_getElem h];simp
theorem Zbm {α:Type} {xs:List α} {k:Nat} {d:α} (h:k<xs.length):xs.getD k d=xs[k]:=by simp[h]
def dnx (d:DfaD) (s:Int) (c:Nat):Int:=(d.next.getD s.toNat []).getD c 0
def den (d:DfaD) (s:Int):Bool:=d.ends.getD s.toNat false
def Zip {α:Type} (en:α→Bool) (s:Bs α):Option (List Nat):=((s.met.zip s.words).find? fun p=>en p.1).map (·.2)
def fine (d:DfaD):Prop:=1≤d.next.length∧d.next.length≤100000∧d.ends.length=d.next.length∧∀ i,i<d.next.length→(d.next.getD i []).length=3∧∀ c,c<3→0≤(d.next.getD i []).getD c 0∧(d.next.getD i []).getD c 0<d.next.length
section
variable {α:Type} [DecidableEq α] {nx nx':α→Nat→α} {a:α}
theorem ZhI {x:α} {wd:List Nat} {s:Bs α} (h:∀ c,c<3→nx x c=nx' x c):∀ n,n≤3→brow nx x wd s n=brow nx' x wd s n
 | 0,_=>rfl
 | n+1,hn=>by show bvisit nx x wd (brow nx x wd s n) n=bvisit nx' x wd (brow nx' x wd s n) n;rw[ZhI h n (by omega)];unfold bvisit;rw[h n (by omega)]
theorem ZgY {Q:α→Prop} (h0:Q a) (hv:∀ x c,c<3→Q x→Q (nx x c)) (he:∀ x c,c<3→Q x→nx x c=nx' x c):∀ k,bat nx a k=bat nx' a k
 | 0=>rfl
 | k+1=>by
  have ih:=ZgY h0 hv he k;by_cases h:k<(bat nx a k).met.length
  ·rw[ZaP h,ZaP (by rw[← ih];exact h)];unfold bpart;rw[← ih];exact ZhI (fun c hc=>he _ c hc (Zce h0 hv k _ (memD h))) 3 (by omega)
  rw[Zbx (by omega),Zbx (by rw[← ih];omega),ih]
theorem ZdO {K:Nat} (hK:(bat nx a K).met.length≤K) {x:α} (hx:x∈(bat nx a K).met) {c:Nat} (hc:c<3):nx x c∈(bat nx a K).met:=by
 obtain⟨k,hk,rfl⟩:=List.mem_iff_getElem.1 hx
 have hkk:k<(bat nx a k).met.length:=by
  by_cases h:k<(bat nx a k).met.length
  ·exact h
  have:=ZbT (nx:=nx) (a:=a) (k:=k) (m:=K) (by omega) (by omega);rw[this] at hk;omega
 have e:(bat nx a K).met[k]=(bat nx a k).met.getD k a:=by rw[← ZaE (Zfm (nx:=nx) (a:=a) (show k≤K by omega)).1 hkk a,Zbm hk]
 rw[e];exact(ZaF (nx:=nx) (a:=a) hkk (Nat.le_refl 3) (show k<K by omega)).1.subset (ZjA hc)
theorem Zlb:∀ k:Nat,∀ wd∈(bat nx a k).words,wd.length≤k
 | 0,wd,h=>by simp[bat] at h;simp[h]
 | k+1,wd,h=>by
  have ih:=Zlb k;by_cases hk:k<(bat nx a k).met.length
  ·rw[ZaP hk] at h;have hg:=(Zby (nx:=nx) (a:=a) k).2.1;refine ZfV (fun t=>∀ wd∈t.words,wd.length≤k+1) (fun wd h=>Nat.le_succ_of_le (ih wd h)) (fun t c _ ht => ?_) 3 (Nat.le_refl 3) wd h;unfold bvisit
   split
   ·exact ht
   intro v hv;simp only[List.mem_append,List.mem_singleton] at hv;rcases hv with hv|rfl
   ·exact ht v hv
   have:=ih _ (memD (d:=[]) (show k<(bat nx a k).words.length by omega));simpa using this
  rw[Zbx (by omega)] at h;exact Nat.le_succ_of_le (ih wd h)
theorem ZiC (K:Nat):a∈(bat nx a K).met:=by
 have h:=memD (d:=a) (ZdE (nx:=nx) (a:=a) K)
 rwa [ZgX] at h
def Zaf (nx:α→Nat→α) (F:List α) (x:α):List Int:=(List.range 3).map fun c=>(Zai F (nx x c):Int)
def Zat (nx:α→Nat→α) (en:α→Bool) (F:List α):DfaD:=⟨F.map (Zaf nx F),F.map en⟩
theorem ZaS (nx:α→Nat→α) (en:α→Bool) (F:List α):(Zat nx en F).next.length=F.length:=by simp[Zat]
theorem ZeU {en:α→Bool} {F:List α} {i:Nat} (hi:i<F.length):(Zat nx en F).next.getD i []=Zaf nx F (F.getD i a):=by simp[Zat,List.getElem?_eq_getElem hi]
theorem Zgl {F:List α} {x:α} {c:Nat} (hc:c<3):(Zaf nx F x).getD c 0=(Zai F (nx x c):Int):=by simp[Zaf,hc]
theorem Zkd {en:α→Bool} {F:List α} {s:Int} {c:Nat} (h0:0≤s) (h1:s<F.length) (hc:c<3):dnx (Zat nx en F) s c=ZbK nx a F s c:=by unfold dnx ZbK;rw[ZeU (a:=a) (by omega),Zgl hc]
theorem Zke {en:α→Bool} {F:List α} {i:Nat} (hi:i<F.length):den (Zat nx en F) (i:Int)=en F[i]:=by simp[den,Zat,hi]
theorem ZfS {en:α→Bool} {K:Nat} (hK:(bat nx a K).met.length≤K) (hK2:K≤100000):fine (Zat nx en (bat nx a K).met):=by
 refine⟨?_,?_,?_,fun i hi => ?_⟩
 ·rw[ZaS];exact ZdE K
 ·rw[ZaS];omega
 ·simp[Zat]
 rw[ZaS] at hi;rw[ZeU (a:=a) hi];refine⟨by simp[Zaf],fun c hc => ?_⟩;rw[Zgl hc,ZaS];exact⟨by omega,by exact_mod_cast ZaR (ZdO hK (memD hi) hc)⟩
end
end Go.Proofs.YtncekbbhgipdlaaGreat
