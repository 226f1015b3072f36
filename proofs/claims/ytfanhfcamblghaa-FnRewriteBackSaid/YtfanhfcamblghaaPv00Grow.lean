/-
  Small facts about slices in memory: what a slice value reads as, and that it still reads so in a later world.
  No condition: this text speaks of no program.
  What a call made for itself: slices in blocks of numbers from lo on and below hi, that may be written.
  No condition: this text speaks of no program.
  A map that a call makes, as a list of keys and values in the order in which the keys came: looking a key up, and storing.
  Conditions: the keys are encoded data that can be keys of the map's type; no key stands there twice.
  What a call made for itself, where one of its slices grows or one of its variables is written: blocks of different types are different blocks.
  No condition: this text speaks of no program.
-/
import Derived.BigQuiet
import Derived.BigRegion
import Derived.Deep.AppendLies
import Derived.Deep.Cut
import Derived.Deep.CutBlock
import Derived.Deep.DeepAppendWide
import Derived.Deep.LoopGhost
import Derived.Deep.MidRow
import Derived.Deep.RegionHeld3
import Derived.Deep.RegionHeldLaw
import Derived.Deep.RegionLaw
import Derived.Deep.Slices
import Derived.Deep.Strs
import Derived.Deep.Upon
import Derived.Deep.WholeRow
import Derived.DeepKeys4
import Derived.Great.BuildSlice
import Derived.KernelRfl
import Derived.Laws.BitsAllLaws
import Derived.Laws.BytesArg
import Derived.Laws.DeepStrings4
import Derived.Laws.Strings
import Derived.Lib.AppendZerosOnto
import Derived.Lib.Hide
import Derived.Lib.SliceRun
import Derived.Lib.SmallJoins
import Derived.Maps.Keyed
import Derived.Maps.Own
import Derived.OpenShut
import Derived.ProofKit
import Derived.RegionTactic
import Derived.Room.AppendOwn
import Derived.StillTailTactics
import Derived.Tactics
import Derived.Test.YtfanhfcamblghaaProg
import Derived.WalkKit
import Derived.WalkLawsBesides
import Derived.WalkSmall
import Derived.WalkSpells
namespace Go.Proofs.Ytfanhfcamblghaa
theorem eI {α:Sort _} (e:α):∃ x,x=e:=⟨e,rfl⟩
theorem eJ {α:Sort _} (e:α):∃ x,e=x:=⟨e,rfl⟩
theorem w_1 {α:Type _} (l:List α) (i:Nat) (a:α):l.toArray.setIfInBounds i a=(l.set i a).toArray:=List.setIfInBounds_toArray ..
theorem w_2 {α:Type _} {a b:α} {l:List α}:(a::l).set 0 b=b::l:=rfl
theorem w_3 {α:Type _} {a b:α} {l:List α} {n:Nat}:(a::l).set (n+1) b=a::l.set n b:=rfl
theorem w_4 {α:Type _} {x:Array α} {i:Nat} {d:α}:x.getD i d=x[i]?.getD d:=Array.getD_eq_getD_getElem? ..
theorem w_5 {α:Type _} {l:List α} {i:Nat}:l.toArray[i]?=l[i]?:=List.getElem?_toArray ..
theorem w_6 {α:Type _} {a:α} {l:List α}:(a::l)[0]?=some a:=rfl
theorem w_7 {α:Type _} {a:α} {i:Nat} {l:List α}:(a::l)[i+1]?=l[i]?:=rfl
theorem w_8 {α:Type _} {a b:α}:(some a).getD b=a:=rfl
theorem w_9 {α:Type _} (a b:α):(some a=some b)=(a=b):=Option.some.injEq ..
def alT:List Bool → Prop
 | [] => True
 | b::l => b=true∧alT l
theorem alT_of:∀ (l:List Bool),(∀ i,i<l.length→l.getD i true=true)→alT l
 | [],_ => trivial
 | _::l,h => ⟨h 0 (Nat.zero_lt_succ _),alT_of l fun i hi=>h (i+1) (Nat.succ_lt_succ hi)⟩
theorem zA {listed:Array Bool} {n:Nat} (h:∀ i,i<n→listed.getD i true=true) (hs:listed.size=n):alT listed.toList:=alT_of _ fun i hi=>by have h1:=h i (by rw[← hs];simpa using hi);rw[List.getD_eq_getElem?_getD,List.getElem?_eq_getElem hi];rw[Array.getD_eq_getD_getElem?,Array.getElem?_eq_getElem (by simpa using hi)] at h1;simpa using h1
theorem qh {p:Prop} (h:p):Go.RowKit.Hid p:=Go.Lib.hid h
open Go.RowKit
structure Ext (B:Nat) (w w':World):Prop where
 size:w.heap.size≤w'.heap.size
 block:∀ k,k<B→w'.heap[k]? = w.heap[k]?
theorem Ext.refl (B:Nat) (w:World):Ext B w w:=⟨Nat.le_refl _,fun _ _=>rfl⟩
theorem Ext.of {B:Nat} {w w':World} (h:Below B w w'):Ext B w w':=⟨h.size,h.block⟩
structure Sl (B:Nat) (w:World) (v:Value) (n size:Nat) (cs:List Value):Prop where
 len:cs.length=n*size
 form:∃ a cap,v = .slice a n cap∧n≤cap∧cap≤maxLen ∧
  (0<n→∃ b off,a=some ⟨b,off,none⟩∧B≤b∧b<w.heap.size∧∀ j,j<n*size→w.cell? ⟨b,off+j,none⟩=cs[j]?)
theorem Sl.mono {B B':Nat} {w:World} {v:Value} {n size:Nat} {cs:List Value} (h:Sl B w v n size cs) (hB:B'≤B):Sl B' w v n size cs:=by obtain⟨hl,a,cap,hv,h1,h2,h3⟩:=h;refine⟨hl,a,cap,hv,h1,h2,fun hn => ?_⟩;obtain⟨b,off,ha,hb,hlt,hc⟩:=h3 hn;exact⟨b,off,ha,by omega,hlt,hc⟩
theorem Sl.ext {B B':Nat} {w w':World} {v:Value} {n size:Nat} {cs:List Value} (h:Sl B w v n size cs) (he:Ext B' w w') (hB:w.heap.size≤B'):Sl B w' v n size cs:=by obtain⟨hl,a,cap,hv,h1,h2,h3⟩:=h;refine⟨hl,a,cap,hv,h1,h2,fun hn => ?_⟩;obtain⟨b,off,ha,hb,hlt,hc⟩:=h3 hn;refine⟨b,off,ha,hb,Nat.lt_of_lt_of_le hlt he.size,fun j hj => ?_⟩;rw[← hc j hj];exact World.cell?_of_block (he.block b (by omega))
theorem Sl.below {B:Nat} {w w':World} {v:Value} {n size:Nat} {cs:List Value} (h:Sl B w v n size cs) (he:Below w.heap.size w w'):Sl B w' v n size cs :=
 h.ext (Ext.of he) (Nat.le_refl _)
theorem bcell {B:Nat} {W w1:World} (hb:Below B W w1):∀ b o,b<B→w1.cell? ⟨b,o,none⟩=W.cell? ⟨b,o,none⟩ :=
 fun b o h=>hb.cell (p:=⟨b,o,none⟩) h
theorem Zc2 {a b:Bool} (h:a=b):Ending.returned (.bool a) = .returned (.bool b):=by rw[h]
theorem ZbQ {k:IntKind} {a b:Int} (h:a=b):Ending.returned (.int k a) = .returned (.int k b):=by rw[h]
theorem ZjM (a b:Nat):((a:Int)==b)=decide (a=b):=by rw[Bool.eq_iff_iff];simp;omega
theorem Zfc (w:World) (cs:Array Value) (T:TypeId) (j:Nat):(w.alloc (.cells cs T)).cell? ⟨w.heap.size,j,none⟩=cs[j]?:=by have h:=heap_alloc_new w (.cells cs T);unfold World.cell?;show(match (w.alloc (.cells cs T)).heap[w.heap.size]? with|some (.cells c _ _)=>if (none:Option Nat).isSome then none else c[j]? | _=>none)=_;rw[h];rfl
theorem Zb4 (w:World) (o:Obj) (b j:Nat) (h:b<w.heap.size):(w.alloc o).cell? ⟨b,j,none⟩=w.cell? ⟨b,j,none⟩ :=
 World.cell?_of_block (Below.heap_alloc w o b h)
theorem ZfO {w wr:World} {cs:Array Value} {T:TypeId} (hb:Below (w.heap.size+1) (w.alloc (.cells cs T)) wr) (j:Nat):wr.cell? ⟨w.heap.size,j,none⟩=cs[j]? :=
 (bcell hb _ j (by omega)).trans (Zfc w cs T j)
theorem Zhd {w wr:World} {o:Obj} (hb:Below (w.heap.size+1) (w.alloc o) wr) (b j:Nat) (h:b<w.heap.size):wr.cell? ⟨b,j,none⟩=w.cell? ⟨b,j,none⟩ :=
 (bcell hb b j (by omega)).trans (Zb4 w o b j h)
theorem Zlx {w wr:World} {o:Obj} (hb:Below (w.heap.size+1) (w.alloc o) wr):w.heap.size<wr.heap.size:=by have:=hb.size;simp at this;omega
def Bx (w:World) (b:Nat) (cs:Array Value) (T:TypeId):Prop:=w.heap[b]? = some (.cells cs T (0,0))
theorem Bx.lt {w:World} {b:Nat} {cs:Array Value} {T:TypeId} (h:Bx w b cs T):b<w.heap.size:=(Array.getElem?_eq_some_iff.1 h).1
theorem Bx.cell {w:World} {b:Nat} {cs:Array Value} {T:TypeId} (h:Bx w b cs T) (j:Nat):w.cell? ⟨b,j,none⟩=cs[j]?:=cell_of_row w b j cs T (0,0) h
theorem Bx.fr {w:World} {b:Nat} {cs:Array Value} {T:TypeId} (h:Bx w b cs T) (j:Nat):w.frozen? ⟨b,j,none⟩=false:=frozen_of_row w b j cs T h
theorem Bx.new (w:World) (cs:Array Value) (T:TypeId):Bx (w.alloc (.cells cs T)) w.heap.size cs T:=heap_alloc_new w _
theorem Bx.alloc {w:World} {b:Nat} {cs:Array Value} {T:TypeId} (h:Bx w b cs T) (o:Obj):Bx (w.alloc o) b cs T:=(Below.heap_alloc w o b h.lt).trans h
theorem Bx.drew {w:World} {b:Nat} {cs:Array Value} {T:TypeId} (h:Bx w b cs T):Bx w.drew b cs T:=h
theorem Bx.set {w:World} {b:Nat} {cs:Array Value} {T:TypeId} (h:Bx w b cs T) (j:Nat) (v:Value):Bx (w.setCell ⟨b,j,none⟩ v) b (cs.setIfInBounds j v) T:=heap_setCell_same w b j cs T v h
theorem Bx.set_ne {w:World} {b:Nat} {cs:Array Value} {T:TypeId} (h:Bx w b cs T) (a:Addr) (v:Value) (hne:b≠a.block):Bx (w.setCell a v) b cs T:=(Below.heap_setCell w a v b hne).trans h
theorem Bx.below {B:Nat} {w w':World} {b:Nat} {cs:Array Value} {T:TypeId} (h:Bx w b cs T) (hb:Below B w w') (hB:b<B):Bx w' b cs T:=(hb.block b hB).trans h
def Ints (B:Nat) (w:World) (v:Value) (xs:List Int):Prop:=Sl B w v xs.length 1 (xs.map (Value.int .i64))
def Bools (B:Nat) (w:World) (v:Value) (xs:List Bool):Prop:=Sl B w v xs.length 1 (xs.map Value.bool)
def IntSS (B:Nat) (w:World) (v:Value) (xss:List (List Int)):Prop :=
 ∃ vs:List Value,Sl B w v xss.length 1 vs∧∀ i,i<xss.length→Ints B w (vs.getD i undef) (xss.getD i [])
theorem Ints.below {B:Nat} {w w':World} {v:Value} {xs:List Int} (h:Ints B w v xs) (he:Below w.heap.size w w'):Ints B w' v xs:=Sl.below h he
theorem Bools.below {B:Nat} {w w':World} {v:Value} {xs:List Bool} (h:Bools B w v xs) (he:Below w.heap.size w w'):Bools B w' v xs:=Sl.below h he
theorem IntSS.below {B:Nat} {w w':World} {v:Value} {xss:List (List Int)} (h:IntSS B w v xss) (he:Below w.heap.size w w'):IntSS B w' v xss:=by obtain⟨vs,h1,h2⟩:=h;exact⟨vs,h1.below he,fun i hi=>(h2 i hi).below he⟩
theorem Ints.drew {B:Nat} {w:World} {v:Value} {xs:List Int} (h:Ints B w v xs):Ints B w.drew v xs:=h.below (Below.refl _ _).drew
theorem Bools.drew {B:Nat} {w:World} {v:Value} {xs:List Bool} (h:Bools B w v xs):Bools B w.drew v xs:=h.below (Below.refl _ _).drew
theorem IntSS.drew {B:Nat} {w:World} {v:Value} {xs:List (List Int)} (h:IntSS B w v xs):IntSS B w.drew v xs:=h.below (Below.refl _ _).drew
theorem Ints.form {B:Nat} {w:World} {v:Value} {xs:List Int} (h:Ints B w v xs):∃ a cap,v = .slice a xs.length cap∧xs.length≤cap∧cap≤9223372036854775807 ∧
  (0<xs.length→∃ b off,a=some ⟨b,off,none⟩∧B≤b∧b<w.heap.size∧∀ j,j<xs.length→w.cell? ⟨b,off+j,none⟩=some (.int .i64 (xs.getD j 0))):=by
 obtain⟨hl,a,cap,hv,h1,h2,h3⟩:=h;refine⟨a,cap,hv,h1,h2,fun hn => ?_⟩;obtain⟨b,off,ha,hb,hlt,hc⟩:=h3 hn;refine⟨b,off,ha,hb,hlt,fun j hj => ?_⟩;rw[hc j (by omega)];simp[hj]
theorem Bools.form {B:Nat} {w:World} {v:Value} {xs:List Bool} (h:Bools B w v xs):∃ a cap,v = .slice a xs.length cap∧xs.length≤cap∧cap≤9223372036854775807 ∧
  (0<xs.length→∃ b off,a=some ⟨b,off,none⟩∧B≤b∧b<w.heap.size∧∀ j,j<xs.length→w.cell? ⟨b,off+j,none⟩=some (.bool (xs.getD j false))):=by
 obtain⟨hl,a,cap,hv,h1,h2,h3⟩:=h;refine⟨a,cap,hv,h1,h2,fun hn => ?_⟩;obtain⟨b,off,ha,hb,hlt,hc⟩:=h3 hn;refine⟨b,off,ha,hb,hlt,fun j hj => ?_⟩;rw[hc j (by omega)];simp[hj]
theorem IntSS.form {B:Nat} {w:World} {v:Value} {xss:List (List Int)} (h:IntSS B w v xss):∃ a cap,v = .slice a xss.length cap∧xss.length≤cap∧cap≤9223372036854775807 ∧
  (0<xss.length→∃ b off,a=some ⟨b,off,none⟩∧B≤b∧b<w.heap.size∧∀ i,i<xss.length→∃ a' cap',w.cell? ⟨b,off+i,none⟩=some (.slice a' (xss.getD i []).length cap')∧(xss.getD i []).length≤cap'∧cap'≤9223372036854775807 ∧
   (0<(xss.getD i []).length→∃ b' off',a'=some ⟨b',off',none⟩∧B≤b'∧b'<w.heap.size∧∀ j,j<(xss.getD i []).length→w.cell? ⟨b',off'+j,none⟩=some (.int .i64 ((xss.getD i []).getD j 0)))):=by
 obtain⟨vs,⟨hl,a,cap,hv,h1,h2,h3⟩,hr⟩:=h;refine⟨a,cap,hv,h1,h2,fun hn => ?_⟩;obtain⟨b,off,ha,hb,hlt,hc⟩:=h3 hn;refine⟨b,off,ha,hb,hlt,fun i hi => ?_⟩;obtain⟨a',cap',hv',h1',h2',h3'⟩:=(hr i hi).form;refine⟨a',cap',?_,h1',h2',h3'⟩;rw[hc i (by omega),← hv'];simp at hl;simp[show i<vs.length by omega]
theorem IntSS.formI {B:Nat} {w:World} {v:Value} {xss:List (List Int)} (h:IntSS B w v xss):∃ a cap,v = .slice a xss.length cap∧xss.length≤cap∧cap≤9223372036854775807 ∧
  (0<xss.length→∃ b off,a=some ⟨b,off,none⟩∧B≤b∧b<w.heap.size∧∀ i,i<xss.length→∃ a' cap',w.cell? ⟨b,off+i,none⟩=some (.slice a' (xss.getD i []).length cap')∧(xss.getD i []).length≤cap'∧cap'≤9223372036854775807 ∧
   Ints B w (.slice a' (xss.getD i []).length cap') (xss.getD i [])):=by
 obtain⟨vs,⟨hl,a,cap,hv,h1,h2,h3⟩,hr⟩:=h;refine⟨a,cap,hv,h1,h2,fun hn => ?_⟩;obtain⟨b,off,ha,hb,hlt,hc⟩:=h3 hn;refine⟨b,off,ha,hb,hlt,fun i hi => ?_⟩;obtain⟨a',cap',hv',h1',h2',h3'⟩:=(hr i hi).form;refine⟨a',cap',?_,h1',h2',?_⟩
 ·rw[hc i (by omega),← hv'];simp at hl;simp[show i<vs.length by omega]
 rw[← hv'];exact hr i hi
/-! Slices of structs of ints -/
theorem ZbK {α:Type} (f:α→List Value) (s:Nat) (hf:∀ a,(f a).length=s):∀ (l:List α) (i j:Nat) (d:α),i<l.length→j<s→(l.flatMap f)[i*s+j]? = (f (l.getD i d))[j]?
 | [],i,j,d,hi,_=>by simp at hi
 | a::l,0,j,d,_,hj=>by simp only[List.flatMap_cons,Nat.zero_mul,Nat.zero_add,List.getD_cons_zero];rw[List.getElem?_append_left (by rw[hf];exact hj)]
 | a::l,i+1,j,d,hi,hj=>by have ih:=ZbK f s hf l i j d (by simpa using hi) hj;simp only[List.flatMap_cons,List.getD_cons_succ];rw[List.getElem?_append_right (by rw[hf,Nat.succ_mul];omega),← ih,hf,Nat.succ_mul];congr 1;omega
def Zah (p:Int × Int):List Value:=[.int .i64 p.1,.int .i64 p.2]
def Zac (p:Int × Int × Int):List Value:=[.int .i64 p.1,.int .i64 p.2.1,.int .i64 p.2.2]
def Pairs (B:Nat) (w:World) (v:Value) (ps:List (Int × Int)):Prop:=Sl B w v ps.length 2 (ps.flatMap Zah)
def Moves (B:Nat) (w:World) (v:Value) (ms:List (Int × Int × Int)):Prop:=Sl B w v ms.length 3 (ms.flatMap Zac)
theorem Pairs.below {B:Nat} {w w':World} {v:Value} {xs:List (Int × Int)} (h:Pairs B w v xs) (he:Below w.heap.size w w'):Pairs B w' v xs:=Sl.below h he
theorem Moves.below {B:Nat} {w w':World} {v:Value} {xs:List (Int × Int × Int)} (h:Moves B w v xs) (he:Below w.heap.size w w'):Moves B w' v xs:=Sl.below h he
theorem Pairs.form {B:Nat} {w:World} {v:Value} {xs:List (Int × Int)} (h:Pairs B w v xs):∃ a cap,v = .slice a xs.length cap∧xs.length≤cap∧cap≤9223372036854775807 ∧
  (0<xs.length→∃ b off,a=some ⟨b,off,none⟩∧B≤b∧b<w.heap.size∧∀ j,j<xs.length →
   w.cell? ⟨b,off+j*2,none⟩=some (.int .i64 (xs.getD j (0,0)).1)∧w.cell? ⟨b,off+j*2+1,none⟩=some (.int .i64 (xs.getD j (0,0)).2)):=by
 obtain⟨hl,a,cap,hv,h1,h2,h3⟩:=h;refine⟨a,cap,hv,h1,h2,fun hn => ?_⟩;obtain⟨b,off,ha,hb,hlt,hc⟩:=h3 hn;refine⟨b,off,ha,hb,hlt,fun j hj=>⟨?_,?_⟩⟩
 ·rw[hc (j*2) (by omega)];have:=ZbK Zah 2 (fun _=>rfl) xs j 0 (0,0) hj (by omega);simpa [Zah] using this
 rw[show off+j*2+1=off+(j*2+1) from by omega,hc (j*2+1) (by omega)];have:=ZbK Zah 2 (fun _=>rfl) xs j 1 (0,0) hj (by omega);simpa [Zah] using this
theorem Moves.form {B:Nat} {w:World} {v:Value} {xs:List (Int × Int × Int)} (h:Moves B w v xs):∃ a cap,v = .slice a xs.length cap∧xs.length≤cap∧cap≤9223372036854775807 ∧
  (0<xs.length→∃ b off,a=some ⟨b,off,none⟩∧B≤b∧b<w.heap.size∧∀ j,j<xs.length →
   w.cell? ⟨b,off+j*3,none⟩=some (.int .i64 (xs.getD j (0,0,0)).1)∧w.cell? ⟨b,off+j*3+1,none⟩=some (.int .i64 (xs.getD j (0,0,0)).2.1)∧w.cell? ⟨b,off+j*3+2,none⟩=some (.int .i64 (xs.getD j (0,0,0)).2.2)):=by
 obtain⟨hl,a,cap,hv,h1,h2,h3⟩:=h;refine⟨a,cap,hv,h1,h2,fun hn => ?_⟩;obtain⟨b,off,ha,hb,hlt,hc⟩:=h3 hn;refine⟨b,off,ha,hb,hlt,fun j hj=>⟨?_,?_,?_⟩⟩
 ·rw[hc (j*3) (by omega)];have:=ZbK Zac 3 (fun _=>rfl) xs j 0 (0,0,0) hj (by omega);simpa [Zac] using this
 ·rw[show off+j*3+1=off+(j*3+1) from by omega,hc (j*3+1) (by omega)];have:=ZbK Zac 3 (fun _=>rfl) xs j 1 (0,0,0) hj (by omega);simpa [Zac] using this
 rw[show off+j*3+2=off+(j*3+2) from by omega,hc (j*3+2) (by omega)];have:=ZbK Zac 3 (fun _=>rfl) xs j 2 (0,0,0) hj (by omega);simpa [Zac] using this
/-! Comparing lists place by place -/
theorem ZdC {α:Type} {xs ys:List α} {k:Nat} {d:α} (hx:k<xs.length) (hy:k<ys.length) (h:xs.take k=ys.take k) (he:xs.getD k d=ys.getD k d):xs.take (k+1)=ys.take (k+1):=by rw[List.take_succ_eq_append_getElem hx,List.take_succ_eq_append_getElem hy,h];simp[hx,hy] at he;rw[he]
theorem ZeV {α:Type} {xs ys:List α} {k:Nat} {d:α} (he:xs.getD k d≠ys.getD k d):xs≠ys:=fun h=>he (by rw[h])
end Go.Proofs.Ytfanhfcamblghaa
namespace Go.Proofs.Ytfanhfcamblghaa
open Go.RowKit
structure Only (lo hi:Nat) (w w':World):Prop where
 os:w'.os=w.os
 tape:w'.tape=w.tape
 output:w'.output=w.output
 size:w.heap.size≤w'.heap.size
 block:∀ k,k<w.heap.size→(k<lo∨hi≤k)→w'.heap[k]? = w.heap[k]?
theorem Only.refl (lo hi:Nat) (w:World):Only lo hi w w:=⟨rfl,rfl,rfl,Nat.le_refl _,fun _ _ _=>rfl⟩
theorem Only.trans {lo hi:Nat} {a b c:World} (h:Only lo hi a b) (k:Only lo hi b c):Only lo hi a c :=
 ⟨k.os.trans h.os,k.tape.trans h.tape,k.output.trans h.output,Nat.le_trans h.size k.size,fun i hi hh=>(k.block i (Nat.lt_of_lt_of_le hi h.size) hh).trans (h.block i hi hh)⟩
theorem Only.mono {lo hi lo' hi':Nat} {a b:World} (h:Only lo hi a b) (h1:lo'≤lo) (h2:hi≤hi'):Only lo' hi' a b :=
 ⟨h.os,h.tape,h.output,h.size,fun k hk hh=>h.block k hk (by omega)⟩
theorem Only.below {lo hi:Nat} {a b:World} (h:Only lo hi a b) (hlo:lo≤a.heap.size):Below lo a b :=
 ⟨h.os,h.tape,h.output,h.size,fun k hk=>h.block k (by omega) (Or.inl hk)⟩
theorem Only.of_below {lo hi:Nat} {a b:World} (h:Below a.heap.size a b):Only lo hi a b :=
 ⟨h.os,h.tape,h.output,h.size,fun k hk _=>h.block k hk⟩
theorem Only.setCell {lo hi:Nat} {w w':World} (h:Only lo hi w w') {a:Addr} (h1:lo≤a.block) (h2:a.block<hi) (v:Value):Only lo hi w (w'.setCell a v) :=
 h.trans ⟨rfl,rfl,rfl,by simp[World.setCell],fun k _ hh=>Below.heap_setCell _ _ _ _ (by omega)⟩
theorem Only.next {lo hi:Nat} {w w' w2:World} (h:Only lo hi w w') (hb:Below w'.heap.size w' w2):Only lo hi w w2:=h.trans (Only.of_below hb)
theorem Za7 (w:World) (a:Addr) (v:Value):(w.setCell a v).heap.size=w.heap.size:=by simp[World.setCell]
def Own (lo hi:Nat) (w:World) (e size:Nat) (v:Value) (n:Nat) (cs:List Value):Prop :=
 w.ownsRow lo e size v n cs∧∀ k,v.ownBlock=some k→k<hi
theorem Own.sl {lo hi:Nat} {w:World} {e size:Nat} {v:Value} {n:Nat} {cs:List Value} (h:Own lo hi w e size v n cs) (_:0<size):Sl lo w v n size cs:=by
 obtain⟨⟨hl,h2⟩,hh⟩:=h;rcases h2 with⟨rfl,rfl⟩|⟨g,cap,cur,rfl,hb,hg,hn,hm,hz,ht⟩
 ·exact⟨hl,none,0,rfl,Nat.le_refl _,Nat.zero_le _,fun h=>absurd h (by omega)⟩
 refine⟨hl,_,cap,rfl,hn,hm,fun h0=>⟨g,0,rfl,hb,(Array.getElem?_eq_some_iff.1 hg).1,fun j hj => ?_⟩⟩;rw[cell_of_row w g (0+j) cur e (0,0) hg,← ht,List.getElem?_take,if_pos hj];simp
theorem Own.kept {lo hi:Nat} {w w':World} {e size:Nat} {v:Value} {n:Nat} {cs:List Value} (h:Own lo hi w e size v n cs)
  (hk:∀ k,v.ownBlock=some k→w'.heap[k]? = w.heap[k]?):Own lo hi w' e size v n cs:=by
 obtain⟨⟨hl,h2⟩,hh⟩:=h;refine⟨⟨hl,?_⟩,hh⟩;rcases h2 with h2|⟨g,cap,cur,rfl,hb,hg,r⟩
 ·exact .inl h2
 exact .inr ⟨g,cap,cur,rfl,hb,by rw[hk g rfl];exact hg,r⟩
theorem Own.lt {lo hi:Nat} {w:World} {e size:Nat} {v:Value} {n:Nat} {cs:List Value} (h:Own lo hi w e size v n cs):∀ k,v.ownBlock=some k→lo≤k∧k<hi∧k<w.heap.size :=
 fun k hk=>⟨(h.1.lt k hk).1,h.2 k hk,(h.1.lt k hk).2⟩
theorem Own.only {lo hi lo' hi':Nat} {w w':World} {e size:Nat} {v:Value} {n:Nat} {cs:List Value} (h:Own lo hi w e size v n cs) (ho:Only lo' hi' w w') (hd:hi≤lo'∨hi'≤lo):Own lo hi w' e size v n cs :=
 h.kept fun k hk=>by obtain⟨h1,h2,h3⟩:=h.lt k hk;exact ho.block k h3 (by omega)
theorem Own.below {lo hi:Nat} {w w':World} {e size:Nat} {v:Value} {n:Nat} {cs:List Value} (h:Own lo hi w e size v n cs) (hb:Below w.heap.size w w'):Own lo hi w' e size v n cs :=
 h.kept fun k hk=>hb.block k (h.lt k hk).2.2
theorem Own.mono {lo hi lo' hi':Nat} {w:World} {e size:Nat} {v:Value} {n:Nat} {cs:List Value} (h:Own lo hi w e size v n cs) (h1:lo'≤lo) (h2:hi≤hi'):Own lo' hi' w e size v n cs:=by
 obtain⟨⟨hl,h3⟩,hh⟩:=h;refine⟨⟨hl,?_⟩,fun k hk=>Nat.lt_of_lt_of_le (hh k hk) h2⟩;rcases h3 with h3|⟨g,cap,cur,rfl,hb,r⟩
 ·exact .inl h3
 exact .inr ⟨g,cap,cur,rfl,Nat.le_trans h1 hb,r⟩
theorem Zc1 {w:World} {base e size g n cap:Nat} {xs:List Value} (h:w.ownsRow base e size (.slice (some ⟨g,0,none⟩) n cap) n xs) (j:Nat) (hj:j<n*size):∃ u,w.cell? ⟨g,j,none⟩=some u :=
 ⟨xs[j]'(by rw[h.1];exact hj),(h.cellAt j hj).trans (by simp[show j<xs.length from by rw[h.1];exact hj])⟩
abbrev intCells (xs:List Int):List Value:=xs.map (Value.int .i64)
abbrev boolCells (xs:List Bool):List Value:=xs.map Value.bool
def OInts (e lo hi:Nat) (w:World) (v:Value) (xs:List Int):Prop:=Own lo hi w e 1 v xs.length (intCells xs)
def OBools (e lo hi:Nat) (w:World) (v:Value) (xs:List Bool):Prop:=Own lo hi w e 1 v xs.length (boolCells xs)
def OPairs (e lo hi:Nat) (w:World) (v:Value) (xs:List (Int × Int)):Prop:=Own lo hi w e 2 v xs.length (xs.flatMap Zah)
def OMoves (e lo hi:Nat) (w:World) (v:Value) (xs:List (Int × Int × Int)):Prop:=Own lo hi w e 3 v xs.length (xs.flatMap Zac)
def OIntSS (es e lo hi:Nat) (w:World) (v:Value) (xss:List (List Int)):Prop :=
 ∃ vs:List Value,Own lo hi w es 1 v xss.length vs∧(∀ i,i<xss.length→OInts e lo hi w (vs.getD i undef) (xss.getD i [])) ∧
  (∀ i j k,i<j→j<xss.length→(vs.getD i undef).ownBlock=some k→(vs.getD j undef).ownBlock≠some k)
theorem OInts.ints {e lo hi:Nat} {w:World} {v:Value} {xs:List Int} (h:OInts e lo hi w v xs):Ints lo w v xs:=Own.sl h (by omega)
theorem OBools.bools {e lo hi:Nat} {w:World} {v:Value} {xs:List Bool} (h:OBools e lo hi w v xs):Bools lo w v xs:=Own.sl h (by omega)
theorem OMoves.moves {e lo hi:Nat} {w:World} {v:Value} {xs:List (Int × Int × Int)} (h:OMoves e lo hi w v xs):Moves lo w v xs:=Own.sl h (by omega)
theorem OIntSS.intSS {es e lo hi:Nat} {w:World} {v:Value} {xss:List (List Int)} (h:OIntSS es e lo hi w v xss):IntSS lo w v xss:=by obtain⟨vs,h1,h2,_⟩:=h;exact⟨vs,h1.sl (by omega),fun i hi=>(h2 i hi).ints⟩
theorem OIntSS.kept {es e lo hi:Nat} {w w':World} {v:Value} {xss:List (List Int)} (h:OIntSS es e lo hi w v xss)
  (hk:∀ k,lo≤k→k<hi→k<w.heap.size→w'.heap[k]? = w.heap[k]?):OIntSS es e lo hi w' v xss:=by
 obtain⟨vs,h1,h2,h3⟩:=h;refine⟨vs,h1.kept fun k hk' => ?_,fun i hi=>Own.kept (h2 i hi) fun k hk' => ?_,h3⟩
 ·obtain⟨a,b,c⟩:=h1.lt k hk';exact hk k a b c
 obtain⟨a,b,c⟩:=Own.lt (h2 i hi) k hk';exact hk k a b c
theorem OBools.only {e lo hi lo' hi':Nat} {w w':World} {v:Value} {xs:List Bool} (h:OBools e lo hi w v xs) (ho:Only lo' hi' w w') (hd:hi≤lo'∨hi'≤lo):OBools e lo hi w' v xs:=Own.only h ho hd
theorem OInts.only {e lo hi lo' hi':Nat} {w w':World} {v:Value} {xs:List Int} (h:OInts e lo hi w v xs) (ho:Only lo' hi' w w') (hd:hi≤lo'∨hi'≤lo):OInts e lo hi w' v xs:=Own.only h ho hd
theorem OMoves.only {e lo hi lo' hi':Nat} {w w':World} {v:Value} {xs:List (Int × Int × Int)} (h:OMoves e lo hi w v xs) (ho:Only lo' hi' w w') (hd:hi≤lo'∨hi'≤lo):OMoves e lo hi w' v xs:=Own.only h ho hd
theorem OPairs.only {e lo hi lo' hi':Nat} {w w':World} {v:Value} {xs:List (Int × Int)} (h:OPairs e lo hi w v xs) (ho:Only lo' hi' w w') (hd:hi≤lo'∨hi'≤lo):OPairs e lo hi w' v xs:=Own.only h ho hd
theorem OIntSS.mono {es e lo hi lo' hi':Nat} {w:World} {v:Value} {xss:List (List Int)} (h:OIntSS es e lo hi w v xss) (h1:lo'≤lo) (h2:hi≤hi'):OIntSS es e lo' hi' w v xss:=by obtain⟨vs,a,b,c⟩:=h;exact⟨vs,a.mono h1 h2,fun i hi=>Own.mono (b i hi) h1 h2,c⟩
theorem OInts.mono {e lo hi lo' hi':Nat} {w:World} {v:Value} {xs:List Int} (h:OInts e lo hi w v xs) (h1:lo'≤lo) (h2:hi≤hi'):OInts e lo' hi' w v xs:=Own.mono h h1 h2
theorem OBools.mono {e lo hi lo' hi':Nat} {w:World} {v:Value} {xs:List Bool} (h:OBools e lo hi w v xs) (h1:lo'≤lo) (h2:hi≤hi'):OBools e lo' hi' w v xs:=Own.mono h h1 h2
theorem OMoves.mono {e lo hi lo' hi':Nat} {w:World} {v:Value} {xs:List (Int × Int × Int)} (h:OMoves e lo hi w v xs) (h1:lo'≤lo) (h2:hi≤hi'):OMoves e lo' hi' w v xs:=Own.mono h h1 h2
theorem OPairs.mono {e lo hi lo' hi':Nat} {w:World} {v:Value} {xs:List (Int × Int)} (h:OPairs e lo hi w v xs) (h1:lo'≤lo) (h2:hi≤hi'):OPairs e lo' hi' w v xs:=Own.mono h h1 h2
theorem OIntSS.below {es e lo hi:Nat} {w w':World} {v:Value} {xss:List (List Int)} (h:OIntSS es e lo hi w v xss) (hb:Below w.heap.size w w'):OIntSS es e lo hi w' v xss:=h.kept fun k _ _ hk=>hb.block k hk
theorem OIntSS.only {es e lo hi lo' hi':Nat} {w w':World} {v:Value} {xss:List (List Int)} (h:OIntSS es e lo hi w v xss) (ho:Only lo' hi' w w') (hd:hi≤lo'∨hi'≤lo):OIntSS es e lo hi w' v xss :=
 h.kept fun k h1 h2 h3=>ho.block k h3 (by omega)
theorem Zaa {lo:Nat} {w:World} {e size:Nat} {v:Value} {n:Nat} {cs:List Value} (h:w.ownsRow lo e size v n cs):Own lo w.heap.size w e size v n cs :=
 ⟨h,fun k hk=>(h.lt k hk).2⟩
def RowsTo (es e B n:Nat) (xss:List (List Int)) (k:Nat) (w:World) (cs:List Value):Prop :=
 w.ownsRow B es 1 (.slice (some ⟨B,0,none⟩) n n) n cs∧(∀ i,i<k→OInts e (B+1) w.heap.size w (cs.getD i undef) (xss.getD i [])) ∧
  (∀ i j b,i<j→j<k→(cs.getD i undef).ownBlock=some b→(cs.getD j undef).ownBlock≠some b)
theorem RowsTo.below {es e B n k:Nat} {xss:List (List Int)} {w w':World} {cs:List Value} (h:RowsTo es e B n xss k w cs) (hb:Below w.heap.size w w'):RowsTo es e B n xss k w' cs:=by obtain⟨h1,h2,h3⟩:=h;exact⟨(Own.below (Zaa h1) hb).1,fun i hi=>(Own.below (h2 i hi) hb).mono (Nat.le_refl _) hb.size,h3⟩
theorem RowsTo.step {es e B n k:Nat} {xss:List (List Int)} {w w2:World} {cs:List Value} {v2:Value} (h:RowsTo es e B n xss k w cs) (hB:B<w.heap.size) (hk:k<n)
  (hb:Below w.heap.size w w2) (hv:OInts e w.heap.size w2.heap.size w2 v2 (xss.getD k [])):RowsTo es e B n xss (k+1) (w2.setCell ⟨B,k,none⟩ v2) (cs.set k v2):=by
 have h':=h.below hb;obtain⟨h1,h2,h3⟩:=h';have hlen:cs.length=n:=by have:=h1.1;omega
 have hsz:(w2.setCell ⟨B,k,none⟩ v2).heap.size=w2.heap.size:=by simp[World.setCell]
 have hget:∀ i,i<k→(cs.set k v2).getD i undef=cs.getD i undef:=fun i hi=>by simp[List.getElem?_set_ne (show k≠i by omega)]
 have hgetk:(cs.set k v2).getD k undef=v2:=by simp[show k<cs.length by omega]
 have hset:∀ j,j≠B→(w2.setCell ⟨B,k,none⟩ v2).heap[j]? = w2.heap[j]?:=fun j hj=>Below.heap_setCell _ _ _ _ hj
 refine⟨(h1.stored k v2).1,fun i hi => ?_,fun i j b hij hj hb1 => ?_⟩
 ·rw[hsz];by_cases hik:i<k
  ·rw[hget i hik];exact Own.kept (h2 i hik) fun m hm=>hset m (by have:=(Own.lt (h2 i hik) m hm).1;omega)
  obtain rfl:i=k:=by omega
  rw[hgetk];exact Own.kept (Own.mono hv (by omega) (Nat.le_refl _)) fun m hm=>hset m (by have:=(Own.lt hv m hm).1;omega)
 by_cases hjk:j<k
 ·rw[hget i (by omega)] at hb1;rw[hget j hjk];exact h3 i j b hij hjk hb1
 obtain rfl:j=k:=by omega
 rw[hget i hij] at hb1;rw[hgetk];intro hb2;have a1:=(Own.lt (h.2.1 i hij) b hb1).2.1;have a2:=(Own.lt hv b hb2).1;omega
theorem RowsTo.done {es e B:Nat} {xss:List (List Int)} {w:World} {cs:List Value} (h:RowsTo es e B xss.length xss xss.length w cs):OIntSS es e B w.heap.size w (.slice (some ⟨B,0,none⟩) xss.length xss.length) xss:=by obtain⟨h1,h2,h3⟩:=h;exact⟨cs,Zaa h1,fun i hi=>Own.mono (h2 i hi) (by omega) (Nat.le_refl _),fun i j b=>h3 i j b⟩
structure DfaD where
 next:List (List Int)
 ends:List Bool
deriving DecidableEq
structure NfaD where
 states:Int
 moves:List (Int × Int × Int)
 firsts:List Int
 ends:List Int
deriving DecidableEq
def DfaR (B:Nat) (w:World) (v:Value) (d:DfaD):Prop:=∃ v1 v2,v = .agg #[v1,v2]∧IntSS B w v1 d.next∧Bools B w v2 d.ends
def NfaR (B:Nat) (w:World) (v:Value) (n:NfaD):Prop:=∃ v1 v2 v3,v = .agg #[.int .i64 n.states,v1,v2,v3]∧Moves B w v1 n.moves∧Ints B w v2 n.firsts∧Ints B w v3 n.ends ∧
 -9223372036854775808≤n.states∧n.states≤9223372036854775807
theorem DfaR.below {B:Nat} {w w':World} {v:Value} {d:DfaD} (h:DfaR B w v d) (he:Below w.heap.size w w'):DfaR B w' v d:=by obtain⟨v1,v2,hv,h1,h2⟩:=h;exact⟨v1,v2,hv,h1.below he,h2.below he⟩
theorem NfaR.below {B:Nat} {w w':World} {v:Value} {n:NfaD} (h:NfaR B w v n) (he:Below w.heap.size w w'):NfaR B w' v n:=by obtain⟨v1,v2,v3,hv,h1,h2,h3,h4⟩:=h;exact⟨v1,v2,v3,hv,h1.below he,h2.below he,h3.below he,h4⟩
def DfaO (tS tI tB lo hi:Nat) (w:World) (v:Value) (d:DfaD):Prop:=∃ v1 v2,v = .agg #[v1,v2]∧OIntSS tS tI lo hi w v1 d.next∧OBools tB lo hi w v2 d.ends
def NfaO (tM tI lo hi:Nat) (w:World) (v:Value) (n:NfaD):Prop:=∃ v1 v2 v3,v = .agg #[.int .i64 n.states,v1,v2,v3]∧OMoves tM lo hi w v1 n.moves∧OInts tI lo hi w v2 n.firsts∧OInts tI lo hi w v3 n.ends ∧
 -9223372036854775808≤n.states∧n.states≤9223372036854775807∧∀ k,v2.ownBlock=some k→v3.ownBlock≠some k
theorem DfaO.r {tS tI tB lo hi:Nat} {w:World} {v:Value} {d:DfaD} (h:DfaO tS tI tB lo hi w v d):DfaR lo w v d:=by obtain⟨v1,v2,hv,h1,h2⟩:=h;exact⟨v1,v2,hv,h1.intSS,h2.bools⟩
theorem NfaO.r {tM tI lo hi:Nat} {w:World} {v:Value} {n:NfaD} (h:NfaO tM tI lo hi w v n):NfaR lo w v n:=by obtain⟨v1,v2,v3,hv,h1,h2,h3,h4,h5,_⟩:=h;exact⟨v1,v2,v3,hv,h1.moves,h2.ints,h3.ints,h4,h5⟩
theorem Ints.mono {B B':Nat} {w:World} {v:Value} {xs:List Int} (h:Ints B w v xs) (hB:B'≤B):Ints B' w v xs:=Sl.mono h hB
theorem Bools.mono {B B':Nat} {w:World} {v:Value} {xs:List Bool} (h:Bools B w v xs) (hB:B'≤B):Bools B' w v xs:=Sl.mono h hB
theorem Pairs.mono {B B':Nat} {w:World} {v:Value} {xs:List (Int × Int)} (h:Pairs B w v xs) (hB:B'≤B):Pairs B' w v xs:=Sl.mono h hB
theorem Moves.mono {B B':Nat} {w:World} {v:Value} {xs:List (Int × Int × Int)} (h:Moves B w v xs) (hB:B'≤B):Moves B' w v xs:=Sl.mono h hB
theorem IntSS.mono {B B':Nat} {w:World} {v:Value} {xss:List (List Int)} (h:IntSS B w v xss) (hB:B'≤B):IntSS B' w v xss:=by obtain⟨vs,h1,h2⟩:=h;exact⟨vs,h1.mono hB,fun i hi=>Sl.mono (h2 i hi) hB⟩
theorem DfaR.mono {B B':Nat} {w:World} {v:Value} {d:DfaD} (h:DfaR B w v d) (hB:B'≤B):DfaR B' w v d:=by obtain⟨v1,v2,hv,h1,h2⟩:=h;exact⟨v1,v2,hv,h1.mono hB,Sl.mono h2 hB⟩
theorem NfaR.mono {B B':Nat} {w:World} {v:Value} {n:NfaD} (h:NfaR B w v n) (hB:B'≤B):NfaR B' w v n:=by obtain⟨v1,v2,v3,hv,h1,h2,h3,h4⟩:=h;exact⟨v1,v2,v3,hv,Sl.mono h1 hB,Sl.mono h2 hB,Sl.mono h3 hB,h4⟩
end Go.Proofs.Ytfanhfcamblghaa
namespace Go.Proofs.Ytfanhfcamblghaa
open Go.RowKit Go.Maps
section
variable {α:Type} [DecidableEq α]
def look (a:α):List (α × Value)→Option Value
 | []=>none
 | (b,v)::L=>if a=b then some v else look a L
def upd (a:α) (v:Value):List (α × Value)→List (α × Value)
 | []=>[(a,v)]
 | (b,u)::L=>if a=b then(a,v)::L else(b,u)::upd a v L
theorem Zgl {a:α} {L:List (α × Value)} (h:∀ p∈L,p.1≠a):look a L=none:=by
 induction L with
 | nil=>rfl
 | cons p L ih =>obtain⟨b,v⟩:=p;unfold look;rw[if_neg (fun e=>h (b,v) (by simp) e.symm)];exact ih fun q hq=>h q (by simp[hq])
theorem ZhB {a:α} {v:Value} {L:List (α × Value)} (hn:(L.map (·.1)).Nodup) {j:Nat} (h:L[j]? = some (a,v)):look a L=some v:=by
 induction L generalizing j with
 | nil=>simp at h
 | cons p L ih =>
  obtain⟨b,u⟩:=p;unfold look;simp only[List.map_cons,List.nodup_cons] at hn;cases j with
  | zero =>simp at h;rw[if_pos h.1.symm,h.2]
  | succ j =>
   simp at h;have hm:a∈L.map (·.1):=by have:=List.mem_of_getElem? h;exact List.mem_map.2 ⟨_,this,rfl⟩
   rw[if_neg (fun e:a=b=>hn.1 (by rw[← e];exact hm))];exact ih hn.2 h
theorem Zhj {a:α} {v:Value} {L:List (α × Value)} (h:∀ p∈L,p.1≠a):upd a v L=L++[(a,v)]:=by
 induction L with
 | nil=>rfl
 | cons p L ih =>obtain⟨b,u⟩:=p;unfold upd;rw[if_neg (fun e=>h (b,u) (by simp) e.symm),ih fun q hq=>h q (by simp[hq])];rfl
theorem ZkX {a:α} {u v:Value} {L:List (α × Value)} (hn:(L.map (·.1)).Nodup) {j:Nat} (h:L[j]? = some (a,u)):upd a v L=L.set j (a,v):=by
 induction L generalizing j with
 | nil=>simp at h
 | cons p L ih =>
  obtain⟨b,t⟩:=p;unfold upd;simp only[List.map_cons,List.nodup_cons] at hn;cases j with
  | zero =>simp at h;rw[if_pos h.1.symm];rfl
  | succ j =>
   simp at h;have hm:a∈L.map (·.1):=by have:=List.mem_of_getElem? h;exact List.mem_map.2 ⟨_,this,rfl⟩
   rw[if_neg (fun e:a=b=>hn.1 (by rw[← e];exact hm)),ih hn.2 h];rfl
theorem ZdJ {a:α} {v:Value} {L:List (α × Value)} {b:α}:b∈(upd a v L).map (·.1)↔b=a∨b∈L.map (·.1):=by
 induction L with
 | nil=>simp[upd]
 | cons p L ih =>
  obtain⟨c,u⟩:=p;unfold upd;by_cases h:a=c
  ·rw[if_pos h];subst h;simp
  rw[if_neg h];simp only[List.map_cons,List.mem_cons,ih];constructor
  ·rintro(h|h|h)<;>simp[h]
  rintro(h|h|h)<;>simp[h]
theorem Zgf {a:α} {v:Value} {L:List (α × Value)} (hn:(L.map (·.1)).Nodup):((upd a v L).map (·.1)).Nodup:=by
 induction L with
 | nil=>simp[upd]
 | cons p L ih =>
  obtain⟨c,u⟩:=p;simp only[List.map_cons,List.nodup_cons] at hn;unfold upd;by_cases h:a=c
  ·rw[if_pos h];subst h;simpa using hn
  rw[if_neg h];simp only[List.map_cons,List.nodup_cons];refine⟨fun hm => ?_,ih hn.2⟩;rcases ZdJ.1 hm with e|e
  ·exact h e.symm
  exact hn.1 e
theorem Zeb {a:α} {L:List (α × Value)}:(look a L).isSome=true↔a∈L.map (·.1):=by
 induction L with
 | nil=>simp[look]
 | cons p L ih =>
  obtain⟨c,u⟩:=p;unfold look;by_cases h:a=c
  ·simp[h]
  simp[h,ih]
def MapL (P:Program) (kt:TypeId) (enc:α→Value) (w:World) (b:Nat) (L:List (α × Value)):Prop :=
 (L.map (·.1)).Nodup∧(∀ p∈L,∃ l,keyOf P kt (enc p.1)=some l) ∧
 ∃ es clock,w.heap[b]? = some (.map es clock)∧es.toList.map (fun e=>(e.key,e.val))=L.map fun p=>(enc p.1,p.2)
variable {P:Program} {kt:TypeId} {enc:α→Value} {w:World} {b:Nat} {L:List (α × Value)}
omit [DecidableEq α] in
theorem MapL.lt (h:MapL P kt enc w b L):b<w.heap.size:=by obtain⟨_,_,es,clock,hb,_⟩:=h;exact(Array.getElem?_eq_some_iff.1 hb).1
omit [DecidableEq α] in
theorem MapL.kept {w':World} (h:MapL P kt enc w b L) (hk:w'.heap[b]? = w.heap[b]?):MapL P kt enc w' b L:=by obtain⟨h1,h2,es,clock,hb,h3⟩:=h;exact⟨h1,h2,es,clock,hk.trans hb,h3⟩
omit [DecidableEq α] in
theorem MapL.below {w':World} (h:MapL P kt enc w b L) (hb:Below w.heap.size w w'):MapL P kt enc w' b L:=h.kept (hb.block b h.lt)
omit [DecidableEq α] in
theorem MapL.made (w:World):MapL P kt enc (w.alloc (.map #[] 0)) w.heap.size ([]:List (α × Value)) :=
 ⟨by simp,by simp,#[],0,heap_alloc_new w _,rfl⟩
omit [DecidableEq α] in
theorem ZiX {es:List MapEntry} {L:List (α × Value)} (h:es.map (fun e=>(e.key,e.val))=L.map fun p=>(enc p.1,p.2)) {j:Nat} {e:MapEntry} (he:es[j]? = some e) :
  ∃ p,L[j]? = some p∧e.key=enc p.1∧e.val=p.2:=by
 have h1:=congrArg (fun l=>l[j]?) h;simp only[List.getElem?_map,he,Option.map_some] at h1;cases hp:L[j]? with
 | none=>rw[hp] at h1;simp at h1
 | some p =>rw[hp] at h1;simp at h1;exact⟨p,rfl,h1.1,h1.2⟩
theorem MapL.find (h:MapL P kt enc w b L) (K:Keyed P kt) (hi:∀ x y:α,enc x=enc y→x=y) {a:α} {l:Lit} (ha:keyOf P kt (enc a)=some l) {es:Array MapEntry} {clock:Nat} (hb:w.heap[b]? = some (.map es clock)) :
  ((Instr.findKey kt (enc a) es.toList).run P w = .ok none w∧look a L=none∧∀ p∈L,p.1≠a) ∨
    ∃ j v,(Instr.findKey kt (enc a) es.toList).run P w = .ok (some (j,v)) w∧L[j]? = some (a,v)∧look a L=some v:=by
 obtain⟨h1,h2,es',clock',hb',h3⟩:=h;rw[hb] at hb';simp only[w_9,Obj.map.injEq] at hb';obtain⟨rfl,rfl⟩:=hb';have hall:∀ e∈es.toList,∃ l,keyOf P kt e.key=some l:=fun e he=>by obtain⟨j,hj,rfl⟩:=List.mem_iff_getElem.1 he;obtain⟨p,hp,hk,_⟩:=ZiX h3 (j:=j) (e:=es.toList[j]) (by simp);rw[hk];exact h2 p (List.mem_of_getElem? hp)
 rcases K.find w ha es.toList hall with⟨hr,hne⟩|⟨j,e,hr,hj,hk⟩
 ·have hm:∀ p∈L,p.1≠a:=fun p hp hpa=>by
   have hmem:(enc p.1,p.2)∈L.map fun p=>(enc p.1,p.2):=List.mem_map.2 ⟨p,hp,rfl⟩
   rw[← h3] at hmem;obtain⟨e,he,heq⟩:=List.mem_map.1 hmem;simp only[Prod.mk.injEq] at heq;exact hne e he (by rw[heq.1,hpa])
  exact .inl ⟨hr,Zgl hm,hm⟩
 obtain⟨p,hp,hpk,hpv⟩:=ZiX h3 hj;have hpa:p.1=a:=hi _ _ (by rw[← hpk,hk]);have hpj:L[j]? = some (a,e.val):=by rw[hp,← hpa,hpv]
 exact .inr ⟨j,e.val,hr,hpj,ZhB h1 hpj⟩
theorem MapL.lookup (h:MapL P kt enc w b L) (K:Keyed P kt) (hi:∀ x y:α,enc x=enc y→x=y) {t e:TypeId} (ht:P.underlying t=some (.map kt e)) {z:Value} (hz:(zeroValue e).run P w = .ok z w)
  {a:α} {l:Lit} (ha:keyOf P kt (enc a)=some l):(Instr.lookup t (.map (some b)) (enc a) false).run P w = .ok ((look a L).getD z) w:=by
 obtain⟨es,clock,hb,-⟩:=h.2.2;have hc:=K.check w es.isEmpty ha;rcases h.find K hi ha hb with⟨hr,hl,-⟩|⟨j,v,hr,-,hl⟩
 ·rw[hl];simp[Instr.lookup,run_underlying ht,getObj,hb,hc,hr,hz,Result.andThen,Sem.run]
 rw[hl];simp[Instr.lookup,run_underlying ht,getObj,hb,hc,hr,Result.andThen,Sem.run]
theorem MapL.lookupOk (h:MapL P kt enc w b L) (K:Keyed P kt) (hi:∀ x y:α,enc x=enc y→x=y) {t e:TypeId} (ht:P.underlying t=some (.map kt e)) {z:Value} (hz:(zeroValue e).run P w = .ok z w)
  {a:α} {l:Lit} (ha:keyOf P kt (enc a)=some l):(Instr.lookup t (.map (some b)) (enc a) true).run P w = .ok (.tuple #[(look a L).getD z,.bool (look a L).isSome]) w:=by
 obtain⟨es,clock,hb,-⟩:=h.2.2;have hc:=K.check w es.isEmpty ha;rcases h.find K hi ha hb with⟨hr,hl,-⟩|⟨j,v,hr,-,hl⟩
 ·rw[hl];simp[Instr.lookup,run_underlying ht,getObj,hb,hc,hr,hz,Result.andThen,Sem.run]
 rw[hl];simp[Instr.lookup,run_underlying ht,getObj,hb,hc,hr,Result.andThen,Sem.run]
theorem MapL.store (h:MapL P kt enc w b L) (K:Keyed P kt) (hi:∀ x y:α,enc x=enc y→x=y) {t e:TypeId} (ht:P.underlying t=some (.map kt e))
  {a:α} {l:Lit} (ha:keyOf P kt (enc a)=some l) (v:Value):∃ w',(Instr.mapUpdate t (.map (some b)) (enc a) v).run P w = .ok () w'∧MapL P kt enc w' b (upd a v L)∧w.grownBy w' (some b):=by
 have h':=h;obtain⟨h1,h2,es,clock,hb,h3⟩:=h;have hc:=K.check w false ha;have hlt:=(Array.getElem?_eq_some_iff.1 hb).1
 have hkeys:∀ p∈upd a v L,∃ l,keyOf P kt (enc p.1)=some l:=fun p hp=>by
  rcases ZdJ.1 (List.mem_map.2 ⟨p,hp,rfl⟩:p.1∈(upd a v L).map (·.1)) with e|e
  ·rw[e];exact⟨l,ha⟩
  obtain⟨q,hq,hqe⟩:=List.mem_map.1 e;rw[← hqe];exact h2 q hq
 have hgrow:∀ o:Obj,w.grownBy { w with heap:=w.heap.setIfInBounds b o } (some b):=fun o =>
  ⟨rfl,rfl,rfl,by simp,fun k _ hk=>by show(w.heap.setIfInBounds b o)[k]? = _;rw[Array.getElem?_setIfInBounds_ne (fun e=>hk (by rw[e]))]⟩
 have hnew:∀ o:Obj,(w.heap.setIfInBounds b o)[b]? = some o:=fun o=>by simp[hlt]
 rcases h'.find K hi ha hb with⟨hr,hl,hm⟩|⟨j,u,hr,hj,hl⟩
 ·refine⟨{ w with heap:=w.heap.setIfInBounds b (.map (es.push { key:=enc a,val:=v,born:=clock }) (clock+1)) },?_,⟨Zgf h1,hkeys,_,_,hnew _,?_⟩,hgrow _⟩
  ·simp[Instr.mapUpdate,run_underlying ht,getObj,hb,hc,hr,setObj,Result.andThen,Sem.run]
  rw[Zhj hm];simp[h3]
 have hs:=K.stays w ha
 have hje:∃ e,es[j]? = some e∧e.key=enc a:=by
  have h4:=congrArg (fun l=>l[j]?) h3;simp only[List.getElem?_map,hj,Option.map_some] at h4;cases he:es.toList[j]? with
  | none=>rw[he] at h4;simp at h4
  | some e =>rw[he] at h4;simp at h4;exact⟨e,by simpa using he,h4.1⟩
 obtain⟨e,hje,hek⟩:=hje;refine⟨{ w with heap:=w.heap.setIfInBounds b (.map (es.modify j fun e=>{ e with key:=enc a,val:=v }) clock) },?_,⟨Zgf h1,hkeys,_,_,hnew _,?_⟩,hgrow _⟩
 ·simp[Instr.mapUpdate,run_underlying ht,getObj,hb,hc,hr,hje,hek,hs,setObj,Result.andThen,Sem.run]
 rw[ZkX h1 hj];apply List.ext_getElem?;intro i;have h4:=congrArg (fun l=>l[i]?) h3;simp only[List.getElem?_map] at h4 ⊢;by_cases hij:j=i
 ·subst hij;have hjl:j<L.length:=(List.getElem?_eq_some_iff.1 hj).1;have hjes:j<es.size:=(Array.getElem?_eq_some_iff.1 hje).1;simp[hjl,hjes]
 simp only[List.getElem?_set_ne hij];rw[← h4];simp[hij]
end
end Go.Proofs.Ytfanhfcamblghaa
namespace Go.Proofs.Ytfanhfcamblghaa
open Go.RowKit
def ZbI (w:World) (row:Option Nat) (e:TypeId):Prop:=∀ k,row=some k→∀ cur fr,w.heap[k]? ≠ some (.cells cur e fr)
def ZdX (w:World) (row:Option Nat):Prop:=∀ k,row=some k→∃ cur e fr,w.heap[k]? = some (.cells cur e fr)
theorem Za6 {w:World} {base e size n:Nat} {v:Value} {cs:List Value} (h:w.ownsRow base e size v n cs) {k:Nat} (hk:v.ownBlock=some k):∃ cur,w.heap[k]? = some (.cells cur e (0,0)):=by
 rcases h.2 with⟨rfl,_⟩|⟨g,cap,cur,rfl,_,hg,_⟩
 ·cases hk
 have:g=k:=by simpa [Value.ownBlock] using hk
 subst this;exact⟨cur,hg⟩
theorem Zaj {w:World} {base e size n:Nat} {v:Value} {cs:List Value} (h:w.ownsRow base e size v n cs) {e':Nat} (hne:e≠e'):ZbI w v.ownBlock e':=fun k hk cur fr hh=>by obtain⟨c,hc⟩:=Za6 h hk;rw[hc] at hh;simp only[w_9,Obj.cells.injEq] at hh;exact hne hh.2.1
theorem Zby {w:World} {base e size n:Nat} {v:Value} {cs:List Value} (h:w.ownsRow base e size v n cs):ZdX w v.ownBlock:=fun k hk=>by obtain⟨c,hc⟩:=Za6 h hk;exact⟨_,_,_,hc⟩
theorem Bx.apart {w:World} {b:Nat} {cs:Array Value} {T e':TypeId} (h:Bx w b cs T) (hne:T≠e'):ZbI w (some b) e':=fun k hk cur fr hh=>by cases hk;unfold Bx at h;rw[h] at hh;simp only[w_9,Obj.cells.injEq] at hh;exact hne hh.2.1
theorem Bx.cells {w:World} {b:Nat} {cs:Array Value} {T:TypeId} (h:Bx w b cs T):ZdX w (some b):=fun k hk=>by cases hk;exact⟨_,_,_,h⟩
theorem MapL.apart {α:Type} {P:Program} {kt e':TypeId} {enc:α→Value} {w:World} {b:Nat} {L:List (α × Value)} (h:MapL P kt enc w b L):ZbI w (some b) e':=fun k hk cur fr hh=>by cases hk;obtain⟨_,_,es,clock,hb,_⟩:=h;rw[hb] at hh;cases hh
theorem Zae {w w':World} {base e size n:Nat} {v:Value} {cs:List Value} {row:Option Nat} (h:w.ownsRow base e size v n cs) (hg:w.grownBy w' row) (ha:ZbI w row e):w'.ownsRow base e size v n cs:=by
 have hk:∀ k,v.ownBlock=some k→w'.heap[k]? = w.heap[k]?:=fun k hk=>by obtain⟨cur,hc⟩:=Za6 h hk;exact hg.block k (h.lt k hk).2 fun hr=>ha k hr.symm _ _ hc
 exact(Own.kept (Zaa h) hk).1
theorem Own.grown {lo hi:Nat} {w w':World} {e size:Nat} {v:Value} {n:Nat} {cs:List Value} {row:Option Nat} (h:Own lo hi w e size v n cs) (hg:w.grownBy w' row) (ha:ZbI w row e):Own lo hi w' e size v n cs :=
 ⟨Zae h.1 hg ha,h.2⟩
theorem OIntSS.grown {es e lo hi:Nat} {w w':World} {v:Value} {xss:List (List Int)} {row:Option Nat} (h:OIntSS es e lo hi w v xss) (hg:w.grownBy w' row) (h1:ZbI w row es) (h2:ZbI w row e):OIntSS es e lo hi w' v xss:=by obtain⟨vs,a,b,c⟩:=h;exact⟨vs,a.grown hg h1,fun i hi=>Own.grown (b i hi) hg h2,c⟩
theorem Bx.grown {w w':World} {b:Nat} {cs:Array Value} {T:TypeId} {row:Option Nat} (h:Bx w b cs T) (hg:w.grownBy w' row) (ha:ZbI w row T):Bx w' b cs T :=
 (hg.block b h.lt fun hr=>ha b hr.symm _ _ h).trans h
theorem MapL.grown {α:Type} {P:Program} {kt:TypeId} {enc:α→Value} {w w':World} {b:Nat} {L:List (α × Value)} {row:Option Nat} (h:MapL P kt enc w b L) (hg:w.grownBy w' row) (ha:ZdX w row):MapL P kt enc w' b L :=
 h.kept (hg.block b h.lt fun hr=>by obtain⟨cur,e,fr,hc⟩:=ha b hr.symm;obtain⟨_,_,es,clock,hb,_⟩:=h;rw[hb] at hc;cases hc)
theorem ZaS (w:World) (b j:Nat) (v:Value):w.grownBy (w.setCell ⟨b,j,none⟩ v) (some b) :=
 ⟨rfl,rfl,rfl,by simp[World.setCell],fun k _ hk=>Below.heap_setCell _ _ _ _ (fun e=>hk (by rw[e]))⟩
theorem OIntSS.far {es e lo hi:Nat} {w:World} {v:Value} {xss:List (List Int)} (h:OIntSS es e lo hi w v xss) {b:Nat} (hb:hi≤b) (j:Nat) (u:Value):OIntSS es e lo hi (w.setCell ⟨b,j,none⟩ u) v xss :=
 h.kept fun k _ h2 _=>Below.heap_setCell _ _ _ _ (show k≠b by omega)
theorem OIntSS.snoc {es e lo hi:Nat} {w w':World} {v v' rv:Value} {xss:List (List Int)} {vs:List Value} {x:List Int} {lr hr:Nat}
  (h1:Own lo hi w es 1 v xss.length vs) (h2:∀ i,i<xss.length→OInts e lo hi w (vs.getD i undef) (xss.getD i []))
  (h3:∀ i j k,i<j→j<xss.length→(vs.getD i undef).ownBlock=some k→(vs.getD j undef).ownBlock≠some k)
  (hrow:OInts e lr hr w rv x) (hlr:hi≤lr) (hlo:lo≤lr) (hne:es≠e) (hg:w.grownBy w' v.ownBlock) (hown:w'.ownsRow lo es 1 v' (xss.length+1) (vs++[rv])) :
  OIntSS es e lo w'.heap.size w' v' (xss++[x]):=by
 have hl:vs.length=xss.length:=by have:=h1.1.1;omega
 have ha:ZbI w v.ownBlock e:=Zaj h1.1 hne;have hget:∀ i,i<xss.length→(vs++[rv]).getD i undef=vs.getD i undef:=fun i hi=>by simp only[List.getD_eq_getElem?_getD];rw[List.getElem?_append_left (by omega)]
 have hgetn:(vs++[rv]).getD xss.length undef=rv:=by simp[← hl]
 refine⟨vs++[rv],?_,fun i hi => ?_,fun i j k hij hj hk => ?_⟩
 ·rw[List.length_append];exact Zaa hown
 ·rw[List.length_append,List.length_singleton] at hi;by_cases hin:i<xss.length
  ·rw[hget i hin];have e2:(xss++[x]).getD i []=xss.getD i []:=by simp only[List.getD_eq_getElem?_getD];rw[List.getElem?_append_left hin]
   rw[e2];exact Zaa (Own.grown (h2 i hin) hg ha).1
  obtain rfl:i=xss.length:=by omega
  rw[hgetn];have e2:(xss++[x]).getD xss.length []=x:=by simp
  rw[e2];exact Own.mono (Zaa (Own.grown hrow hg ha).1) hlo (Nat.le_refl _)
 rw[List.length_append,List.length_singleton] at hj;rw[hget i (by omega)] at hk;by_cases hjn:j<xss.length
 ·rw[hget j hjn];exact h3 i j k hij hjn hk
 obtain rfl:j=xss.length:=by omega
 rw[hgetn];intro hk2;have a1:=(Own.lt (h2 i hij) k hk).2.1;have a2:=(Own.lt hrow k hk2).1;omega
theorem ZgX {w:World} {b n size e base:Nat} {cs:List Value} (h:w.heap[b]? = some (.cells cs.toArray e (0,0))) (hl:cs.length=n*size) (hb:base≤b) (hn:n≤maxLen):w.ownsRow base e size (.slice (some ⟨b,0,none⟩) n n) n cs :=
 ⟨hl,.inr ⟨b,n,cs.toArray,rfl,hb,h,Nat.le_refl _,hn,by simpa using hl,by simp[← hl]⟩⟩
end Go.Proofs.Ytfanhfcamblghaa
