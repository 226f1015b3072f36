/-
  Automata with choices, plain: sets of states as numbers (bit s: state s is in), closing, steps.
  No condition: this text speaks of no program.
  A region that draws its order, by an invariant: one step for each operation in the place of one way for each order.
  No condition: this text speaks of no program.
  When nothing is ready, everything is listed: regions with late stores.
  No condition.
-/
import Derived.Test.YtfikabecgaappaaGreatPb02Nvs
set_option maxRecDepth 100000
namespace Go.Proofs.YtfikabecgaappaaGreat
open Go.RowKit
def adj (v s:Nat):Nat:=v ||| 2 ^ s
theorem Zcq (v s t:Nat):(adj v s).testBit t=(v.testBit t||decide (s=t)):=by unfold adj;rw[Nat.testBit_or,Nat.testBit_two_pow]
theorem Zm5 {v s n:Nat} (hv:v<2 ^ n) (hs:s<n):adj v s<2 ^ n:=Nat.or_lt_two_pow hv (Nat.pow_lt_pow_right (by omega) hs)
def flags (n v:Nat):List Bool:=(List.range n).map v.testBit
def setV (l:List Int):Nat:=l.foldl (fun v s=>adj v s.toNat) 0
theorem ZbO {α β:Type} (f:β→α→β) (b:β) {l:List α} {k:Nat} (hk:k<l.length) (d:α):(l.take (k+1)).foldl f b=f ((l.take k).foldl f b) (l.getD k d):=by rw[List.take_succ_eq_append_getElem hk,List.foldl_append];simp[hk]
theorem ZbG {α β:Type} (f:β→α→β) (Q:β→Prop) {l:List α} (hf:∀ b,∀ x∈l,Q b→Q (f b x)):∀ {b:β},Q b→Q (l.foldl f b):=by
 induction l with
 | nil=>intro b h;exact h
 | cons x l ih=>intro b h;exact ih (fun b y hy=>hf b y (by simp[hy])) (hf b x (by simp) h)
theorem ZbT {α β:Type} (f:β→α→β) (Q:β→Prop) {l:List α} (hf:∀ b,∀ x∈l,Q b→Q (f b x)) {b:β} (h:Q b) (k:Nat):Q ((l.take k).foldl f b) :=
 ZbG f Q (fun b x hx=>hf b x (List.mem_of_mem_take hx)) h
def inN (n:Nat) (l:List Int):Prop:=∀ s∈l,0≤s∧s<(n:Int)
theorem Zck {n:Nat} {l:List Int} (h:inN n l):setV l<2 ^ n :=
 ZbG _ (fun v=>v<2 ^ n) (fun v s hs hv=>Zm5 hv (by have:=h s hs;omega)) (Nat.two_pow_pos n)
def mvIn (n:Nat) (ms:List (Int × Int × Int)):Prop:=∀ m∈ms,(0≤m.1∧m.1<(n:Int))∧(0≤m.2.2∧m.2.2<(n:Int))
def Zat (v:Nat) (m:Int × Int × Int):Nat:=if (decide (m.2.1 = -1)&&v.testBit m.1.toNat && !v.testBit m.2.2.toNat)=true then adj v m.2.2.toNat else v
def ZiS (ms:List (Int × Int × Int)) (v:Nat):Nat:=ms.foldl Zat v
def clIt (ms:List (Int × Int × Int)) (v:Nat):Nat→Nat
 | 0=>v
 | k+1=>ZiS ms (clIt ms v k)
def clV (n:Nat) (ms:List (Int × Int × Int)) (v:Nat):Nat:=clIt ms v n
def ZaT (v:Nat) (c:Int) (u:Nat) (m:Int × Int × Int):Nat:=if (decide (m.2.1=c)&&v.testBit m.1.toNat)=true then adj u m.2.2.toNat else u
def stV (n:Nat) (ms:List (Int × Int × Int)) (v:Nat) (c:Int):Nat:=clV n ms (ms.foldl (ZaT v c) 0)
theorem Zgt {n:Nat} {ms:List (Int × Int × Int)} (h:mvIn n ms) {m:Int × Int × Int} (hm:m∈ms) {v:Nat} (hv:v<2 ^ n):Zat v m<2 ^ n:=by
 unfold Zat
 split
 ·exact Zm5 hv (by have:=(h m hm).2;omega)
 exact hv
theorem ZmO {n:Nat} {ms:List (Int × Int × Int)} (h:mvIn n ms) {v:Nat} (hv:v<2 ^ n):ZiS ms v<2 ^ n:=ZbG _ (fun v=>v<2 ^ n) (fun _ _ hm hv=>Zgt h hm hv) hv
theorem Zc8 {n:Nat} {ms:List (Int × Int × Int)} (h:mvIn n ms) {v:Nat} (hv:v<2 ^ n):∀ k,clIt ms v k<2 ^ n
 | 0=>hv
 | k+1=>ZmO h (Zc8 h hv k)
theorem Zci {n:Nat} {ms:List (Int × Int × Int)} (h:mvIn n ms) {m:Int × Int × Int} (hm:m∈ms) {v u:Nat} {c:Int} (hu:u<2 ^ n):ZaT v c u m<2 ^ n:=by
 unfold ZaT
 split
 ·exact Zm5 hu (by have:=(h m hm).2;omega)
 exact hu
theorem Zig {n:Nat} {ms:List (Int × Int × Int)} (h:mvIn n ms) (v:Nat) (c:Int):stV n ms v c<2 ^ n :=
 Zc8 h (ZbG _ (fun v=>v<2 ^ n) (fun _ _ hm hv=>Zci h hm hv) (Nat.two_pow_pos n)) n
def clr (n v:Nat):Nat:=((List.range n).filter fun i => !v.testBit i).length
theorem ZiN {α:Type} {p q:α→Bool}:∀ {l:List α},(∀ x∈l,p x=true→q x=true)→(l.filter p).length≤(l.filter q).length
 | [],_=>by simp
 | x::l,h=>by
  have ih:=ZiN (l:=l) fun y hy=>h y (by simp[hy])
  have hx:=h x (by simp);simp only[List.filter_cons];by_cases hp:p x=true
  ·rw[if_pos hp,if_pos (hx hp)];simp;omega
  rw[if_neg hp]
  split<;>simp<;>omega
theorem Zee {α:Type} {p q:α→Bool} {a:α} (hp:p a=false) (hq:q a=true):∀ {l:List α},a∈l→(∀ x∈l,p x=true→q x=true)→(l.filter p).length<(l.filter q).length
 | [],h,_=>by simp at h
 | x::l,ha,h=>by
  have hle:=ZiN (l:=l) fun y hy=>h y (by simp[hy])
  simp only[List.filter_cons];by_cases hx:a=x
  ·subst hx;rw[if_neg (by simp[hp]),if_pos hq];simp;omega
  have ih:=Zee hp hq (l:=l) (by simpa [hx] using ha) fun y hy=>h y (by simp[hy])
  have hxx:=h x (by simp);by_cases hpx:p x=true
  ·rw[if_pos hpx,if_pos (hxx hpx)];simp;omega
  rw[if_neg hpx]
  split<;>simp<;>omega
theorem ZmK (n v:Nat):clr n v≤n:=by have:=List.length_filter_le (fun i => !v.testBit i) (List.range n);simpa [clr] using this
theorem ZoU {n v s:Nat} (hs:s<n) (h:v.testBit s=false):clr n (adj v s)<clr n v:=by
 unfold clr;refine Zee (a:=s) (by simp[Zcq]) (by simp[h]) (by simpa using hs) fun x _ hx => ?_
 rw[Zcq] at hx;simp at hx ⊢;exact hx.1
theorem ZeJ {n:Nat} {m:Int × Int × Int} (hm:0≤m.2.2∧m.2.2<(n:Int)) (v:Nat):Zat v m=v∨clr n (Zat v m)<clr n v:=by
 unfold Zat
 split
 ·rename_i h;simp only[Bool.and_eq_true,Bool.not_eq_true'] at h;exact .inr (ZoU (by omega) h.2)
 exact .inl rfl
theorem ZcT {n:Nat}:∀ {ms:List (Int × Int × Int)},(∀ m∈ms,0≤m.2.2∧m.2.2<(n:Int))→∀ v,ms.foldl Zat v=v∨clr n (ms.foldl Zat v)<clr n v
 | [],_,v => .inl rfl
 | m::ms,h,v=>by
  have h1:=ZeJ (h m (by simp)) v;have h2:=ZcT (ms:=ms) (fun m hm=>h m (by simp[hm])) (Zat v m);simp only[List.foldl_cons];rcases h1 with h1|h1
  ·rw[h1] at h2 ⊢;exact h2
  rcases h2 with h2|h2
  ·rw[h2];exact .inr h1
  exact .inr (Nat.lt_trans h2 h1)
theorem Zej {ms:List (Int × Int × Int)} {v j:Nat} (h:clIt ms v (j+1)=clIt ms v j):∀ k,j≤k→clIt ms v k=clIt ms v j
 | 0,hk=>by obtain rfl:j=0:=by omega
            rfl
 | k+1,hk=>by
  by_cases e:j=k+1
  ·subst e;rfl
  have ih:=Zej h k (by omega);show ZiS ms (clIt ms v k)=_;rw[ih];exact h
theorem Zek {n:Nat} {ms:List (Int × Int × Int)} (h:mvIn n ms) (v:Nat):∀ k,clIt ms v (k+1)=clIt ms v k∨clr n (clIt ms v (k+1))+(k+1)≤clr n v
 | 0=>by
  rcases ZcT (n:=n) (ms:=ms) (fun m hm=>(h m hm).2) v with e|e
  ·exact .inl e
  exact .inr (by show clr n (ZiS ms v)+1≤_;exact e)
 | k+1=>by
  rcases Zek h v k with e|e
  ·left;have:=Zej e (k+1+1) (by omega);rw[this,e]
  rcases ZcT (n:=n) (ms:=ms) (fun m hm=>(h m hm).2) (clIt ms v (k+1)) with e2|e2
  ·exact .inl e2
  right;have:clr n (clIt ms v (k+1+1))<clr n (clIt ms v (k+1)):=e2;omega
theorem Zon {n:Nat} {ms:List (Int × Int × Int)} (h:mvIn n ms) {v j:Nat} (hj:clIt ms v (j+1)=clIt ms v j):clV n ms v=clIt ms v j:=by
 unfold clV;by_cases hjn:j≤n
 ·exact Zej hj n hjn
 rcases Zek h v n with e|e
 ·exact(Zej e j (by omega)).symm
 have:=ZmK n v;omega
theorem Zdy {n:Nat} {ms:List (Int × Int × Int)} (h:mvIn n ms) {v k:Nat} (hk:clIt ms v (k+1)≠clIt ms v k):k<n:=by
 rcases Zek h v k with e|e
 ·exact absurd e hk
 have:=ZmK n v;omega
theorem ZiT {n:Nat} {ms:List (Int × Int × Int)} (h:mvIn n ms) {v:Nat} {k:Nat} (hk:k<ms.length) (hne:Zat ((ms.take k).foldl Zat v) (ms.getD k (0,0,0))≠(ms.take k).foldl Zat v):(ms.take (k+1)).foldl Zat v≠v:=by
 have h1:=ZcT (n:=n) (ms:=ms.take k) (fun m hm=>(h m (List.mem_of_mem_take hm)).2) v;have hmem:ms.getD k (0,0,0)∈ms:=by rw[List.getD_eq_getElem?_getD,List.getElem?_eq_getElem hk];simp
 have h2:=ZeJ (n:=n) (h _ hmem).2 ((ms.take k).foldl Zat v);rw[ZbO Zat v hk (0,0,0)];intro e;rcases h2 with h2|h2
 ·exact hne h2
 rw[e] at h2;rcases h1 with h1|h1
 ·rw[h1] at h2;omega
 omega
theorem ZdE {n:Nat} {ms:List (Int × Int × Int)} (h:mvIn n ms) {v:Nat} {k:Nat} (hk:k<ms.length) (hne:(ms.take k).foldl Zat v≠v):(ms.take (k+1)).foldl Zat v≠v:=by
 have h1:=ZcT (n:=n) (ms:=ms.take k) (fun m hm=>(h m (List.mem_of_mem_take hm)).2) v;have hmem:ms.getD k (0,0,0)∈ms:=by rw[List.getD_eq_getElem?_getD,List.getElem?_eq_getElem hk];simp
 have h2:=ZeJ (n:=n) (h _ hmem).2 ((ms.take k).foldl Zat v);rw[ZbO Zat v hk (0,0,0)];rcases h1 with h1|h1
 ·exact absurd h1 hne
 rcases h2 with h2|h2
 ·rw[h2];exact hne
 intro e;rw[e] at h2;omega
end Go.Proofs.YtfikabecgaappaaGreat
namespace Go.Proofs.YtfikabecgaappaaGreat
open Go.RowKit
theorem offL {x p q:Bool} (h:x=true→p=true∧q=true) (hp:p=false):x=false:=by
 cases x with
 | false=>rfl
 | true=>rw[hp] at h;exact absurd (h rfl).1 (by decide)
theorem offR {x p q:Bool} (h:x=true→p=true∧q=true) (hq:q=false):x=false:=by
 cases x with
 | false=>rfl
 | true=>rw[hq] at h;exact absurd (h rfl).2 (by decide)
section
variable {P:Program} {ops:Array Oper} {Q:Exit→Act→World→Prop} {md:Region.Mode}
def unl (n:Nat) (listed:Array Bool):Nat:=((List.range n).filter fun i => !listed.getD i true).length
theorem Zla (n:Nat) (listed:Array Bool):unl n listed≤n:=by unfold unl;have:=List.length_filter_le (fun i => !listed.getD i true) (List.range n);simpa using this
theorem Zk9 {n i:Nat} {listed:Array Bool} (hi:i<n) (h:listed.getD i true=false):unl n (listed.setIfInBounds i true)<unl n listed:=by
 refine Zee (a:=i) ?_ (by simp only[h];rfl) (List.mem_range.2 hi) fun x _ hx => ?_
 ·simp only[Bool.not_eq_false'];rcases Nat.lt_or_ge i listed.size with h1|h1
  ·simp[h1]
  simp[Array.getElem?_eq_none h1] at h
 by_cases hxi:i=x
 ·subst hxi;simp only[h];rfl
 simpa [hxi] using hx
theorem ZdS (Inv:Array Bool→Act→World→Prop) (hstep:∀ listed a w,Inv listed a w→∀ i∈Region.ready md ops listed,wpOp P ops Q i (Inv (listed.setIfInBounds i true)) a w)
  (hdone:∀ listed a w,Inv listed a w→Region.ready md ops listed=[]→Q .normal a w):∀ (fuel:Nat) (listed:Array Bool) (a:Act) (w:World),unl ops.size listed≤fuel→Inv listed a w→wpAny P md ops Q fuel listed a w
 | 0,listed,a,w,hf,h=>by
  have hr:Region.ready md ops listed=[]:=by
   refine List.eq_nil_iff_forall_not_mem.2 fun i hi => ?_
   obtain⟨hun,o,ho,-⟩:=mem_ready.1 hi;have:=Zk9 (n:=ops.size) (Array.getElem?_eq_some_iff.1 ho).1 hun;omega
  exact⟨hr,hdone _ _ _ h hr⟩
 | fuel+1,listed,a,w,hf,h=>⟨fun h0=>hdone _ _ _ h h0,fun i hi=>wpOp_mono (fun a' w' h'=>ZdS Inv hstep hdone fuel _ a' w' (by obtain⟨hun,o,ho,-⟩:=mem_ready.1 hi;have:=Zk9 (n:=ops.size) (Array.getElem?_eq_some_iff.1 ho).1 hun;omega) h') (hstep _ _ _ h i hi)⟩
theorem Zaq (Inv:Act→Array Bool→Act→World→Prop) {a:Act} {w:World} (hstep:∀ listed b w,Inv a listed b w→∀ i∈Region.ready md ops listed,wpOp P ops Q i (Inv a (listed.setIfInBounds i true)) b w)
  (hdone:∀ listed b w,Inv a listed b w→Region.ready md ops listed=[]→Q .normal b w) (h0:Inv a (Array.replicate ops.size false) a w):wpAny P md ops Q ops.size (Array.replicate ops.size false) a w :=
 ZdS (Inv a) hstep hdone _ _ _ _ (Zla _ _) h0
def Zkk (ops:Array Oper):Bool:=(List.range ops.size).all fun i=>match ops[i]? with
 | some o=>o.after.all fun e=>decide (e.on<i)
 | none=>true
theorem Za7 {listed:Array Bool} (hd:Zkk ops=true) (hs:listed.size=ops.size) (hr:Region.ready md ops listed=[]):∀ i,i<ops.size→listed.getD i true=true:=by
 intro i
 induction i using Nat.strongRecOn with
 | ind i ih =>
  intro hi;cases h:listed.getD i true with
  | true=>rfl
  | false =>
   exfalso
   have hmem:i∈Region.ready md ops listed:=by
    refine mem_ready.2 ⟨h,ops[i],by simp[hi],fun e he _ => ?_⟩;simp only[Zkk,List.all_eq_true,List.mem_range] at hd;have h1:=hd i hi;simp only[Array.getElem?_eq_getElem hi] at h1;have h2:e.on<i:=by have:=(Array.all_eq_true_iff_forall_mem.1 h1) e he;simpa using this
    have h3:=ih e.on h2 (by omega);have h4:e.on<listed.size:=by omega
    simpa [h4] using h3
   rw[hr] at hmem;cases hmem
end
end Go.Proofs.YtfikabecgaappaaGreat
namespace Go.Proofs.YtfikabecgaappaaGreat
open Go.RowKit
section
variable {ops:Array Oper} {md:Region.Mode}
def ZiR (md:Region.Mode) (ops:Array Oper):Bool:=(List.range ops.size).all fun i=>match ops[i]? with
 | some o=>o.after.all fun e => !Region.binds md e||decide (e.on<i)
 | none=>true
theorem Zaw {listed:Array Bool} (hd:ZiR md ops=true) (hs:listed.size=ops.size) (hr:Region.ready md ops listed=[]):∀ i,i<ops.size→listed.getD i true=true:=by
 intro i
 induction i using Nat.strongRecOn with
 | ind i ih =>
  intro hi;cases h:listed.getD i true with
  | true=>rfl
  | false =>
   exfalso
   have hmem:i∈Region.ready md ops listed:=by
    refine mem_ready.2 ⟨h,ops[i],by simp[hi],fun e he hbd => ?_⟩;simp only[ZiR,List.all_eq_true,List.mem_range] at hd;have h1:=hd i hi;simp only[Array.getElem?_eq_getElem hi] at h1;have h2:e.on<i:=by have:=(Array.all_eq_true_iff_forall_mem.1 h1) e he;rw[hbd] at this;simpa using this
    have h3:=ih e.on h2 (by omega);have h4:e.on<listed.size:=by omega
    simpa [h4] using h3
   rw[hr] at hmem;cases hmem
end
end Go.Proofs.YtfikabecgaappaaGreat
namespace Go.Proofs.YtfikabecgaappaaGreat
open Go.RowKit Go.Maps
theorem Zhk {l:List Int} {m:Int} (h:stOk l m=true) {j:Nat} (hj:j<l.length):(0≤l.getD j 0∧l.getD j 0≤m-1)∧(0<j→l.getD (j-1) 0<l.getD j 0):=by
 unfold stOk at h;rw[List.all_eq_true] at h;have h1:=h j (List.mem_range.2 hj);unfold okAt at h1;rw[Bool.and_eq_true,Bool.or_eq_true] at h1;obtain⟨h1,h2⟩:=h1;refine⟨by simpa [inB] using h1,fun h0 => ?_⟩;rcases h2 with h2|h2
 ·have:=of_decide_eq_true h2;omega
 exact of_decide_eq_true h2
theorem Zlo {l:List Int} {m:Int} (h:stOk l m=true):∀ j,j<l.length→(j:Int)≤l.getD j 0
 | 0,hj=>(Zhk h hj).1.1
 | j+1,hj=>by have h1:=Zlo h j (by omega);have h2:=(Zhk h hj).2 (by omega);rw[Nat.add_sub_cancel] at h2;omega
theorem ZgU {l:List Int} {m:Nat} (h:stOk l (m:Int)=true):inN m l∧l.length≤m:=by
 refine⟨fun s hs => ?_,?_⟩
 ·obtain⟨j,hj,e⟩:=List.getElem_of_mem hs;have:=(Zhk h hj).1;rw[ZbF hj,e] at this;omega
 rcases Nat.eq_zero_or_pos l.length with h0|h0
 ·omega
 have h1:=Zlo h (l.length-1) (by omega);have h2:=(Zhk h (j:=l.length-1) (by omega)).1.2;omega
theorem Zai {n:NfaD} (h:Zal n=true):∃ m:Nat,n.states=(m:Int)∧m≤40∧mvIn m n.moves∧n.moves.length≤400∧inN m n.firsts∧n.firsts.length≤40∧inN m n.ends∧n.ends.length≤40:=by
 unfold Zal at h;simp only[Bool.and_eq_true] at h;obtain⟨⟨⟨⟨h1,h2⟩,h3⟩,h4⟩,h5⟩:=h;have h1:0≤n.states∧n.states≤40:=by simpa [inB] using h1
 obtain⟨m,hm⟩:=Int.eq_ofNat_of_zero_le h1.1;rw[hm] at h3 h4 h5;have f3:=ZgU h3;have f4:=ZgU h4;refine⟨m,hm,by omega,fun x hx => ?_,of_decide_eq_true h2,f3.1,by omega,f4.1,by omega⟩;rw[List.all_eq_true] at h5;have:=h5 x hx;unfold mvOk at this;simp only[Bool.and_eq_true,inB,decide_eq_true_eq] at this;omega
def eds (d:DfaD):Nat→List Int
 | 0=>[]
 | s+1=>if d.ends.getD s false=true then eds d s++[(s:Int)] else eds d s
theorem Zgm (d:DfaD):∀ s,(eds d s).length≤s
 | 0=>Nat.le_refl _
 | s+1=>by
  have ih:=Zgm d s;unfold eds
  split
  ·rw[List.length_append,List.length_singleton];omega
  omega
theorem Zb6 (l:List Int) (x:Int):intCells (l++[x])=intCells l++[.int .i64 x]:=by simp[intCells]
theorem Zex {k:IntKind} {x:Int}:∀ u∈[Value.int k x],u.oneCell'=true:=by intro u hu;simp only[List.mem_singleton] at hu;subst hu;rfl
def RNfaS (n:NfaD) (w:World) (e:Ending) (w':World):Prop:=∃ a1 c1 a2 c2 a3 c3,e = .returned (.agg #[.int .i64 n.states,.slice a1 n.moves.length c1,.slice a2 n.firsts.length c2,.slice a3 n.ends.length c3]) ∧
 St w w' [Ent.row 72 3 (.slice a1 n.moves.length c1) n.moves.length (n.moves.flatMap Zaa),Ent.row 3 1 (.slice a2 n.firsts.length c2) n.firsts.length (intCells n.firsts),Ent.row 3 1 (.slice a3 n.ends.length c3) n.ends.length (intCells n.ends)]
theorem Zax {w:World} {B e:Nat} {v:Value} {xs:List (Int × Int × Int)} (hr:w.ownsRow B e 3 v xs.length (xs.flatMap Zaa)):Moves 0 w v xs :=
 ((Zac hr).sl (by omega)).mono (Nat.zero_le _)
theorem Zah {w:World} {B e:Nat} {v:Value} {xs:List Int} (hr:w.ownsRow B e 1 v xs.length (intCells xs)):Ints 0 w v xs :=
 ((Zac hr).sl (by omega)).mono (Nat.zero_le _)
theorem St.moves {w0 w:World} {L:List Ent} (h:St w0 w L) (i:Nat) {e:Nat} {v:Value} {xs:List (Int × Int × Int)} (hx:L[i]? = some (Ent.row e 3 v xs.length (xs.flatMap Zaa))):Moves 0 w v xs:=Zax (h.row i hx)
theorem Tryz.infoMv:(Tryz.prog.info? 72).map (fun i=>(i.zero,i.size,i.bytes))=some (some (.agg #[.int .i64 0,.int .i64 0,.int .i64 0]),3,24):=by kernel_rfl
theorem ZdY {s c x:Int}:∀ u∈[Value.int .i64 s,Value.int .i64 c,Value.int .i64 x],u.oneCell'=true:=by intro u hu;simp at hu;rcases hu with rfl|rfl|rfl<;>rfl
theorem ZkP (xs:List (Int × Int × Int)) (s c x:Int):(xs++[(s,c,x)]).flatMap Zaa=xs.flatMap Zaa++[.int .i64 s,.int .i64 c,.int .i64 x]:=by simp[Zaa]
end Go.Proofs.YtfikabecgaappaaGreat
namespace Go.Proofs.YtfikabecgaappaaGreat
open Go.RowKit
section
variable {P:Program} (w:World)
theorem ZfS {w:World} {base e size n:Nat} {v:Value} {xs:List Value} (h:w.ownsRow base e size v n xs):∃ a cap,v = .slice a n cap∧n≤cap:=by
 rcases h.2 with⟨h1,h2⟩|⟨g',cap',cur,h1,-,-,h4,-⟩
 ·exact⟨none,0,by rw[h1,h2],by omega⟩
 exact⟨_,cap',h1,h4⟩
theorem Zhs (t ty:TypeId) (base:Nat) (e:TypeId) (i:TypeInfo) (z:Value) (size bytes:Nat) (ht:P.underlying t=some (.slice e)) (hi:P.info? e=some i) (hz:i.zero=some z)
  (hsize:i.size=size) (hby:i.bytes=bytes) (hzs:z.cells.size=size) (hsz:0<size)
  (v:Value) (n:Nat) (xs:List Value) (hown:w.ownsRow base e size v n xs) (x:Value) (m:Nat) (news:List Value) (hx:Sl 0 w x m size news) (h1:∀ u∈news,u.oneCell'=true)
  (h63:n+m≤maxLen) (hbytes:(n+m)*bytes≤140737488355328) (hbase:base≤w.heap.size) :
  ∃ a' cap w',(Builtin.append_ #[t,t] ty #[v,x]).run P w = .ok (.slice a' (n+m) cap) w'∧w'.ownsRow base e size (.slice a' (n+m) cap) (n+m) (xs++news)∧w.grownBy w' v.ownBlock ∧
   (∀ k,(Value.slice a' (n+m) cap).ownBlock=some k→v.ownBlock=some k∨w.heap.size≤k):=by
 obtain⟨hl,a,cap,rfl,hle,hm,hc⟩:=hx;cases a with
 | some ad =>
  have hnews:∀ j u,news[j]? = some u→w.cell? (ad.add j)=some u:=fun j u hj=>by
   have hjl:=(List.getElem?_eq_some_iff.1 hj).1
   have hm0:0<m:=by
    rcases Nat.eq_zero_or_pos m with h0|h0
    ·rw[h0] at hl;omega
    exact h0
   obtain⟨b,off,ha,-,-,hcs⟩:=hc hm0;simp only[Option.some.injEq] at ha;subst ha;rw[← hj,← hcs j (by omega),← Go.WideShapes.add_plain]
  obtain⟨v',w',hr,h2,h3,-,h5⟩:=run_append_own_at (P:=P) w base t ty e i z size bytes ht hi hz hsize hby hzs hsz v n xs hown ad m cap news hl hnews h1 h63 hbytes hbase;obtain⟨a',cap',rfl,-⟩:=ZfS h2;refine⟨a',cap',w',hr,h2,h3,fun k hk => ?_⟩;rcases h5 with h5|h5
  ·exact Or.inl (by rw[← h5];exact hk)
  rw[h5] at hk;exact Or.inr (by simp only[Option.some.injEq] at hk;omega)
 | none =>
  have hm0:m=0:=by
   rcases Nat.eq_zero_or_pos m with h0|h0
   ·exact h0
   obtain⟨b,off,ha,-⟩:=hc h0;cases ha
  subst hm0;have hnil:news=[]:=List.eq_nil_of_length_eq_zero (by omega);subst hnil;obtain⟨a',cap',rfl,hlc⟩:=ZfS hown;subst hsize;refine⟨a',cap',w,run_append_nothing w t t ty e i ht hi a' n cap' hlc _ (Src.ofNil w ht cap),by simpa using hown,⟨rfl,rfl,rfl,Nat.le_refl _,fun _ _ _=>rfl⟩,fun k hk=>Or.inl hk⟩
theorem ZeP {o:Oper} {a:Act} {K:Act→World→Prop} {Q:Exit→Act→World→Prop} (s x:Operand) (t:TypeId)
  (ho:o.op = .call { callee:=.builtin .append,args:=#[s,x],argTypes:=#[t,t] })
  (base:Nat) (e:TypeId) (i:TypeInfo) (z:Value) (size bytes:Nat) (ht:P.underlying t=some (.slice e)) (hi:P.info? e=some i) (hz:i.zero=some z)
  (hsize:i.size=size) (hby:i.bytes=bytes) (hzs:z.cells.size=size) (hsz:0<size)
  (v:Value) (n:Nat) (xs:List Value) (hs:a.eval s=v) (hown:w.ownsRow base e size v n xs)
  (y:Value) (m:Nat) (news:List Value) (hy:a.eval x=y) (hx:Sl 0 w y m size news) (h1:∀ u∈news,u.oneCell'=true)
  (h63:n+m≤maxLen) (hbytes:(n+m)*bytes≤140737488355328) (hbase:base≤w.heap.size)
  (h:∀ a' cap w',w'.ownsRow base e size (.slice a' (n+m) cap) (n+m) (xs++news)→w.grownBy w' v.ownBlock→(∀ k,(Value.slice a' (n+m) cap).ownBlock=some k→v.ownBlock=some k∨w.heap.size≤k)→K (a.put o.dst (.slice a' (n+m) cap)) w'):o.wp P a w K Q:=by
 obtain⟨a',cap,w',hr,h2,h3,h4⟩:=Zhs (P:=P) w t o.type base e i z size bytes ht hi hz hsize hby hzs hsz v n xs hown y m news hx h1 h63 hbytes hbase;unfold Oper.wp execOp;simp only[ho,resolve,invoke,builtin,Sem.run_bind,Sem.run_pure,Result.andThen_ok,List.map_toArray,List.map_cons,List.map_nil,hs,hy,hr];exact h a' cap w' h2 h3 h4
theorem ZaB {ops:Array Oper} {rest:List Oper} {o:Oper} {a:Act} {Q:Exit→Act→World→Prop} (hgd:o.guard=none) (s x:Operand) (t:TypeId)
  (ho:o.op = .call { callee:=.builtin .append,args:=#[s,x],argTypes:=#[t,t] })
  (base:Nat) (e:TypeId) (i:TypeInfo) (z:Value) (size bytes:Nat) (ht:P.underlying t=some (.slice e)) (hi:P.info? e=some i) (hz:i.zero=some z)
  (hsize:i.size=size) (hby:i.bytes=bytes) (hzs:z.cells.size=size) (hsz:0<size)
  (v:Value) (n:Nat) (xs:List Value) (hs:a.eval s=v) (hown:w.ownsRow base e size v n xs)
  (y:Value) (m:Nat) (news:List Value) (hy:a.eval x=y) (hx:Sl 0 w y m size news) (h1:∀ u∈news,u.oneCell'=true)
  (h63:n+m≤maxLen) (hbytes:(n+m)*bytes≤140737488355328) (hbase:base≤w.heap.size)
  (h:∀ a' cap w',w'.ownsRow base e size (.slice a' (n+m) cap) (n+m) (xs++news)→w.grownBy w' v.ownBlock→(∀ k,(Value.slice a' (n+m) cap).ownBlock=some k→v.ownBlock=some k∨w.heap.size≤k)→wpList P ops Q rest (a.put o.dst (.slice a' (n+m) cap)) w'):wpList P ops Q (o::rest) a w :=
 wpList_plain hgd fun _ hK=>ZeP w s x t ho base e i z size bytes ht hi hz hsize hby hzs hsz v n xs hs hown y m news hy hx h1 h63 hbytes hbase fun a' cap w' h2 h3 h4=>hK _ _ (h a' cap w' h2 h3 h4)
theorem Zas {ops:Array Oper} {o:Oper} {a:Act} {K:Act→World→Prop} {Q:Exit→Act→World→Prop} {E:Prop} (hgd:o.guard=none) (s x:Operand) (t:TypeId)
  (ho:o.op = .call { callee:=.builtin .append,args:=#[s,x],argTypes:=#[t,t] })
  (base:Nat) (e:TypeId) (i:TypeInfo) (z:Value) (size bytes:Nat) (ht:P.underlying t=some (.slice e)) (hi:P.info? e=some i) (hz:i.zero=some z)
  (hsize:i.size=size) (hby:i.bytes=bytes) (hzs:z.cells.size=size) (hsz:0<size)
  (v:Value) (n:Nat) (xs:List Value) (hs:a.eval s=v) (hown:w.ownsRow base e size v n xs)
  (y:Value) (m:Nat) (news:List Value) (hy:a.eval x=y) (hx:Sl 0 w y m size news) (h1:∀ u∈news,u.oneCell'=true)
  (h63:n+m≤maxLen) (hbytes:(n+m)*bytes≤140737488355328) (hbase:base≤w.heap.size)
  (h:∀ a' cap w',w'.ownsRow base e size (.slice a' (n+m) cap) (n+m) (xs++news)→w.grownBy w' v.ownBlock→(∀ k,(Value.slice a' (n+m) cap).ownBlock=some k→v.ownBlock=some k∨w.heap.size≤k)→K (a.put o.dst (.slice a' (n+m) cap)) w') :
  if Region.wanted o (yielded ops a.tmps)=true then Oper.wp P o a w K Q else E:=by
 have hw:Region.wanted o (yielded ops a.tmps)=true:=by simp[Region.wanted,hgd]
 rw[if_pos hw];exact ZeP w s x t ho base e i z size bytes ht hi hz hsize hby hzs hsz v n xs hs hown y m news hy hx h1 h63 hbytes hbase h
end
theorem on_i {k:IntKind} {x:Int}:∀ u∈[Value.int k x],u.oneCell'=true:=by simp[Value.oneCell']
theorem Zn6 (l:List Bool) (x:Bool):boolCells (l++[x])=boolCells l++[.bool x]:=by simp[boolCells]
theorem ZoK (l:List Int) (x:Int):intCells (l++[x])=intCells l++[.int .i64 x]:=by simp[intCells]
theorem Ze3 {xs:List Int}:∀ u∈intCells xs,u.oneCell'=true:=fun u hu=>by obtain⟨x,-,rfl⟩:=List.mem_map.1 hu;simp[Value.oneCell']
theorem ZeT {xs:List (Int × Int × Int)}:∀ u∈xs.flatMap Zaa,u.oneCell'=true:=fun u hu=>by obtain⟨x,-,hx⟩:=List.mem_flatMap.1 hu;simp only[Zaa,List.mem_cons,List.not_mem_nil,or_false] at hx;rcases hx with rfl|rfl|rfl<;>simp[Value.oneCell']
theorem Zj4 {xs:List (Int × Int)}:∀ u∈xs.flatMap Zag,u.oneCell'=true:=fun u hu=>by obtain⟨x,-,hx⟩:=List.mem_flatMap.1 hu;simp only[Zag,List.mem_cons,List.not_mem_nil,or_false] at hx;rcases hx with rfl|rfl<;>simp[Value.oneCell']
theorem St.appS {w0 w w':World} {L:List Ent} (h:St w0 w L) (i:Nat) {B e size n m cap:Nat} {a':Option Addr} {v:Value} {cs cs':List Value} (hx:L[i]? = some (Ent.row e size v n cs)) (hown:w'.ownsRow B e size (.slice a' m cap) m cs') (hg:w.grownBy w' v.ownBlock)
  (hat:∀ k,(Value.slice a' m cap).ownBlock=some k→v.ownBlock=some k∨w.heap.size≤k):St w0 w' (L.set i (Ent.row e size (.slice a' m cap) m cs')):=h.grow i hx hg hown hat
theorem Tryz.infoInt:(Tryz.prog.info? 3).map (fun i=>(i.zero,i.size,i.bytes))=some (some (.int .i64 0),1,8):=by kernel_rfl
theorem Tryz.infoBool:(Tryz.prog.info? 4).map (fun i=>(i.zero,i.size,i.bytes))=some (some (.bool false),1,1):=by kernel_rfl
theorem Tryz.infoInts:(Tryz.prog.info? 26).map (fun i=>(i.zero,i.size,i.bytes))=some (some (.slice none 0 0),1,24):=by kernel_rfl
theorem ZcV {xs:List Value} {n k:Nat} {cs:List Value} {u:Value} (hl:cs.length=n) (hx:xs.length=n) (hk:k<n) (h:cs.take k=xs.take k) (hu:xs[k]? = some u) :
  (cs.set k u).take (k+1)=xs.take (k+1):=by
 apply List.ext_getElem?;intro j;rw[List.getElem?_take,List.getElem?_take];by_cases hj:j<k+1
 ·rw[if_pos hj,if_pos hj,List.getElem?_set];by_cases he:k=j
  ·subst he;rw[if_pos rfl,if_pos (by omega),hu]
  rw[if_neg he];have:=congrArg (fun l=>l[j]?) h;simpa [List.getElem?_take,show j<k by omega] using this
 rw[if_neg hj,if_neg hj]
def small (d:DfaD):Prop:=d.next.length≤1048576∧(∀ i,i<d.next.length→(d.next.getD i []).length≤1048576)∧d.ends.length≤1048576
end Go.Proofs.YtfikabecgaappaaGreat
namespace Go.Proofs.YtfikabecgaappaaGreat
open Go.RowKit Go.Maps
section
variable {α:Type}
structure ExW (kt sz:Nat) (enc:α→Value) (cel:α→List Value) (B B1 B2 B4 hi:Nat) (w:World) (met:List α) (rows:List (List Int)) (ends:List Bool) (vm vn ve:Value):Prop where
 m:w.ownsRow B kt sz vm met.length (met.flatMap cel)
 n:MapL Tryz.prog kt enc w B2 (numbered met)
 r:Bx w B1 #[.slice none 0 0,.slice none 0 0] 37
 d:Bx w B4 #[vn,ve] 37
 nx:OIntSS 26 3 B hi w vn rows
 en:w.ownsRow B 4 1 ve ends.length (boolCells ends)
 ne:B1≠B4
variable {kt sz B B1 B2 B4 hi:Nat} {enc:α→Value} {cel:α→List Value} {w w':World} {met:List α} {rows:List (List Int)} {ends:List Bool} {vm vn ve:Value}
theorem ExW.below (h:ExW kt sz enc cel B B1 B2 B4 hi w met rows ends vm vn ve) (hb:Below w.heap.size w w'):ExW kt sz enc cel B B1 B2 B4 hi w' met rows ends vm vn ve :=
 ⟨(Own.below (Zac h.m) hb).1,h.n.below hb,h.r.below hb h.r.lt,h.d.below hb h.d.lt,h.nx.below hb,(Own.below (Zac h.en) hb).1,h.ne⟩
theorem ExW.up {hi':Nat} (h:ExW kt sz enc cel B B1 B2 B4 hi w met rows ends vm vn ve) (hh:hi≤hi'):ExW kt sz enc cel B B1 B2 B4 hi' w met rows ends vm vn ve :=
 ⟨h.m,h.n,h.r,h.d,h.nx.mono (Nat.le_refl _) hh,h.en,h.ne⟩
def Own4 (kt:Nat):Prop:=kt ≠ 3 ∧ kt ≠ 26 ∧ kt ≠ 4 ∧ kt ≠ 37
theorem ExW.newState (hk:Own4 kt) (h:ExW kt sz enc cel B B1 B2 B4 hi w met rows ends vm vn ve) {x:α} {w1 w2 w3:World} {vm':Value} (hn:MapL Tryz.prog kt enc w1 B2 (numbered (met++[x]))) (hg1:w.grownBy w1 (some B2))
  (hb:Below w1.heap.size w1 w2) (hown:w3.ownsRow B kt sz vm' (met.length+1) (met.flatMap cel++cel x)) (hg2:w2.grownBy w3 vm.ownBlock) :
  ExW kt sz enc cel B B1 B2 B4 hi w3 (met++[x]) rows ends vm' vn ve:=by
 obtain⟨k1,k2,k3,k4⟩:=hk;have a:∀ e,ZbZ w (some B2) e:=fun e=>h.n.apart
 have m2:w2.ownsRow B kt sz vm met.length (met.flatMap cel):=(Own.below (Zac (Zae h.m hg1 (a _))) hb).1;have b:∀ e,kt≠e→ZbZ w2 vm.ownBlock e:=fun e he=>Zam m2 he
 refine⟨?_,(hn.below hb).grown hg2 (Zb3 m2),?_,?_,?_,?_,h.ne⟩
 ·simpa using hown
 ·have r1:=h.r.grown hg1 (a _);exact(r1.below hb r1.lt).grown hg2 (b _ k4)
 ·have r1:=h.d.grown hg1 (a _);exact(r1.below hb r1.lt).grown hg2 (b _ k4)
 ·exact((h.nx.grown hg1 (a _) (a _)).below hb).grown hg2 (b _ k2) (b _ k1)
 exact Zae (Own.below (Zac (Zae h.en hg1 (a _))) hb).1 hg2 (b _ k3)
theorem ExW.setRow (hk:Own4 kt) (h:ExW kt sz enc cel B B1 B2 B4 hi w met rows ends vm vn ve) {R n:Nat} {cs:List Value} (hR:hi≤R) {base:Nat} (hrow:w.ownsRow base 3 1 (.slice (some ⟨R,0,none⟩) n n) n cs) (j:Nat) (v:Value) :
  ExW kt sz enc cel B B1 B2 B4 hi (w.setCell ⟨R,j,none⟩ v) met rows ends vm vn ve:=by
 obtain⟨k1,k2,k3,k4⟩:=hk;have hg:=ZaJ w R j v;have a:∀ e,3 ≠ e→ZbZ w (some R) e:=fun e he=>Zam (v:=.slice (some ⟨R,0,none⟩) n n) hrow he
 have c:Zfs w (some R):=Zb3 (v:=.slice (some ⟨R,0,none⟩) n n) hrow;exact⟨Zae h.m hg (a _ (Ne.symm k1)),h.n.grown hg c,h.r.grown hg (a _ (by decide)),h.d.grown hg (a _ (by decide)),h.nx.far hR j v,Zae h.en hg (a _ (by decide)),h.ne⟩
theorem ZjW {w1 w2 w3:World} {R n base e:Nat} {cs:List Value} {vm:Value} {b2 mb:Nat} {ms:List Value} (hrow:w.ownsRow base e 1 (.slice (some ⟨R,0,none⟩) n n) n cs) (hne:kt≠e)
  (hm2:w2.ownsRow mb kt sz vm b2 ms) (ha:ZbZ w (some B2) e) (hg1:w.grownBy w1 (some B2)) (hb:Below w1.heap.size w1 w2) (hg2:w2.grownBy w3 vm.ownBlock):w3.ownsRow base e 1 (.slice (some ⟨R,0,none⟩) n n) n cs :=
 Zae (Own.below (Zac (Zae hrow hg1 ha)) hb).1 hg2 (Zam hm2 hne)
theorem ExW.addRow (hk:Own4 kt) (h:ExW kt sz enc cel B B1 B2 B4 hi w met rows ends vm vn ve) {vs:List Value} {rv vn':Value} {x:List Int} {w3:World} {lr:Nat}
  (h1:Own B hi w 26 1 vn rows.length vs) (h2:∀ i,i<rows.length→OInts 3 B hi w (vs.getD i undef) (rows.getD i []))
  (h3:∀ i j k,i<j→j<rows.length→(vs.getD i undef).ownBlock=some k→(vs.getD j undef).ownBlock≠some k)
  (hrow:OInts 3 lr w.heap.size w rv x) (hlr:hi≤lr) (hlo:B≤lr) (hg:w.grownBy w3 vn.ownBlock) (hown:w3.ownsRow B 26 1 vn' (rows.length+1) (vs++[rv])) :
  ExW kt sz enc cel B B1 B2 B4 w3.heap.size (w3.setCell ⟨B4,0,none⟩ vn') met (rows++[x]) ends vm vn' ve:=by
 obtain⟨k1,k2,k3,k4⟩:=hk;have a:∀ e,26 ≠ e→ZbZ w vn.ownBlock e:=fun e he=>Zam h1.1 he
 have d3:Bx w3 B4 #[vn,ve] 37:=h.d.grown hg (a _ (by decide));have hg4:=ZaJ w3 B4 0 vn';have b:∀ e,37 ≠ e→ZbZ w3 (some B4) e:=fun e he=>d3.apart he
 have r3:Bx w3 B1 #[.slice none 0 0,.slice none 0 0] 37:=h.r.grown hg (a _ (by decide));have n4:MapL Tryz.prog kt enc (w3.setCell ⟨B4,0,none⟩ vn') B2 (numbered met):=(h.n.grown hg (Zb3 h1.1)).grown hg4 d3.cells;refine⟨Zae (Zae h.m hg (a _ (Ne.symm k2))) hg4 (b _ (Ne.symm k4)),n4,?_,d3.set 0 vn',?_,Zae (Zae h.en hg (a _ (by decide))) hg4 (b _ (by decide)),h.ne⟩
 ·exact r3.set_ne _ _ h.ne
 exact(OIntSS.snoc h1 h2 h3 hrow hlr hlo (by decide) hg hown).grown hg4 (b _ (by decide)) (b _ (by decide))
theorem ExW.addEnd (hk:Own4 kt) (h:ExW kt sz enc cel B B1 B2 B4 hi w met rows ends vm vn ve) {w3:World} {ve':Value} {e:Bool} (hg:w.grownBy w3 ve.ownBlock) (hown:w3.ownsRow B 4 1 ve' (ends.length+1) (boolCells ends++[.bool e])) :
  ExW kt sz enc cel B B1 B2 B4 hi (w3.setCell ⟨B4,1,none⟩ ve') met rows (ends++[e]) vm vn ve':=by
 obtain⟨k1,k2,k3,k4⟩:=hk;have a:∀ t,4 ≠ t→ZbZ w ve.ownBlock t:=fun t ht=>Zam h.en ht
 have d3:Bx w3 B4 #[vn,ve] 37:=h.d.grown hg (a _ (by decide));have hg4:=ZaJ w3 B4 1 ve';have b:∀ t,37 ≠ t→ZbZ w3 (some B4) t:=fun t ht=>d3.apart ht
 have r3:Bx w3 B1 #[.slice none 0 0,.slice none 0 0] 37:=h.r.grown hg (a _ (by decide));have n4:MapL Tryz.prog kt enc (w3.setCell ⟨B4,1,none⟩ ve') B2 (numbered met):=(h.n.grown hg (Zb3 h.en)).grown hg4 d3.cells;refine⟨Zae (Zae h.m hg (a _ (Ne.symm k3))) hg4 (b _ (Ne.symm k4)),n4,r3.set_ne _ _ h.ne,d3.set 1 ve',(h.nx.grown hg (a _ (by decide)) (a _ (by decide))).grown hg4 (b _ (by decide)) (b _ (by decide)),?_,h.ne⟩;refine Zae ?_ hg4 (b _ (by decide));simpa using hown
end
end Go.Proofs.YtfikabecgaappaaGreat
namespace Go.Proofs.YtfikabecgaappaaGreat
open Go.RowKit
structure Touch (e lo hi:Nat) (w w':World):Prop where
 os:w'.os=w.os
 tape:w'.tape=w.tape
 output:w'.output=w.output
 size:w.heap.size≤w'.heap.size
 block:∀ k,k<w.heap.size→((k<lo∨hi≤k)∨∀ cur fr,w.heap[k]? ≠ some (.cells cur e fr))→w'.heap[k]? = w.heap[k]?
theorem Touch.refl (e lo hi:Nat) (w:World):Touch e lo hi w w:=⟨rfl,rfl,rfl,Nat.le_refl _,fun _ _ _=>rfl⟩
theorem Touch.trans {e lo hi:Nat} {a b c:World} (h:Touch e lo hi a b) (k:Touch e lo hi b c):Touch e lo hi a c:=by
 refine⟨k.os.trans h.os,k.tape.trans h.tape,k.output.trans h.output,Nat.le_trans h.size k.size,fun i hi hh => ?_⟩;have e1:=h.block i hi hh;refine(k.block i (Nat.lt_of_lt_of_le hi h.size) ?_).trans e1;rcases hh with hh|hh
 ·exact .inl hh
 exact .inr (by rw[e1];exact hh)
theorem Touch.only {e lo hi:Nat} {a b:World} (h:Touch e lo hi a b):Only lo hi a b:=⟨h.os,h.tape,h.output,h.size,fun k hk hh=>h.block k hk (.inl hh)⟩
theorem Own.lt' {lo hi e size n:Nat} {w:World} {v:Value} {cs:List Value} (h:Own lo hi w e size v n cs):w.ownsRow lo e size v n cs:=h.1
theorem OIntSS.row {es e lo hi:Nat} {w w':World} {v:Value} {xss:List (List Int)} {vs:List Value} {x:List Int} {j:Nat} (hne:es≠e)
  (h1:Own lo hi w es 1 v xss.length vs) (h2:∀ i,i<xss.length→OInts e lo hi w (vs.getD i undef) (xss.getD i []))
  (h3:∀ i j k,i<j→j<xss.length→(vs.getD i undef).ownBlock=some k→(vs.getD j undef).ownBlock≠some k)
  (hj:j<xss.length) (hx:OInts e lo hi w' (vs.getD j undef) x) (hg:w.grownBy w' (vs.getD j undef).ownBlock) :
  Own lo hi w' es 1 v (xss.set j x).length vs∧(∀ i,i<(xss.set j x).length→OInts e lo hi w' (vs.getD i undef) ((xss.set j x).getD i [])) ∧
   (∀ i j' k,i<j'→j'<(xss.set j x).length→(vs.getD i undef).ownBlock=some k→(vs.getD j' undef).ownBlock≠some k):=by
 have ha:ZbZ w (vs.getD j undef).ownBlock es:=Zam (Own.lt' (h2 j hj)) (Ne.symm hne);rw[List.length_set];refine⟨h1.grown hg ha,fun i hi => ?_,h3⟩;by_cases hij:j=i
 ·subst hij;have:(xss.set j x).getD j []=x:=by simp[hj]
  rw[this];exact hx
 have:(xss.set j x).getD i []=xss.getD i []:=by simp[List.getElem?_set_ne hij]
 rw[this];refine Own.kept (h2 i hi) fun k hk=>hg.block k (Own.lt (h2 i hi) k hk).2.2 fun hr => ?_
 rcases Nat.lt_or_gt_of_ne hij with hlt|hgt
 ·exact h3 j i k hlt hi hr.symm hk
 exact h3 i j k hgt hj hk hr.symm
end Go.Proofs.YtfikabecgaappaaGreat
namespace Go.Proofs.YtfikabecgaappaaGreat
open Go.RowKit Go.Maps
def fitI (x:Int):Prop:=-9223372036854775808≤x∧x≤9223372036854775807
theorem Zkc {x:Int} (h:fitI x):(Lit.int .i64 x).wf=true:=WalkArith.wf_i64 h
theorem Tryz.laidOut:laidOutB Tryz.prog=true:=by kernel_rfl
theorem ZeH:5+1≤10000:=by omega
def ZaN (p:Int × Int):Value:=.agg #[.int .i64 p.1,.int .i64 p.2]
theorem Zbp:∀ x y:Int × Int,ZaN x=ZaN y→x=y:=by rintro⟨a,b⟩ ⟨c,d⟩ h;simp only[ZaN,Value.agg.injEq] at h;have h1:=congrArg (fun (l:Array Value)=>l[0]?) h;have h2:=congrArg (fun (l:Array Value)=>l[1]?) h;simp at h1 h2;rw[h1,h2]
theorem Zf9 {P:Program} {t:TypeId} {D:Nat} {x:Int} (ht:P.underlying t=some (.int .i64)) (hx:fitI x):P.keyLits (D+1) t [.int .i64 x]=some [.int .i64 x]:=by unfold Program.keyLits;rw[ht];simp[Zkc hx]
end Go.Proofs.YtfikabecgaappaaGreat
namespace Go.Proofs.YtfikabecgaappaaGreat
open Go.RowKit Go.Maps
theorem Zf8 {P:Program} {t:TypeId} {D:Nat} {q:IntKind} {x:Int} (ht:P.underlying t=some (.int q)) (hx:(Lit.int q x).wf=true):P.keyLits (D+1) t [.int q x]=some [.int q x]:=by unfold Program.keyLits;rw[ht];simp[hx]
theorem ZiA {P:Program} {t e:TypeId} {q:IntKind} (hu:P.underlying t=some (.array 2 e)) (he:P.underlying e=some (.int q)) (hk:P.keyType t=true) (hc:P.cellsOf t=2) (hce:P.cellsOf e=1) (hrow:t<P.types.size)
  (x y:Int) (hx:(Lit.int q x).wf=true) (hy:(Lit.int q y).wf=true):∃ l,keyOf P t (.agg #[.int q x,.int q y])=some l:=by
 have hfm:(Value.agg #[.int q x,.int q y]).formed P t=true:=by simp[Value.formed,hu,hc]
 obtain⟨n,hn⟩:∃ n,P.types.size=n+1:=⟨P.types.size-1,(Nat.succ_pred_eq_of_pos (Nat.lt_of_le_of_lt (Nat.zero_le _) hrow)).symm⟩;have e1:=Zf8 (D:=n) he hx;have e2:=Zf8 (D:=n) he hy;have hlits:P.keyLits (P.types.size+1) t (Value.agg #[.int q x,.int q y]).cells.toList=some [.int q x,.int q y]:=by rw[hn];show P.keyLits (n+1+1) t [.int q x,.int q y]=_;unfold Program.keyLits;rw[hu];simp[hc,hce,List.range_succ,e1,e2]
 exact⟨_,by unfold keyOf;rw[hu];simp only[hk,hfm,Bool.and_self,if_true,hlits];rfl⟩
theorem ZoZ {q:IntKind}:∀ x y:Int × Int,(Value.agg #[.int q x.1,.int q x.2]) = .agg #[.int q y.1,.int q y.2]→x=y:=by rintro⟨a,b⟩ ⟨c,d⟩ h;simp only[Value.agg.injEq] at h;have h1:=congrArg (fun (l:Array Value)=>l[0]?) h;have h2:=congrArg (fun (l:Array Value)=>l[1]?) h;simp at h1 h2;rw[h1,h2]
theorem Tryz.rowPr:(193:TypeId)<Tryz.prog.types.size:=of_decide_eq_true (by kernel_rfl)
theorem Tryz.widePr:(match Tryz.prog.underlying 193 with|some (.array _ _)|some (.struct _)=>true|_=>false)=true:=by kernel_rfl
theorem Tryz.keyPr:Tryz.prog.keyType 193 = true:=by kernel_rfl
theorem Tryz.keyAtPr:Tryz.prog.keyTypeAt 5 193 = true:=by kernel_rfl
theorem Tryz.cellsPr:Tryz.prog.cellsOf 193 = 2:=by kernel_rfl
theorem Tryz.cellsInt:Tryz.prog.cellsOf 3 = 1:=by kernel_rfl
theorem Tryz.kindPr:Tryz.prog.underlying 193 = some (.array 2 3):=by kernel_rfl
theorem Tryz.lawPr:Keyed Tryz.prog 193:=Keyed.of_law (deep_law_laid Tryz.laidOut ZeH Tryz.rowPr Tryz.keyAtPr Tryz.widePr)
theorem Tryz.keyOfPr (p:Int × Int) (h1:fitI p.1) (h2:fitI p.2):∃ l,keyOf Tryz.prog 193 (ZaN p)=some l :=
 ZiA Tryz.kindPr Tryz.underlying3 Tryz.keyPr Tryz.cellsPr Tryz.cellsInt Tryz.rowPr _ _ (Zkc h1) (Zkc h2)
end Go.Proofs.YtfikabecgaappaaGreat
namespace Go.Proofs.YtfikabecgaappaaGreat
open Go.RowKit Go.Maps
def fitU (x:Int):Prop:=0≤x∧x≤18446744073709551615
theorem Zmu {x:Int} (h:fitU x):(Lit.int .u64 x).wf=true:=WalkArith.wf_u64 h
def Zcl (p:Int × Int):Value:=.agg #[.int .u64 p.1,.int .u64 p.2]
theorem Zca:∀ x y:Int × Int,Zcl x=Zcl y→x=y:=ZoZ
def Zbc (p:Int × Int):List Value:=[.int .u64 p.1,.int .u64 p.2]
def Zpx (e lo hi:Nat) (w:World) (v:Value) (xs:List (Int × Int)):Prop:=Own lo hi w e 2 v xs.length (xs.flatMap Zbc)
theorem Tryz.rowSet:(85:TypeId)<Tryz.prog.types.size:=of_decide_eq_true (by kernel_rfl)
theorem Tryz.wideSet:(match Tryz.prog.underlying 85 with|some (.array _ _)|some (.struct _)=>true|_=>false)=true:=by kernel_rfl
theorem Tryz.keySet:Tryz.prog.keyType 85 = true:=by kernel_rfl
theorem Tryz.keyAtSet:Tryz.prog.keyTypeAt 5 85 = true:=by kernel_rfl
theorem Tryz.cellsSet:Tryz.prog.cellsOf 85 = 2:=by kernel_rfl
theorem Tryz.cellsU64:Tryz.prog.cellsOf 83 = 1:=by kernel_rfl
theorem Tryz.kindSet:Tryz.prog.underlying 85 = some (.array 2 83):=by kernel_rfl
theorem Tryz.lawSet:Keyed Tryz.prog 85:=Keyed.of_law (deep_law_laid Tryz.laidOut ZeH Tryz.rowSet Tryz.keyAtSet Tryz.wideSet)
theorem Tryz.keyOfSet (p:Int × Int) (h1:fitU p.1) (h2:fitU p.2):∃ l,keyOf Tryz.prog 85 (Zcl p)=some l :=
 ZiA Tryz.kindSet Tryz.underlying83 Tryz.keySet Tryz.cellsSet Tryz.cellsU64 Tryz.rowSet _ _ (Zmu h1) (Zmu h2)
end Go.Proofs.YtfikabecgaappaaGreat
