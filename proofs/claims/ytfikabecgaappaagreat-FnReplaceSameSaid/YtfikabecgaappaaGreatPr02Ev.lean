/-
  What a call has made for itself, as a list of things that lie in different blocks: one step of the walk turns the whole list at once.
  No condition: this text speaks of no program.
-/
import Derived.Test.YtfikabecgaappaaGreatPr01Prod
set_option maxHeartbeats 4000000
set_option maxRecDepth 100000
namespace Go.Proofs.YtfikabecgaappaaGreat
open Go.RowKit
structure Ent where
 foot:Nat→Prop
 holds:World→Prop
 stable:∀ w w':World,holds w→(∀ k,foot k→w'.heap[k]? = w.heap[k]?)→holds w'
def Ent.apart (a b:Ent):Prop:=∀ k,a.foot k→¬ b.foot k
theorem Ent.apart.symm {a b:Ent} (h:a.apart b):b.apart a:=fun k hb ha=>h k ha hb
def Ent.nil:Ent:=⟨fun _=>False,fun _=>True,fun _ _ _ _=>trivial⟩
def Ent.box (b:Nat) (cs:Array Value) (T:TypeId):Ent:=⟨fun k=>k=b,fun w=>Bx w b cs T,fun _ _ h hk=>(hk b rfl).trans h⟩
def Ent.row (e size:Nat) (v:Value) (n:Nat) (cs:List Value):Ent :=
 ⟨fun k=>v.ownBlock=some k,fun w=>w.ownsRow 0 e size v n cs,fun _ _ h hk=>(Own.kept (Zaa h) hk).1⟩
def Ent.rows (es e:Nat) (v:Value) (vs:List Value) (css:List (List Value)):Ent :=
 ⟨fun k=>v.ownBlock=some k∨∃ i,i<css.length∧(vs.getD i undef).ownBlock=some k,
  fun w=>w.ownsRow 0 es 1 v css.length vs∧(∀ i,i<css.length→w.ownsRow 0 e 1 (vs.getD i undef) (css.getD i []).length (css.getD i [])) ∧
   (∀ i j k,i<j→j<css.length→(vs.getD i undef).ownBlock=some k→(vs.getD j undef).ownBlock≠some k),
  fun _ _ h hk=>⟨(Own.kept (Zaa h.1) fun k hh=>hk k (Or.inl hh)).1,fun i hi=>(Own.kept (Zaa (h.2.1 i hi)) fun k hh=>hk k (Or.inr ⟨i,hi,hh⟩)).1,h.2.2⟩⟩
structure St (w0 w:World) (L:List Ent):Prop where
 bel:Below w0.heap.size w0 w
 has:∀ (i:Nat) (x:Ent),L[i]? = some x→x.holds w∧∀ k,x.foot k→w0.heap.size≤k∧k<w.heap.size
 far:∀ (i j:Nat) (x y:Ent),i≠j→L[i]? = some x→L[j]? = some y→x.apart y
section
variable {w0 w w':World} {L:List Ent}
theorem St.start (w:World):St w w []:=⟨Below.refl _ _,fun i x h=>by simp at h,fun i j x y _ h=>by simp at h⟩
theorem St.size (h:St w0 w L):w0.heap.size≤w.heap.size:=h.bel.size
theorem St.call (h:St w0 w L) (hb:Below w.heap.size w w'):St w0 w' L :=
 ⟨h.bel.trans (hb.mono h.bel.size),fun i x hx=>by obtain⟨a,b⟩:=h.has i x hx;exact⟨x.stable w w' a fun k hk=>hb.block k (b k hk).2,fun k hk=>⟨(b k hk).1,Nat.lt_of_lt_of_le (b k hk).2 hb.size⟩⟩,h.far⟩
theorem St.drew (h:St w0 w L):St w0 w.drew L:=h.call (Below.refl _ _).drew
theorem St.drewN (h:St w0 w L) (n:Nat):St w0 (w.drewN n) L:=h.call (below_drewN (Below.refl _ _) n)
theorem St.add (h:St w0 w L) (hb:Below w.heap.size w w') (y:Ent) (hy:y.holds w') (hf:∀ k,y.foot k→w.heap.size≤k∧k<w'.heap.size):St w0 w' (L++[y]):=by
 have h2:=h.call hb
 have key:∀ i x,(L++[y])[i]? = some x→(L[i]? = some x)∨(i=L.length∧x=y):=fun i x hx=>by
  rw[List.getElem?_append] at hx
  split at hx
  ·exact Or.inl hx
  rename_i hl
  have:i-L.length=0:=by
   rcases Nat.eq_zero_or_pos (i-L.length) with h0|h0
   ·exact h0
   rw[List.getElem?_eq_none (by simp;omega)] at hx;cases hx
  rw[this] at hx;simp at hx;exact Or.inr ⟨by omega,hx.symm⟩
 refine⟨h2.bel,fun i x hx => ?_,fun i j x z hij hx hz => ?_⟩
 ·rcases key i x hx with hx1|⟨-,rfl⟩
  ·exact h2.has i x hx1
  exact⟨hy,fun k hk=>⟨Nat.le_trans h.bel.size (hf k hk).1,(hf k hk).2⟩⟩
 rcases key i x hx with hx1|⟨hi,hxy⟩
 ·rcases key j z hz with hz1|⟨hj,hzy⟩
  ·exact h.far i j x z hij hx1 hz1
  intro k hk hk2;rw[hzy] at hk2;have:=((h.has i x hx1).2 k hk).2;have:=(hf k hk2).1;omega
 rcases key j z hz with hz1|⟨hj,hzy⟩
 ·intro k hk hk2;rw[hxy] at hk;have:=((h.has j z hz1).2 k hk2).2;have:=(hf k hk).1;omega
 exact absurd (hi.trans hj.symm) hij
theorem St.alloc (h:St w0 w L) (b:Nat) (hb:w.heap.size=b) (cs:Array Value) (T:TypeId):St w0 (w.alloc (.cells cs T)) (L++[Ent.box b cs T]):=by subst hb;exact h.add ((Below.refl _ _).alloc (Nat.le_refl _) _) _ (Bx.new w cs T) fun k hk=>by have hk:k=w.heap.size:=hk;subst hk;exact⟨Nat.le_refl _,by simp⟩
theorem St.alloc_ (h:St w0 w L) (o:Obj):St w0 (w.alloc o) L:=h.call ((Below.refl _ _).alloc (Nat.le_refl _) _)
theorem Zc3 {B B' e size n:Nat} {v:Value} {cs:List Value} (h:w.ownsRow B e size v n cs) (hB:B'≤B):w.ownsRow B' e size v n cs:=(Own.mono (Zaa h) hB (Nat.le_refl _)).1
theorem Zeg {B e size n:Nat} {v:Value} {cs:List Value} (h:w.ownsRow 0 e size v n cs) (hB:∀ k,v.ownBlock=some k→B≤k):w.ownsRow B e size v n cs:=by
 refine⟨h.1,?_⟩;rcases h.2 with h1|⟨g,cap,cur,rfl,-,r⟩
 ·exact Or.inl h1
 exact Or.inr ⟨g,cap,cur,rfl,hB g rfl,r⟩
theorem St.made (h:St w0 w L) (hb:Below w.heap.size w w') {e size n:Nat} {v:Value} {cs:List Value} (hr:w'.ownsRow w.heap.size e size v n cs):St w0 w' (L++[Ent.row e size v n cs]) :=
 h.add hb _ (Zc3 hr (Nat.zero_le _)) fun k hk=>hr.lt k hk
theorem St.nilRow (h:St w0 w L) (e size:Nat):St w0 w (L++[Ent.row e size (.slice none 0 0) 0 []]) :=
 h.add (Below.refl _ _) _ ⟨by simp,Or.inl ⟨rfl,rfl⟩⟩ fun k hk=>by cases hk
theorem St.only {lo hi:Nat} (h:St w0 w L) (hm:Only lo hi w w') (hlo:w0.heap.size≤lo) (hd:∀ x∈L,∀ k,x.foot k→k<lo∨hi≤k):St w0 w' L :=
 ⟨h.bel.trans ⟨hm.os,hm.tape,hm.output,hm.size,fun k hk=>hm.block k (Nat.lt_of_lt_of_le hk h.size) (Or.inl (Nat.lt_of_lt_of_le hk hlo))⟩,fun i x hx=>by obtain⟨a,b⟩:=h.has i x hx;exact⟨x.stable w w' a fun k hk=>hm.block k (b k hk).2 (hd x (List.mem_of_getElem? hx) k hk),fun k hk=>⟨(b k hk).1,Nat.lt_of_lt_of_le (b k hk).2 hm.size⟩⟩,h.far⟩
theorem St.turn (h:St w0 w L) (i:Nat) {x:Ent} (hx:L[i]? = some x) (y:Ent) (hos:w'.os=w.os) (ht:w'.tape=w.tape) (ho:w'.output=w.output) (hs:w.heap.size≤w'.heap.size)
  (hk:∀ k,k<w.heap.size→¬ x.foot k→w'.heap[k]? = w.heap[k]?) (hy:y.holds w') (hf:∀ k,y.foot k→k<w'.heap.size∧(x.foot k∨w.heap.size≤k)):St w0 w' (L.set i y):=by
 have hil:i<L.length:=(List.getElem?_eq_some_iff.1 hx).1
 have key:∀ j z,(L.set i y)[j]? = some z→(j≠i∧L[j]? = some z)∨(j=i∧z=y):=fun j z hz=>by
  rw[List.getElem?_set] at hz
  split at hz
  ·rename_i e;subst e;simp only[Option.some.injEq] at hz;exact Or.inr ⟨rfl,hz.symm⟩
  rename_i e;exact Or.inl ⟨fun e2=>e e2.symm,hz⟩
 have hb:Below w0.heap.size w0 w':=h.bel.trans ⟨hos,ht,ho,hs,fun k hk0=>hk k (Nat.lt_of_lt_of_le hk0 h.size) fun hf0=>by have:=((h.has i x hx).2 k hf0).1;omega⟩;refine⟨hb,fun j z hz => ?_,fun j l z u hjl hz hu => ?_⟩
 ·rcases key j z hz with⟨hj,hz⟩|⟨-,rfl⟩
  ·obtain⟨a,b⟩:=h.has j z hz;exact⟨z.stable w w' a fun k hk2=>hk k (b k hk2).2 (h.far j i z x hj hz hx k hk2),fun k hk2=>⟨(b k hk2).1,Nat.lt_of_lt_of_le (b k hk2).2 hs⟩⟩
  refine⟨hy,fun k hk2=>⟨?_,(hf k hk2).1⟩⟩;rcases(hf k hk2).2 with h1|h1
  ·exact((h.has i x hx).2 k h1).1
  exact Nat.le_trans h.size h1
 have one:∀ (l:Nat) (u:Ent),l≠i→L[l]? = some u→y.apart u:=fun l u hl hu k hk1 hk2=>by
  rcases(hf k hk1).2 with h1|h1
  ·exact h.far i l x u (fun e=>hl e.symm) hx hu k h1 hk2
  have:=((h.has l u hu).2 k hk2).2;omega
 rcases key j z hz with⟨hj,hz1⟩|⟨hj,hzy⟩
 ·rcases key l u hu with⟨hl,hu1⟩|⟨hl,huy⟩
  ·exact h.far j l z u hjl hz1 hu1
  rw[huy];exact(one j z hj hz1).symm
 rw[hzy];rcases key l u hu with⟨hl,hu1⟩|⟨hl,huy⟩
 ·exact one l u hl hu1
 exact absurd (hj.trans hl.symm) hjl
theorem St.set (h:St w0 w L) (i:Nat) {b:Nat} {cs:Array Value} {T:TypeId} (hx:L[i]? = some (Ent.box b cs T)) (j:Nat) (v:Value):St w0 (w.setCell ⟨b,j,none⟩ v) (L.set i (Ent.box b (cs.setIfInBounds j v) T)):=by have hb:Bx w b cs T:=(h.has i _ hx).1;exact h.turn i hx _ rfl rfl rfl (by simp[World.setCell]) (fun k _ hk=>Below.heap_setCell _ _ _ _ hk) (hb.set j v) fun k hk=>by have hk:k=b:=hk;subst hk;exact⟨(hb.set j v).lt,Or.inl rfl⟩
theorem St.store (h:St w0 w L) (i:Nat) {e size g n cap:Nat} {cs:List Value} (hx:L[i]? = some (Ent.row e size (.slice (some ⟨g,0,none⟩) n cap) n cs)) (j:Nat) (v:Value) :
  St w0 (w.setCell ⟨g,j,none⟩ v) (L.set i (Ent.row e size (.slice (some ⟨g,0,none⟩) n cap) n (cs.set j v))):=by
 have hr:w.ownsRow 0 e size (.slice (some ⟨g,0,none⟩) n cap) n cs:=(h.has i _ hx).1;have hr2:=(hr.stored j v).1;exact h.turn i hx _ rfl rfl rfl (by simp[World.setCell]) (fun k _ hk=>Below.heap_setCell _ _ _ _ (fun e=>hk (by rw[e];rfl))) hr2 fun k hk=>⟨(hr2.lt k hk).2,Or.inl hk⟩
theorem St.grow (h:St w0 w L) (i:Nat) {B e size n m:Nat} {v v':Value} {cs cs':List Value} (hx:L[i]? = some (Ent.row e size v n cs)) (hg:w.grownBy w' v.ownBlock) (hown:w'.ownsRow B e size v' m cs')
  (hat:∀ k,v'.ownBlock=some k→v.ownBlock=some k∨w.heap.size≤k):St w0 w' (L.set i (Ent.row e size v' m cs')) :=
 h.turn i hx _ hg.os hg.tape hg.output hg.size (fun k hk hn=>hg.block k hk fun e=>hn e.symm) (Zc3 hown (Nat.zero_le _)) fun k hk=>⟨(hown.lt k hk).2,hat k hk⟩
theorem ZdX {v:Value} {g n cap H:Nat} (hat:v.ownBlock=some g∨g=H):∀ k,(Value.slice (some ⟨g,0,none⟩) n cap).ownBlock=some k→v.ownBlock=some k∨H≤k:=fun k hk=>by
 have hk:some g=some k:=hk;obtain rfl:g=k:=Option.some.inj hk;rcases hat with h1|h1
 ·exact Or.inl h1
 exact Or.inr (by omega)
theorem St.app (h:St w0 w L) (i:Nat) {B e size n m g cap:Nat} {v:Value} {cs cs':List Value} (hx:L[i]? = some (Ent.row e size v n cs)) (hown:w'.ownsRow B e size (.slice (some ⟨g,0,none⟩) m cap) m cs') (hg:w.grownBy w' v.ownBlock)
  (hat:v.ownBlock=some g∨g=w.heap.size):St w0 w' (L.set i (Ent.row e size (.slice (some ⟨g,0,none⟩) m cap) m cs')):=h.grow i hx hg hown (ZdX hat)
theorem St.pick (h:St w0 w L) (f:List Nat) (hn:f.Nodup):St w0 w (f.map fun i=>L.getD i Ent.nil):=by
 have key:∀ i x,(f.map fun i=>L.getD i Ent.nil)[i]? = some x→∃ a,f[i]? = some a∧(L[a]? = some x∨x=Ent.nil):=fun i x hx=>by
  rw[List.getElem?_map] at hx;cases hf:f[i]? with
  | none=>rw[hf] at hx;cases hx
  | some a =>
   rw[hf] at hx;simp only[Option.map_some,Option.some.injEq,List.getD_eq_getElem?_getD] at hx;refine⟨a,hf,?_⟩;cases hl:L[a]? with
   | none=>rw[hl] at hx;exact Or.inr hx.symm
   | some y=>rw[hl] at hx;exact Or.inl (by rw[← hx];rfl)
 refine⟨h.bel,fun i x hx => ?_,fun i j x y hij hx hy => ?_⟩
 ·obtain⟨a,-,h1|rfl⟩:=key i x hx
  ·exact h.has a x h1
  exact⟨trivial,fun k hk=>hk.elim⟩
 obtain⟨a,ha,h1⟩:=key i x hx;obtain⟨c,hc,h2⟩:=key j y hy;rcases h1 with h1|rfl
 ·rcases h2 with h2|rfl
  ·refine h.far a c x y (fun e=>hij ?_) h1 h2;subst e;exact(List.getElem?_inj (List.getElem?_eq_some_iff.1 ha).1 hn).1 (ha.trans hc.symm)
  exact fun k _ hk=>hk
 exact fun k hk=>hk.elim
theorem St.box (h:St w0 w L) (i:Nat) {b:Nat} {cs:Array Value} {T:TypeId} (hx:L[i]? = some (Ent.box b cs T)):Bx w b cs T:=(h.has i _ hx).1
theorem St.cell (h:St w0 w L) (i j:Nat) {b:Nat} {cs:Array Value} {T:TypeId} {v:Value} (hx:L[i]? = some (Ent.box b cs T)) (hv:cs[j]? = some v):w.cell? ⟨b,j,none⟩=some v:=((h.box i hx).cell j).trans hv
theorem St.fr (h:St w0 w L) (i j:Nat) {b:Nat} {cs:Array Value} {T:TypeId} (hx:L[i]? = some (Ent.box b cs T)):w.frozen? ⟨b,j,none⟩=false:=(h.box i hx).fr j
theorem St.boxlt (h:St w0 w L) (i:Nat) {b:Nat} {cs:Array Value} {T:TypeId} (hx:L[i]? = some (Ent.box b cs T)):w0.heap.size≤b∧b<w.heap.size:=(h.has i _ hx).2 b rfl
theorem St.row (h:St w0 w L) (i:Nat) {e size n:Nat} {v:Value} {cs:List Value} (hx:L[i]? = some (Ent.row e size v n cs)):w.ownsRow w0.heap.size e size v n cs:=Zeg (h.has i _ hx).1 fun k hk=>((h.has i _ hx).2 k hk).1
theorem St.rcell (h:St w0 w L) (i j:Nat) {e size g n cap:Nat} {cs:List Value} {v:Value} (hx:L[i]? = some (Ent.row e size (.slice (some ⟨g,0,none⟩) n cap) n cs)) (hj:j<n*size) (hv:cs[j]? = some v):w.cell? ⟨g,j,none⟩=some v :=
 ((h.row i hx).cellAt j hj).trans hv
theorem St.rfr (h:St w0 w L) (i j:Nat) {e size g n cap:Nat} {cs:List Value} (hx:L[i]? = some (Ent.row e size (.slice (some ⟨g,0,none⟩) n cap) n cs)):w.frozen? ⟨g,j,none⟩=false :=
 World.ownsRow.frozenAt (h.row i hx) j
theorem St.rowlt (h:St w0 w L) (i:Nat) {e size g n cap:Nat} {cs:List Value} (hx:L[i]? = some (Ent.row e size (.slice (some ⟨g,0,none⟩) n cap) n cs)):w0.heap.size≤g∧g<w.heap.size:=(h.has i _ hx).2 g rfl
theorem St.rowcap (h:St w0 w L) (i:Nat) {e size g n cap:Nat} {cs:List Value} (hx:L[i]? = some (Ent.row e size (.slice (some ⟨g,0,none⟩) n cap) n cs)):n≤cap∧cap≤9223372036854775807:=by
 have hr:=h.row i hx;rcases hr.2 with⟨h1,-⟩|⟨g',cap',cur,h1,-,-,h4,h5,-⟩
 ·cases h1
 simp only[Value.slice.injEq,true_and] at h1;obtain⟨-,rfl⟩:=h1;exact⟨h4,h5⟩
theorem St.rowform (h:St w0 w L) (i:Nat) {e size n:Nat} {v:Value} {cs:List Value} (hx:L[i]? = some (Ent.row e size v n cs)) (hn:0<n):∃ g cap,v = .slice (some ⟨g,0,none⟩) n cap:=by
 rcases(h.row i hx).2 with⟨-,h1⟩|⟨g',cap',cur,h1,-⟩
 ·omega
 exact⟨g',cap',h1⟩
theorem St.rowany (h:St w0 w L) (i:Nat) {e size n:Nat} {v:Value} {cs:List Value} (hx:L[i]? = some (Ent.row e size v n cs)):∃ a cap,v = .slice a n cap∧n≤cap∧cap≤9223372036854775807:=by
 rcases(h.row i hx).2 with⟨h1,h2⟩|⟨g',cap',cur,h1,-,-,h4,h5,-⟩
 ·exact⟨none,0,by rw[h1,h2],by omega,by omega⟩
 exact⟨_,cap',h1,h4,h5⟩
theorem St.merge (h:St w0 w L) (i j:Nat) (hij:i≠j) {x y:Ent} (hx:L[i]? = some x) (hy:L[j]? = some y) (z:Ent) (hz:x.holds w→y.holds w→x.apart y→z.holds w) (hf:∀ k,z.foot k→x.foot k∨y.foot k):St w0 w ((L.set i z).set j Ent.nil):=by
 have hil:i<L.length:=(List.getElem?_eq_some_iff.1 hx).1;have hjl:j<L.length:=(List.getElem?_eq_some_iff.1 hy).1
 have key:∀ l u,((L.set i z).set j Ent.nil)[l]? = some u→u=Ent.nil∨(l=i∧u=z)∨(l≠i∧l≠j∧L[l]? = some u):=fun l u hu=>by
  rw[List.getElem?_set] at hu
  split at hu
  ·simp[hjl] at hu;exact Or.inl hu.symm
  rename_i hlj;rw[List.getElem?_set] at hu
  split at hu
  ·rename_i hli;simp at hu;exact Or.inr (Or.inl ⟨hli.symm,hu.symm⟩)
  rename_i hli;exact Or.inr (Or.inr ⟨fun e=>hli e.symm,fun e=>hlj e.symm,hu⟩)
 refine⟨h.bel,fun l u hu => ?_,fun l m u t hlm hu ht => ?_⟩
 ·rcases key l u hu with rfl|⟨-,rfl⟩|⟨-,-,h1⟩
  ·exact⟨trivial,fun k hk=>hk.elim⟩
  ·refine⟨hz (h.has i x hx).1 (h.has j y hy).1 (h.far i j x y hij hx hy),fun k hk => ?_⟩;rcases hf k hk with h2|h2
   ·exact(h.has i x hx).2 k h2
   exact(h.has j y hy).2 k h2
  exact h.has l u h1
 have one:∀ (l:Nat) (u:Ent),l≠i→l≠j→L[l]? = some u→z.apart u:=fun l u hl1 hl2 hu k hk1 hk2=>by
  rcases hf k hk1 with h2|h2
  ·exact h.far i l x u (fun e=>hl1 e.symm) hx hu k h2 hk2
  exact h.far j l y u (fun e=>hl2 e.symm) hy hu k h2 hk2
 rcases key l u hu with hun|⟨hl,huz⟩|⟨hl1,hl2,h1⟩
 ·rw[hun];exact fun k hk=>hk.elim
 ·rcases key m t ht with htn|⟨hm,htz⟩|⟨hm1,hm2,h2⟩
  ·rw[htn];exact fun k _ hk=>hk
  ·exact absurd (hl.trans hm.symm) hlm
  rw[huz];exact one m t hm1 hm2 h2
 rcases key m t ht with htn|⟨hm,htz⟩|⟨hm1,hm2,h2⟩
 ·rw[htn];exact fun k _ hk=>hk
 ·rw[htz];exact(one l u hl1 hl2 h1).symm
 exact h.far l m u t hlm h1 h2
theorem St.same (h:St w0 w L) (i:Nat) {x:Ent} (hx:L[i]? = some x) (y:Ent) (hy:x.holds w→y.holds w) (hf:∀ k,y.foot k→x.foot k):St w0 w (L.set i y) :=
 h.turn i hx y rfl rfl rfl (Nat.le_refl _) (fun _ _ _=>rfl) (hy (h.has i x hx).1) fun k hk=>⟨((h.has i x hx).2 k (hf k hk)).2,Or.inl (hf k hk)⟩
theorem St.boxrow (h:St w0 w L) (i:Nat) {b:Nat} {T:TypeId} (n size:Nat) (cs:List Value) (hx:L[i]? = some (Ent.box b cs.toArray T)) (hl:cs.length=n*size) (hn:n≤maxLen):St w0 w (L.set i (Ent.row T size (.slice (some ⟨b,0,none⟩) n n) n cs)) :=
 h.same i hx _ (fun hb=>Zg2 hb hl (Nat.zero_le _) hn) fun k hk=>by have hk:some b=some k:=hk;exact(Option.some.inj hk).symm
theorem St.norows (h:St w0 w L) (i:Nat) {es:Nat} {v:Value} (hx:L[i]? = some (Ent.row es 1 v 0 [])) (e:Nat):St w0 w (L.set i (Ent.rows es e v [] [])) :=
 h.same i hx _ (fun hb=>⟨hb,fun i hi=>absurd hi (by simp),fun i j k _ hj=>absurd hj (by simp)⟩) fun k hk=>by
  rcases hk with hk|⟨i,hi,-⟩
  ·exact hk
  simp at hi
theorem St.onerow (h:St w0 w L) (i j:Nat) (hij:i≠j) {es e m:Nat} {v rv:Value} {cs:List Value} (hx:L[i]? = some (Ent.row es 1 v 1 [rv])) (hy:L[j]? = some (Ent.row e 1 rv m cs)) :
  St w0 w ((L.set i (Ent.rows es e v [rv] [cs])).set j Ent.nil):=by
 refine h.merge i j hij hx hy _ (fun h1 h2 h3=>⟨h1,fun l hl => ?_,fun i' j' k hij' hj' => ?_⟩) fun k hk => ?_
 ·obtain rfl:l=0:=by simp at hl;omega
  have h2:w.ownsRow 0 e 1 rv m cs:=h2;have:=h2.1;simp at this;show w.ownsRow 0 e 1 rv cs.length cs;rw[this];exact h2
 ·simp at hj';omega
 rcases hk with hk|⟨l,hl,hk⟩
 ·exact Or.inl hk
 obtain rfl:l=0:=by simp at hl;omega
 exact Or.inr hk
theorem St.snoc (h:St w0 w L) (i j:Nat) (hij:i≠j) {es e m:Nat} {v v' rv:Value} {vs cs:List Value} {css:List (List Value)} (hx:L[i]? = some (Ent.rows es e v vs css)) (hy:L[j]? = some (Ent.row e 1 rv m cs)) (hne:es≠e)
  (hg:w.grownBy w' v.ownBlock) {B:Nat} (hown:w'.ownsRow B es 1 v' (css.length+1) (vs++[rv])) (hat:∀ k,v'.ownBlock=some k→v.ownBlock=some k∨w.heap.size≤k) :
  St w0 w' ((L.set i (Ent.rows es e v' (vs++[rv]) (css++[cs]))).set j Ent.nil):=by
 have hx1:(Ent.rows es e v vs css).holds w:=(h.has i _ hx).1;have hy1:(Ent.row e 1 rv m cs).holds w:=(h.has j _ hy).1;have hfar:=h.far i j _ _ hij hx hy;obtain⟨p1,p2,p3⟩:=hx1;have hap:ZbQ w v.ownBlock e:=Zak p1 hne;have hl:vs.length=css.length:=by have:=p1.1;omega
 have hmc:cs.length=m:=by have:=hy1.1;omega
 have hget:∀ i,i<css.length→(vs++[rv]).getD i undef=vs.getD i undef:=fun i hi=>by simp only[List.getD_eq_getElem?_getD];rw[List.getElem?_append_left (by omega)]
 have hgetn:(vs++[rv]).getD css.length undef=rv:=by simp[← hl]
 have hcget:∀ i,i<css.length→(css++[cs]).getD i []=css.getD i []:=fun i hi=>by simp only[List.getD_eq_getElem?_getD];rw[List.getElem?_append_left (by omega)]
 have hcgetn:(css++[cs]).getD css.length []=cs:=by simp
 have hil:i<L.length:=(List.getElem?_eq_some_iff.1 hx).1;have hjl:j<L.length:=(List.getElem?_eq_some_iff.1 hy).1;have hM:=h.merge i j hij hx hy ⟨fun k=>(Ent.rows es e v vs css).foot k∨(Ent.row e 1 rv m cs).foot k,fun w=>(Ent.rows es e v vs css).holds w∧(Ent.row e 1 rv m cs).holds w,fun a b h1 h2=>⟨Ent.stable _ a b h1.1 fun k hk=>h2 k (Or.inl hk),Ent.stable _ a b h1.2 fun k hk=>h2 k (Or.inr hk)⟩⟩ (fun a b _=>⟨a,b⟩) fun k hk=>hk
 have hT:=hM.turn i (by rw[List.getElem?_set,if_neg (fun e=>hij e.symm),List.getElem?_set,if_pos rfl,if_pos hil]) (Ent.rows es e v' (vs++[rv]) (css++[cs])) hg.os hg.tape hg.output hg.size
  (fun k hk hn=>hg.block k hk fun e=>hn (Or.inl (Or.inl e.symm))) ?_ ?_
 ·have e1:∀ a y:Ent,(((L.set i a).set j Ent.nil).set i y)=((L.set i y).set j Ent.nil):=fun a y=>by rw[List.set_comm _ _ (fun e=>hij e.symm),List.set_set]
  rw[e1] at hT;exact hT
 ·refine⟨by rw[List.length_append];exact Zc3 hown (Nat.zero_le _),fun l hl2 => ?_,fun a b k hab hb hk => ?_⟩
  ·rw[List.length_append,List.length_singleton] at hl2;by_cases hlc:l<css.length
   ·rw[hget l hlc,hcget l hlc];exact Zaf (p2 l hlc) hg hap
   obtain rfl:l=css.length:=by omega
   rw[hgetn,hcgetn,hmc];exact Zaf hy1 hg hap
  rw[List.length_append,List.length_singleton] at hb;rw[hget a (by omega)] at hk;by_cases hbc:b<css.length
  ·rw[hget b hbc];exact p3 a b k hab hbc hk
  obtain rfl:b=css.length:=by omega
  rw[hgetn];intro hk2;exact hfar k (Or.inr ⟨a,hab,hk⟩) hk2
 intro k hk;rcases hk with hk|⟨l,hl2,hk⟩
 ·refine⟨(hown.lt k hk).2,?_⟩;rcases hat k hk with h1|h1
  ·exact Or.inl (Or.inl (Or.inl h1))
  exact Or.inr h1
 rw[List.length_append,List.length_singleton] at hl2;by_cases hlc:l<css.length
 ·rw[hget l hlc] at hk;exact⟨Nat.lt_of_lt_of_le ((p2 l hlc).lt k hk).2 hg.size,Or.inl (Or.inl (Or.inr ⟨l,hlc,hk⟩))⟩
 obtain rfl:l=css.length:=by omega
 rw[hgetn] at hk;exact⟨Nat.lt_of_lt_of_le (World.ownsRow.lt hy1 k hk).2 hg.size,Or.inl (Or.inr hk)⟩
theorem St.rows (h:St w0 w L) (i:Nat) {es e:Nat} {v:Value} {vs:List Value} {css:List (List Value)} (hx:L[i]? = some (Ent.rows es e v vs css)) :
  w.ownsRow w0.heap.size es 1 v css.length vs∧(∀ i,i<css.length→w.ownsRow w0.heap.size e 1 (vs.getD i undef) (css.getD i []).length (css.getD i []))∧(∀ i j k,i<j→j<css.length→(vs.getD i undef).ownBlock=some k→(vs.getD j undef).ownBlock≠some k):=by
 have h1:(Ent.rows es e v vs css).holds w:=(h.has i _ hx).1;have h2:=(h.has i _ hx).2;exact⟨Zeg h1.1 fun k hk=>(h2 k (Or.inl hk)).1,fun j hj=>Zeg (h1.2.1 j hj) fun k hk=>(h2 k (Or.inr ⟨j,hj,hk⟩)).1,h1.2.2⟩
theorem St.cat {L':List Ent} (h:St w0 w L) (h':St w w' L'):St w0 w' (L++L'):=by
 have h2:=h.call h'.bel
 have key:∀ i x,(L++L')[i]? = some x→(i<L.length∧L[i]? = some x)∨(L.length≤i∧L'[i-L.length]? = some x):=fun i x hx=>by
  rw[List.getElem?_append] at hx
  split at hx
  ·exact Or.inl ⟨by assumption,hx⟩
  exact Or.inr ⟨by omega,hx⟩
 refine⟨h2.bel,fun i x hx => ?_,fun i j x y hij hx hy => ?_⟩
 ·rcases key i x hx with⟨-,h1⟩|⟨-,h1⟩
  ·exact h2.has i x h1
  refine⟨(h'.has _ x h1).1,fun k hk => ?_⟩;have:=(h'.has _ x h1).2 k hk;exact⟨Nat.le_trans h.size this.1,this.2⟩
 rcases key i x hx with⟨hi,h1⟩|⟨hi,h1⟩
 ·rcases key j y hy with⟨hj,h3⟩|⟨hj,h3⟩
  ·exact h.far i j x y hij h1 h3
  intro k hk hk2;have:=((h.has _ x h1).2 k hk).2;have:=((h'.has _ y h3).2 k hk2).1;omega
 rcases key j y hy with⟨hj,h3⟩|⟨hj,h3⟩
 ·intro k hk hk2;have:=((h.has _ y h3).2 k hk2).2;have:=((h'.has _ x h1).2 k hk).1;omega
 exact h'.far _ _ x y (by omega) h1 h3
theorem St.intSS (h:St w0 w L) (i:Nat) {es e:Nat} {v:Value} {vs:List Value} {xss:List (List Int)} (hx:L[i]? = some (Ent.rows es e v vs (xss.map intCells))):OIntSS es e w0.heap.size w.heap.size w v xss:=by
 obtain⟨p1,p2,p3⟩:=h.rows i hx;rw[List.length_map] at p1 p2 p3;refine⟨vs,Zaa p1,fun i hi => ?_,p3⟩;have:=p2 i hi;have e1:(xss.map intCells).getD i []=intCells (xss.getD i []):=by simp[hi]
 rw[e1] at this;have:=Zaa this;simpa [OInts] using this
end
/-! Many things as one. -/
def Ent.all (R:List Ent):Ent:=⟨fun k=>∃ x∈R,x.foot k,fun w=>∀ x∈R,x.holds w,fun _ _ h hk x hx=>x.stable _ _ (h x hx) fun k hf=>hk k ⟨x,hx,hf⟩⟩
theorem St.pack {w0 w:World} {A R:List Ent} (h:St w0 w (A++R)):St w0 w (A++[Ent.all R]):=by
 have hR:∀ x∈R,∃ i,A.length≤i∧(A++R)[i]? = some x:=fun x hx=>by obtain⟨j,hj,e⟩:=List.getElem_of_mem hx;exact⟨A.length+j,by omega,by rw[List.getElem?_append_right (by omega),Nat.add_sub_cancel_left,List.getElem?_eq_getElem hj,e]⟩
 have key:∀ i x,(A++[Ent.all R])[i]? = some x→(i<A.length∧(A++R)[i]? = some x)∨(i=A.length∧x=Ent.all R):=fun i x hx=>by
  rw[List.getElem?_append] at hx
  split at hx
  ·rename_i hl;exact Or.inl ⟨hl,by rw[List.getElem?_append_left hl];exact hx⟩
  rename_i hl;rcases Nat.eq_zero_or_pos (i-A.length) with h0|h0
  ·rw[h0] at hx;simp at hx;exact Or.inr ⟨by omega,hx.symm⟩
  rw[List.getElem?_eq_none (by simp;omega)] at hx;cases hx
 refine⟨h.bel,fun i x hx => ?_,fun i j x y hij hx hy => ?_⟩
 ·rcases key i x hx with⟨-,h1⟩|⟨-,rfl⟩
  ·exact h.has i x h1
  refine⟨fun z hz => ?_,fun k ⟨z,hz,hk⟩ => ?_⟩
  ·obtain⟨l,-,hl⟩:=hR z hz;exact(h.has l z hl).1
  obtain⟨l,-,hl⟩:=hR z hz;exact(h.has l z hl).2 k hk
 rcases key i x hx with⟨hi,h1⟩|⟨hi,hxe⟩
 ·rcases key j y hy with⟨hj,h2⟩|⟨hj,hye⟩
  ·exact h.far i j x y hij h1 h2
  rw[hye];rintro k hk ⟨z,hz,hk2⟩;obtain⟨l,hl1,hl⟩:=hR z hz;exact h.far i l x z (by omega) h1 hl k hk hk2
 rcases key j y hy with⟨hj,h2⟩|⟨hj,hye⟩
 ·rw[hxe];rintro k ⟨z,hz,hk⟩ hk2;obtain⟨l,hl1,hl⟩:=hR z hz;exact h.far l j z y (by omega) hl h2 k hk hk2
 exact absurd (hi.trans hj.symm) hij
theorem St.unpack {w0 w w':World} {A A' R:List Ent} (h:St w0 w (A++R)) (h':St w0 w' (A'++[Ent.all R])):St w0 w' (A'++R):=by
 have hX:(A'++[Ent.all R])[A'.length]? = some (Ent.all R):=by simp
 have hXh:=h'.has _ _ hX
 have key:∀ i x,(A'++R)[i]? = some x→(i<A'.length∧(A'++[Ent.all R])[i]? = some x)∨(A'.length≤i∧R[i-A'.length]? = some x):=fun i x hx=>by
  rw[List.getElem?_append] at hx
  split at hx
  ·rename_i hl;exact Or.inl ⟨hl,by rw[List.getElem?_append_left hl];exact hx⟩
  exact Or.inr ⟨by omega,hx⟩
 refine⟨h'.bel,fun i x hx => ?_,fun i j x y hij hx hy => ?_⟩
 ·rcases key i x hx with⟨-,h1⟩|⟨-,h1⟩
  ·exact h'.has i x h1
  have hm:=List.mem_of_getElem? h1;exact⟨hXh.1 x hm,fun k hk=>hXh.2 k ⟨x,hm,hk⟩⟩
 rcases key i x hx with⟨hi,h1⟩|⟨hi,h1⟩
 ·rcases key j y hy with⟨hj,h2⟩|⟨hj,h2⟩
  ·exact h'.far i j x y hij h1 h2
  intro k hk hk2;exact h'.far i A'.length x _ (by omega) h1 hX k hk ⟨y,List.mem_of_getElem? h2,hk2⟩
 rcases key j y hy with⟨hj,h2⟩|⟨hj,h2⟩
 ·intro k hk hk2;exact h'.far A'.length j _ y (by omega) hX h2 k ⟨x,List.mem_of_getElem? h1,hk⟩ hk2
 refine h.far (A.length+(i-A'.length)) (A.length+(j-A'.length)) x y (by omega) ?_ ?_
 ·rw[List.getElem?_append_right (by omega)];simpa using h1
 rw[List.getElem?_append_right (by omega)];simpa using h2
/-! What is read above a block stays where a block below is written. -/
theorem Sl.far {B:Nat} {w:World} {v:Value} {n size:Nat} {cs:List Value} (h:Sl B w v n size cs) {b:Nat} (hb:b<B) (j:Nat) (u:Value):Sl B (w.setCell ⟨b,j,none⟩ u) v n size cs:=by obtain⟨hl,a,cap,hv,h1,h2,h3⟩:=h;refine⟨hl,a,cap,hv,h1,h2,fun hn => ?_⟩;obtain⟨c,off,ha,hc,hlt,hcs⟩:=h3 hn;refine⟨c,off,ha,hc,by rw[ZaF];exact hlt,fun i hi => ?_⟩;rw[← hcs i hi];exact World.cell?_of_block (Below.heap_setCell w ⟨b,j,none⟩ u c (by show c≠b;omega))
theorem IntSS.far {B:Nat} {w:World} {v:Value} {xss:List (List Int)} (h:IntSS B w v xss) {b:Nat} (hb:b<B) (j:Nat) (u:Value):IntSS B (w.setCell ⟨b,j,none⟩ u) v xss:=by obtain⟨vs,h1,h2⟩:=h;exact⟨vs,h1.far hb j u,fun i hi=>Sl.far (h2 i hi) hb j u⟩
theorem DfaR.far {B:Nat} {w:World} {v:Value} {d:DfaD} (h:DfaR B w v d) {b:Nat} (hb:b<B) (j:Nat) (u:Value):DfaR B (w.setCell ⟨b,j,none⟩ u) v d:=by obtain⟨v1,v2,hv,h1,h2⟩:=h;exact⟨v1,v2,hv,h1.far hb j u,Sl.far h2 hb j u⟩
def pOk (p:Int × Int):Bool:=inB p.1 1 8&&(decide (p.1=3)&&inB p.2 0 2||(!decide (p.1=3)&&decide (p.2=0)))
def Zah (p:Int × Int):Int:=if pOk p=true then(if p.1=1∨p.1=2∨p.1=3 then 0 else if p.1=7∨p.1=8 then 1 else 2) else -1
theorem Zce (p:Int × Int):-1≤Zah p∧Zah p≤2:=by
 unfold Zah
 split<;>(try split)<;>(try split)<;>omega
theorem Zfn {p:Int × Int} (h:0≤Zah p):pOk p=true:=by
 unfold Zah at h
 split at h
 ·assumption
 omega
def dep (es:List (Int × Int)):Nat→Int
 | 0=>0
 | k+1=>dep es k-Zah (es.getD k (0,0))+1
theorem ZfR (es:List (Int × Int)):∀ k:Nat,-(2*k:Int)≤dep es k∧dep es k≤2*k
 | 0=>by simp[dep]
 | k+1=>by have ih:=ZfR es k;have:=Zce (es.getD k (0,0));unfold dep;omega
def exAt (es:List (Int × Int)) (k:Nat):Bool:=decide (0≤Zah (es.getD k (0,0)))&&decide (Zah (es.getD k (0,0))≤dep es k)
def exOk (es:List (Int × Int)):Bool:=(List.range es.length).all (exAt es)&&decide (dep es es.length=1)&&decide (es.length≤60)
theorem ZcC {es:List (Int × Int)} (h:exOk es=true):(∀ k,k<es.length→0≤Zah (es.getD k (0,0))∧Zah (es.getD k (0,0))≤dep es k)∧dep es es.length=1∧1≤es.length∧es.length≤60:=by
 simp only[exOk,exAt,Bool.and_eq_true,List.all_eq_true,List.mem_range,decide_eq_true_eq] at h;refine⟨h.1.1,h.1.2,?_,h.2⟩;cases es with
 | nil=>have:=h.1.2;simp[dep] at this
 | cons=>simp
theorem Zjx {es:List (Int × Int)} {k:Nat} (hk:k<es.length) (h:exAt es k=false):exOk es=false:=by
 cases he:exOk es with
 | false=>rfl
 | true =>obtain⟨h1,-⟩:=ZcC he;obtain⟨a,b⟩:=h1 k hk;simp only[exAt,decide_eq_true a,decide_eq_true b,Bool.and_self] at h;cases h
theorem Zn8 {es:List (Int × Int)} (h:∀ k,k<es.length→0≤Zah (es.getD k (0,0))∧Zah (es.getD k (0,0))≤dep es k):∀ k,0<k→k≤es.length→1≤dep es k
 | 0,h0,_=>by omega
 | k+1,_,hk=>by have:=h k (by omega);unfold dep;omega
def ZbZ (es:List (Int × Int)) (n a:Nat):Prop:=a<n∧dep es a=dep es n-1∧∀ j,a<j→j<n→dep es j≠dep es n-1
theorem Zmj {es:List (Int × Int)} {n:Nat} (h:∀ k,k<n→0≤Zah (es.getD k (0,0))) (hn:1≤dep es n):∃ a,ZbZ es n a:=by
 have key:∀ m,m≤n→(∀ j,m≤j→j<n→dep es j≠dep es n-1)→(m=n∨dep es n≤dep es m)→∃ a,ZbZ es n a:=by
  intro m
  induction m with
  | zero =>
   intro _ hj hm;exfalso;have h0:dep es 0=0:=rfl;rcases hm with hm|hm
   ·subst hm;omega
   omega
  | succ m ih =>
   intro hmn hj hm;have hs:dep es (m+1)=dep es m-Zah (es.getD m (0,0))+1:=rfl;have hp:=h m (by omega)
   have hge:dep es n≤dep es (m+1):=by
    rcases hm with hm|hm
    ·rw[hm];exact Int.le_refl _
    exact hm
   by_cases he:dep es m=dep es n-1
   ·exact⟨m,by omega,he,fun j h1 h2=>hj j (by omega) h2⟩
   exact ih (by omega) (fun j h1 h2=>by
    by_cases hjm:j=m
    ·rw[hjm];exact he
    exact hj j (by omega) h2) (Or.inr (by omega))
 exact key n (Nat.le_refl _) (fun j h1 h2=>by omega) (Or.inl rfl)
end Go.Proofs.YtfikabecgaappaaGreat
namespace Go.Proofs.YtfikabecgaappaaGreat
open Go.RowKit
theorem Zau {a b:Int} (h:a≠b):(a==b)=false∧(a=b)=False∧(a != b)=true∧(!(a==b))=true:=by simp[h]
theorem ZdK (k l:Int) (w:World) (r:Bool) (hr:pOk (k,l)=r) :
  Calls Tryz.prog 129 #[.agg #[.int .i64 k,.int .i64 l]] w fun e w'=>e = .returned (.bool r)∧Below w.heap.size w w':=by
 unfold pOk at hr;simp only at hr;cases h1:inB k 1 8
 ·rw[h1,Bool.false_and] at hr;subst hr;have H1:=qh h1;clear h1
  go_enter Tryz.func129, Tryz.ntmps129
  go_wp2_with (go_at_call 71;refine(Za2 _ _ _ _ _ H1.out).mono ?_;rintro e w' ⟨rfl,rfl⟩);go_ret;exact⟨rfl,(Below.refl _ _).alloc (Nat.le_refl _) _⟩
 rw[h1,Bool.true_and] at hr;have H1:=qh h1;clear h1;by_cases h3:k=3
 ·subst h3;cases h2:inB l 0 2
  ·rw[h2] at hr;have hr:false=r:=hr;subst hr;have H2:=qh h2;clear h2
   go_enter Tryz.func129, Tryz.ntmps129
   go_wp2_with (go_at_call 71;(first|(with_reducible refine(Za2 _ _ _ _ _ H1.out).mono ?_)|(with_reducible refine(Za2 _ _ _ _ _ H2.out).mono ?_));rintro e w' ⟨rfl,rfl⟩);go_ret;exact⟨rfl,(Below.refl _ _).alloc (Nat.le_refl _) _⟩
  rw[h2] at hr;have hr:true=r:=hr;subst hr;have H2:=qh h2;clear h2
  go_enter Tryz.func129, Tryz.ntmps129
  go_wp2_with (go_at_call 71;(first|(with_reducible refine(Za2 _ _ _ _ _ H1.out).mono ?_)|(with_reducible refine(Za2 _ _ _ _ _ H2.out).mono ?_));rintro e w' ⟨rfl,rfl⟩);go_ret;exact⟨rfl,(Below.refl _ _).alloc (Nat.le_refl _) _⟩
 obtain⟨q1,q2,q3,q4⟩:=Zau h3;rw[decide_eq_false h3] at hr;replace h3:=qh h3;by_cases h0:l=0
 ·subst h0;have hr:true=r:=hr;subst hr
  go_enter Tryz.func129, Tryz.ntmps129
  go_wp2_with (go_at_call 71;refine(Za2 _ _ _ _ _ H1.out).mono ?_;rintro e w' ⟨rfl,rfl⟩);go_ret;exact⟨rfl,(Below.refl _ _).alloc (Nat.le_refl _) _⟩
 obtain⟨p1,p2,p3,p4⟩:=Zau h0;rw[decide_eq_false h0] at hr;have hr:false=r:=hr;subst hr;replace h0:=qh h0
 go_enter Tryz.func129, Tryz.ntmps129
 go_wp2_with (go_at_call 71;refine(Za2 _ _ _ _ _ H1.out).mono ?_;rintro e w' ⟨rfl,rfl⟩);go_ret;exact⟨rfl,(Below.refl _ _).alloc (Nat.le_refl _) _⟩
theorem Zbs (k l:Int) (w:World) (n:Int) (hn:Zah (k,l)=n) :
  Calls Tryz.prog 83 #[.agg #[.int .i64 k,.int .i64 l]] w fun e w'=>e = .returned (.int .i64 n)∧Below w.heap.size w w':=by
 have hS0:=(St.start w).alloc _ rfl #[.int .i64 k,.int .i64 l] 57;have e0:=hS0.cell (v:=.int .i64 k) 0 0 rfl rfl;have e1:=hS0.cell (v:=.int .i64 l) 0 1 rfl rfl;cases h:pOk (k,l)
 ·have hn1:n = -1:=by rw[← hn];unfold Zah;rw[if_neg (by simp[h])]
  subst hn1;have H:=qh h;replace hS0:=qh hS0;clear hn h
  go_enter Tryz.func83, Tryz.ntmps83
  go_wp2_with fail;refine(ZdK k l _ _ H.out).mono ?_;rintro e w1 ⟨rfl,hb1⟩;have HS1:=qh (hS0.out.call hb1);clear hb1;go_wp2;go_ret;exact⟨rfl,HS1.out.bel⟩
 have hk:k=1∨k=2∨k=3∨k=4∨k=5∨k=6∨k=7∨k=8:=by have h':=h;unfold pOk at h';simp only[Bool.and_eq_true] at h';have:=ZdU h'.1;omega
 have hn1:n=if k=1∨k=2∨k=3 then 0 else if k=7∨k=8 then 1 else 2:=by rw[← hn];unfold Zah;rw[if_pos h]
 have H:=qh h;replace hS0:=qh hS0;clear hn h;rcases hk with rfl|rfl|rfl|rfl|rfl|rfl|rfl|rfl
 all_goals
  simp at hn1;subst hn1
  go_enter Tryz.func83, Tryz.ntmps83
  go_wp2_with fail;refine(ZdK _ l _ _ H.out).mono ?_;rintro e w1 ⟨rfl,hb1⟩;have c0:=(hS0.out.call hb1).cell (v:=.int .i64 _) 0 0 rfl rfl;have HS1:=qh (hS0.out.call hb1);clear hb1;go_wp2;go_ret;exact⟨rfl,HS1.out.bel⟩
theorem Zh9 (xs:List (Int × Int)):∀ n:Nat,(xs.take n).flatMap Zag=(xs.flatMap Zag).take (n*2):=by
 induction xs with
 | nil=>intro n;simp
 | cons x l ih =>
  intro n;cases n with
  | zero=>simp
  | succ n =>rw[List.take_succ_cons,List.flatMap_cons,List.flatMap_cons,ih n,show(n+1)*2=n*2+2 by omega];rfl
theorem Zia (xs:List (Int × Int)):∀ n:Nat,(xs.drop n).flatMap Zag=(xs.flatMap Zag).drop (n*2):=by
 induction xs with
 | nil=>intro n;simp
 | cons x l ih =>
  intro n;cases n with
  | zero=>simp
  | succ n =>rw[List.drop_succ_cons,List.flatMap_cons,ih n,show(n+1)*2=n*2+2 by omega];rfl
theorem Pairs.take {w:World} {a:Option Addr} {len cap:Nat} {xs:List (Int × Int)} (h:Pairs 0 w (.slice a len cap) xs) {n:Nat} (hn:n≤xs.length):Pairs 0 w (.slice a n cap) (xs.take n):=by
 obtain⟨hl,a',cap',hv,h1,h2,h3⟩:=h;simp only[Value.slice.injEq] at hv;obtain⟨rfl,rfl,rfl⟩:=hv;have e:(xs.take n).length=n:=by rw[List.length_take];omega
 unfold Pairs;rw[e];refine⟨by rw[Zh9,List.length_take];omega,a,cap,rfl,by omega,h2,fun hn0 => ?_⟩;obtain⟨b,off,ha,hb,hlt,hc⟩:=h3 (by omega);refine⟨b,off,ha,hb,hlt,fun j hj => ?_⟩;rw[hc j (by omega),Zh9,List.getElem?_take_of_lt hj]
theorem Pairs.drop {w:World} {b off len cap:Nat} {xs:List (Int × Int)} (h:Pairs 0 w (.slice (some ⟨b,off,none⟩) len cap) xs) {n:Nat} (hn:n<xs.length):Pairs 0 w (.slice (some ⟨b,off+n*2,none⟩) (xs.length-n) (cap-n)) (xs.drop n):=by obtain⟨hl,a',cap',hv,h1,h2,h3⟩:=h;simp only[Value.slice.injEq] at hv;obtain⟨rfl,rfl,rfl⟩:=hv;unfold Pairs;rw[List.length_drop];refine⟨by rw[Zia,List.length_drop];omega,_,_,rfl,by omega,by omega,fun hn0 => ?_⟩;obtain⟨b',off',ha,hb,hlt,hc⟩:=h3 (by omega);simp only[Option.some.injEq,Addr.mk.injEq,and_true] at ha;obtain⟨rfl,rfl⟩:=ha;refine⟨b,off+n*2,rfl,hb,hlt,fun j hj => ?_⟩;rw[show off+n*2+j=off+(n*2+j) by omega,hc _ (by omega),Zia,List.getElem?_drop]
theorem Zd0 (es:List (Int × Int)) (v:Value) (w:World) (hlen:es.length≤2000000) (h:Pairs 0 w v es) (r:Bool) (hr:exOk es=r) :
  Calls Tryz.prog 36 #[v] w fun e w'=>e = .returned (.bool r)∧Below w.heap.size w w':=by
 obtain⟨a,c,rfl,hc1,hc2,hrd⟩:=h.form;have Hrd:=qh hrd;have Hr:=qh hr;clear h hr hrd
 go_enter Tryz.func36, Tryz.ntmps36
 go_wp2
 go_loopw [3,4] (fun vd i wr=>∃ k:Nat,i = .int .i64 k∧k≤es.length∧vd = .int .i64 (dep es k)∧(∀ j,j<k→exAt es j=true)∧Below w.heap.size w wr) (fun _ i _=>es.length-(intOf i).toNat)
 case atStart=>exact⟨0,rfl,Nat.zero_le _,rfl,fun j hj=>absurd hj (by omega),Below.refl _ _⟩
 case round =>
  obtain⟨k,rfl,hk,rfl,hall,hb⟩:=hrel;have hdi:=ZfR es k;have hds:dep es (k+1)=dep es k-Zah (es.getD k (0,0))+1:=rfl;have hpi:=Zce (es.getD k (0,0));have hex:exAt es k=(decide (0≤Zah (es.getD k (0,0)))&&decide (Zah (es.getD k (0,0))≤dep es k)):=rfl;have Hall:=qh hall;have Hb:=qh hb;clear hall hb;by_cases hlt:k<es.length
  ·have hlt2:(k:Int)<es.length:=by omega
   obtain⟨b,o,rfl,-,hbl,hcs⟩:=Hrd.out (by omega);obtain⟨g1,g2⟩:=hcs k hlt;have k1:=(bcell Hb.out b _ hbl).trans g1;have k2:=(bcell Hb.out b _ hbl).trans g2;obtain⟨p,hp⟩:=eI (es.getD k (0,0));rw[← hp] at k1 k2 hds hpi hex;obtain⟨p1,p2⟩:=p;simp only at k1 k2;obtain⟨n,hn⟩:=eI (Zah (p1,p2));rw[← hn] at hds hpi hex;obtain⟨D,hD⟩:=eI (dep es k);rw[← hD] at hds hdi hex;rw[← hD];obtain⟨hd1,hd2⟩:=hdi;obtain⟨hp1,hp2⟩:=hpi;have Hds:=qh hds;have Hex:=qh hex;replace hp:=qh hp;replace hn:=qh hn;replace hD:=qh hD;clear hds hex hcs g1 g2;go_wp2_with fail;refine(Zbs p1 p2 _ _ hn.out.symm).mono ?_;rintro e w1 ⟨rfl,hb1⟩;have Hb1:=qh (Hb.out.trans (hb1.mono Hb.out.size));clear hb1 k1 k2;by_cases hn0:n<0
   ·have q1:(n<0)=True:=by simp[hn0]
    have hrf:false=r:=by rw[← Hr.out];exact(Zjx hlt (by rw[Hex.out,decide_eq_false (by omega)];rfl)).symm
    subst hrf;go_wp2;go_ret;exact⟨rfl,Hb1.out⟩
   have q1:(n<0)=False:=by simp;omega
   have hn1:0≤n:=by omega
   clear hn0;by_cases hDn:D<n
   ·have q2:(D<n)=True:=by simp[hDn]
    have hrf:false=r:=by rw[← Hr.out];exact(Zjx hlt (by rw[Hex.out,decide_eq_false (show ¬ n≤D by omega),Bool.and_false])).symm
    subst hrf;go_wp2;go_ret;exact⟨rfl,Hb1.out⟩
   have q2:(D<n)=False:=by simp;omega
   have hDn1:n≤D:=by omega
   clear hDn;go_wp2;go_roundw
   case rel =>
    refine⟨k+1,by go_num,by omega,by rw[Hds.out],fun j hj => ?_,Hb1.out⟩;by_cases e:j=k
    ·rw[e,Hex.out,decide_eq_true hn1,decide_eq_true hDn1];rfl
    exact Hall.out j (by omega)
   case measure=>simp[intOf];omega
  obtain rfl:k=es.length:=by omega
  have hro:exOk es=(decide (dep es es.length=1)&&decide (es.length≤60)):=by unfold exOk;rw[List.all_eq_true.2 (fun j hj=>Hall.out j (List.mem_range.1 hj)),Bool.true_and]
  obtain⟨D,hD⟩:=eI (dep es es.length);rw[← hD] at hro;rw[← hD];rw[Hr.out] at hro;have Hro:=qh hro;replace hD:=qh hD;clear hro hdi hds hpi hex;by_cases hD1:D=1
  ·subst hD1;by_cases h60:es.length≤60
   ·have q1:((es.length:Int)≤60)=True:=by simp;omega
    have hrt:true=r:=by rw[Hro.out,decide_eq_true h60];rfl
    subst hrt;go_wp2;go_ret;exact⟨rfl,Hb.out⟩
   have q1:((es.length:Int)≤60)=False:=by simp;omega
   have hrt:false=r:=by rw[Hro.out,decide_eq_false h60];rfl
   subst hrt;clear h60;go_wp2;go_ret;exact⟨rfl,Hb.out⟩
  obtain⟨q1,q2,q3,q4⟩:=Zau hD1;have hrt:false=r:=by rw[Hro.out,decide_eq_false hD1];rfl
  subst hrt;clear hD1;go_wp2;go_ret;exact⟨rfl,Hb.out⟩
theorem ZiP (es:List (Int × Int)) (en at':Nat) (v:Value) (w:World) (hlen:es.length≤1000000) (hen:en<es.length) (h:Pairs 0 w v es) (ha:ZbZ es (en+1) at') :
  Calls Tryz.prog 84 #[v,.int .i64 ((en:Nat):Int)] w fun e w'=>e = .returned (.int .i64 ((at':Nat):Int))∧Below w.heap.size w w':=by
 obtain⟨a,c,rfl,hc1,hc2,hrd⟩:=h.form;obtain⟨b,o,rfl,-,hbl,hcs⟩:=hrd (by omega);obtain⟨ha1,ha2,ha3⟩:=ha;have Hcs:=qh hcs;have Ha2:=qh ha2;have Ha3:=qh ha3;have hde:=ZfR es (en+1);obtain⟨hde1,hde2⟩:=hde;obtain⟨E,hE⟩:=eI (dep es (en+1));rw[← hE] at hde1 hde2;replace hE:=qh hE;clear h hcs hrd ha2 ha3
 go_enter Tryz.func84, Tryz.ntmps84
 go_wp2
 go_loopw [5,6] (fun vn i wr=>∃ k:Nat,i = .int .i64 k∧at'≤k∧k≤en∧vn = .int .i64 (1+dep es (k+1)-E)∧Below w.heap.size w wr) (fun _ i _=>(intOf i).toNat)
 case atStart=>exact⟨en,rfl,by omega,Nat.le_refl _,by rw[hE.out];congr 1;omega,Below.refl _ _⟩
 case round =>
  obtain⟨k,rfl,hak,hk,rfl,hb⟩:=hrel;have hlt2:(k:Int)<es.length:=by omega
  have hdi:=ZfR es (k+1);have hdk:=ZfR es k;have hds:dep es (k+1)=dep es k-Zah (es.getD k (0,0))+1:=rfl;have hpi:=Zce (es.getD k (0,0));obtain⟨g1,g2⟩:=Hcs.out k (by omega);have k1:=(bcell hb b _ hbl).trans g1;have k2:=(bcell hb b _ hbl).trans g2;obtain⟨p,hp⟩:=eI (es.getD k (0,0));rw[← hp] at k1 k2 hds hpi;obtain⟨p1,p2⟩:=p;simp only at k1 k2;obtain⟨n,hn⟩:=eI (Zah (p1,p2));rw[← hn] at hds hpi;obtain⟨D1,hD1⟩:=eI (dep es (k+1));rw[← hD1] at hds hdi;rw[← hD1];obtain⟨D,hD⟩:=eI (dep es k);rw[← hD] at hds hdk;obtain⟨hd1,hd2⟩:=hdi;obtain⟨hd3,hd4⟩:=hdk;obtain⟨hp1,hp2⟩:=hpi;have hsum:1+D1-E-1+n=1+D-E:=by omega
  have Hb:=qh hb;have Hds:=qh hds;have Hsum:=qh hsum;have Hhp:=qh hp;clear hp;have Hhn:=qh hn;clear hn;replace hD:=qh hD;have HhD1:=qh hD1;clear hD1;clear hds hsum g1 g2 hb;go_wp2_with fail;refine(Zbs p1 p2 _ _ Hhn.out.symm).mono ?_;rintro e w1 ⟨rfl,hb1⟩;have Hb1:=qh (Hb.out.trans (hb1.mono Hb.out.size));clear hb1 k1 k2;by_cases hka:k=at'
  ·subst hka;have hz:1+D1-E-1+n=0:=by rw[Hsum.out,hD.out,Ha2.out,← hE.out];omega
   go_wp2;go_ret;exact⟨rfl,Hb1.out⟩
  have hz:1+D1-E-1+n≠0:=by rw[Hsum.out];intro he;have h:=Ha3.out k (by omega) (by omega);rw[← hE.out,← hD.out] at h;omega
  obtain⟨z1,z2,z3,z4⟩:=Zau hz;have hsm:1+D1-E-1+n=1+dep es ((k-1)+1)-E:=by rw[Hsum.out,show(k-1)+1=k by omega,hD.out]
  have Hsm:=qh hsm;have hk0:1≤k:=by omega
  clear hz hsm;go_wp2;go_roundw
  case rel=>exact⟨k-1,by congr 1;omega,by omega,by omega,by rw[Hsm.out],Hb1.out⟩
  case measure=>simp[intOf];omega
def splits (es:List (Int × Int)) (xs ys:List (Int × Int)):Prop:=(Zah (es.getD (es.length-1) (0,0))=0→xs=[]∧ys=[])∧(Zah (es.getD (es.length-1) (0,0))=1→xs=es.take (es.length-1)∧ys=[]) ∧
 (Zah (es.getD (es.length-1) (0,0))=2→∃ a,ZbZ es (es.length-1) a∧xs=es.take a∧ys=(es.drop a).take (es.length-1-a))
theorem Zfm (w:World) (a:Option Addr) {c:Nat} (hc:c≤maxLen):Pairs 0 w (.slice a 0 c) []:=⟨rfl,_,_,rfl,Nat.zero_le _,hc,fun h=>by simp at h⟩
theorem ZbB (es:List (Int × Int)) (v:Value) (w:World) (hok:exOk es=true) (h:Pairs 0 w v es) :
  Calls Tryz.prog 38 #[v] w fun e w'=>∃ vx vy xs ys,splits es xs ys∧e = .returned (.tuple #[vx,vy])∧Pairs 0 w' vx xs∧Pairs 0 w' vy ys∧Below w.heap.size w w':=by
 obtain⟨hall,hd1,hl1,hl60⟩:=ZcC hok;have Hp:=qh h;obtain⟨a,c,rfl,hc1,hc2,hrd⟩:=h.form;obtain⟨b,o,rfl,-,hbl,hcs⟩:=hrd (by omega);obtain⟨m,hm⟩:∃ m,es.length=m+1:=⟨es.length-1,by omega⟩;obtain⟨g1,g2⟩:=hcs m (by omega);have hpn:=hall m (by omega);have hpi:=Zce (es.getD m (0,0));have hdm:dep es (m+1)=dep es m-Zah (es.getD m (0,0))+1:=rfl;rw[← hm,hd1] at hdm;have hbeg:Zah (es.getD m (0,0))=2→∃ a,ZbZ es m a:=fun h2=>Zmj (fun k hk=>(hall k (by omega)).1) (by omega)
 have hsp:∀ xs ys,splits es xs ys↔(Zah (es.getD m (0,0))=0→xs=[]∧ys=[])∧(Zah (es.getD m (0,0))=1→xs=es.take m∧ys=[])∧(Zah (es.getD m (0,0))=2→∃ a,ZbZ es m a∧xs=es.take a∧ys=(es.drop a).take (m-a)):=fun xs ys=>by unfold splits;rw[show es.length-1=m by omega]
 obtain⟨p,hp⟩:=eI (es.getD m (0,0));rw[← hp] at g1 g2 hpi hpn hbeg hsp;obtain⟨p1,p2⟩:=p;simp only at g1 g2;obtain⟨n,hn⟩:=eI (Zah (p1,p2));rw[← hn] at hpi hpn hbeg hsp;have hn3:n=0∨n=1∨n=2:=by omega
 have Hbeg:=qh hbeg;have Hsp:=qh hsp;have hml:(m:Int)<es.length:=by omega
 replace hn:=qh hn;have Hhp:=qh hp;clear hp;clear hall hd1 h hok hcs hrd hdm hbeg hsp hpn hpi;have hlen:(es.length:Int)-1=(m:Int):=by omega
 replace hm:=qh hm
 go_enter Tryz.func38, Tryz.ntmps38
 rcases hn3 with rfl|rfl|rfl
 ·go_wp2_with fail;refine(Zbs p1 p2 _ _ hn.out.symm).mono ?_;rintro e w1 ⟨rfl,hb1⟩;have HS:=qh (((((St.start w).call hb1).alloc_ (.cells #[] 57)).alloc_ (.cells #[] 57)).bel);clear hb1;go_wp2;refine bodyPost_ret (v:=.tuple #[.slice (some ⟨w1.heap.size,0,none⟩) 0 0,.slice (some ⟨w1.heap.size+1,0,none⟩) 0 0]) (by simp[results,Tryz.results38,go_sem]) rfl ?_;exact⟨_,_,[],[],(Hsp.out _ _).2 ⟨fun _=>⟨rfl,rfl⟩,fun h=>absurd h (by omega),fun h=>absurd h (by omega)⟩,rfl,Zfm _ _ (by unfold maxLen;omega),Zfm _ _ (by unfold maxLen;omega),HS.out⟩
 ·have hcI:(m:Int)≤c:=by omega
  go_wp2_with fail;refine(Zbs p1 p2 _ _ hn.out.symm).mono ?_;rintro e w1 ⟨rfl,hb1⟩;have HS:=qh ((((St.start w).call hb1).alloc_ (.cells #[] 57)).bel);clear hb1;go_wp2;refine bodyPost_ret (v:=.tuple #[.slice (some ⟨b,o,none⟩) m c,.slice (some ⟨w1.heap.size,0,none⟩) 0 0]) (by simp[results,Tryz.results38,go_sem]) rfl ?_;exact⟨_,_,es.take m,[],(Hsp.out _ _).2 ⟨fun h=>absurd h (by omega),fun _=>⟨rfl,rfl⟩,fun h=>absurd h (by omega)⟩,rfl,(Hp.out.below HS.out).take (by have:=hm.out;omega),Zfm _ _ (by unfold maxLen;omega),HS.out⟩
 obtain⟨at',hat⟩:=Hbeg.out rfl;have ha1:=hat.1;obtain⟨q,hqm⟩:∃ q,m=q+1:=⟨m-1,by omega⟩;have hq:(m:Int)-1=(q:Int):=by omega
 have haI:(at':Int)≤(m:Int):=by omega
 have haC:(at':Int)≤c:=by omega
 have hqC:(m:Int)≤c:=by omega
 rw[hqm] at hat;have Hhqm:=qh hqm;clear hqm;have Hat:=qh hat;clear hat;go_wp2_with fail;refine(Zbs p1 p2 _ _ hn.out.symm).mono ?_;rintro e w1 ⟨rfl,hb1⟩;have HS:=qh ((St.start w).call hb1);clear hb1;go_wp2_with fail;refine(ZiP es q at' _ _ (by have:=hm.out;omega) (by have:=hm.out;have:=Hhqm.out;omega) (Hp.out.below HS.out.bel) Hat.out).mono ?_;rintro e w2 ⟨rfl,hb2⟩;have HS2:=qh (HS.out.call hb2);clear hb2;go_wp2
 go_quiet (fail)
 go_wp2;have HS3:=qh (HS2.out.drewN nq);refine bodyPost_ret (v:=.tuple #[.slice (some ⟨b,o,none⟩) at' c,.slice (some ⟨b,o+at'*2,none⟩) (m-at') (c-at')]) (by simp[results,Tryz.results38,go_sem]) rfl ?_;have hml2:=hm.out
 exact⟨_,_,es.take at',(es.drop at').take (m-at'),(Hsp.out _ _).2 ⟨fun h=>absurd h (by omega),fun h=>absurd h (by omega),fun _=>⟨at',by rw[Hhqm.out];exact Hat.out,rfl,rfl⟩⟩,rfl,
  (Hp.out.below HS3.out.bel).take (by omega),((Hp.out.below HS3.out.bel).drop (by omega)).take (by rw[List.length_drop];omega),HS3.out.bel⟩
end Go.Proofs.YtfikabecgaappaaGreat
