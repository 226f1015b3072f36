/-
  What a call has made for itself, as a list of things that lie in different blocks: one step of the walk turns the whole list at once.
  No condition: this text speaks of no program.
-/
import Derived.Test.YtfanhfcamblghaaPv00Grow
set_option maxHeartbeats 1600000
namespace Go.Proofs.Ytfanhfcamblghaa
open Go.RowKit
structure Ent where
 foot:Nat→Prop
 holds:World→Prop
 stable:∀ w w':World,holds w→(∀ k,foot k→w'.heap[k]? = w.heap[k]?)→holds w'
def Ent.apart (a b:Ent):Prop:=∀ k,a.foot k→¬ b.foot k
theorem Ent.apart.symm {a b:Ent} (h:a.apart b):b.apart a:=fun k hb ha=>h k ha hb
def Ent.nil:Ent:=⟨fun _=>False,fun _=>True,fun _ _ _ _=>trivial⟩
def Ent.box (b:Nat) (cs:Array Value) (T:TypeId):Ent:=⟨fun k=>k=b,fun w=>Bx w b cs T,fun _ _ h hk=>(hk b rfl).trans h⟩
def Ent.row (e size:Nat) (v:Value) (n:Nat) (cs:List Value):Ent :=
 ⟨fun k=>v.ownBlock=some k,fun w=>w.ownsRow 0 e size v n cs,fun _ _ h hk=>(Own.kept (Zaa h) hk).1⟩
def Ent.rows (es e:Nat) (v:Value) (vs:List Value) (css:List (List Value)):Ent :=
 ⟨fun k=>v.ownBlock=some k∨∃ i,i<css.length∧(vs.getD i undef).ownBlock=some k,
  fun w=>w.ownsRow 0 es 1 v css.length vs∧(∀ i,i<css.length→w.ownsRow 0 e 1 (vs.getD i undef) (css.getD i []).length (css.getD i [])) ∧
   (∀ i j k,i<j→j<css.length→(vs.getD i undef).ownBlock=some k→(vs.getD j undef).ownBlock≠some k),
  fun _ _ h hk=>⟨(Own.kept (Zaa h.1) fun k hh=>hk k (Or.inl hh)).1,fun i hi=>(Own.kept (Zaa (h.2.1 i hi)) fun k hh=>hk k (Or.inr ⟨i,hi,hh⟩)).1,h.2.2⟩⟩
structure St (w0 w:World) (L:List Ent):Prop where
 bel:Below w0.heap.size w0 w
 has:∀ (i:Nat) (x:Ent),L[i]? = some x→x.holds w∧∀ k,x.foot k→w0.heap.size≤k∧k<w.heap.size
 far:∀ (i j:Nat) (x y:Ent),i≠j→L[i]? = some x→L[j]? = some y→x.apart y
section
variable {w0 w w':World} {L:List Ent}
theorem St.start (w:World):St w w []:=⟨Below.refl _ _,fun i x h=>by simp at h,fun i j x y _ h=>by simp at h⟩
theorem St.size (h:St w0 w L):w0.heap.size≤w.heap.size:=h.bel.size
theorem St.call (h:St w0 w L) (hb:Below w.heap.size w w'):St w0 w' L :=
 ⟨h.bel.trans (hb.mono h.bel.size),fun i x hx=>by obtain⟨a,b⟩:=h.has i x hx;exact⟨x.stable w w' a fun k hk=>hb.block k (b k hk).2,fun k hk=>⟨(b k hk).1,Nat.lt_of_lt_of_le (b k hk).2 hb.size⟩⟩,h.far⟩
theorem St.drew (h:St w0 w L):St w0 w.drew L:=h.call (Below.refl _ _).drew
theorem St.drewN (h:St w0 w L) (n:Nat):St w0 (w.drewN n) L:=h.call (below_drewN (Below.refl _ _) n)
theorem St.add (h:St w0 w L) (hb:Below w.heap.size w w') (y:Ent) (hy:y.holds w') (hf:∀ k,y.foot k→w.heap.size≤k∧k<w'.heap.size):St w0 w' (L++[y]):=by
 have h2:=h.call hb
 have key:∀ i x,(L++[y])[i]? = some x→(L[i]? = some x)∨(i=L.length∧x=y):=fun i x hx=>by
  rw[List.getElem?_append] at hx
  split at hx
  ·exact Or.inl hx
  rename_i hl
  have:i-L.length=0:=by
   rcases Nat.eq_zero_or_pos (i-L.length) with h0|h0
   ·exact h0
   rw[List.getElem?_eq_none (by simp;omega)] at hx;cases hx
  rw[this] at hx;simp at hx;exact Or.inr ⟨by omega,hx.symm⟩
 refine⟨h2.bel,fun i x hx => ?_,fun i j x z hij hx hz => ?_⟩
 ·rcases key i x hx with hx1|⟨-,rfl⟩
  ·exact h2.has i x hx1
  exact⟨hy,fun k hk=>⟨Nat.le_trans h.bel.size (hf k hk).1,(hf k hk).2⟩⟩
 rcases key i x hx with hx1|⟨hi,hxy⟩
 ·rcases key j z hz with hz1|⟨hj,hzy⟩
  ·exact h.far i j x z hij hx1 hz1
  intro k hk hk2;rw[hzy] at hk2;have:=((h.has i x hx1).2 k hk).2;have:=(hf k hk2).1;omega
 rcases key j z hz with hz1|⟨hj,hzy⟩
 ·intro k hk hk2;rw[hxy] at hk;have:=((h.has j z hz1).2 k hk2).2;have:=(hf k hk).1;omega
 exact absurd (hi.trans hj.symm) hij
theorem St.alloc (h:St w0 w L) (b:Nat) (hb:w.heap.size=b) (cs:Array Value) (T:TypeId):St w0 (w.alloc (.cells cs T)) (L++[Ent.box b cs T]):=by subst hb;exact h.add ((Below.refl _ _).alloc (Nat.le_refl _) _) _ (Bx.new w cs T) fun k hk=>by have hk:k=w.heap.size:=hk;subst hk;exact⟨Nat.le_refl _,by simp⟩
theorem St.alloc_ (h:St w0 w L) (o:Obj):St w0 (w.alloc o) L:=h.call ((Below.refl _ _).alloc (Nat.le_refl _) _)
theorem Zcl {B B' e size n:Nat} {v:Value} {cs:List Value} (h:w.ownsRow B e size v n cs) (hB:B'≤B):w.ownsRow B' e size v n cs:=(Own.mono (Zaa h) hB (Nat.le_refl _)).1
theorem Zdk {B e size n:Nat} {v:Value} {cs:List Value} (h:w.ownsRow 0 e size v n cs) (hB:∀ k,v.ownBlock=some k→B≤k):w.ownsRow B e size v n cs:=by
 refine⟨h.1,?_⟩;rcases h.2 with h1|⟨g,cap,cur,rfl,-,r⟩
 ·exact Or.inl h1
 exact Or.inr ⟨g,cap,cur,rfl,hB g rfl,r⟩
theorem St.made (h:St w0 w L) (hb:Below w.heap.size w w') {e size n:Nat} {v:Value} {cs:List Value} (hr:w'.ownsRow w.heap.size e size v n cs):St w0 w' (L++[Ent.row e size v n cs]) :=
 h.add hb _ (Zcl hr (Nat.zero_le _)) fun k hk=>hr.lt k hk
theorem St.nilRow (h:St w0 w L) (e size:Nat):St w0 w (L++[Ent.row e size (.slice none 0 0) 0 []]) :=
 h.add (Below.refl _ _) _ ⟨by simp,Or.inl ⟨rfl,rfl⟩⟩ fun k hk=>by cases hk
theorem St.only {lo hi:Nat} (h:St w0 w L) (hm:Only lo hi w w') (hlo:w0.heap.size≤lo) (hd:∀ x∈L,∀ k,x.foot k→k<lo∨hi≤k):St w0 w' L :=
 ⟨h.bel.trans ⟨hm.os,hm.tape,hm.output,hm.size,fun k hk=>hm.block k (Nat.lt_of_lt_of_le hk h.size) (Or.inl (Nat.lt_of_lt_of_le hk hlo))⟩,fun i x hx=>by obtain⟨a,b⟩:=h.has i x hx;exact⟨x.stable w w' a fun k hk=>hm.block k (b k hk).2 (hd x (List.mem_of_getElem? hx) k hk),fun k hk=>⟨(b k hk).1,Nat.lt_of_lt_of_le (b k hk).2 hm.size⟩⟩,h.far⟩
theorem St.turn (h:St w0 w L) (i:Nat) {x:Ent} (hx:L[i]? = some x) (y:Ent) (hos:w'.os=w.os) (ht:w'.tape=w.tape) (ho:w'.output=w.output) (hs:w.heap.size≤w'.heap.size)
  (hk:∀ k,k<w.heap.size→¬ x.foot k→w'.heap[k]? = w.heap[k]?) (hy:y.holds w') (hf:∀ k,y.foot k→k<w'.heap.size∧(x.foot k∨w.heap.size≤k)):St w0 w' (L.set i y):=by
 have hil:i<L.length:=(List.getElem?_eq_some_iff.1 hx).1
 have key:∀ j z,(L.set i y)[j]? = some z→(j≠i∧L[j]? = some z)∨(j=i∧z=y):=fun j z hz=>by
  rw[List.getElem?_set] at hz
  split at hz
  ·rename_i e;subst e;simp only[w_9] at hz;exact Or.inr ⟨rfl,hz.symm⟩
  rename_i e;exact Or.inl ⟨fun e2=>e e2.symm,hz⟩
 have hb:Below w0.heap.size w0 w':=h.bel.trans ⟨hos,ht,ho,hs,fun k hk0=>hk k (Nat.lt_of_lt_of_le hk0 h.size) fun hf0=>by have:=((h.has i x hx).2 k hf0).1;omega⟩;refine⟨hb,fun j z hz => ?_,fun j l z u hjl hz hu => ?_⟩
 ·rcases key j z hz with⟨hj,hz⟩|⟨-,rfl⟩
  ·obtain⟨a,b⟩:=h.has j z hz;exact⟨z.stable w w' a fun k hk2=>hk k (b k hk2).2 (h.far j i z x hj hz hx k hk2),fun k hk2=>⟨(b k hk2).1,Nat.lt_of_lt_of_le (b k hk2).2 hs⟩⟩
  refine⟨hy,fun k hk2=>⟨?_,(hf k hk2).1⟩⟩;rcases(hf k hk2).2 with h1|h1
  ·exact((h.has i x hx).2 k h1).1
  exact Nat.le_trans h.size h1
 have one:∀ (l:Nat) (u:Ent),l≠i→L[l]? = some u→y.apart u:=fun l u hl hu k hk1 hk2=>by
  rcases(hf k hk1).2 with h1|h1
  ·exact h.far i l x u (fun e=>hl e.symm) hx hu k h1 hk2
  have:=((h.has l u hu).2 k hk2).2;omega
 rcases key j z hz with⟨hj,hz1⟩|⟨hj,hzy⟩
 ·rcases key l u hu with⟨hl,hu1⟩|⟨hl,huy⟩
  ·exact h.far j l z u hjl hz1 hu1
  rw[huy];exact(one j z hj hz1).symm
 rw[hzy];rcases key l u hu with⟨hl,hu1⟩|⟨hl,huy⟩
 ·exact one l u hl hu1
 exact absurd (hj.trans hl.symm) hjl
theorem St.set (h:St w0 w L) (i:Nat) {b:Nat} {cs:Array Value} {T:TypeId} (hx:L[i]? = some (Ent.box b cs T)) (j:Nat) (v:Value):St w0 (w.setCell ⟨b,j,none⟩ v) (L.set i (Ent.box b (cs.setIfInBounds j v) T)):=by have hb:Bx w b cs T:=(h.has i _ hx).1;exact h.turn i hx _ rfl rfl rfl (by simp[World.setCell]) (fun k _ hk=>Below.heap_setCell _ _ _ _ hk) (hb.set j v) fun k hk=>by have hk:k=b:=hk;subst hk;exact⟨(hb.set j v).lt,Or.inl rfl⟩
theorem St.store (h:St w0 w L) (i:Nat) {e size g n cap:Nat} {cs:List Value} (hx:L[i]? = some (Ent.row e size (.slice (some ⟨g,0,none⟩) n cap) n cs)) (j:Nat) (v:Value) :
  St w0 (w.setCell ⟨g,j,none⟩ v) (L.set i (Ent.row e size (.slice (some ⟨g,0,none⟩) n cap) n (cs.set j v))):=by
 have hr:w.ownsRow 0 e size (.slice (some ⟨g,0,none⟩) n cap) n cs:=(h.has i _ hx).1;have hr2:=(hr.stored j v).1;exact h.turn i hx _ rfl rfl rfl (by simp[World.setCell]) (fun k _ hk=>Below.heap_setCell _ _ _ _ (fun e=>hk (by rw[e];rfl))) hr2 fun k hk=>⟨(hr2.lt k hk).2,Or.inl hk⟩
theorem St.grow (h:St w0 w L) (i:Nat) {B e size n m:Nat} {v v':Value} {cs cs':List Value} (hx:L[i]? = some (Ent.row e size v n cs)) (hg:w.grownBy w' v.ownBlock) (hown:w'.ownsRow B e size v' m cs')
  (hat:∀ k,v'.ownBlock=some k→v.ownBlock=some k∨w.heap.size≤k):St w0 w' (L.set i (Ent.row e size v' m cs')) :=
 h.turn i hx _ hg.os hg.tape hg.output hg.size (fun k hk hn=>hg.block k hk fun e=>hn e.symm) (Zcl hown (Nat.zero_le _)) fun k hk=>⟨(hown.lt k hk).2,hat k hk⟩
theorem Zcq {v:Value} {g n cap H:Nat} (hat:v.ownBlock=some g∨g=H):∀ k,(Value.slice (some ⟨g,0,none⟩) n cap).ownBlock=some k→v.ownBlock=some k∨H≤k:=fun k hk=>by
 have hk:some g=some k:=hk;obtain rfl:g=k:=Option.some.inj hk;rcases hat with h1|h1
 ·exact Or.inl h1
 exact Or.inr (by omega)
theorem St.app (h:St w0 w L) (i:Nat) {B e size n m g cap:Nat} {v:Value} {cs cs':List Value} (hx:L[i]? = some (Ent.row e size v n cs)) (hown:w'.ownsRow B e size (.slice (some ⟨g,0,none⟩) m cap) m cs') (hg:w.grownBy w' v.ownBlock)
  (hat:v.ownBlock=some g∨g=w.heap.size):St w0 w' (L.set i (Ent.row e size (.slice (some ⟨g,0,none⟩) m cap) m cs')):=h.grow i hx hg hown (Zcq hat)
theorem St.pick (h:St w0 w L) (f:List Nat) (hn:f.Nodup):St w0 w (f.map fun i=>L.getD i Ent.nil):=by
 have key:∀ i x,(f.map fun i=>L.getD i Ent.nil)[i]? = some x→∃ a,f[i]? = some a∧(L[a]? = some x∨x=Ent.nil):=fun i x hx=>by
  rw[List.getElem?_map] at hx;cases hf:f[i]? with
  | none=>rw[hf] at hx;cases hx
  | some a =>
   rw[hf] at hx;simp only[Option.map_some,w_9,List.getD_eq_getElem?_getD] at hx;refine⟨a,hf,?_⟩;cases hl:L[a]? with
   | none=>rw[hl] at hx;exact Or.inr hx.symm
   | some y=>rw[hl] at hx;exact Or.inl (by rw[← hx];rfl)
 refine⟨h.bel,fun i x hx => ?_,fun i j x y hij hx hy => ?_⟩
 ·obtain⟨a,-,h1|rfl⟩:=key i x hx
  ·exact h.has a x h1
  exact⟨trivial,fun k hk=>hk.elim⟩
 obtain⟨a,ha,h1⟩:=key i x hx;obtain⟨c,hc,h2⟩:=key j y hy;rcases h1 with h1|rfl
 ·rcases h2 with h2|rfl
  ·refine h.far a c x y (fun e=>hij ?_) h1 h2;subst e;exact(List.getElem?_inj (List.getElem?_eq_some_iff.1 ha).1 hn).1 (ha.trans hc.symm)
  exact fun k _ hk=>hk
 exact fun k hk=>hk.elim
theorem St.box (h:St w0 w L) (i:Nat) {b:Nat} {cs:Array Value} {T:TypeId} (hx:L[i]? = some (Ent.box b cs T)):Bx w b cs T:=(h.has i _ hx).1
theorem St.cell (h:St w0 w L) (i j:Nat) {b:Nat} {cs:Array Value} {T:TypeId} {v:Value} (hx:L[i]? = some (Ent.box b cs T)) (hv:cs[j]? = some v):w.cell? ⟨b,j,none⟩=some v:=((h.box i hx).cell j).trans hv
theorem St.fr (h:St w0 w L) (i j:Nat) {b:Nat} {cs:Array Value} {T:TypeId} (hx:L[i]? = some (Ent.box b cs T)):w.frozen? ⟨b,j,none⟩=false:=(h.box i hx).fr j
theorem St.boxlt (h:St w0 w L) (i:Nat) {b:Nat} {cs:Array Value} {T:TypeId} (hx:L[i]? = some (Ent.box b cs T)):w0.heap.size≤b∧b<w.heap.size:=(h.has i _ hx).2 b rfl
theorem St.row (h:St w0 w L) (i:Nat) {e size n:Nat} {v:Value} {cs:List Value} (hx:L[i]? = some (Ent.row e size v n cs)):w.ownsRow w0.heap.size e size v n cs:=Zdk (h.has i _ hx).1 fun k hk=>((h.has i _ hx).2 k hk).1
theorem St.rcell (h:St w0 w L) (i j:Nat) {e size g n cap:Nat} {cs:List Value} {v:Value} (hx:L[i]? = some (Ent.row e size (.slice (some ⟨g,0,none⟩) n cap) n cs)) (hj:j<n*size) (hv:cs[j]? = some v):w.cell? ⟨g,j,none⟩=some v :=
 ((h.row i hx).cellAt j hj).trans hv
theorem St.rfr (h:St w0 w L) (i j:Nat) {e size g n cap:Nat} {cs:List Value} (hx:L[i]? = some (Ent.row e size (.slice (some ⟨g,0,none⟩) n cap) n cs)):w.frozen? ⟨g,j,none⟩=false :=
 World.ownsRow.frozenAt (h.row i hx) j
theorem St.rowlt (h:St w0 w L) (i:Nat) {e size g n cap:Nat} {cs:List Value} (hx:L[i]? = some (Ent.row e size (.slice (some ⟨g,0,none⟩) n cap) n cs)):w0.heap.size≤g∧g<w.heap.size:=(h.has i _ hx).2 g rfl
theorem St.rowform (h:St w0 w L) (i:Nat) {e size n:Nat} {v:Value} {cs:List Value} (hx:L[i]? = some (Ent.row e size v n cs)) (hn:0<n):∃ g cap,v = .slice (some ⟨g,0,none⟩) n cap:=by
 rcases(h.row i hx).2 with⟨-,h1⟩|⟨g',cap',cur,h1,-⟩
 ·omega
 exact⟨g',cap',h1⟩
theorem St.merge (h:St w0 w L) (i j:Nat) (hij:i≠j) {x y:Ent} (hx:L[i]? = some x) (hy:L[j]? = some y) (z:Ent) (hz:x.holds w→y.holds w→x.apart y→z.holds w) (hf:∀ k,z.foot k→x.foot k∨y.foot k):St w0 w ((L.set i z).set j Ent.nil):=by
 have hil:i<L.length:=(List.getElem?_eq_some_iff.1 hx).1;have hjl:j<L.length:=(List.getElem?_eq_some_iff.1 hy).1
 have key:∀ l u,((L.set i z).set j Ent.nil)[l]? = some u→u=Ent.nil∨(l=i∧u=z)∨(l≠i∧l≠j∧L[l]? = some u):=fun l u hu=>by
  rw[List.getElem?_set] at hu
  split at hu
  ·simp[hjl] at hu;exact Or.inl hu.symm
  rename_i hlj;rw[List.getElem?_set] at hu
  split at hu
  ·rename_i hli;simp at hu;exact Or.inr (Or.inl ⟨hli.symm,hu.symm⟩)
  rename_i hli;exact Or.inr (Or.inr ⟨fun e=>hli e.symm,fun e=>hlj e.symm,hu⟩)
 refine⟨h.bel,fun l u hu => ?_,fun l m u t hlm hu ht => ?_⟩
 ·rcases key l u hu with rfl|⟨-,rfl⟩|⟨-,-,h1⟩
  ·exact⟨trivial,fun k hk=>hk.elim⟩
  ·refine⟨hz (h.has i x hx).1 (h.has j y hy).1 (h.far i j x y hij hx hy),fun k hk => ?_⟩;rcases hf k hk with h2|h2
   ·exact(h.has i x hx).2 k h2
   exact(h.has j y hy).2 k h2
  exact h.has l u h1
 have one:∀ (l:Nat) (u:Ent),l≠i→l≠j→L[l]? = some u→z.apart u:=fun l u hl1 hl2 hu k hk1 hk2=>by
  rcases hf k hk1 with h2|h2
  ·exact h.far i l x u (fun e=>hl1 e.symm) hx hu k h2 hk2
  exact h.far j l y u (fun e=>hl2 e.symm) hy hu k h2 hk2
 rcases key l u hu with hun|⟨hl,huz⟩|⟨hl1,hl2,h1⟩
 ·rw[hun];exact fun k hk=>hk.elim
 ·rcases key m t ht with htn|⟨hm,htz⟩|⟨hm1,hm2,h2⟩
  ·rw[htn];exact fun k _ hk=>hk
  ·exact absurd (hl.trans hm.symm) hlm
  rw[huz];exact one m t hm1 hm2 h2
 rcases key m t ht with htn|⟨hm,htz⟩|⟨hm1,hm2,h2⟩
 ·rw[htn];exact fun k _ hk=>hk
 ·rw[htz];exact(one l u hl1 hl2 h1).symm
 exact h.far l m u t hlm h1 h2
theorem St.same (h:St w0 w L) (i:Nat) {x:Ent} (hx:L[i]? = some x) (y:Ent) (hy:x.holds w→y.holds w) (hf:∀ k,y.foot k→x.foot k):St w0 w (L.set i y) :=
 h.turn i hx y rfl rfl rfl (Nat.le_refl _) (fun _ _ _=>rfl) (hy (h.has i x hx).1) fun k hk=>⟨((h.has i x hx).2 k (hf k hk)).2,Or.inl (hf k hk)⟩
theorem St.boxrow (h:St w0 w L) (i:Nat) {b:Nat} {T:TypeId} (n size:Nat) (cs:List Value) (hx:L[i]? = some (Ent.box b cs.toArray T)) (hl:cs.length=n*size) (hn:n≤maxLen):St w0 w (L.set i (Ent.row T size (.slice (some ⟨b,0,none⟩) n n) n cs)) :=
 h.same i hx _ (fun hb=>ZgX hb hl (Nat.zero_le _) hn) fun k hk=>by have hk:some b=some k:=hk;exact(Option.some.inj hk).symm
theorem St.norows (h:St w0 w L) (i:Nat) {es:Nat} {v:Value} (hx:L[i]? = some (Ent.row es 1 v 0 [])) (e:Nat):St w0 w (L.set i (Ent.rows es e v [] [])) :=
 h.same i hx _ (fun hb=>⟨hb,fun i hi=>absurd hi (by simp),fun i j k _ hj=>absurd hj (by simp)⟩) fun k hk=>by
  rcases hk with hk|⟨i,hi,-⟩
  ·exact hk
  simp at hi
theorem St.onerow (h:St w0 w L) (i j:Nat) (hij:i≠j) {es e m:Nat} {v rv:Value} {cs:List Value} (hx:L[i]? = some (Ent.row es 1 v 1 [rv])) (hy:L[j]? = some (Ent.row e 1 rv m cs)) :
  St w0 w ((L.set i (Ent.rows es e v [rv] [cs])).set j Ent.nil):=by
 refine h.merge i j hij hx hy _ (fun h1 h2 h3=>⟨h1,fun l hl => ?_,fun i' j' k hij' hj' => ?_⟩) fun k hk => ?_
 ·obtain rfl:l=0:=by simp at hl;omega
  have h2:w.ownsRow 0 e 1 rv m cs:=h2;have:=h2.1;simp at this;show w.ownsRow 0 e 1 rv cs.length cs;rw[this];exact h2
 ·simp at hj';omega
 rcases hk with hk|⟨l,hl,hk⟩
 ·exact Or.inl hk
 obtain rfl:l=0:=by simp at hl;omega
 exact Or.inr hk
theorem St.snoc (h:St w0 w L) (i j:Nat) (hij:i≠j) {es e m:Nat} {v v' rv:Value} {vs cs:List Value} {css:List (List Value)} (hx:L[i]? = some (Ent.rows es e v vs css)) (hy:L[j]? = some (Ent.row e 1 rv m cs)) (hne:es≠e)
  (hg:w.grownBy w' v.ownBlock) {B:Nat} (hown:w'.ownsRow B es 1 v' (css.length+1) (vs++[rv])) (hat:∀ k,v'.ownBlock=some k→v.ownBlock=some k∨w.heap.size≤k) :
  St w0 w' ((L.set i (Ent.rows es e v' (vs++[rv]) (css++[cs]))).set j Ent.nil):=by
 have hx1:(Ent.rows es e v vs css).holds w:=(h.has i _ hx).1;have hy1:(Ent.row e 1 rv m cs).holds w:=(h.has j _ hy).1;have hfar:=h.far i j _ _ hij hx hy;obtain⟨p1,p2,p3⟩:=hx1;have hap:ZbI w v.ownBlock e:=Zaj p1 hne;have hl:vs.length=css.length:=by have:=p1.1;omega
 have hmc:cs.length=m:=by have:=hy1.1;omega
 have hget:∀ i,i<css.length→(vs++[rv]).getD i undef=vs.getD i undef:=fun i hi=>by simp only[List.getD_eq_getElem?_getD];rw[List.getElem?_append_left (by omega)]
 have hgetn:(vs++[rv]).getD css.length undef=rv:=by simp[← hl]
 have hcget:∀ i,i<css.length→(css++[cs]).getD i []=css.getD i []:=fun i hi=>by simp only[List.getD_eq_getElem?_getD];rw[List.getElem?_append_left (by omega)]
 have hcgetn:(css++[cs]).getD css.length []=cs:=by simp
 have hil:i<L.length:=(List.getElem?_eq_some_iff.1 hx).1;have hjl:j<L.length:=(List.getElem?_eq_some_iff.1 hy).1;have hM:=h.merge i j hij hx hy ⟨fun k=>(Ent.rows es e v vs css).foot k∨(Ent.row e 1 rv m cs).foot k,fun w=>(Ent.rows es e v vs css).holds w∧(Ent.row e 1 rv m cs).holds w,fun a b h1 h2=>⟨Ent.stable _ a b h1.1 fun k hk=>h2 k (Or.inl hk),Ent.stable _ a b h1.2 fun k hk=>h2 k (Or.inr hk)⟩⟩ (fun a b _=>⟨a,b⟩) fun k hk=>hk
 have hT:=hM.turn i (by rw[List.getElem?_set,if_neg (fun e=>hij e.symm),List.getElem?_set,if_pos rfl,if_pos hil]) (Ent.rows es e v' (vs++[rv]) (css++[cs])) hg.os hg.tape hg.output hg.size
  (fun k hk hn=>hg.block k hk fun e=>hn (Or.inl (Or.inl e.symm))) ?_ ?_
 ·have e1:∀ a y:Ent,(((L.set i a).set j Ent.nil).set i y)=((L.set i y).set j Ent.nil):=fun a y=>by rw[List.set_comm _ _ (fun e=>hij e.symm),List.set_set]
  rw[e1] at hT;exact hT
 ·refine⟨by rw[List.length_append];exact Zcl hown (Nat.zero_le _),fun l hl2 => ?_,fun a b k hab hb hk => ?_⟩
  ·rw[List.length_append,List.length_singleton] at hl2;by_cases hlc:l<css.length
   ·rw[hget l hlc,hcget l hlc];exact Zae (p2 l hlc) hg hap
   obtain rfl:l=css.length:=by omega
   rw[hgetn,hcgetn,hmc];exact Zae hy1 hg hap
  rw[List.length_append,List.length_singleton] at hb;rw[hget a (by omega)] at hk;by_cases hbc:b<css.length
  ·rw[hget b hbc];exact p3 a b k hab hbc hk
  obtain rfl:b=css.length:=by omega
  rw[hgetn];intro hk2;exact hfar k (Or.inr ⟨a,hab,hk⟩) hk2
 intro k hk;rcases hk with hk|⟨l,hl2,hk⟩
 ·refine⟨(hown.lt k hk).2,?_⟩;rcases hat k hk with h1|h1
  ·exact Or.inl (Or.inl (Or.inl h1))
  exact Or.inr h1
 rw[List.length_append,List.length_singleton] at hl2;by_cases hlc:l<css.length
 ·rw[hget l hlc] at hk;exact⟨Nat.lt_of_lt_of_le ((p2 l hlc).lt k hk).2 hg.size,Or.inl (Or.inl (Or.inr ⟨l,hlc,hk⟩))⟩
 obtain rfl:l=css.length:=by omega
 rw[hgetn] at hk;exact⟨Nat.lt_of_lt_of_le (World.ownsRow.lt hy1 k hk).2 hg.size,Or.inl (Or.inr hk)⟩
theorem St.rows (h:St w0 w L) (i:Nat) {es e:Nat} {v:Value} {vs:List Value} {css:List (List Value)} (hx:L[i]? = some (Ent.rows es e v vs css)) :
  w.ownsRow w0.heap.size es 1 v css.length vs∧(∀ i,i<css.length→w.ownsRow w0.heap.size e 1 (vs.getD i undef) (css.getD i []).length (css.getD i []))∧(∀ i j k,i<j→j<css.length→(vs.getD i undef).ownBlock=some k→(vs.getD j undef).ownBlock≠some k):=by
 have h1:(Ent.rows es e v vs css).holds w:=(h.has i _ hx).1;have h2:=(h.has i _ hx).2;exact⟨Zdk h1.1 fun k hk=>(h2 k (Or.inl hk)).1,fun j hj=>Zdk (h1.2.1 j hj) fun k hk=>(h2 k (Or.inr ⟨j,hj,hk⟩)).1,h1.2.2⟩
theorem St.cat {L':List Ent} (h:St w0 w L) (h':St w w' L'):St w0 w' (L++L'):=by
 have h2:=h.call h'.bel
 have key:∀ i x,(L++L')[i]? = some x→(i<L.length∧L[i]? = some x)∨(L.length≤i∧L'[i-L.length]? = some x):=fun i x hx=>by
  rw[List.getElem?_append] at hx
  split at hx
  ·exact Or.inl ⟨by assumption,hx⟩
  exact Or.inr ⟨by omega,hx⟩
 refine⟨h2.bel,fun i x hx => ?_,fun i j x y hij hx hy => ?_⟩
 ·rcases key i x hx with⟨-,h1⟩|⟨-,h1⟩
  ·exact h2.has i x h1
  refine⟨(h'.has _ x h1).1,fun k hk => ?_⟩;have:=(h'.has _ x h1).2 k hk;exact⟨Nat.le_trans h.size this.1,this.2⟩
 rcases key i x hx with⟨hi,h1⟩|⟨hi,h1⟩
 ·rcases key j y hy with⟨hj,h3⟩|⟨hj,h3⟩
  ·exact h.far i j x y hij h1 h3
  intro k hk hk2;have:=((h.has _ x h1).2 k hk).2;have:=((h'.has _ y h3).2 k hk2).1;omega
 rcases key j y hy with⟨hj,h3⟩|⟨hj,h3⟩
 ·intro k hk hk2;have:=((h.has _ y h3).2 k hk2).2;have:=((h'.has _ x h1).2 k hk).1;omega
 exact h'.far _ _ x y (by omega) h1 h3
theorem St.intSS (h:St w0 w L) (i:Nat) {es e:Nat} {v:Value} {vs:List Value} {xss:List (List Int)} (hx:L[i]? = some (Ent.rows es e v vs (xss.map intCells))):OIntSS es e w0.heap.size w.heap.size w v xss:=by
 obtain⟨p1,p2,p3⟩:=h.rows i hx;rw[List.length_map] at p1 p2 p3;refine⟨vs,Zaa p1,fun i hi => ?_,p3⟩;have:=p2 i hi;have e1:(xss.map intCells).getD i []=intCells (xss.getD i []):=by simp[hi]
 rw[e1] at this;have:=Zaa this;simpa [OInts] using this
end
/-! Many things as one. -/
def Ent.all (R:List Ent):Ent:=⟨fun k=>∃ x∈R,x.foot k,fun w=>∀ x∈R,x.holds w,fun _ _ h hk x hx=>x.stable _ _ (h x hx) fun k hf=>hk k ⟨x,hx,hf⟩⟩
theorem St.pack {w0 w:World} {A R:List Ent} (h:St w0 w (A++R)):St w0 w (A++[Ent.all R]):=by
 have hR:∀ x∈R,∃ i,A.length≤i∧(A++R)[i]? = some x:=fun x hx=>by obtain⟨j,hj,e⟩:=List.getElem_of_mem hx;exact⟨A.length+j,by omega,by rw[List.getElem?_append_right (by omega),Nat.add_sub_cancel_left,List.getElem?_eq_getElem hj,e]⟩
 have key:∀ i x,(A++[Ent.all R])[i]? = some x→(i<A.length∧(A++R)[i]? = some x)∨(i=A.length∧x=Ent.all R):=fun i x hx=>by
  rw[List.getElem?_append] at hx
  split at hx
  ·rename_i hl;exact Or.inl ⟨hl,by rw[List.getElem?_append_left hl];exact hx⟩
  rename_i hl;rcases Nat.eq_zero_or_pos (i-A.length) with h0|h0
  ·rw[h0] at hx;simp at hx;exact Or.inr ⟨by omega,hx.symm⟩
  rw[List.getElem?_eq_none (by simp;omega)] at hx;cases hx
 refine⟨h.bel,fun i x hx => ?_,fun i j x y hij hx hy => ?_⟩
 ·rcases key i x hx with⟨-,h1⟩|⟨-,rfl⟩
  ·exact h.has i x h1
  refine⟨fun z hz => ?_,fun k ⟨z,hz,hk⟩ => ?_⟩
  ·obtain⟨l,-,hl⟩:=hR z hz;exact(h.has l z hl).1
  obtain⟨l,-,hl⟩:=hR z hz;exact(h.has l z hl).2 k hk
 rcases key i x hx with⟨hi,h1⟩|⟨hi,hxe⟩
 ·rcases key j y hy with⟨hj,h2⟩|⟨hj,hye⟩
  ·exact h.far i j x y hij h1 h2
  rw[hye];rintro k hk ⟨z,hz,hk2⟩;obtain⟨l,hl1,hl⟩:=hR z hz;exact h.far i l x z (by omega) h1 hl k hk hk2
 rcases key j y hy with⟨hj,h2⟩|⟨hj,hye⟩
 ·rw[hxe];rintro k ⟨z,hz,hk⟩ hk2;obtain⟨l,hl1,hl⟩:=hR z hz;exact h.far l j z y (by omega) hl h2 k hk hk2
 exact absurd (hi.trans hj.symm) hij
theorem St.unpack {w0 w w':World} {A A' R:List Ent} (h:St w0 w (A++R)) (h':St w0 w' (A'++[Ent.all R])):St w0 w' (A'++R):=by
 have hX:(A'++[Ent.all R])[A'.length]? = some (Ent.all R):=by simp
 have hXh:=h'.has _ _ hX
 have key:∀ i x,(A'++R)[i]? = some x→(i<A'.length∧(A'++[Ent.all R])[i]? = some x)∨(A'.length≤i∧R[i-A'.length]? = some x):=fun i x hx=>by
  rw[List.getElem?_append] at hx
  split at hx
  ·rename_i hl;exact Or.inl ⟨hl,by rw[List.getElem?_append_left hl];exact hx⟩
  exact Or.inr ⟨by omega,hx⟩
 refine⟨h'.bel,fun i x hx => ?_,fun i j x y hij hx hy => ?_⟩
 ·rcases key i x hx with⟨-,h1⟩|⟨-,h1⟩
  ·exact h'.has i x h1
  have hm:=List.mem_of_getElem? h1;exact⟨hXh.1 x hm,fun k hk=>hXh.2 k ⟨x,hm,hk⟩⟩
 rcases key i x hx with⟨hi,h1⟩|⟨hi,h1⟩
 ·rcases key j y hy with⟨hj,h2⟩|⟨hj,h2⟩
  ·exact h'.far i j x y hij h1 h2
  intro k hk hk2;exact h'.far i A'.length x _ (by omega) h1 hX k hk ⟨y,List.mem_of_getElem? h2,hk2⟩
 rcases key j y hy with⟨hj,h2⟩|⟨hj,h2⟩
 ·intro k hk hk2;exact h'.far A'.length j _ y (by omega) hX h2 k ⟨x,List.mem_of_getElem? h1,hk⟩ hk2
 refine h.far (A.length+(i-A'.length)) (A.length+(j-A'.length)) x y (by omega) ?_ ?_
 ·rw[List.getElem?_append_right (by omega)];simpa using h1
 rw[List.getElem?_append_right (by omega)];simpa using h2
/-! What is read above a block stays where a block below is written. -/
theorem Sl.far {B:Nat} {w:World} {v:Value} {n size:Nat} {cs:List Value} (h:Sl B w v n size cs) {b:Nat} (hb:b<B) (j:Nat) (u:Value):Sl B (w.setCell ⟨b,j,none⟩ u) v n size cs:=by obtain⟨hl,a,cap,hv,h1,h2,h3⟩:=h;refine⟨hl,a,cap,hv,h1,h2,fun hn => ?_⟩;obtain⟨c,off,ha,hc,hlt,hcs⟩:=h3 hn;refine⟨c,off,ha,hc,by rw[Za7];exact hlt,fun i hi => ?_⟩;rw[← hcs i hi];exact World.cell?_of_block (Below.heap_setCell w ⟨b,j,none⟩ u c (by show c≠b;omega))
theorem IntSS.far {B:Nat} {w:World} {v:Value} {xss:List (List Int)} (h:IntSS B w v xss) {b:Nat} (hb:b<B) (j:Nat) (u:Value):IntSS B (w.setCell ⟨b,j,none⟩ u) v xss:=by obtain⟨vs,h1,h2⟩:=h;exact⟨vs,h1.far hb j u,fun i hi=>Sl.far (h2 i hi) hb j u⟩
theorem DfaR.far {B:Nat} {w:World} {v:Value} {d:DfaD} (h:DfaR B w v d) {b:Nat} (hb:b<B) (j:Nat) (u:Value):DfaR B (w.setCell ⟨b,j,none⟩ u) v d:=by obtain⟨v1,v2,hv,h1,h2⟩:=h;exact⟨v1,v2,hv,h1.far hb j u,Sl.far h2 hb j u⟩
def inB (x lo hi:Int):Bool:=decide (lo≤x)&&decide (x≤hi)
theorem ZaA (x lo hi:Int) (w:World) (r:Bool) (hr:inB x lo hi=r) :
  Calls Try.prog 80 #[.int .i64 x,.int .i64 lo,.int .i64 hi] w fun e w'=>e = .returned (.bool r)∧w=w':=by
 subst hr;unfold inB
 go_enter Try.func80,Try.ntmps80
 go_wp2
 all_goals (go_ret;exact⟨by simp[*]<;>omega,rfl⟩)
theorem ZaG (x lo hi:Int) (w:World) (r:Bool) (hr:inB x lo hi=r) :
  Calls Try.prog 48 #[.int .i64 x,.int .i64 lo,.int .i64 hi] w fun e w'=>e = .returned (.bool r)∧w=w':=by
 subst hr;unfold inB
 go_enter Try.func48,Try.ntmps48
 go_wp2
 all_goals (go_ret;exact⟨by simp[*]<;>omega,rfl⟩)
def Zcf (n:Int) (row:List Int):Bool:=decide (row.length=3)&&row.all fun t=>inB t 0 (n-1)
def Zaf (next:List (List Int)) (ends:List Bool):Bool :=
 next.all (Zcf next.length)&&inB next.length 1 40&&decide (ends.length=next.length)
theorem Zdc {next:List (List Int)} {ends:List Bool} {k:Nat} (hk:k<next.length) (h:Zcf next.length (next.getD k [])=false):Zaf next ends=false:=by
 unfold Zaf;have:next.all (Zcf next.length)=false:=by rw[List.all_eq_false];refine⟨next[k],List.getElem_mem hk,?_⟩;simpa [hk] using h
 simp[this]
theorem Zf8 {n:Int} {row:List Int} (h:row.length≠3):Zcf n row=false:=by simp[Zcf,h]
theorem ZiP {n:Int} {row:List Int} {c:Nat} (hc:c<row.length) (h:inB (row.getD c 0) 0 (n-1)=false):Zcf n row=false:=by
 unfold Zcf;have:(row.all fun t=>inB t 0 (n-1))=false:=by rw[List.all_eq_false];refine⟨row[c],List.getElem_mem hc,?_⟩;simpa [hc] using h
 simp[this]
theorem ZfV {α:Type} {p:α→Bool} {l:List α} {k:Nat} {d:α} (hk:k<l.length) (h:(l.take k).all p=true) (hp:p (l.getD k d)=true):(l.take (k+1)).all p=true:=by rw[List.take_succ_eq_append_getElem hk,List.all_append,h];simpa [hk] using hp
theorem Zbt (next:List (List Int)) (ends:List Bool) (v1 v2:Value) (w:World) (h1:IntSS 0 w v1 next) (h2:Bools 0 w v2 ends) (r:Bool) (hr:Zaf next ends=r) :
  Calls Try.prog 74 #[.agg #[v1,v2]] w fun e w'=>e = .returned (.bool r)∧Below w.heap.size w w':=by
 obtain⟨a1,c1,rfl,hc1,hm1,hr1⟩:=h1.form;obtain⟨a2,c2,rfl,hc2,hm2,hr2⟩:=h2.form;have Hr:=qh hr;clear h1 h2 hr
 go_enter Try.func74,Try.ntmps74
 go_wp2
 go_loopw [2,3,4] (fun r i j wr=>∃ k:Nat,k≤next.length∧i = .int .i64 k∧(next.take k).all (Zcf next.length)=true∧Below (w.heap.size+1) (w.alloc (.cells #[.slice a1 next.length c1,.slice a2 ends.length c2] 45)) wr)
  (fun _ i _ _=>next.length-(intOf i).toNat)
 case atStart=>exact⟨0,Nat.zero_le _,rfl,rfl,Below.refl _ _⟩
 case round =>
  obtain⟨k,hk,rfl,hall,hb⟩:=hrel;have hend:Below w.heap.size w wr:=((Below.refl _ _).alloc (Nat.le_refl _) _).trans (hb.mono (by omega));have Hend:=qh hend;clear hend;have hx0:=ZfO hb 0;have hx3:=ZfO hb 1;simp only[w_5,w_6,w_7] at hx0 hx3;by_cases hlt:k<next.length
  ·obtain⟨b,off,rfl,hB,hbl,hcs⟩:=hr1 (by omega);obtain⟨row,hrw⟩:=eI (next.getD k []);have hcsk:=hcs k hlt;rw[← hrw] at hcsk;have Hrw:=qh hrw;clear hrw hcs hr1 hr2;obtain⟨a',cap',hcell,hcc,hcm,hrow⟩:=hcsk;have hx1:=(Zhd hb b (off+k) hbl).trans hcell;have hbx:=Zlx hb;replace hall:=qh hall;by_cases hlen:row.length=3
   ·have Hlen:=qh hlen;have hl3:((row.length:Int) != 3)=false:=by rw[hlen];rfl
    obtain⟨b',off',rfl,hB',hbl',hcs'⟩:=hrow (by omega);clear hlen hx3;go_wp2
    go_loopw [2,4] (fun r j wi=>∃ c:Nat,c≤3∧j = .int .i64 c∧(row.take c).all (fun t=>inB t 0 ((next.length:Int)-1))=true∧Below (w.heap.size+1) (w.alloc (.cells #[.slice (some ⟨b,off,none⟩) next.length c1,.slice a2 ends.length c2] 45)) wi)
     (fun _ j _=>3-(intOf j).toNat)
    case atStart=>exact⟨0,by omega,rfl,rfl,hb⟩
    case round =>
     obtain⟨c,hc,rfl,hall',hbi⟩:=hrel;have Hall':=qh hall';clear hall';have Hbi:=qh hbi;by_cases hc3:c<3
     ·have hx0:=ZfO hbi 0;have hx1:=(Zhd hbi b (off+k) hbl).trans hcell;have hx2:=(Zhd hbi b' (off'+c) hbl').trans (hcs' c (by have:=Hlen.out;omega));simp only[w_5,w_6] at hx0;obtain⟨t,ht⟩:=eI (row.getD c 0);rw[← ht] at hx2;have Ht:=qh ht;clear ht hbi;have hr3:(c:Int)<row.length:=by have:=Hlen.out;omega
      have hwn:IntKind.i64.wrap ((next.length:Int)-1)=(next.length:Int)-1:=IntWalk.i64_in _ (by omega);clear hcs';cases hin:inB t 0 ((next.length:Int)-1)
      all_goals
       have Hin:=qh hin;clear hin;go_wp2
       go_region_held3 (fun w'=>w'.cell? ⟨w.heap.size,0,none⟩=some (.slice (some ⟨b,off,none⟩) next.length c1)∧w'.cell? ⟨b,off+k,none⟩=some (.slice (some ⟨b',off',none⟩) row.length cap')∧w'.cell? ⟨b',off'+c,none⟩=some (.int .i64 t))
        (go_keep)
        (first|(go_at_call 80;refine(ZaA _ _ _ _ _ Hin.out).mono ?_;rintro e w' ⟨rfl,rfl⟩))
       go_wp2
      ·go_ret;have hfin:Zaf next ends=false:=Zdc hlt (by rw[← Hrw.out];exact ZiP (c:=c) (by have:=Hlen.out;omega) (by rw[← Ht.out];exact Hin.out));exact⟨by rw[← Hr.out,hfin];rfl,(((Below.refl _ _).alloc (Nat.le_refl _) _).trans (Hbi.out.mono (by omega))).drew⟩
      go_roundw
      case rel=>exact⟨c+1,by omega,by go_num,ZfV (d:=0) (by have:=Hlen.out;omega) Hall'.out (by rw[← Ht.out];exact Hin.out),Hbi.out.drew⟩
      case measure=>simp[intOf];omega
     obtain rfl:c=3:=by omega
     clear hbi hcs';go_wp2;go_roundw
     case rel =>
      have hok:Zcf next.length (next.getD k [])=true:=by rw[← Hrw.out];unfold Zcf;have h3:=Hall'.out;rw[List.take_of_length_le (by have:=Hlen.out;omega)] at h3;simp[Hlen.out,h3]
      exact⟨k+1,by omega,by go_num,ZfV (d:=[]) hlt hall.out hok,Hbi.out⟩
     case measure=>simp[intOf];omega
   have hl3:((row.length:Int) != 3)=true:=by rw[bne_iff_ne];omega
   go_wp2;go_ret;have hfin:Zaf next ends=false:=Zdc hlt (by rw[← Hrw.out];exact Zf8 hlen);exact⟨by rw[← Hr.out,hfin];rfl,Hend.out⟩
  have hfin:Zaf next ends=(inB next.length 1 40&&decide (ends.length=next.length)):=by have h3:=hall;rw[List.take_of_length_le (by omega)] at h3;simp[Zaf,h3]
  have Hfin:=qh hfin;clear hfin hall hr1 hr2;cases hin:inB next.length 1 40
  ·have Hin:=qh hin;clear hin;go_wp2_with (go_at_call 80;refine(ZaA _ _ _ _ _ Hin.out).mono ?_;rintro e w' ⟨rfl,rfl⟩);go_ret;exact⟨by rw[← Hr.out,Hfin.out,Hin.out];rfl,Hend.out⟩
  have Hin:=qh hin;clear hin;go_wp2_with (go_at_call 80;refine(ZaA _ _ _ _ _ Hin.out).mono ?_;rintro e w' ⟨rfl,rfl⟩);go_ret;refine⟨?_,Hend.out⟩;rw[← Hr.out,Hfin.out,Hin.out];exact Zc2 (by rw[ZjM];rfl)
end Go.Proofs.Ytfanhfcamblghaa
namespace Go.Proofs.Ytfanhfcamblghaa
open Go.RowKit
theorem Zj7 {P:Program} {f:FuncId} {args:Array Value} {w:World} {n:Nat} {v:Value}
  (h:Calls P f args (w.drewN n) fun e w'=>e = .returned v∧w.drewN n=w'):Calls P f args (w.drewN n) fun e w''=>e = .returned v∧∃ m,w''=w.drewN m :=
 h.mono fun _ _ ⟨he,hm⟩=>⟨he,n,hm.symm⟩
end Go.Proofs.Ytfanhfcamblghaa
namespace Go.Proofs.Ytfanhfcamblghaa
open Go.RowKit
theorem Zcb {α:Type} {l:List α} {k:Nat} {d:α} (hk:k<l.length):l.getD k d∈l:=by simp[hk]
theorem Zjz {P:Program} {ti:TypeId} {fs:List Field} (d:Nat) (x1 x2 y1 y2:Int) (w:World) (hi:P.underlying ti=some (.int .i64))
  (hf : fs.map (fun f => (f.name == "_", f.type, f.offset)) = [(false, ti, 0), (false, ti, 1)]) :
  (Op.eqFields (d+1) #[.int .i64 x1,.int .i64 x2] #[.int .i64 y1,.int .i64 y2] fs).run P w = .ok (x1==y1&&x2==y2) w:=by
 obtain⟨f,g,rfl⟩:∃ f g,fs=[f,g]:=by
  have hl:fs.length=2:=by simpa using congrArg List.length hf
  match fs with
  | []=>simp at hl
  | [_]=>simp at hl
  | [f,g]=>exact⟨f,g,rfl⟩
  | _::_::_::_=>simp at hl
 simp only[List.map_cons,List.map_nil,List.cons.injEq,Prod.mk.injEq,and_true] at hf
 obtain⟨⟨f1,f2,f3⟩,g1,g2,g3⟩:=hf
 have f1' : f.name ≠ "_" := by simpa using f1
 have g1' : g.name ≠ "_" := by simpa using g1
 simp only[Op.eqFields,f1',g1',f2,f3,g2,g3,ne_eq,not_false_eq_true,if_true]
 cases h1:x1==y1<;>cases h2:x2==y2<;>simp[go_sem,hi,h1,h2,part,isAgg,run_underlying hi]
end Go.Proofs.Ytfanhfcamblghaa
namespace Go.Proofs.Ytfanhfcamblghaa
open Go.RowKit
def badT (n t:Int):Bool:=!inB t 0 (n-1)
def ZbA {α:Type} (p:α→Bool) (xs:List α):Int:=if xs.any p then(xs.findIdx p:Int) else -1
theorem Zcu {α:Type} {p:α→Bool} {xs:List α} {k:Nat} {d:α} (hk:k<xs.length) (h:(xs.take k).any p=false) (hp:p (xs.getD k d)=true):ZbA p xs=k:=by
 have hp':p xs[k]=true:=by simpa [hk] using hp
 have h1:xs.any p=true:=List.any_eq_true.2 ⟨xs[k],List.getElem_mem hk,hp'⟩;unfold ZbA;rw[if_pos h1];have:xs.findIdx p=k:=by rw[List.findIdx_eq hk];refine⟨hp',fun j hj => ?_⟩;rw[List.any_eq_false] at h;have:=h xs[j] (by rw[List.mem_take_iff_getElem];exact⟨j,by omega,rfl⟩);simpa using this
 rw[this]
theorem Zce {α:Type} {p:α→Bool} {xs:List α} {k:Nat} (hk:xs.length≤k) (h:(xs.take k).any p=false):ZbA p xs = -1:=by rw[List.take_of_length_le hk] at h;unfold ZbA;rw[h];rfl
theorem Zcv {α:Type} (p:α→Bool) (xs:List α):decide (0≤ZbA p xs)=xs.any p:=by unfold ZbA;cases h:xs.any p<;>simp
theorem ZfU {α:Type} {p:α→Bool} {l:List α} {k:Nat} {d:α} (hk:k<l.length) (h:(l.take k).any p=false) (hp:p (l.getD k d)=false):(l.take (k+1)).any p=false:=by rw[List.take_succ_eq_append_getElem hk,List.any_append,h];simpa [hk] using hp
theorem Zdb (x n:Int) (b:Nat) (w:World) (hn:0≤n∧n≤9223372036854775807) (hc:w.cell? ⟨b,0,none⟩=some (.int .i64 n)) (r:Bool) (hr:badT n x=r) :
  Calls Try.prog 108 #[.int .i64 x,.pointer (some ⟨b,0,none⟩)] w fun e w'=>e = .returned (.bool r)∧w=w':=by
 subst hr;obtain⟨h1,h2⟩:=hn
 go_enter Try.func108, Try.ntmps108
 go_wp2_with (go_at_call 48;refine(ZaG _ _ _ _ _ rfl).mono ?_;rintro e w' ⟨rfl,rfl⟩);go_ret;exact⟨rfl,rfl⟩
theorem Zel (xs:List Int) (v:Value) (n:Int) (b:Nat) (w:World) (hn:0≤n∧n≤9223372036854775807) (hc:w.cell? ⟨b,0,none⟩=some (.int .i64 n)) (h1:Ints 0 w v xs) :
  Calls Try.prog 129 #[v,.func (.func 108) #[] #[.pointer (some ⟨b,0,none⟩)]] w fun e w'=>e = .returned (.int .i64 (ZbA (badT n) xs))∧w=w':=by
 obtain⟨a1,c1,rfl,hc1,hm1,hr1⟩:=h1.form;clear h1
 go_enter Try.func129, Try.ntmps129
 go_wp2
 go_loop [4,8] (fun r i=>∃ k:Nat,k≤xs.length∧i = .int .i64 k∧(xs.take k).any (badT n)=false) (fun _ i=>xs.length-(intOf i).toNat)
 case atStart=>exact⟨0,Nat.zero_le _,rfl,rfl⟩
 case round =>
  obtain⟨k,hk,rfl,htk⟩:=hrel;replace htk:=qh htk;by_cases hlt:k<xs.length
  ·obtain⟨b1,o1,rfl,hB1,hbl1,hcs1⟩:=hr1 (by omega);have hx1:=hcs1 k hlt;obtain⟨x,hxx⟩:=eI (xs.getD k 0);rw[← hxx] at hx1;have Hhxx:=qh hxx;clear hxx;clear hcs1 hr1;cases hb:badT n x
   ·replace hb:=qh hb;go_wp2_with (go_at_call 108;refine(Zdb x n b _ hn hc _ hb.out).mono ?_;rintro e w' ⟨rfl,rfl⟩)
    go_round
    case rel=>exact⟨k+1,by omega,by go_num,ZfU (d:=0) hlt htk.out (by rw[← Hhxx.out];exact hb.out)⟩
    case measure=>simp[intOf];omega
   replace hb:=qh hb;go_wp2_with (go_at_call 108;refine(Zdb x n b _ hn hc _ hb.out).mono ?_;rintro e w' ⟨rfl,rfl⟩);go_ret;exact⟨ZbQ (by rw[Zcu (d:=0) hlt htk.out (by rw[← Hhxx.out];exact hb.out)]),rfl⟩
  clear hr1;go_wp2;go_ret;exact⟨ZbQ (by rw[Zce (by omega) htk.out]),rfl⟩
theorem ZbO (xs:List Int) (v:Value) (n:Int) (b:Nat) (w:World) (hn:0≤n∧n≤9223372036854775807) (hc:w.cell? ⟨b,0,none⟩=some (.int .i64 n)) (h1:Ints 0 w v xs) (r:Bool) (hr:xs.any (badT n)=r) :
  Calls Try.prog 98 #[v,.func (.func 108) #[] #[.pointer (some ⟨b,0,none⟩)]] w fun e w'=>e = .returned (.bool r)∧w=w':=by
 obtain⟨a1,c1,hv,-⟩:=h1.form;have H1:=qh h1;subst hv;clear h1;replace hr:=qh hr
 go_enter Try.func98, Try.ntmps98
 go_wp2_with (go_at_call 129;refine(Zel xs _ n b _ hn hc H1.out).mono ?_;rintro e w' ⟨rfl,rfl⟩);go_ret;exact⟨Zc2 (by rw[← hr.out,Zcv]),rfl⟩
theorem ZiQ {n:Int} {row:List Int} (h:row.any (badT n)=true):Zcf n row=false:=by
 unfold Zcf;have:(row.all fun t=>inB t 0 (n-1))=false:=by rw[List.any_eq_true] at h;obtain⟨x,hx,hp⟩:=h;rw[List.all_eq_false];exact⟨x,hx,by simpa [badT] using hp⟩
 simp[this]
theorem ZiO {n:Int} {row:List Int} (hl:row.length=3) (h:row.any (badT n)=false):Zcf n row=true:=by unfold Zcf;rw[List.any_eq_false] at h;simp only[hl,decide_true,Bool.true_and,List.all_eq_true];intro x hx;have:=h x hx;simpa [badT] using this
theorem ZaO (d:DfaD) (v:Value) (w:World) (h:DfaR 0 w v d) (r:Bool) (hr:Zaf d.next d.ends=r) :
  Calls Try.prog 64 #[v] w fun e w'=>e = .returned (.bool r)∧Below w.heap.size w w':=by
 obtain⟨next,ends⟩:=d;obtain⟨v1,v2,rfl,h1,h2⟩:=h;simp only at h1 h2 hr;obtain⟨a1,c1,rfl,hc1,hm1,hr1⟩:=h1.formI;obtain⟨a2,c2,rfl,hc2,hm2,hr2⟩:=h2.form;have Hr:=qh hr;clear h1 h2 hr hr2
 go_enter Try.func64, Try.ntmps64
 go_wp2
 go_loopw [2,12] (fun r i wr=>∃ k:Nat,k≤next.length∧i = .int .i64 k∧(next.take k).all (Zcf next.length)=true∧Below (w.heap.size+2) ((w.alloc (.cells #[.slice a1 next.length c1,.slice a2 ends.length c2] 45)).alloc (.cells #[.int .i64 next.length] 3)) wr)
  (fun _ i _=>next.length-(intOf i).toNat)
 case atStart=>exact⟨0,Nat.zero_le _,rfl,rfl,Below.refl _ _⟩
 case round =>
  obtain⟨k,hk,rfl,hall,hb⟩:=hrel;have hend:Below w.heap.size w wr:=(((Below.refl _ _).alloc (Nat.le_refl _) _).alloc (by simp) _).trans (hb.mono (by omega));have x0:=((Bx.new w _ _).alloc _).below hb (by omega);have x1:=(Bx.new (w.alloc _) _ _).below hb (by simp);have hx0:=x0.cell 0;have hx2:=x0.cell 1;have hx1:=x1.cell 0;simp only[w_5,w_6,w_7,World.size_alloc] at hx0 hx1 hx2;have Hend:=qh hend;clear hend x0 x1;by_cases hlt:k<next.length
  ·obtain⟨b,off,rfl,hB,hbl,hcs⟩:=hr1 (by omega);obtain⟨row,hrw⟩:=eI (next.getD k []);have hcsk:=hcs k hlt;rw[← hrw] at hcsk;replace hrw:=qh hrw;obtain⟨a',cap',hcell,hcc,hcm,hrow⟩:=hcsk;have hx3:=(bcell Hend.out b (off+k) hbl).trans hcell;have Hrow:=qh (hrow.below Hend.out);replace hall:=qh hall;have Hhb:=qh hb;clear hb;clear hcs hr1 hcell hrow;by_cases hlen:row.length=3
   ·have hl3:((row.length:Int) != 3)=false:=by rw[hlen];rfl
    have Hhlen:=qh hlen;clear hlen;cases hany:row.any (badT next.length)
    ·have Hhany:=qh hany;clear hany;go_wp2_with (go_at_call 98;refine(ZbO row _ next.length _ _ (by omega) hx1 Hrow.out _ Hhany.out).mono ?_;rintro e w' ⟨rfl,rfl⟩);go_roundw
     case rel=>exact⟨k+1,by omega,by go_num,ZfV (d:=[]) hlt hall.out (by rw[← hrw.out];exact ZiO Hhlen.out Hhany.out),Hhb.out⟩
     case measure=>simp[intOf];omega
    have Hhany:=qh hany;clear hany;go_wp2_with (go_at_call 98;refine(ZbO row _ next.length _ _ (by omega) hx1 Hrow.out _ Hhany.out).mono ?_;rintro e w' ⟨rfl,rfl⟩);go_ret;exact⟨by rw[← Hr.out,Zdc hlt (by rw[← hrw.out];exact ZiQ Hhany.out)];rfl,Hend.out⟩
   have hl3:((row.length:Int) != 3)=true:=by rw[bne_iff_ne];omega
   have Hhlen:=qh hlen;clear hlen;go_wp2;go_ret;exact⟨by rw[← Hr.out,Zdc hlt (by rw[← hrw.out];exact Zf8 Hhlen.out)];rfl,Hend.out⟩
  have hfin:Zaf next ends=(inB next.length 1 40&&decide (ends.length=next.length)):=by have h3:=hall;rw[List.take_of_length_le (by omega)] at h3;simp[Zaf,h3]
  have Hhfin:=qh hfin;clear hfin;have Hhb:=qh hb;clear hb;clear hall hr1;cases hin:inB next.length 1 40
  ·have Hhin:=qh hin;clear hin;go_wp2_with (go_at_call 48;refine(ZaG _ _ _ _ _ Hhin.out).mono ?_;rintro e w' ⟨rfl,rfl⟩);go_ret;exact⟨by rw[← Hr.out,Hhfin.out,Hhin.out];rfl,Hend.out⟩
  have Hhin:=qh hin;clear hin;go_wp2_with (go_at_call 48;refine(ZaG _ _ _ _ _ Hhin.out).mono ?_;rintro e w' ⟨rfl,rfl⟩);go_ret;exact⟨Zc2 (by rw[← Hr.out,Hhfin.out,Hhin.out,ZjM];rfl),Hend.out⟩
def Zat (a b:DfaD) (p:Int × Int) (c:Nat):Int × Int:=((a.next.getD p.1.toNat []).getD c 0,(b.next.getD p.2.toNat []).getD c 0)
def Zc7 (a b:DfaD) (p:Int × Int):Bool:=inB p.1 0 ((a.next.length:Int)-1)&&inB p.2 0 ((b.next.length:Int)-1)
theorem Zc8 {x lo hi:Int} (h:inB x lo hi=true):lo≤x∧x≤hi:=by simpa [inB] using h
theorem ZaI {next:List (List Int)} {ends:List Bool} (h:Zaf next ends=true) {i:Nat} (hi:i<next.length) :
  (next.getD i []).length=3∧∀ c,c<3→0≤(next.getD i []).getD c 0∧(next.getD i []).getD c 0<next.length:=by
 simp only[Zaf,Bool.and_eq_true,List.all_eq_true] at h;have hr:=h.1.1 _ (Zcb (d:=[]) hi);simp only[Zcf,Bool.and_eq_true,decide_eq_true_eq,List.all_eq_true] at hr;refine⟨hr.1,fun c hc => ?_⟩;have:=Zc8 (hr.2 _ (Zcb (d:=0) (show c<(next.getD i []).length by omega)));omega
theorem Zag {next:List (List Int)} {ends:List Bool} (h:Zaf next ends=true):1≤next.length∧next.length≤40∧ends.length=next.length:=by simp only[Zaf,Bool.and_eq_true,decide_eq_true_eq] at h;have:=Zc8 h.1.2;omega
end Go.Proofs.Ytfanhfcamblghaa
namespace Go.Proofs.Ytfanhfcamblghaa
structure Bs (α:Type) where
 met:List α
 words:List (List Nat)
section
variable {α:Type} [DecidableEq α]
def bvisit (nx:α→Nat→α) (x:α) (wd:List Nat) (s:Bs α) (c:Nat):Bs α :=
 if nx x c∈s.met then s else⟨s.met++[nx x c],s.words++[wd++[c]]⟩
def brow (nx:α→Nat→α) (x:α) (wd:List Nat) (s:Bs α):Nat→Bs α
 | 0=>s
 | n+1=>bvisit nx x wd (brow nx x wd s n) n
def bat (nx:α→Nat→α) (a:α):Nat→Bs α
 | 0=>⟨[a],[[]]⟩
 | k+1=>if k<(bat nx a k).met.length then brow nx ((bat nx a k).met.getD k a) ((bat nx a k).words.getD k []) (bat nx a k) 3 else bat nx a k
def bpart (nx:α→Nat→α) (a:α) (k n:Nat):Bs α:=brow nx ((bat nx a k).met.getD k a) ((bat nx a k).words.getD k []) (bat nx a k) n
variable {nx:α→Nat→α} {a:α}
theorem Zao (k:Nat):bpart nx a k 0=bat nx a k:=rfl
theorem Za2 {k:Nat} (h:k<(bat nx a k).met.length):bat nx a (k+1)=bpart nx a k 3:=by simp only[bat,if_pos h];rfl
theorem ZcK {k:Nat} (h:(bat nx a k).met.length≤k):bat nx a (k+1)=bat nx a k:=by simp only[bat,if_neg (show ¬ k<(bat nx a k).met.length by omega)]
theorem Zfb (k n:Nat):bpart nx a k (n+1)=bvisit nx ((bat nx a k).met.getD k a) ((bat nx a k).words.getD k []) (bpart nx a k n) n:=rfl
theorem ZbG {k n:Nat} (h:nx ((bat nx a k).met.getD k a) n∈(bpart nx a k n).met):bpart nx a k (n+1)=bpart nx a k n:=by rw[Zfb,bvisit,if_pos h]
theorem ZbH {k n:Nat} (h:nx ((bat nx a k).met.getD k a) n ∉ (bpart nx a k n).met):bpart nx a k (n+1)=⟨(bpart nx a k n).met++[nx ((bat nx a k).met.getD k a) n],(bpart nx a k n).words++[(bat nx a k).words.getD k []++[n]]⟩:=by rw[Zfb,bvisit,if_neg h]
theorem ZdV (Q:Bs α→Prop) {x:α} {wd:List Nat} {s:Bs α} (hs:Q s) (hv:∀ t c,c<3→Q t→Q (bvisit nx x wd t c)):∀ n,n≤3→Q (brow nx x wd s n)
 | 0,_=>hs
 | n+1,h=>hv _ n (by omega) (ZdV Q hs hv n (by omega))
theorem Zdz (Q:Bs α→Prop) (h0:Q ⟨[a],[[]]⟩) (hv:∀ s k,k<s.met.length→∀ t c,c<3→Q s→Q t→Q (bvisit nx (s.met.getD k a) (s.words.getD k []) t c)):∀ k,Q (bat nx a k)
 | 0=>h0
 | k+1=>by
  have ih:=Zdz Q h0 hv k;by_cases h:k<(bat nx a k).met.length
  ·rw[Za2 h];exact ZdV Q ih (fun t c hc ht=>hv _ k h t c hc ih ht) 3 (by omega)
  rw[ZcK (by omega)];exact ih
theorem ZgF (Q:Bs α→Prop) (h0:Q ⟨[a],[[]]⟩) (hv:∀ s k,k<s.met.length→∀ t c,c<3→Q s→Q t→Q (bvisit nx (s.met.getD k a) (s.words.getD k []) t c)) {k n:Nat} (hk:k<(bat nx a k).met.length) (hn:n≤3):Q (bpart nx a k n) :=
 ZdV Q (Zdz Q h0 hv k) (fun t c hc ht=>hv _ k hk t c hc (Zdz Q h0 hv k) ht) n hn
omit [DecidableEq α] in
theorem ZcE {l:List α} {x:α} (h:l.Nodup) (hx:x ∉ l):(l++[x]).Nodup:=by rw[List.nodup_append];refine⟨h,by simp,?_⟩;intro b hb c hc;simp only[List.mem_singleton] at hc;subst hc;intro e;subst e;exact hx hb
theorem Zey (x:α) (wd:List Nat) {t:Bs α} (c:Nat) (h:t.met.Nodup∧t.words.length=t.met.length∧t.met.head? = some a) :
  (bvisit nx x wd t c).met.Nodup∧(bvisit nx x wd t c).words.length=(bvisit nx x wd t c).met.length∧(bvisit nx x wd t c).met.head? = some a:=by
 unfold bvisit
 split
 ·exact h
 rename_i hx;obtain⟨h1,h2,h3⟩:=h;exact⟨ZcE h1 hx,by simp[h2],by simp[h3]⟩
theorem Zbm (k:Nat):(bat nx a k).met.Nodup∧(bat nx a k).words.length=(bat nx a k).met.length∧(bat nx a k).met.head? = some a :=
 Zdz (fun s=>s.met.Nodup∧s.words.length=s.met.length∧s.met.head? = some a) (by simp) (fun s k _ t c _ _ ht=>Zey _ _ _ ht) k
theorem ZcJ {k n:Nat} (hk:k<(bat nx a k).met.length) (hn:n≤3):(bpart nx a k n).met.Nodup∧(bpart nx a k n).words.length=(bpart nx a k n).met.length∧(bpart nx a k n).met.head? = some a :=
 ZgF (fun s=>s.met.Nodup∧s.words.length=s.met.length∧s.met.head? = some a) (by simp) (fun s k _ t c _ _ ht=>Zey _ _ _ ht) hk hn
theorem Zdy (k:Nat):0<(bat nx a k).met.length:=by
 have:=(Zbm (nx:=nx) (a:=a) k).2.2;cases h:(bat nx a k).met with
 | nil=>rw[h] at this;simp at this
 | cons=>simp
theorem ZeA (k:Nat):(bat nx a k).met.getD 0 a=a:=by
 have:=(Zbm (nx:=nx) (a:=a) k).2.2;cases h:(bat nx a k).met with
 | nil=>rw[h] at this;simp at this
 | cons=>rw[h] at this;simpa using this
theorem Zbu {Q:α→Prop} (h0:Q a) (hv:∀ x c,c<3→Q x→Q (nx x c)) (k:Nat):∀ x∈(bat nx a k).met,Q x:=by
 refine Zdz (fun s=>∀ x∈s.met,Q x) (by simpa using h0) (fun s k hk t c hc hs ht => ?_) k;unfold bvisit
 split
 ·exact ht
 intro x hx;simp only[List.mem_append,List.mem_singleton] at hx;rcases hx with hx|rfl
 ·exact ht x hx
 refine hv _ c hc (hs _ ?_);rw[List.getD_eq_getElem?_getD,List.getElem?_eq_getElem hk];simp
theorem ZjK {Q:α→Prop} (h0:Q a) (hv:∀ x c,c<3→Q x→Q (nx x c)) {k n:Nat} (hk:k<(bat nx a k).met.length) (hn:n≤3):∀ x∈(bpart nx a k n).met,Q x:=by
 refine ZgF (fun s=>∀ x∈s.met,Q x) (by simpa using h0) (fun s k hk t c hc hs ht => ?_) hk hn;unfold bvisit
 split
 ·exact ht
 intro x hx;simp only[List.mem_append,List.mem_singleton] at hx;rcases hx with hx|rfl
 ·exact ht x hx
 refine hv _ c hc (hs _ ?_);rw[List.getD_eq_getElem?_getD,List.getElem?_eq_getElem hk];simp
def Bs.le (s t:Bs α):Prop:=s.met <+: t.met∧s.words <+: t.words
omit [DecidableEq α] in
theorem Bs.le_refl (s:Bs α):s.le s:=⟨List.prefix_rfl,List.prefix_rfl⟩
omit [DecidableEq α] in
theorem Bs.le_trans {s t u:Bs α} (h:s.le t) (k:t.le u):s.le u:=⟨h.1.trans k.1,h.2.trans k.2⟩
theorem ZjI (x:α) (wd:List Nat) (s:Bs α) (c:Nat):s.le (bvisit nx x wd s c):=by
 unfold bvisit
 split
 ·exact Bs.le_refl _
 exact⟨List.prefix_append _ _,List.prefix_append _ _⟩
theorem ZjJ (x:α) (wd:List Nat) (s:Bs α) (n m:Nat) (h:n≤m):(brow nx x wd s n).le (brow nx x wd s m):=by
 induction m with
 | zero=>obtain rfl:n=0:=by omega
         exact Bs.le_refl _
 | succ m ih =>
  by_cases hn:n=m+1
  ·subst hn;exact Bs.le_refl _
  exact Bs.le_trans (ih (by omega)) (ZjI _ _ _ _)
theorem Za1 {k n m:Nat} (h:n≤m):(bpart nx a k n).le (bpart nx a k m):=ZjJ _ _ _ n m h
theorem Zhe (k:Nat):(bat nx a k).le (bat nx a (k+1)):=by
 by_cases h:k<(bat nx a k).met.length
 ·rw[Za2 h];exact ZjJ _ _ _ 0 3 (by omega)
 rw[ZcK (by omega)];exact Bs.le_refl _
theorem Zez {k m:Nat} (h:k≤m):(bat nx a k).le (bat nx a m):=by
 induction m with
 | zero=>obtain rfl:k=0:=by omega
         exact Bs.le_refl _
 | succ m ih =>
  by_cases hn:k=m+1
  ·subst hn;exact Bs.le_refl _
  exact Bs.le_trans (ih (by omega)) (Zhe _)
theorem Zax {k n m:Nat} (hk:k<(bat nx a k).met.length) (hn:n≤3) (hm:k<m):(bpart nx a k n).le (bat nx a m):=by
 have h1:(bpart nx a k n).le (bat nx a (k+1)):=by rw[Za2 hk];exact Za1 hn
 exact Bs.le_trans h1 (Zez hm)
theorem Zbn {k m:Nat} (h:(bat nx a k).met.length≤k) (hm:k≤m):bat nx a m=bat nx a k:=by
 induction m with
 | zero=>obtain rfl:k=0:=by omega
         rfl
 | succ m ih =>
  by_cases hn:k=m+1
  ·subst hn;rfl
  have e:=ih (by omega);rw[ZcK (by rw[e];omega),e]
def Zad (l:List α) (x:α):Nat:=l.idxOf x
theorem ZaP {l:List α} {x:α} (h:x∈l):Zad l x<l.length:=List.idxOf_lt_length_iff.2 h
omit [DecidableEq α] in
theorem Zau {l m:List α} (h:l <+: m) {k:Nat} (hk:k<l.length) (d:α):m.getD k d=l.getD k d:=by obtain⟨t,rfl⟩:=h;simp[List.getElem?_append_left hk]
theorem ZaU {l m:List α} (h:l <+: m) {x:α} (hx:x∈l):Zad m x=Zad l x:=by obtain⟨t,rfl⟩:=h;unfold Zad;rw[List.idxOf_append,if_pos hx]
theorem ZdT {l m:List α} {x:α} (h:l++[x] <+: m) (hx:x ∉ l):Zad m x=l.length:=by rw[ZaU h (by simp)];unfold Zad;rw[List.idxOf_append,if_neg hx];simp
theorem Zkp {l:List α} {k:Nat} (hk:k<l.length) (hn:l.Nodup) (d:α):Zad l (l.getD k d)=k:=by unfold Zad;rw[List.getD_eq_getElem?_getD,List.getElem?_eq_getElem hk];simp[hn]
theorem ZfB {l:List α} {x:α} (hx:x∈l) (d:α):l.getD (Zad l x) d=x:=by unfold Zad;rw[List.getD_eq_getElem?_getD,List.getElem?_eq_getElem (List.idxOf_lt_length_iff.2 hx)];simp
theorem ZgE {k n c:Nat} (hc:c<n):nx ((bat nx a k).met.getD k a) c∈(bpart nx a k n).met:=by
 have h1:nx ((bat nx a k).met.getD k a) c∈(bpart nx a k (c+1)).met:=by
  by_cases h:nx ((bat nx a k).met.getD k a) c∈(bpart nx a k c).met
  ·rw[ZbG h];exact h
  rw[ZbH h];simp
 exact(Za1 (nx:=nx) (a:=a) (k:=k) (show c+1≤n by omega)).1.subset h1
theorem ZcF {l m:List α} (hn:l.Nodup) (hs:∀ x∈l,x∈m):l.length≤m.length:=by
 induction l generalizing m with
 | nil=>simp
 | cons x l ih =>
  rw[List.nodup_cons] at hn;have h1:=ih (m:=m.erase x) hn.2 fun y hy=>(List.mem_erase_of_ne (fun e=>hn.1 (by rw[← e];exact hy))).2 (hs y (by simp[hy]))
  have h2:=List.length_erase_of_mem (hs x (by simp));have h3:=List.length_pos_of_mem (hs x (by simp));simp only[List.length_cons];omega
end
def ZgZ {α:Type} [DecidableEq α] (nx:α→Nat→α) (a:α) (F:List α) (s:Int) (c:Nat):Int:=Zad F (nx (F.getD s.toNat a) c)
def ZcZ (n:Nat):List Int:=(List.range n).map Int.ofNat
theorem ZbY {n:Nat} {x:Nat}:(x:Int)∈ZcZ n↔x<n:=by
 simp only[ZcZ,List.mem_map,List.mem_range];constructor
 ·rintro⟨y,hy,e⟩;have e2:(y:Int)=(x:Int):=e;omega
 intro h;exact⟨x,h,rfl⟩
theorem ZbU (n:Nat):(ZcZ n).length=n:=by simp[ZcZ]
end Go.Proofs.Ytfanhfcamblghaa
namespace Go.Proofs.Ytfanhfcamblghaa
open Go.RowKit
section
variable {α:Type} [DecidableEq α]
def numbered (l:List α):List (α × Value):=l.zipIdx.map fun p=>(p.1,Value.int .i64 (p.2:Int))
omit [DecidableEq α] in
theorem Zfs (l:List α) (x:α):numbered (l++[x])=numbered l++[(x,Value.int .i64 (l.length:Int))]:=by simp[numbered,List.zipIdx_append]
omit [DecidableEq α] in
theorem Zb9 (l:List α):(numbered l).map (·.1)=l:=by simp only[numbered,List.map_map];have:((fun x:α × Value=>x.1) ∘ fun p:α × Nat=>(p.1,Value.int .i64 (p.2:Int)))=Prod.fst:=rfl;rw[this,List.zipIdx_map_fst]
theorem Zbz {l:List α} (hn:l.Nodup) {x:α} (hx:x∈l):look x (numbered l)=some (.int .i64 (Zad l x:Int)):=by refine ZhB (by rw[Zb9];exact hn) (j:=Zad l x) ?_;have hlt:=List.idxOf_lt_length_iff.2 hx;unfold Zad;simp only[numbered,List.getElem?_map,List.getElem?_zipIdx,List.getElem?_eq_getElem hlt,Option.map_some,Nat.zero_add,List.getElem_idxOf]
theorem Zco {l:List α} {x:α} (hx:x ∉ l):look x (numbered l)=none :=
 Zgl fun p hp e=>hx (by rw[← Zb9 l,← e];exact List.mem_map.2 ⟨p,hp,rfl⟩)
theorem ZcN {l:List α} {x:α} (hx:x ∉ l):upd x (.int .i64 (l.length:Int)) (numbered l)=numbered (l++[x]):=by rw[Zfs];exact Zhj fun p hp e=>hx (by rw[← Zb9 l,← e];exact List.mem_map.2 ⟨p,hp,rfl⟩)
end
end Go.Proofs.Ytfanhfcamblghaa
namespace Go.Proofs.Ytfanhfcamblghaa
open Go.RowKit
theorem memD {α:Type} {xs:List α} {k:Nat} {d:α} (h:k<xs.length):xs.getD k d∈xs:=by rw[List.getD_eq_getElem?_getD,List.getElem?_eq_getElem h];simp
theorem ZaW {α:Type} {xs:List α} {k:Nat} {d:α} (h:k<xs.length):xs.getD k d=xs[k]:=by simp[h]
def dnx (d:DfaD) (s:Int) (c:Nat):Int:=(d.next.getD s.toNat []).getD c 0
def den (d:DfaD) (s:Int):Bool:=d.ends.getD s.toNat false
def ZfE {α:Type} (en:α→Bool) (s:Bs α):Option (List Nat):=((s.met.zip s.words).find? fun p=>en p.1).map (·.2)
def fine (d:DfaD):Prop:=1≤d.next.length∧d.next.length≤100000∧d.ends.length=d.next.length∧∀ i,i<d.next.length→(d.next.getD i []).length=3∧∀ c,c<3→0≤(d.next.getD i []).getD c 0∧(d.next.getD i []).getD c 0<d.next.length
section
variable {α:Type} [DecidableEq α] {nx nx':α→Nat→α} {a:α}
theorem ZdA {K:Nat} (hK:(bat nx a K).met.length≤K) {x:α} (hx:x∈(bat nx a K).met) {c:Nat} (hc:c<3):nx x c∈(bat nx a K).met:=by
 obtain⟨k,hk,rfl⟩:=List.mem_iff_getElem.1 hx
 have hkk:k<(bat nx a k).met.length:=by
  by_cases h:k<(bat nx a k).met.length
  ·exact h
  have:=Zbn (nx:=nx) (a:=a) (k:=k) (m:=K) (by omega) (by omega);rw[this] at hk;omega
 have e:(bat nx a K).met[k]=(bat nx a k).met.getD k a:=by rw[← Zau (Zez (nx:=nx) (a:=a) (show k≤K by omega)).1 hkk a,ZaW hk]
 rw[e];exact(Zax (nx:=nx) (a:=a) hkk (Nat.le_refl 3) (show k<K by omega)).1.subset (ZgE hc)
theorem ZhU:∀ k:Nat,∀ wd∈(bat nx a k).words,wd.length≤k
 | 0,wd,h=>by simp[bat] at h;simp[h]
 | k+1,wd,h=>by
  have ih:=ZhU k;by_cases hk:k<(bat nx a k).met.length
  ·rw[Za2 hk] at h;have hg:=(Zbm (nx:=nx) (a:=a) k).2.1;refine ZdV (fun t=>∀ wd∈t.words,wd.length≤k+1) (fun wd h=>Nat.le_succ_of_le (ih wd h)) (fun t c _ ht => ?_) 3 (Nat.le_refl 3) wd h;unfold bvisit
   split
   ·exact ht
   intro v hv;simp only[List.mem_append,List.mem_singleton] at hv;rcases hv with hv|rfl
   ·exact ht v hv
   have:=ih _ (memD (d:=[]) (show k<(bat nx a k).words.length by omega));simpa using this
  rw[ZcK (by omega)] at h;exact Nat.le_succ_of_le (ih wd h)
theorem ZfS (K:Nat):a∈(bat nx a K).met:=by
 have h:=memD (d:=a) (Zdy (nx:=nx) (a:=a) K)
 rwa [ZeA] at h
def Zab (nx:α→Nat→α) (F:List α) (x:α):List Int:=(List.range 3).map fun c=>(Zad F (nx x c):Int)
def Zaz (nx:α→Nat→α) (en:α→Bool) (F:List α):DfaD:=⟨F.map (Zab nx F),F.map en⟩
theorem Zbj (nx:α→Nat→α) (en:α→Bool) (F:List α):(Zaz nx en F).next.length=F.length:=by simp[Zaz]
theorem Zdo {en:α→Bool} {F:List α} {i:Nat} (hi:i<F.length):(Zaz nx en F).next.getD i []=Zab nx F (F.getD i a):=by simp[Zaz,List.getElem?_eq_getElem hi]
theorem Zea {F:List α} {x:α} {c:Nat} (hc:c<3):(Zab nx F x).getD c 0=(Zad F (nx x c):Int):=by simp[Zab,hc]
theorem Zlf {en:α→Bool} {F:List α} {s:Int} {c:Nat} (h0:0≤s) (h1:s<F.length) (hc:c<3):dnx (Zaz nx en F) s c=ZgZ nx a F s c:=by unfold dnx ZgZ;rw[Zdo (a:=a) (by omega),Zea hc]
theorem Zli {en:α→Bool} {F:List α} {i:Nat} (hi:i<F.length):den (Zaz nx en F) (i:Int)=en F[i]:=by simp[den,Zaz,hi]
theorem ZdU {en:α→Bool} {K:Nat} (hK:(bat nx a K).met.length≤K) (hK2:K≤100000):fine (Zaz nx en (bat nx a K).met):=by
 refine⟨?_,?_,?_,fun i hi => ?_⟩
 ·rw[Zbj];exact Zdy K
 ·rw[Zbj];omega
 ·simp[Zaz]
 rw[Zbj] at hi;rw[Zdo (a:=a) hi];refine⟨by simp[Zab],fun c hc => ?_⟩;rw[Zea hc,Zbj];exact⟨by omega,by exact_mod_cast ZaP (ZdA hK (memD hi) hc)⟩
end
theorem ZhK {w:World} {v1:Value} {next:List (List Int)} {ends:List Bool} (h:IntSS 0 w v1 next) (hd:Zaf next ends=true) {i c:Nat} (hi:i<next.length) (hc:c<3) :
  ∃ q o cap z t s,v1 = .slice (some ⟨q,o,none⟩) next.length cap∧next.length≤cap∧cap≤9223372036854775807∧w.cell? ⟨q,o+i,none⟩=some (.slice (some ⟨z,t,none⟩) 3 s)∧3≤s∧s≤9223372036854775807 ∧
   w.cell? ⟨z,t+c,none⟩=some (.int .i64 ((next.getD i []).getD c 0))∧q<w.heap.size∧z<w.heap.size:=by
 obtain⟨a,cap,rfl,h1,h2,h3⟩:=h.form;obtain⟨q,o,rfl,_,hq,hr⟩:=h3 (by omega);obtain⟨a',s,e1,e2,e3,e4⟩:=hr i hi;obtain⟨hl,_⟩:=ZaI hd hi;rw[hl] at e1 e2 e4;obtain⟨z,t,rfl,_,hz,e5⟩:=e4 (by omega);exact⟨q,o,cap,z,t,s,rfl,h1,h2,e1,e2,e3,e5 c hc,hq,hz⟩
theorem ZjL {w:World} {v1:Value} {xs:List Bool} (h:Bools 0 w v1 xs) {i:Nat} (hi:i<xs.length) :
  ∃ q o cap,v1 = .slice (some ⟨q,o,none⟩) xs.length cap∧xs.length≤cap∧cap≤9223372036854775807∧w.cell? ⟨q,o+i,none⟩=some (.bool (xs.getD i false))∧q<w.heap.size:=by
 obtain⟨a,cap,rfl,h1,h2,h3⟩:=h.form;obtain⟨q,o,rfl,_,hq,hr⟩:=h3 (by omega);exact⟨q,o,cap,rfl,h1,h2,hr i hi,hq⟩
theorem Ze5 {a b:DfaD} {p:Int × Int} (h:Zc7 a b p=true):∃ i j:Nat,p=((i:Int),(j:Int))∧i<a.next.length∧j<b.next.length:=by unfold Zc7 at h;rw[Bool.and_eq_true] at h;obtain⟨x,y⟩:=p;obtain⟨h1,h2⟩:=Zc8 h.1;obtain⟨h3,h4⟩:=Zc8 h.2;simp only at h1 h2 h3 h4;obtain⟨i,rfl⟩:=Int.eq_ofNat_of_zero_le h1;obtain⟨j,rfl⟩:=Int.eq_ofNat_of_zero_le h3;exact⟨i,j,rfl,by omega,by omega⟩
def DfaAt (w:World) (b:Nat) (d:DfaD):Prop:=∃ v1 v2,Bx w b #[v1,v2] 45 ∧ IntSS 0 w v1 d.next∧Bools 0 w v2 d.ends
theorem DfaAt.below {w w':World} {b:Nat} {d:DfaD} (h:DfaAt w b d) (hb:Below w.heap.size w w'):DfaAt w' b d:=by obtain⟨v1,v2,h1,h2,h3⟩:=h;exact⟨v1,v2,h1.below hb h1.lt,h2.below hb,h3.below hb⟩
def ZcM (f:Bool→Bool→Bool) (a b:DfaD) (p:Int × Int):Bool:=f (a.ends.getD p.1.toNat false) (b.ends.getD p.2.toNat false)
end Go.Proofs.Ytfanhfcamblghaa
