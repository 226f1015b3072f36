/-
  What a call has made for itself, as a list of things that lie in different blocks: one step of the walk turns the whole list at once.
  No condition: this text speaks of no program.
-/
import Derived.Test.YtncekbbhgipdlaaGreatPs02Mt
namespace Go.Proofs.YtncekbbhgipdlaaGreat
open Go.RowKit
structure Ent where
 foot:Nat→Prop
 holds:World→Prop
 stable:∀ w w':World,holds w→(∀ k,foot k→w'.heap[k]? = w.heap[k]?)→holds w'
def Ent.apart (a b:Ent):Prop:=∀ k,a.foot k→¬ b.foot k
theorem Ent.apart.symm {a b:Ent} (h:a.apart b):b.apart a:=fun k hb ha=>h k ha hb
def Ent.nil:Ent:=⟨fun _=>False,fun _=>True,fun _ _ _ _=>trivial⟩
def Ent.box (b:Nat) (cs:Array Value) (T:TypeId):Ent:=⟨fun k=>k=b,fun w=>Bx w b cs T,fun _ _ h hk=>(hk b rfl).trans h⟩
def Ent.row (e size:Nat) (v:Value) (n:Nat) (cs:List Value):Ent :=
 ⟨fun k=>v.ownBlock=some k,fun w=>w.ownsRow 0 e size v n cs,fun _ _ h hk=>(Own.kept (Zab h) hk).1⟩
def Ent.rows (es e:Nat) (v:Value) (vs:List Value) (css:List (List Value)):Ent :=
 ⟨fun k=>v.ownBlock=some k∨∃ i,i<css.length∧(vs.getD i undef).ownBlock=some k,
  fun w=>w.ownsRow 0 es 1 v css.length vs∧(∀ i,i<css.length→w.ownsRow 0 e 1 (vs.getD i undef) (css.getD i []).length (css.getD i [])) ∧
   (∀ i j k,i<j→j<css.length→(vs.getD i undef).ownBlock=some k→(vs.getD j undef).ownBlock≠some k),
  fun _ _ h hk=>⟨(Own.kept (Zab h.1) fun k hh=>hk k (Or.inl hh)).1,fun i hi=>(Own.kept (Zab (h.2.1 i hi)) fun k hh=>hk k (Or.inr ⟨i,hi,hh⟩)).1,h.2.2⟩⟩
structure St (w0 w:World) (L:List Ent):Prop where
 bel:Below w0.heap.size w0 w
 has:∀ (i:Nat) (x:Ent),L[i]? = some x→x.holds w∧∀ k,x.foot k→w0.heap.size≤k∧k<w.heap.size
 far:∀ (i j:Nat) (x y:Ent),i≠j→L[i]? = some x→L[j]? = some y→x.apart y
section
variable {w0 w w':World} {L:List Ent}
theorem St.start (w:World):St w w []:=⟨Below.refl _ _,fun i x h=>by simp at h,fun i j x y _ h=>by simp at h⟩
theorem St.size (h:St w0 w L):w0.heap.size≤w.heap.size:=h.bel.size
theorem St.call (h:St w0 w L) (hb:Below w.heap.size w w'):St w0 w' L :=
 ⟨h.bel.trans (hb.mono h.bel.size),fun i x hx=>by obtain⟨a,b⟩:=h.has i x hx;exact⟨x.stable w w' a fun k hk=>hb.block k (b k hk).2,fun k hk=>⟨(b k hk).1,Nat.lt_of_lt_of_le (b k hk).2 hb.size⟩⟩,h.far⟩
theorem St.drew (h:St w0 w L):St w0 w.drew L:=h.call (Below.refl _ _).drew
theorem St.drewN (h:St w0 w L) (n:Nat):St w0 (w.drewN n) L:=h.call (below_drewN (Below.refl _ _) n)
theorem St.add (h:St w0 w L) (hb:Below w.heap.size w w') (y:Ent) (hy:y.holds w') (hf:∀ k,y.foot k→w.heap.size≤k∧k<w'.heap.size):St w0 w' (L++[y]):=by
 have h2:=h.call hb
 have key:∀ i x,(L++[y])[i]? = some x→(L[i]? = some x)∨(i=L.length∧x=y):=fun i x hx=>by
  rw[List.getElem?_append] at hx
  split at hx
  ·exact Or.inl hx
  rename_i hl
  have:i-L.length=0:=by
   rcases Nat.eq_zero_or_pos (i-L.length) with h0|h0
   ·exact h0
   rw[List.getElem?_eq_none (by simp;omega)] at hx;cases hx
  rw[this] at hx;simp at hx;exact Or.inr ⟨by omega,hx.symm⟩
 refine⟨h2.bel,fun i x hx => ?_,fun i j x z hij hx hz => ?_⟩
 ·rcases key i x hx with hx1|⟨-,rfl⟩
  ·exact h2.has i x hx1
  exact⟨hy,fun k hk=>⟨Nat.le_trans h.bel.size (hf k hk).1,(hf k hk).2⟩⟩
 rcases key i x hx with hx1|⟨hi,hxy⟩
 ·rcases key j z hz with hz1|⟨hj,hzy⟩
  ·exact h.far i j x z hij hx1 hz1
  intro k hk hk2;rw[hzy] at hk2;have:=((h.has i x hx1).2 k hk).2;have:=(hf k hk2).1;omega
 rcases key j z hz with hz1|⟨hj,hzy⟩
 ·intro k hk hk2;rw[hxy] at hk;have:=((h.has j z hz1).2 k hk2).2;have:=(hf k hk).1;omega
 exact absurd (hi.trans hj.symm) hij
theorem St.alloc (h:St w0 w L) (b:Nat) (hb:w.heap.size=b) (cs:Array Value) (T:TypeId):St w0 (w.alloc (.cells cs T)) (L++[Ent.box b cs T]):=by subst hb;exact h.add ((Below.refl _ _).alloc (Nat.le_refl _) _) _ (Bx.new w cs T) fun k hk=>by have hk:k=w.heap.size:=hk;subst hk;exact⟨Nat.le_refl _,by simp⟩
theorem St.alloc_ (h:St w0 w L) (o:Obj):St w0 (w.alloc o) L:=h.call ((Below.refl _ _).alloc (Nat.le_refl _) _)
theorem Za4 {B B' e size n:Nat} {v:Value} {cs:List Value} (h:w.ownsRow B e size v n cs) (hB:B'≤B):w.ownsRow B' e size v n cs:=(Own.mono (Zab h) hB (Nat.le_refl _)).1
theorem ZeN {B e size n:Nat} {v:Value} {cs:List Value} (h:w.ownsRow 0 e size v n cs) (hB:∀ k,v.ownBlock=some k→B≤k):w.ownsRow B e size v n cs:=by
 refine⟨h.1,?_⟩;rcases h.2 with h1|⟨g,cap,cur,rfl,-,r⟩
 ·exact Or.inl h1
 exact Or.inr ⟨g,cap,cur,rfl,hB g rfl,r⟩
theorem St.made (h:St w0 w L) (hb:Below w.heap.size w w') {e size n:Nat} {v:Value} {cs:List Value} (hr:w'.ownsRow w.heap.size e size v n cs):St w0 w' (L++[Ent.row e size v n cs]) :=
 h.add hb _ (Za4 hr (Nat.zero_le _)) fun k hk=>hr.lt k hk
theorem St.nilRow (h:St w0 w L) (e size:Nat):St w0 w (L++[Ent.row e size (.slice none 0 0) 0 []]) :=
 h.add (Below.refl _ _) _ ⟨by simp,Or.inl ⟨rfl,rfl⟩⟩ fun k hk=>by cases hk
theorem St.only {lo hi:Nat} (h:St w0 w L) (hm:Only lo hi w w') (hlo:w0.heap.size≤lo) (hd:∀ x∈L,∀ k,x.foot k→k<lo∨hi≤k):St w0 w' L :=
 ⟨h.bel.trans ⟨hm.os,hm.tape,hm.output,hm.size,fun k hk=>hm.block k (Nat.lt_of_lt_of_le hk h.size) (Or.inl (Nat.lt_of_lt_of_le hk hlo))⟩,fun i x hx=>by obtain⟨a,b⟩:=h.has i x hx;exact⟨x.stable w w' a fun k hk=>hm.block k (b k hk).2 (hd x (List.mem_of_getElem? hx) k hk),fun k hk=>⟨(b k hk).1,Nat.lt_of_lt_of_le (b k hk).2 hm.size⟩⟩,h.far⟩
theorem St.turn (h:St w0 w L) (i:Nat) {x:Ent} (hx:L[i]? = some x) (y:Ent) (hos:w'.os=w.os) (ht:w'.tape=w.tape) (ho:w'.output=w.output) (hs:w.heap.size≤w'.heap.size)
  (hk:∀ k,k<w.heap.size→¬ x.foot k→w'.heap[k]? = w.heap[k]?) (hy:y.holds w') (hf:∀ k,y.foot k→k<w'.heap.size∧(x.foot k∨w.heap.size≤k)):St w0 w' (L.set i y):=by
 have hil:i<L.length:=(List.getElem?_eq_some_iff.1 hx).1
 have key:∀ j z,(L.set i y)[j]? = some z→(j≠i∧L[j]? = some z)∨(j=i∧z=y):=fun j z hz=>by
  rw[List.getElem?_set] at hz
  split at hz
  ·rename_i e;subst e;simp only[w_9] at hz;exact Or.inr ⟨rfl,hz.symm⟩
  rename_i e;exact Or.inl ⟨fun e2=>e e2.symm,hz⟩
 have hb:Below w0.heap.size w0 w':=h.bel.trans ⟨hos,ht,ho,hs,fun k hk0=>hk k (Nat.lt_of_lt_of_le hk0 h.size) fun hf0=>by have:=((h.has i x hx).2 k hf0).1;omega⟩;refine⟨hb,fun j z hz => ?_,fun j l z u hjl hz hu => ?_⟩
 ·rcases key j z hz with⟨hj,hz⟩|⟨-,rfl⟩
  ·obtain⟨a,b⟩:=h.has j z hz;exact⟨z.stable w w' a fun k hk2=>hk k (b k hk2).2 (h.far j i z x hj hz hx k hk2),fun k hk2=>⟨(b k hk2).1,Nat.lt_of_lt_of_le (b k hk2).2 hs⟩⟩
  refine⟨hy,fun k hk2=>⟨?_,(hf k hk2).1⟩⟩;rcases(hf k hk2).2 with h1|h1
  ·exact((h.has i x hx).2 k h1).1
  exact Nat.le_trans h.size h1
 have one:∀ (l:Nat) (u:Ent),l≠i→L[l]? = some u→y.apart u:=fun l u hl hu k hk1 hk2=>by
  rcases(hf k hk1).2 with h1|h1
  ·exact h.far i l x u (fun e=>hl e.symm) hx hu k h1 hk2
  have:=((h.has l u hu).2 k hk2).2;omega
 rcases key j z hz with⟨hj,hz1⟩|⟨hj,hzy⟩
 ·rcases key l u hu with⟨hl,hu1⟩|⟨hl,huy⟩
  ·exact h.far j l z u hjl hz1 hu1
  rw[huy];exact(one j z hj hz1).symm
 rw[hzy];rcases key l u hu with⟨hl,hu1⟩|⟨hl,huy⟩
 ·exact one l u hl hu1
 exact absurd (hj.trans hl.symm) hjl
theorem St.set (h:St w0 w L) (i:Nat) {b:Nat} {cs:Array Value} {T:TypeId} (hx:L[i]? = some (Ent.box b cs T)) (j:Nat) (v:Value):St w0 (w.setCell ⟨b,j,none⟩ v) (L.set i (Ent.box b (cs.setIfInBounds j v) T)):=by have hb:Bx w b cs T:=(h.has i _ hx).1;exact h.turn i hx _ rfl rfl rfl (by simp[World.setCell]) (fun k _ hk=>Below.heap_setCell _ _ _ _ hk) (hb.set j v) fun k hk=>by have hk:k=b:=hk;subst hk;exact⟨(hb.set j v).lt,Or.inl rfl⟩
theorem St.store (h:St w0 w L) (i:Nat) {e size g n cap:Nat} {cs:List Value} (hx:L[i]? = some (Ent.row e size (.slice (some ⟨g,0,none⟩) n cap) n cs)) (j:Nat) (v:Value) :
  St w0 (w.setCell ⟨g,j,none⟩ v) (L.set i (Ent.row e size (.slice (some ⟨g,0,none⟩) n cap) n (cs.set j v))):=by
 have hr:w.ownsRow 0 e size (.slice (some ⟨g,0,none⟩) n cap) n cs:=(h.has i _ hx).1;have hr2:=(hr.stored j v).1;exact h.turn i hx _ rfl rfl rfl (by simp[World.setCell]) (fun k _ hk=>Below.heap_setCell _ _ _ _ (fun e=>hk (by rw[e];rfl))) hr2 fun k hk=>⟨(hr2.lt k hk).2,Or.inl hk⟩
theorem St.grow (h:St w0 w L) (i:Nat) {B e size n m:Nat} {v v':Value} {cs cs':List Value} (hx:L[i]? = some (Ent.row e size v n cs)) (hg:w.grownBy w' v.ownBlock) (hown:w'.ownsRow B e size v' m cs')
  (hat:∀ k,v'.ownBlock=some k→v.ownBlock=some k∨w.heap.size≤k):St w0 w' (L.set i (Ent.row e size v' m cs')) :=
 h.turn i hx _ hg.os hg.tape hg.output hg.size (fun k hk hn=>hg.block k hk fun e=>hn e.symm) (Za4 hown (Nat.zero_le _)) fun k hk=>⟨(hown.lt k hk).2,hat k hk⟩
theorem Zfh {v:Value} {g n cap H:Nat} (hat:v.ownBlock=some g∨g=H):∀ k,(Value.slice (some ⟨g,0,none⟩) n cap).ownBlock=some k→v.ownBlock=some k∨H≤k:=fun k hk=>by
 have hk:some g=some k:=hk;obtain rfl:g=k:=Option.some.inj hk;rcases hat with h1|h1
 ·exact Or.inl h1
 exact Or.inr (by omega)
theorem St.app (h:St w0 w L) (i:Nat) {B e size n m g cap:Nat} {v:Value} {cs cs':List Value} (hx:L[i]? = some (Ent.row e size v n cs)) (hown:w'.ownsRow B e size (.slice (some ⟨g,0,none⟩) m cap) m cs') (hg:w.grownBy w' v.ownBlock)
  (hat:v.ownBlock=some g∨g=w.heap.size):St w0 w' (L.set i (Ent.row e size (.slice (some ⟨g,0,none⟩) m cap) m cs')):=h.grow i hx hg hown (Zfh hat)
theorem St.pick (h:St w0 w L) (f:List Nat) (hn:f.Nodup):St w0 w (f.map fun i=>L.getD i Ent.nil):=by
 have key:∀ i x,(f.map fun i=>L.getD i Ent.nil)[i]? = some x→∃ a,f[i]? = some a∧(L[a]? = some x∨x=Ent.nil):=fun i x hx=>by
  rw[List.getElem?_map] at hx;cases hf:f[i]? with
  | none=>rw[hf] at hx;cases hx
  | some a =>
   rw[hf] at hx;simp only[Option.map_some,w_9,List.getD_eq_getElem?_getD] at hx;refine⟨a,hf,?_⟩;cases hl:L[a]? with
   | none=>rw[hl] at hx;exact Or.inr hx.symm
   | some y=>rw[hl] at hx;exact Or.inl (by rw[← hx];rfl)
 refine⟨h.bel,fun i x hx => ?_,fun i j x y hij hx hy => ?_⟩
 ·obtain⟨a,-,h1|rfl⟩:=key i x hx
  ·exact h.has a x h1
  exact⟨trivial,fun k hk=>hk.elim⟩
 obtain⟨a,ha,h1⟩:=key i x hx;obtain⟨c,hc,h2⟩:=key j y hy;rcases h1 with h1|rfl
 ·rcases h2 with h2|rfl
  ·refine h.far a c x y (fun e=>hij ?_) h1 h2;subst e;exact(List.getElem?_inj (List.getElem?_eq_some_iff.1 ha).1 hn).1 (ha.trans hc.symm)
  exact fun k _ hk=>hk
 exact fun k hk=>hk.elim
theorem St.box (h:St w0 w L) (i:Nat) {b:Nat} {cs:Array Value} {T:TypeId} (hx:L[i]? = some (Ent.box b cs T)):Bx w b cs T:=(h.has i _ hx).1
theorem St.cell (h:St w0 w L) (i j:Nat) {b:Nat} {cs:Array Value} {T:TypeId} {v:Value} (hx:L[i]? = some (Ent.box b cs T)) (hv:cs[j]? = some v):w.cell? ⟨b,j,none⟩=some v:=((h.box i hx).cell j).trans hv
theorem St.fr (h:St w0 w L) (i j:Nat) {b:Nat} {cs:Array Value} {T:TypeId} (hx:L[i]? = some (Ent.box b cs T)):w.frozen? ⟨b,j,none⟩=false:=(h.box i hx).fr j
theorem St.boxlt (h:St w0 w L) (i:Nat) {b:Nat} {cs:Array Value} {T:TypeId} (hx:L[i]? = some (Ent.box b cs T)):w0.heap.size≤b∧b<w.heap.size:=(h.has i _ hx).2 b rfl
theorem St.row (h:St w0 w L) (i:Nat) {e size n:Nat} {v:Value} {cs:List Value} (hx:L[i]? = some (Ent.row e size v n cs)):w.ownsRow w0.heap.size e size v n cs:=ZeN (h.has i _ hx).1 fun k hk=>((h.has i _ hx).2 k hk).1
theorem St.rcell (h:St w0 w L) (i j:Nat) {e size g n cap:Nat} {cs:List Value} {v:Value} (hx:L[i]? = some (Ent.row e size (.slice (some ⟨g,0,none⟩) n cap) n cs)) (hj:j<n*size) (hv:cs[j]? = some v):w.cell? ⟨g,j,none⟩=some v :=
 ((h.row i hx).cellAt j hj).trans hv
theorem St.rfr (h:St w0 w L) (i j:Nat) {e size g n cap:Nat} {cs:List Value} (hx:L[i]? = some (Ent.row e size (.slice (some ⟨g,0,none⟩) n cap) n cs)):w.frozen? ⟨g,j,none⟩=false :=
 World.ownsRow.frozenAt (h.row i hx) j
theorem St.rowlt (h:St w0 w L) (i:Nat) {e size g n cap:Nat} {cs:List Value} (hx:L[i]? = some (Ent.row e size (.slice (some ⟨g,0,none⟩) n cap) n cs)):w0.heap.size≤g∧g<w.heap.size:=(h.has i _ hx).2 g rfl
theorem St.rowcap (h:St w0 w L) (i:Nat) {e size g n cap:Nat} {cs:List Value} (hx:L[i]? = some (Ent.row e size (.slice (some ⟨g,0,none⟩) n cap) n cs)):n≤cap∧cap≤9223372036854775807:=by
 have hr:=h.row i hx;rcases hr.2 with⟨h1,-⟩|⟨g',cap',cur,h1,-,-,h4,h5,-⟩
 ·cases h1
 simp only[Value.slice.injEq,true_and] at h1;obtain⟨-,rfl⟩:=h1;exact⟨h4,h5⟩
theorem St.rowform (h:St w0 w L) (i:Nat) {e size n:Nat} {v:Value} {cs:List Value} (hx:L[i]? = some (Ent.row e size v n cs)) (hn:0<n):∃ g cap,v = .slice (some ⟨g,0,none⟩) n cap:=by
 rcases(h.row i hx).2 with⟨-,h1⟩|⟨g',cap',cur,h1,-⟩
 ·omega
 exact⟨g',cap',h1⟩
theorem St.rowany (h:St w0 w L) (i:Nat) {e size n:Nat} {v:Value} {cs:List Value} (hx:L[i]? = some (Ent.row e size v n cs)):∃ a cap,v = .slice a n cap∧n≤cap∧cap≤9223372036854775807:=by
 rcases(h.row i hx).2 with⟨h1,h2⟩|⟨g',cap',cur,h1,-,-,h4,h5,-⟩
 ·exact⟨none,0,by rw[h1,h2],by omega,by omega⟩
 exact⟨_,cap',h1,h4,h5⟩
theorem St.merge (h:St w0 w L) (i j:Nat) (hij:i≠j) {x y:Ent} (hx:L[i]? = some x) (hy:L[j]? = some y) (z:Ent) (hz:x.holds w→y.holds w→x.apart y→z.holds w) (hf:∀ k,z.foot k→x.foot k∨y.foot k):St w0 w ((L.set i z).set j Ent.nil):=by
 have hil:i<L.length:=(List.getElem?_eq_some_iff.1 hx).1;have hjl:j<L.length:=(List.getElem?_eq_some_iff.1 hy).1
 have key:∀ l u,((L.set i z).set j Ent.nil)[l]? = some u→u=Ent.nil∨(l=i∧u=z)∨(l≠i∧l≠j∧L[l]? = some u):=fun l u hu=>by
  rw[List.getElem?_set] at hu
  split at hu
  ·simp[hjl] at hu;exact Or.inl hu.symm
  rename_i hlj;rw[List.getElem?_set] at hu
  split at hu
  ·rename_i hli;simp at hu;exact Or.inr (Or.inl ⟨hli.symm,hu.symm⟩)
  rename_i hli;exact Or.inr (Or.inr ⟨fun e=>hli e.symm,fun e=>hlj e.symm,hu⟩)
 refine⟨h.bel,fun l u hu => ?_,fun l m u t hlm hu ht => ?_⟩
 ·rcases key l u hu with rfl|⟨-,rfl⟩|⟨-,-,h1⟩
  ·exact⟨trivial,fun k hk=>hk.elim⟩
  ·refine⟨hz (h.has i x hx).1 (h.has j y hy).1 (h.far i j x y hij hx hy),fun k hk => ?_⟩;rcases hf k hk with h2|h2
   ·exact(h.has i x hx).2 k h2
   exact(h.has j y hy).2 k h2
  exact h.has l u h1
 have one:∀ (l:Nat) (u:Ent),l≠i→l≠j→L[l]? = some u→z.apart u:=fun l u hl1 hl2 hu k hk1 hk2=>by
  rcases hf k hk1 with h2|h2
  ·exact h.far i l x u (fun e=>hl1 e.symm) hx hu k h2 hk2
  exact h.far j l y u (fun e=>hl2 e.symm) hy hu k h2 hk2
 rcases key l u hu with hun|⟨hl,huz⟩|⟨hl1,hl2,h1⟩
 ·rw[hun];exact fun k hk=>hk.elim
 ·rcases key m t ht with htn|⟨hm,htz⟩|⟨hm1,hm2,h2⟩
  ·rw[htn];exact fun k _ hk=>hk
  ·exact absurd (hl.trans hm.symm) hlm
  rw[huz];exact one m t hm1 hm2 h2
 rcases key m t ht with htn|⟨hm,htz⟩|⟨hm1,hm2,h2⟩
 ·rw[htn];exact fun k _ hk=>hk
 ·rw[htz];exact(one l u hl1 hl2 h1).symm
 exact h.far l m u t hlm h1 h2
theorem St.same (h:St w0 w L) (i:Nat) {x:Ent} (hx:L[i]? = some x) (y:Ent) (hy:x.holds w→y.holds w) (hf:∀ k,y.foot k→x.foot k):St w0 w (L.set i y) :=
 h.turn i hx y rfl rfl rfl (Nat.le_refl _) (fun _ _ _=>rfl) (hy (h.has i x hx).1) fun k hk=>⟨((h.has i x hx).2 k (hf k hk)).2,Or.inl (hf k hk)⟩
theorem St.boxrow (h:St w0 w L) (i:Nat) {b:Nat} {T:TypeId} (n size:Nat) (cs:List Value) (hx:L[i]? = some (Ent.box b cs.toArray T)) (hl:cs.length=n*size) (hn:n≤maxLen):St w0 w (L.set i (Ent.row T size (.slice (some ⟨b,0,none⟩) n n) n cs)) :=
 h.same i hx _ (fun hb=>Zh3 hb hl (Nat.zero_le _) hn) fun k hk=>by have hk:some b=some k:=hk;exact(Option.some.inj hk).symm
theorem St.norows (h:St w0 w L) (i:Nat) {es:Nat} {v:Value} (hx:L[i]? = some (Ent.row es 1 v 0 [])) (e:Nat):St w0 w (L.set i (Ent.rows es e v [] [])) :=
 h.same i hx _ (fun hb=>⟨hb,fun i hi=>absurd hi (by simp),fun i j k _ hj=>absurd hj (by simp)⟩) fun k hk=>by
  rcases hk with hk|⟨i,hi,-⟩
  ·exact hk
  simp at hi
theorem St.onerow (h:St w0 w L) (i j:Nat) (hij:i≠j) {es e m:Nat} {v rv:Value} {cs:List Value} (hx:L[i]? = some (Ent.row es 1 v 1 [rv])) (hy:L[j]? = some (Ent.row e 1 rv m cs)) :
  St w0 w ((L.set i (Ent.rows es e v [rv] [cs])).set j Ent.nil):=by
 refine h.merge i j hij hx hy _ (fun h1 h2 h3=>⟨h1,fun l hl => ?_,fun i' j' k hij' hj' => ?_⟩) fun k hk => ?_
 ·obtain rfl:l=0:=by simp at hl;omega
  have h2:w.ownsRow 0 e 1 rv m cs:=h2;have:=h2.1;simp at this;show w.ownsRow 0 e 1 rv cs.length cs;rw[this];exact h2
 ·simp at hj';omega
 rcases hk with hk|⟨l,hl,hk⟩
 ·exact Or.inl hk
 obtain rfl:l=0:=by simp at hl;omega
 exact Or.inr hk
theorem St.snoc (h:St w0 w L) (i j:Nat) (hij:i≠j) {es e m:Nat} {v v' rv:Value} {vs cs:List Value} {css:List (List Value)} (hx:L[i]? = some (Ent.rows es e v vs css)) (hy:L[j]? = some (Ent.row e 1 rv m cs)) (hne:es≠e)
  (hg:w.grownBy w' v.ownBlock) {B:Nat} (hown:w'.ownsRow B es 1 v' (css.length+1) (vs++[rv])) (hat:∀ k,v'.ownBlock=some k→v.ownBlock=some k∨w.heap.size≤k) :
  St w0 w' ((L.set i (Ent.rows es e v' (vs++[rv]) (css++[cs]))).set j Ent.nil):=by
 have hx1:(Ent.rows es e v vs css).holds w:=(h.has i _ hx).1;have hy1:(Ent.row e 1 rv m cs).holds w:=(h.has j _ hy).1;have hfar:=h.far i j _ _ hij hx hy;obtain⟨p1,p2,p3⟩:=hx1;have hap:Zcc w v.ownBlock e:=Zam p1 hne;have hl:vs.length=css.length:=by have:=p1.1;omega
 have hmc:cs.length=m:=by have:=hy1.1;omega
 have hget:∀ i,i<css.length→(vs++[rv]).getD i undef=vs.getD i undef:=fun i hi=>by simp only[List.getD_eq_getElem?_getD];rw[List.getElem?_append_left (by omega)]
 have hgetn:(vs++[rv]).getD css.length undef=rv:=by simp[← hl]
 have hcget:∀ i,i<css.length→(css++[cs]).getD i []=css.getD i []:=fun i hi=>by simp only[List.getD_eq_getElem?_getD];rw[List.getElem?_append_left (by omega)]
 have hcgetn:(css++[cs]).getD css.length []=cs:=by simp
 have hil:i<L.length:=(List.getElem?_eq_some_iff.1 hx).1;have hjl:j<L.length:=(List.getElem?_eq_some_iff.1 hy).1;have hM:=h.merge i j hij hx hy ⟨fun k=>(Ent.rows es e v vs css).foot k∨(Ent.row e 1 rv m cs).foot k,fun w=>(Ent.rows es e v vs css).holds w∧(Ent.row e 1 rv m cs).holds w,fun a b h1 h2=>⟨Ent.stable _ a b h1.1 fun k hk=>h2 k (Or.inl hk),Ent.stable _ a b h1.2 fun k hk=>h2 k (Or.inr hk)⟩⟩ (fun a b _=>⟨a,b⟩) fun k hk=>hk
 have hT:=hM.turn i (by rw[List.getElem?_set,if_neg (fun e=>hij e.symm),List.getElem?_set,if_pos rfl,if_pos hil]) (Ent.rows es e v' (vs++[rv]) (css++[cs])) hg.os hg.tape hg.output hg.size
  (fun k hk hn=>hg.block k hk fun e=>hn (Or.inl (Or.inl e.symm))) ?_ ?_
 ·have e1:∀ a y:Ent,(((L.set i a).set j Ent.nil).set i y)=((L.set i y).set j Ent.nil):=fun a y=>by rw[List.set_comm _ _ (fun e=>hij e.symm),List.set_set]
  rw[e1] at hT;exact hT
 ·refine⟨by rw[List.length_append];exact Za4 hown (Nat.zero_le _),fun l hl2 => ?_,fun a b k hab hb hk => ?_⟩
  ·rw[List.length_append,List.length_singleton] at hl2;by_cases hlc:l<css.length
   ·rw[hget l hlc,hcget l hlc];exact Zag (p2 l hlc) hg hap
   obtain rfl:l=css.length:=by omega
   rw[hgetn,hcgetn,hmc];exact Zag hy1 hg hap
  rw[List.length_append,List.length_singleton] at hb;rw[hget a (by omega)] at hk;by_cases hbc:b<css.length
  ·rw[hget b hbc];exact p3 a b k hab hbc hk
  obtain rfl:b=css.length:=by omega
  rw[hgetn];intro hk2;exact hfar k (Or.inr ⟨a,hab,hk⟩) hk2
 intro k hk;rcases hk with hk|⟨l,hl2,hk⟩
 ·refine⟨(hown.lt k hk).2,?_⟩;rcases hat k hk with h1|h1
  ·exact Or.inl (Or.inl (Or.inl h1))
  exact Or.inr h1
 rw[List.length_append,List.length_singleton] at hl2;by_cases hlc:l<css.length
 ·rw[hget l hlc] at hk;exact⟨Nat.lt_of_lt_of_le ((p2 l hlc).lt k hk).2 hg.size,Or.inl (Or.inl (Or.inr ⟨l,hlc,hk⟩))⟩
 obtain rfl:l=css.length:=by omega
 rw[hgetn] at hk;exact⟨Nat.lt_of_lt_of_le (World.ownsRow.lt hy1 k hk).2 hg.size,Or.inl (Or.inr hk)⟩
theorem St.rows (h:St w0 w L) (i:Nat) {es e:Nat} {v:Value} {vs:List Value} {css:List (List Value)} (hx:L[i]? = some (Ent.rows es e v vs css)) :
  w.ownsRow w0.heap.size es 1 v css.length vs∧(∀ i,i<css.length→w.ownsRow w0.heap.size e 1 (vs.getD i undef) (css.getD i []).length (css.getD i []))∧(∀ i j k,i<j→j<css.length→(vs.getD i undef).ownBlock=some k→(vs.getD j undef).ownBlock≠some k):=by
 have h1:(Ent.rows es e v vs css).holds w:=(h.has i _ hx).1;have h2:=(h.has i _ hx).2;exact⟨ZeN h1.1 fun k hk=>(h2 k (Or.inl hk)).1,fun j hj=>ZeN (h1.2.1 j hj) fun k hk=>(h2 k (Or.inr ⟨j,hj,hk⟩)).1,h1.2.2⟩
theorem St.cat {L':List Ent} (h:St w0 w L) (h':St w w' L'):St w0 w' (L++L'):=by
 have h2:=h.call h'.bel
 have key:∀ i x,(L++L')[i]? = some x→(i<L.length∧L[i]? = some x)∨(L.length≤i∧L'[i-L.length]? = some x):=fun i x hx=>by
  rw[List.getElem?_append] at hx
  split at hx
  ·exact Or.inl ⟨by assumption,hx⟩
  exact Or.inr ⟨by omega,hx⟩
 refine⟨h2.bel,fun i x hx => ?_,fun i j x y hij hx hy => ?_⟩
 ·rcases key i x hx with⟨-,h1⟩|⟨-,h1⟩
  ·exact h2.has i x h1
  refine⟨(h'.has _ x h1).1,fun k hk => ?_⟩;have:=(h'.has _ x h1).2 k hk;exact⟨Nat.le_trans h.size this.1,this.2⟩
 rcases key i x hx with⟨hi,h1⟩|⟨hi,h1⟩
 ·rcases key j y hy with⟨hj,h3⟩|⟨hj,h3⟩
  ·exact h.far i j x y hij h1 h3
  intro k hk hk2;have:=((h.has _ x h1).2 k hk).2;have:=((h'.has _ y h3).2 k hk2).1;omega
 rcases key j y hy with⟨hj,h3⟩|⟨hj,h3⟩
 ·intro k hk hk2;have:=((h.has _ y h3).2 k hk2).2;have:=((h'.has _ x h1).2 k hk).1;omega
 exact h'.far _ _ x y (by omega) h1 h3
theorem St.intSS (h:St w0 w L) (i:Nat) {es e:Nat} {v:Value} {vs:List Value} {xss:List (List Int)} (hx:L[i]? = some (Ent.rows es e v vs (xss.map intCells))):OIntSS es e w0.heap.size w.heap.size w v xss:=by
 obtain⟨p1,p2,p3⟩:=h.rows i hx;rw[List.length_map] at p1 p2 p3;refine⟨vs,Zab p1,fun i hi => ?_,p3⟩;have:=p2 i hi;have e1:(xss.map intCells).getD i []=intCells (xss.getD i []):=by simp[hi]
 rw[e1] at this;have:=Zab this;simpa [OInts] using this
end
/-! Many things as one. -/
def Ent.all (R:List Ent):Ent:=⟨fun k=>∃ x∈R,x.foot k,fun w=>∀ x∈R,x.holds w,fun _ _ h hk x hx=>x.stable _ _ (h x hx) fun k hf=>hk k ⟨x,hx,hf⟩⟩
theorem St.pack {w0 w:World} {A R:List Ent} (h:St w0 w (A++R)):St w0 w (A++[Ent.all R]):=by
 have hR:∀ x∈R,∃ i,A.length≤i∧(A++R)[i]? = some x:=fun x hx=>by obtain⟨j,hj,e⟩:=List.getElem_of_mem hx;exact⟨A.length+j,by omega,by rw[List.getElem?_append_right (by omega),Nat.add_sub_cancel_left,List.getElem?_eq_getElem hj,e]⟩
 have key:∀ i x,(A++[Ent.all R])[i]? = some x→(i<A.length∧(A++R)[i]? = some x)∨(i=A.length∧x=Ent.all R):=fun i x hx=>by
  rw[List.getElem?_append] at hx
  split at hx
  ·rename_i hl;exact Or.inl ⟨hl,by rw[List.getElem?_append_left hl];exact hx⟩
  rename_i hl;rcases Nat.eq_zero_or_pos (i-A.length) with h0|h0
  ·rw[h0] at hx;simp at hx;exact Or.inr ⟨by omega,hx.symm⟩
  rw[List.getElem?_eq_none (by simp;omega)] at hx;cases hx
 refine⟨h.bel,fun i x hx => ?_,fun i j x y hij hx hy => ?_⟩
 ·rcases key i x hx with⟨-,h1⟩|⟨-,rfl⟩
  ·exact h.has i x h1
  refine⟨fun z hz => ?_,fun k ⟨z,hz,hk⟩ => ?_⟩
  ·obtain⟨l,-,hl⟩:=hR z hz;exact(h.has l z hl).1
  obtain⟨l,-,hl⟩:=hR z hz;exact(h.has l z hl).2 k hk
 rcases key i x hx with⟨hi,h1⟩|⟨hi,hxe⟩
 ·rcases key j y hy with⟨hj,h2⟩|⟨hj,hye⟩
  ·exact h.far i j x y hij h1 h2
  rw[hye];rintro k hk ⟨z,hz,hk2⟩;obtain⟨l,hl1,hl⟩:=hR z hz;exact h.far i l x z (by omega) h1 hl k hk hk2
 rcases key j y hy with⟨hj,h2⟩|⟨hj,hye⟩
 ·rw[hxe];rintro k ⟨z,hz,hk⟩ hk2;obtain⟨l,hl1,hl⟩:=hR z hz;exact h.far l j z y (by omega) hl h2 k hk hk2
 exact absurd (hi.trans hj.symm) hij
theorem St.unpack {w0 w w':World} {A A' R:List Ent} (h:St w0 w (A++R)) (h':St w0 w' (A'++[Ent.all R])):St w0 w' (A'++R):=by
 have hX:(A'++[Ent.all R])[A'.length]? = some (Ent.all R):=by simp
 have hXh:=h'.has _ _ hX
 have key:∀ i x,(A'++R)[i]? = some x→(i<A'.length∧(A'++[Ent.all R])[i]? = some x)∨(A'.length≤i∧R[i-A'.length]? = some x):=fun i x hx=>by
  rw[List.getElem?_append] at hx
  split at hx
  ·rename_i hl;exact Or.inl ⟨hl,by rw[List.getElem?_append_left hl];exact hx⟩
  exact Or.inr ⟨by omega,hx⟩
 refine⟨h'.bel,fun i x hx => ?_,fun i j x y hij hx hy => ?_⟩
 ·rcases key i x hx with⟨-,h1⟩|⟨-,h1⟩
  ·exact h'.has i x h1
  have hm:=List.mem_of_getElem? h1;exact⟨hXh.1 x hm,fun k hk=>hXh.2 k ⟨x,hm,hk⟩⟩
 rcases key i x hx with⟨hi,h1⟩|⟨hi,h1⟩
 ·rcases key j y hy with⟨hj,h2⟩|⟨hj,h2⟩
  ·exact h'.far i j x y hij h1 h2
  intro k hk hk2;exact h'.far i A'.length x _ (by omega) h1 hX k hk ⟨y,List.mem_of_getElem? h2,hk2⟩
 rcases key j y hy with⟨hj,h2⟩|⟨hj,h2⟩
 ·intro k hk hk2;exact h'.far A'.length j _ y (by omega) hX h2 k ⟨x,List.mem_of_getElem? h1,hk⟩ hk2
 refine h.far (A.length+(i-A'.length)) (A.length+(j-A'.length)) x y (by omega) ?_ ?_
 ·rw[List.getElem?_append_right (by omega)];simpa using h1
 rw[List.getElem?_append_right (by omega)];simpa using h2
/-! What is read above a block stays where a block below is written. -/
theorem Sl.far {B:Nat} {w:World} {v:Value} {n size:Nat} {cs:List Value} (h:Sl B w v n size cs) {b:Nat} (hb:b<B) (j:Nat) (u:Value):Sl B (w.setCell ⟨b,j,none⟩ u) v n size cs:=by obtain⟨hl,a,cap,hv,h1,h2,h3⟩:=h;refine⟨hl,a,cap,hv,h1,h2,fun hn => ?_⟩;obtain⟨c,off,ha,hc,hlt,hcs⟩:=h3 hn;refine⟨c,off,ha,hc,by rw[ZaN];exact hlt,fun i hi => ?_⟩;rw[← hcs i hi];exact World.cell?_of_block (Below.heap_setCell w ⟨b,j,none⟩ u c (by show c≠b;omega))
theorem IntSS.far {B:Nat} {w:World} {v:Value} {xss:List (List Int)} (h:IntSS B w v xss) {b:Nat} (hb:b<B) (j:Nat) (u:Value):IntSS B (w.setCell ⟨b,j,none⟩ u) v xss:=by obtain⟨vs,h1,h2⟩:=h;exact⟨vs,h1.far hb j u,fun i hi=>Sl.far (h2 i hi) hb j u⟩
theorem DfaR.far {B:Nat} {w:World} {v:Value} {d:DfaD} (h:DfaR B w v d) {b:Nat} (hb:b<B) (j:Nat) (u:Value):DfaR B (w.setCell ⟨b,j,none⟩ u) v d:=by obtain⟨v1,v2,hv,h1,h2⟩:=h;exact⟨v1,v2,hv,h1.far hb j u,Sl.far h2 hb j u⟩
structure DfaC (w:World) (d:DfaD) (b1 o1 cv b2 o2 cw:Nat):Prop where
 l1:1≤d.next.length
 l2:d.next.length≤40
 le:d.ends.length=d.next.length
 c1:d.next.length≤cv∧cv≤9223372036854775807
 c2:d.next.length≤cw∧cw≤9223372036854775807
 hb1:b1<w.heap.size
 hb2:b2<w.heap.size
 row:∀ i,i<d.next.length→∃ b3 o3 c3,b3<w.heap.size∧3≤c3∧c3≤9223372036854775807∧w.cell? ⟨b1,o1+i,none⟩=some (.slice (some ⟨b3,o3,none⟩) 3 c3)∧∀ c,c<3→w.cell? ⟨b3,o3+c,none⟩=some (.int .i64 (nxD d i c:Nat))
 en:∀ i,i<d.next.length→w.cell? ⟨b2,o2+i,none⟩=some (.bool (enD d i))
 lt:∀ i c,i<d.next.length→c<3→nxD d i c<d.next.length
 dx:∀ i c,i<d.next.length→c<3→dnx d (i:Int) c=(nxD d i c:Nat)
theorem ZbP {d:DfaD} {w:World} {v:Value} (hd:Zah d.next d.ends=true) (h:DfaR 0 w v d):∃ b1 o1 cv b2 o2 cw,v = .agg #[.slice (some ⟨b1,o1,none⟩) d.next.length cv,.slice (some ⟨b2,o2,none⟩) d.next.length cw]∧DfaC w d b1 o1 cv b2 o2 cw:=by obtain⟨v1,v2,rfl,q1,q2⟩:=h;have hf:=ZaJ hd;obtain⟨hl1,hl2,hle⟩:=Zaj hd;obtain⟨av,cv,rfl,hc1,hc2,hr1⟩:=q1.formI;obtain⟨b1,o1,rfl,-,hb1,hcs1⟩:=hr1 (by omega);obtain⟨av2,cw,rfl,hc3,hc4,hr2⟩:=q2.form;rw[hle] at hc3 hr2;obtain⟨b2,o2,rfl,-,hb2,hcs2⟩:=hr2 (by omega);rw[hle];refine⟨b1,o1,cv,b2,o2,cw,rfl,hl1,hl2,hle,⟨hc1,hc2⟩,⟨hc3,hc4⟩,hb1,hb2,fun i hi => ?_,fun i hi=>hcs2 i hi,fun i c hi hc=>(ZbV hf hi hc).1,fun i c hi hc=>(ZbV hf hi hc).2⟩;obtain⟨ax,cx,hks,p1,p2,hIs⟩:=hcs1 i hi;have hr3:=(ZaV hd hi).1;rw[hr3] at hks hIs p1;obtain⟨_,_,hform,-,-,hrs⟩:=hIs.form;rw[hr3] at hform hrs;simp only[Value.slice.injEq,true_and] at hform;obtain⟨rfl,rfl⟩:=hform;obtain⟨b3,o3,rfl,-,hb3,hcs3⟩:=hrs (by omega);refine⟨b3,o3,cx,hb3,p1,p2,hks,fun c hc => ?_⟩;rw[hcs3 c hc];have hyx:=(ZbV hf hi hc).2;unfold dnx at hyx;rw[Int.toNat_natCast] at hyx;rw[hyx]
def RD (D:DfaD) (w:World) (e:Ending) (w':World):Prop:=∃ a1 c1 a2 c2,e = .returned (.agg #[.slice a1 D.next.length c1,.slice a2 D.ends.length c2])∧DfaR w.heap.size w' (.agg #[.slice a1 D.next.length c1,.slice a2 D.ends.length c2]) D∧Below w.heap.size w w'
theorem DfaC.below {w w':World} {d:DfaD} {b1 o1 cv b2 o2 cw:Nat} (h:DfaC w d b1 o1 cv b2 o2 cw) (hb:Below w.heap.size w w'):DfaC w' d b1 o1 cv b2 o2 cw where
 l1:=h.l1
 l2:=h.l2
 le:=h.le
 c1:=h.c1
 c2:=h.c2
 hb1:=Nat.lt_of_lt_of_le h.hb1 hb.size
 hb2:=Nat.lt_of_lt_of_le h.hb2 hb.size
 row:=fun i hi=>by obtain⟨b3,o3,c3,p1,p2,p3,p4,p5⟩:=h.row i hi;exact⟨b3,o3,c3,Nat.lt_of_lt_of_le p1 hb.size,p2,p3,(bcell hb b1 _ h.hb1).trans p4,fun c hc=>(bcell hb b3 _ p1).trans (p5 c hc)⟩
 en:=fun i hi=>(bcell hb b2 _ h.hb2).trans (h.en i hi)
 lt:=h.lt
 dx:=h.dx
def RDo (D:DfaD) (w:World) (e:Ending) (w':World):Prop:=∃ a1 c1 a2 c2,e = .returned (.agg #[.slice a1 D.next.length c1,.slice a2 D.ends.length c2]) ∧
 DfaO 38 3 4 w.heap.size w'.heap.size w' (.agg #[.slice a1 D.next.length c1,.slice a2 D.ends.length c2]) D∧Below w.heap.size w w'
end Go.Proofs.YtncekbbhgipdlaaGreat
namespace Go.Proofs.YtncekbbhgipdlaaGreat
open Go.RowKit Go.Maps
def Ent.map {α:Type} (kt:Nat) (enc:α→Value) (b:Nat) (M:List (α × Value)):Ent:=⟨fun k=>k=b,fun w=>MapL Tryz.prog kt enc w b M,fun _ _ h hk=>h.kept (hk b rfl)⟩
section
variable {α:Type} {w0 w w':World} {L:List Ent} {kt:Nat} {enc:α→Value} {b:Nat} {M M':List (α × Value)}
theorem St.map (h:St w0 w L) (i:Nat) (hx:L[i]? = some (Ent.map kt enc b M)):MapL Tryz.prog kt enc w b M:=(h.has i _ hx).1
theorem St.mapset (h:St w0 w L) (i:Nat) (hx:L[i]? = some (Ent.map kt enc b M)) (hn:MapL Tryz.prog kt enc w' b M') (hg:w.grownBy w' (some b)):St w0 w' (L.set i (Ent.map kt enc b M')) :=
 h.turn i hx _ hg.os hg.tape hg.output hg.size (fun k hk hne=>hg.block k hk fun e=>hne (show k=b from Option.some.inj e)) hn fun k hk=>by have hk:k=b:=hk;subst hk;exact⟨hn.lt,Or.inl rfl⟩
end
def ZbO (x:Int):Value:=.int .i64 x
theorem ZaA:∀ x y:Int,ZbO x=ZbO y→x=y:=fun x y h=>by simp only[ZbO,Value.int.injEq,true_and] at h;exact h
theorem Tryz.lawInt:Keyed Tryz.prog 3:=int_keyed Tryz.underlying3
theorem Tryz.keyOfInt (x:Int) (hx:fitI x):∃ l,keyOf Tryz.prog 3 (ZbO x)=some l:=⟨_,keyOf_int_mk Tryz.underlying3 (ZkQ hx)⟩
theorem ZfB (w:World):(zeroValue 3).run Tryz.prog w = .ok (.int .i64 0) w:=by kernel_rfl
end Go.Proofs.YtncekbbhgipdlaaGreat
namespace Go.Proofs.YtncekbbhgipdlaaGreat
open Go.RowKit
def okAt (l:List Int) (n:Int) (j:Nat):Bool:=inB (l.getD j 0) 0 (n-1)&&(decide (j=0)||decide (l.getD (j-1) 0<l.getD j 0))
def stOk (l:List Int) (n:Int):Bool:=(List.range l.length).all (okAt l n)
def mvOk (n:Int) (m:Int × Int × Int):Bool:=inB m.1 0 (n-1)&&inB m.2.2 0 (n-1)&&inB m.2.1 (-1) 2
def Zlt (n:NfaD):Bool:=inB n.states 0 40&&decide (n.moves.length≤400)&&stOk n.firsts n.states&&stOk n.ends n.states&&n.moves.all (mvOk n.states)
end Go.Proofs.YtncekbbhgipdlaaGreat
namespace Go.Proofs.YtncekbbhgipdlaaGreat
open Go.RowKit
end Go.Proofs.YtncekbbhgipdlaaGreat
namespace Go.Proofs.YtncekbbhgipdlaaGreat
open Go.RowKit
def adj (v s:Nat):Nat:=v ||| 2 ^ s
theorem ZeZ (v s t:Nat):(adj v s).testBit t=(v.testBit t||decide (s=t)):=by unfold adj;rw[Nat.testBit_or,Nat.testBit_two_pow]
theorem ZnK {v s n:Nat} (hv:v<2 ^ n) (hs:s<n):adj v s<2 ^ n:=Nat.or_lt_two_pow hv (Nat.pow_lt_pow_right (by omega) hs)
def flags (n v:Nat):List Bool:=(List.range n).map v.testBit
theorem ZgL (n v:Nat):(flags n v).length=n:=by simp[flags]
theorem Ze0 {n v s:Nat} (h:s<n):(flags n v).getD s false=v.testBit s:=by simp[flags,h]
theorem Znm {n v s:Nat}:flags n (adj v s)=(flags n v).set s true:=by
 apply List.ext_getElem
 ·simp[flags]
 intro i h1 h2;simp only[flags,List.getElem_map,List.getElem_range];rw[List.getElem_set,ZeZ];by_cases h:s=i<;>simp[h]
theorem ZlK (n:Nat):flags n 0=List.replicate n false:=by
 apply List.ext_getElem
 ·simp[flags]
 intro i h1 h2;simp[flags]
theorem Znl {n u v:Nat} (hu:u<2 ^ n) (hv:v<2 ^ n) (h:flags n u=flags n v):u=v:=by
 apply Nat.eq_of_testBit_eq;intro i;by_cases hi:i<n
 ·rw[← Ze0 (v:=u) hi,h,Ze0 hi]
 rw[Nat.testBit_lt_two_pow (Nat.lt_of_lt_of_le hu (Nat.pow_le_pow_right (by omega) (by omega))),Nat.testBit_lt_two_pow (Nat.lt_of_lt_of_le hv (Nat.pow_le_pow_right (by omega) (by omega)))]
def setV (l:List Int):Nat:=l.foldl (fun v s=>adj v s.toNat) 0
theorem ZbX {α β:Type} (f:β→α→β) (b:β) {l:List α} {k:Nat} (hk:k<l.length) (d:α):(l.take (k+1)).foldl f b=f ((l.take k).foldl f b) (l.getD k d):=by rw[List.take_succ_eq_append_getElem hk,List.foldl_append];simp[hk]
theorem ZcA {α β:Type} (f:β→α→β) (Q:β→Prop) {l:List α} (hf:∀ b,∀ x∈l,Q b→Q (f b x)):∀ {b:β},Q b→Q (l.foldl f b):=by
 induction l with
 | nil=>intro b h;exact h
 | cons x l ih=>intro b h;exact ih (fun b y hy=>hf b y (by simp[hy])) (hf b x (by simp) h)
theorem ZcL {α β:Type} (f:β→α→β) (Q:β→Prop) {l:List α} (hf:∀ b,∀ x∈l,Q b→Q (f b x)) {b:β} (h:Q b) (k:Nat):Q ((l.take k).foldl f b) :=
 ZcA f Q (fun b x hx=>hf b x (List.mem_of_mem_take hx)) h
def inN (n:Nat) (l:List Int):Prop:=∀ s∈l,0≤s∧s<(n:Int)
theorem Zf6 {n:Nat} {l:List Int} (h:inN n l):setV l<2 ^ n :=
 ZcA _ (fun v=>v<2 ^ n) (fun v s hs hv=>ZnK hv (by have:=h s hs;omega)) (Nat.two_pow_pos n)
def mvIn (n:Nat) (ms:List (Int × Int × Int)):Prop:=∀ m∈ms,(0≤m.1∧m.1<(n:Int))∧(0≤m.2.2∧m.2.2<(n:Int))
def Zaw (v:Nat) (m:Int × Int × Int):Nat:=if (decide (m.2.1 = -1)&&v.testBit m.1.toNat && !v.testBit m.2.2.toNat)=true then adj v m.2.2.toNat else v
def Zk4 (ms:List (Int × Int × Int)) (v:Nat):Nat:=ms.foldl Zaw v
def clIt (ms:List (Int × Int × Int)) (v:Nat):Nat→Nat
 | 0=>v
 | k+1=>Zk4 ms (clIt ms v k)
def clV (n:Nat) (ms:List (Int × Int × Int)) (v:Nat):Nat:=clIt ms v n
def Za3 (v:Nat) (c:Int) (u:Nat) (m:Int × Int × Int):Nat:=if (decide (m.2.1=c)&&v.testBit m.1.toNat)=true then adj u m.2.2.toNat else u
def stV (n:Nat) (ms:List (Int × Int × Int)) (v:Nat) (c:Int):Nat:=clV n ms (ms.foldl (Za3 v c) 0)
theorem ZgS {n:Nat} {ms:List (Int × Int × Int)} (h:mvIn n ms) {m:Int × Int × Int} (hm:m∈ms) {v:Nat} (hv:v<2 ^ n):Zaw v m<2 ^ n:=by
 unfold Zaw
 split
 ·exact ZnK hv (by have:=(h m hm).2;omega)
 exact hv
theorem Znz {n:Nat} {ms:List (Int × Int × Int)} (h:mvIn n ms) {v:Nat} (hv:v<2 ^ n):Zk4 ms v<2 ^ n:=ZcA _ (fun v=>v<2 ^ n) (fun _ _ hm hv=>ZgS h hm hv) hv
theorem Zd9 {n:Nat} {ms:List (Int × Int × Int)} (h:mvIn n ms) {v:Nat} (hv:v<2 ^ n):∀ k,clIt ms v k<2 ^ n
 | 0=>hv
 | k+1=>Znz h (Zd9 h hv k)
theorem Zdk {n:Nat} {ms:List (Int × Int × Int)} (h:mvIn n ms) {m:Int × Int × Int} (hm:m∈ms) {v u:Nat} {c:Int} (hu:u<2 ^ n):Za3 v c u m<2 ^ n:=by
 unfold Za3
 split
 ·exact ZnK hu (by have:=(h m hm).2;omega)
 exact hu
theorem ZpO {n:Nat} {ms:List (Int × Int × Int)} (h:mvIn n ms) (v:Nat) (c:Int):stV n ms v c<2 ^ n :=
 Zd9 h (ZcA _ (fun v=>v<2 ^ n) (fun _ _ hm hv=>Zdk h hm hv) (Nat.two_pow_pos n)) n
def clr (n v:Nat):Nat:=((List.range n).filter fun i => !v.testBit i).length
theorem Zjr {α:Type} {p q:α→Bool}:∀ {l:List α},(∀ x∈l,p x=true→q x=true)→(l.filter p).length≤(l.filter q).length
 | [],_=>by simp
 | x::l,h=>by
  have ih:=Zjr (l:=l) fun y hy=>h y (by simp[hy])
  have hx:=h x (by simp);simp only[List.filter_cons];by_cases hp:p x=true
  ·rw[if_pos hp,if_pos (hx hp)];simp;omega
  rw[if_neg hp]
  split<;>simp<;>omega
theorem Zdx {α:Type} {p q:α→Bool} {a:α} (hp:p a=false) (hq:q a=true):∀ {l:List α},a∈l→(∀ x∈l,p x=true→q x=true)→(l.filter p).length<(l.filter q).length
 | [],h,_=>by simp at h
 | x::l,ha,h=>by
  have hle:=Zjr (l:=l) fun y hy=>h y (by simp[hy])
  simp only[List.filter_cons];by_cases hx:a=x
  ·subst hx;rw[if_neg (by simp[hp]),if_pos hq];simp;omega
  have ih:=Zdx hp hq (l:=l) (by simpa [hx] using ha) fun y hy=>h y (by simp[hy])
  have hxx:=h x (by simp);by_cases hpx:p x=true
  ·rw[if_pos hpx,if_pos (hxx hpx)];simp;omega
  rw[if_neg hpx]
  split<;>simp<;>omega
theorem Zo4 (n v:Nat):clr n v≤n:=by have:=List.length_filter_le (fun i => !v.testBit i) (List.range n);simpa [clr] using this
theorem ZpE {n v s:Nat} (hs:s<n) (h:v.testBit s=false):clr n (adj v s)<clr n v:=by
 unfold clr;refine Zdx (a:=s) (by simp[ZeZ]) (by simp[h]) (by simpa using hs) fun x _ hx => ?_
 rw[ZeZ] at hx;simp at hx ⊢;exact hx.1
theorem Ze3 {n:Nat} {m:Int × Int × Int} (hm:0≤m.2.2∧m.2.2<(n:Int)) (v:Nat):Zaw v m=v∨clr n (Zaw v m)<clr n v:=by
 unfold Zaw
 split
 ·rename_i h;simp only[Bool.and_eq_true,Bool.not_eq_true'] at h;exact .inr (ZpE (by omega) h.2)
 exact .inl rfl
theorem ZcW {n:Nat}:∀ {ms:List (Int × Int × Int)},(∀ m∈ms,0≤m.2.2∧m.2.2<(n:Int))→∀ v,ms.foldl Zaw v=v∨clr n (ms.foldl Zaw v)<clr n v
 | [],_,v => .inl rfl
 | m::ms,h,v=>by
  have h1:=Ze3 (h m (by simp)) v;have h2:=ZcW (ms:=ms) (fun m hm=>h m (by simp[hm])) (Zaw v m);simp only[List.foldl_cons];rcases h1 with h1|h1
  ·rw[h1] at h2 ⊢;exact h2
  rcases h2 with h2|h2
  ·rw[h2];exact .inr h1
  exact .inr (Nat.lt_trans h2 h1)
theorem ZeD {ms:List (Int × Int × Int)} {v j:Nat} (h:clIt ms v (j+1)=clIt ms v j):∀ k,j≤k→clIt ms v k=clIt ms v j
 | 0,hk=>by obtain rfl:j=0:=by omega
            rfl
 | k+1,hk=>by
  by_cases e:j=k+1
  ·subst e;rfl
  have ih:=ZeD h k (by omega);show Zk4 ms (clIt ms v k)=_;rw[ih];exact h
theorem ZgT {n:Nat} {ms:List (Int × Int × Int)} (h:mvIn n ms) (v:Nat):∀ k,clIt ms v (k+1)=clIt ms v k∨clr n (clIt ms v (k+1))+(k+1)≤clr n v
 | 0=>by
  rcases ZcW (n:=n) (ms:=ms) (fun m hm=>(h m hm).2) v with e|e
  ·exact .inl e
  exact .inr (by show clr n (Zk4 ms v)+1≤_;exact e)
 | k+1=>by
  rcases ZgT h v k with e|e
  ·left;have:=ZeD e (k+1+1) (by omega);rw[this,e]
  rcases ZcW (n:=n) (ms:=ms) (fun m hm=>(h m hm).2) (clIt ms v (k+1)) with e2|e2
  ·exact .inl e2
  right;have:clr n (clIt ms v (k+1+1))<clr n (clIt ms v (k+1)):=e2;omega
theorem Zo6 {n:Nat} {ms:List (Int × Int × Int)} (h:mvIn n ms) {v j:Nat} (hj:clIt ms v (j+1)=clIt ms v j):clV n ms v=clIt ms v j:=by
 unfold clV;by_cases hjn:j≤n
 ·exact ZeD hj n hjn
 rcases ZgT h v n with e|e
 ·exact(ZeD e j (by omega)).symm
 have:=Zo4 n v;omega
theorem Ze4 {n:Nat} {ms:List (Int × Int × Int)} (h:mvIn n ms) {v k:Nat} (hk:clIt ms v (k+1)≠clIt ms v k):k<n:=by
 rcases ZgT h v k with e|e
 ·exact absurd e hk
 have:=Zo4 n v;omega
theorem Zjw {n:Nat} {ms:List (Int × Int × Int)} (h:mvIn n ms) {v:Nat} {k:Nat} (hk:k<ms.length) (hne:Zaw ((ms.take k).foldl Zaw v) (ms.getD k (0,0,0))≠(ms.take k).foldl Zaw v):(ms.take (k+1)).foldl Zaw v≠v:=by
 have h1:=ZcW (n:=n) (ms:=ms.take k) (fun m hm=>(h m (List.mem_of_mem_take hm)).2) v;have hmem:ms.getD k (0,0,0)∈ms:=by rw[List.getD_eq_getElem?_getD,List.getElem?_eq_getElem hk];simp
 have h2:=Ze3 (n:=n) (h _ hmem).2 ((ms.take k).foldl Zaw v);rw[ZbX Zaw v hk (0,0,0)];intro e;rcases h2 with h2|h2
 ·exact hne h2
 rw[e] at h2;rcases h1 with h1|h1
 ·rw[h1] at h2;omega
 omega
theorem ZdX {n:Nat} {ms:List (Int × Int × Int)} (h:mvIn n ms) {v:Nat} {k:Nat} (hk:k<ms.length) (hne:(ms.take k).foldl Zaw v≠v):(ms.take (k+1)).foldl Zaw v≠v:=by
 have h1:=ZcW (n:=n) (ms:=ms.take k) (fun m hm=>(h m (List.mem_of_mem_take hm)).2) v;have hmem:ms.getD k (0,0,0)∈ms:=by rw[List.getD_eq_getElem?_getD,List.getElem?_eq_getElem hk];simp
 have h2:=Ze3 (n:=n) (h _ hmem).2 ((ms.take k).foldl Zaw v);rw[ZbX Zaw v hk (0,0,0)];rcases h1 with h1|h1
 ·exact absurd h1 hne
 rcases h2 with h2|h2
 ·rw[h2];exact hne
 intro e;rw[e] at h2;omega
end Go.Proofs.YtncekbbhgipdlaaGreat
namespace Go.Proofs.YtncekbbhgipdlaaGreat
open Go.RowKit
theorem offL {x p q:Bool} (h:x=true→p=true∧q=true) (hp:p=false):x=false:=by
 cases x with
 | false=>rfl
 | true=>rw[hp] at h;exact absurd (h rfl).1 (by decide)
theorem offR {x p q:Bool} (h:x=true→p=true∧q=true) (hq:q=false):x=false:=by
 cases x with
 | false=>rfl
 | true=>rw[hq] at h;exact absurd (h rfl).2 (by decide)
section
variable {P:Program} {ops:Array Oper} {Q:Exit→Act→World→Prop} {md:Region.Mode}
def unl (n:Nat) (listed:Array Bool):Nat:=((List.range n).filter fun i => !listed.getD i true).length
theorem ZoV (n:Nat) (listed:Array Bool):unl n listed≤n:=by unfold unl;have:=List.length_filter_le (fun i => !listed.getD i true) (List.range n);simpa using this
theorem Zl2 {n i:Nat} {listed:Array Bool} (hi:i<n) (h:listed.getD i true=false):unl n (listed.setIfInBounds i true)<unl n listed:=by
 refine Zdx (a:=i) ?_ (by simp only[h];rfl) (List.mem_range.2 hi) fun x _ hx => ?_
 ·simp only[Bool.not_eq_false'];rcases Nat.lt_or_ge i listed.size with h1|h1
  ·simp[h1]
  simp[Array.getElem?_eq_none h1] at h
 by_cases hxi:i=x
 ·subst hxi;simp only[h];rfl
 simpa [hxi] using hx
theorem ZfX (Inv:Array Bool→Act→World→Prop) (hstep:∀ listed a w,Inv listed a w→∀ i∈Region.ready md ops listed,wpOp P ops Q i (Inv (listed.setIfInBounds i true)) a w)
  (hdone:∀ listed a w,Inv listed a w→Region.ready md ops listed=[]→Q .normal a w):∀ (fuel:Nat) (listed:Array Bool) (a:Act) (w:World),unl ops.size listed≤fuel→Inv listed a w→wpAny P md ops Q fuel listed a w
 | 0,listed,a,w,hf,h=>by
  have hr:Region.ready md ops listed=[]:=by
   refine List.eq_nil_iff_forall_not_mem.2 fun i hi => ?_
   obtain⟨hun,o,ho,-⟩:=mem_ready.1 hi;have:=Zl2 (n:=ops.size) (Array.getElem?_eq_some_iff.1 ho).1 hun;omega
  exact⟨hr,hdone _ _ _ h hr⟩
 | fuel+1,listed,a,w,hf,h=>⟨fun h0=>hdone _ _ _ h h0,fun i hi=>wpOp_mono (fun a' w' h'=>ZfX Inv hstep hdone fuel _ a' w' (by obtain⟨hun,o,ho,-⟩:=mem_ready.1 hi;have:=Zl2 (n:=ops.size) (Array.getElem?_eq_some_iff.1 ho).1 hun;omega) h') (hstep _ _ _ h i hi)⟩
theorem Zar (Inv:Act→Array Bool→Act→World→Prop) {a:Act} {w:World} (hstep:∀ listed b w,Inv a listed b w→∀ i∈Region.ready md ops listed,wpOp P ops Q i (Inv a (listed.setIfInBounds i true)) b w)
  (hdone:∀ listed b w,Inv a listed b w→Region.ready md ops listed=[]→Q .normal b w) (h0:Inv a (Array.replicate ops.size false) a w):wpAny P md ops Q ops.size (Array.replicate ops.size false) a w :=
 ZfX (Inv a) hstep hdone _ _ _ _ (ZoV _ _) h0
def Zk0 (ops:Array Oper):Bool:=(List.range ops.size).all fun i=>match ops[i]? with
 | some o=>o.after.all fun e=>decide (e.on<i)
 | none=>true
theorem Zbo {listed:Array Bool} (hd:Zk0 ops=true) (hs:listed.size=ops.size) (hr:Region.ready md ops listed=[]):∀ i,i<ops.size→listed.getD i true=true:=by
 intro i
 induction i using Nat.strongRecOn with
 | ind i ih =>
  intro hi;cases h:listed.getD i true with
  | true=>rfl
  | false =>
   exfalso
   have hmem:i∈Region.ready md ops listed:=by
    refine mem_ready.2 ⟨h,ops[i],by simp[hi],fun e he _ => ?_⟩;simp only[Zk0,List.all_eq_true,List.mem_range] at hd;have h1:=hd i hi;simp only[Array.getElem?_eq_getElem hi] at h1;have h2:e.on<i:=by have:=(Array.all_eq_true_iff_forall_mem.1 h1) e he;simpa using this
    have h3:=ih e.on h2 (by omega);have h4:e.on<listed.size:=by omega
    simpa [h4] using h3
   rw[hr] at hmem;cases hmem
end
end Go.Proofs.YtncekbbhgipdlaaGreat
namespace Go.Proofs.YtncekbbhgipdlaaGreat
open Go.RowKit
section
variable {ops:Array Oper} {md:Region.Mode}
def Zjv (md:Region.Mode) (ops:Array Oper):Bool:=(List.range ops.size).all fun i=>match ops[i]? with
 | some o=>o.after.all fun e => !Region.binds md e||decide (e.on<i)
 | none=>true
theorem ZaK {listed:Array Bool} (hd:Zjv md ops=true) (hs:listed.size=ops.size) (hr:Region.ready md ops listed=[]):∀ i,i<ops.size→listed.getD i true=true:=by
 intro i
 induction i using Nat.strongRecOn with
 | ind i ih =>
  intro hi;cases h:listed.getD i true with
  | true=>rfl
  | false =>
   exfalso
   have hmem:i∈Region.ready md ops listed:=by
    refine mem_ready.2 ⟨h,ops[i],by simp[hi],fun e he hbd => ?_⟩;simp only[Zjv,List.all_eq_true,List.mem_range] at hd;have h1:=hd i hi;simp only[Array.getElem?_eq_getElem hi] at h1;have h2:e.on<i:=by have:=(Array.all_eq_true_iff_forall_mem.1 h1) e he;rw[hbd] at this;simpa using this
    have h3:=ih e.on h2 (by omega);have h4:e.on<listed.size:=by omega
    simpa [h4] using h3
   rw[hr] at hmem;cases hmem
end
end Go.Proofs.YtncekbbhgipdlaaGreat
namespace Go.Proofs.YtncekbbhgipdlaaGreat
open Go.RowKit Go.Maps
theorem ZhV {l:List Int} {m:Int} (h:stOk l m=true) {j:Nat} (hj:j<l.length):(0≤l.getD j 0∧l.getD j 0≤m-1)∧(0<j→l.getD (j-1) 0<l.getD j 0):=by
 unfold stOk at h;rw[List.all_eq_true] at h;have h1:=h j (List.mem_range.2 hj);unfold okAt at h1;rw[Bool.and_eq_true,Bool.or_eq_true] at h1;obtain⟨h1,h2⟩:=h1;refine⟨by simpa [inB] using h1,fun h0 => ?_⟩;rcases h2 with h2|h2
 ·have:=of_decide_eq_true h2;omega
 exact of_decide_eq_true h2
theorem Zmi {l:List Int} {m:Int} (h:stOk l m=true):∀ j,j<l.length→(j:Int)≤l.getD j 0
 | 0,hj=>(ZhV h hj).1.1
 | j+1,hj=>by have h1:=Zmi h j (by omega);have h2:=(ZhV h hj).2 (by omega);rw[Nat.add_sub_cancel] at h2;omega
theorem Zhl {l:List Int} {m:Nat} (h:stOk l (m:Int)=true):inN m l∧l.length≤m:=by
 refine⟨fun s hs => ?_,?_⟩
 ·obtain⟨j,hj,e⟩:=List.getElem_of_mem hs;have:=(ZhV h hj).1;rw[Zbm hj,e] at this;omega
 rcases Nat.eq_zero_or_pos l.length with h0|h0
 ·omega
 have h1:=Zmi h (l.length-1) (by omega);have h2:=(ZhV h (j:=l.length-1) (by omega)).1.2;omega
theorem Zd5 {n:NfaD} (h:Zlt n=true):∃ m:Nat,n.states=(m:Int)∧m≤40∧mvIn m n.moves∧n.moves.length≤400∧inN m n.firsts∧n.firsts.length≤40∧inN m n.ends∧n.ends.length≤40:=by
 unfold Zlt at h;simp only[Bool.and_eq_true] at h;obtain⟨⟨⟨⟨h1,h2⟩,h3⟩,h4⟩,h5⟩:=h;have h1:0≤n.states∧n.states≤40:=by simpa [inB] using h1
 obtain⟨m,hm⟩:=Int.eq_ofNat_of_zero_le h1.1;rw[hm] at h3 h4 h5;have f3:=Zhl h3;have f4:=Zhl h4;refine⟨m,hm,by omega,fun x hx => ?_,of_decide_eq_true h2,f3.1,by omega,f4.1,by omega⟩;rw[List.all_eq_true] at h5;have:=h5 x hx;unfold mvOk at this;simp only[Bool.and_eq_true,inB,decide_eq_true_eq] at this;omega
def eds (d:DfaD):Nat→List Int
 | 0=>[]
 | s+1=>if d.ends.getD s false=true then eds d s++[(s:Int)] else eds d s
theorem ZcN (d:DfaD):∀ s,(eds d s).length≤s
 | 0=>Nat.le_refl _
 | s+1=>by
  have ih:=ZcN d s;unfold eds
  split
  ·rw[List.length_append,List.length_singleton];omega
  omega
theorem Zav (l:List Int) (x:Int):intCells (l++[x])=intCells l++[.int .i64 x]:=by simp[intCells]
theorem ZbB {k:IntKind} {x:Int}:∀ u∈[Value.int k x],u.oneCell'=true:=by intro u hu;simp only[List.mem_singleton] at hu;subst hu;rfl
def RNfaS (n:NfaD) (w:World) (e:Ending) (w':World):Prop:=∃ a1 c1 a2 c2 a3 c3,e = .returned (.agg #[.int .i64 n.states,.slice a1 n.moves.length c1,.slice a2 n.firsts.length c2,.slice a3 n.ends.length c3]) ∧
 St w w' [Ent.row 117 3 (.slice a1 n.moves.length c1) n.moves.length (n.moves.flatMap Zac),Ent.row 3 1 (.slice a2 n.firsts.length c2) n.firsts.length (intCells n.firsts),Ent.row 3 1 (.slice a3 n.ends.length c3) n.ends.length (intCells n.ends)]
theorem ZcD {w:World} {B e:Nat} {v:Value} {xs:List (Int × Int × Int)} (hr:w.ownsRow B e 3 v xs.length (xs.flatMap Zac)):Moves 0 w v xs :=
 ((Zab hr).sl (by omega)).mono (Nat.zero_le _)
theorem Zdv {w:World} {B e:Nat} {v:Value} {xs:List Int} (hr:w.ownsRow B e 1 v xs.length (intCells xs)):Ints 0 w v xs :=
 ((Zab hr).sl (by omega)).mono (Nat.zero_le _)
theorem St.moves {w0 w:World} {L:List Ent} (h:St w0 w L) (i:Nat) {e:Nat} {v:Value} {xs:List (Int × Int × Int)} (hx:L[i]? = some (Ent.row e 3 v xs.length (xs.flatMap Zac))):Moves 0 w v xs:=ZcD (h.row i hx)
theorem Tryz.infoMv:(Tryz.prog.info? 117).map (fun i=>(i.zero,i.size,i.bytes))=some (some (.agg #[.int .i64 0,.int .i64 0,.int .i64 0]),3,24):=by kernel_rfl
theorem ZdU {s c x:Int}:∀ u∈[Value.int .i64 s,Value.int .i64 c,Value.int .i64 x],u.oneCell'=true:=by intro u hu;simp at hu;rcases hu with rfl|rfl|rfl<;>rfl
theorem Zcr (xs:List (Int × Int × Int)) (s c x:Int):(xs++[(s,c,x)]).flatMap Zac=xs.flatMap Zac++[.int .i64 s,.int .i64 c,.int .i64 x]:=by simp[Zac]
end Go.Proofs.YtncekbbhgipdlaaGreat
namespace Go.Proofs.YtncekbbhgipdlaaGreat
open Go.RowKit
section
variable {P:Program} (w:World)
theorem Zgj {w:World} {base e size n:Nat} {v:Value} {xs:List Value} (h:w.ownsRow base e size v n xs):∃ a cap,v = .slice a n cap∧n≤cap:=by
 rcases h.2 with⟨h1,h2⟩|⟨g',cap',cur,h1,-,-,h4,-⟩
 ·exact⟨none,0,by rw[h1,h2],by omega⟩
 exact⟨_,cap',h1,h4⟩
theorem ZhY (t ty:TypeId) (base:Nat) (e:TypeId) (i:TypeInfo) (z:Value) (size bytes:Nat) (ht:P.underlying t=some (.slice e)) (hi:P.info? e=some i) (hz:i.zero=some z)
  (hsize:i.size=size) (hby:i.bytes=bytes) (hzs:z.cells.size=size) (hsz:0<size)
  (v:Value) (n:Nat) (xs:List Value) (hown:w.ownsRow base e size v n xs) (x:Value) (m:Nat) (news:List Value) (hx:Sl 0 w x m size news) (h1:∀ u∈news,u.oneCell'=true)
  (h63:n+m≤maxLen) (hbytes:(n+m)*bytes≤140737488355328) (hbase:base≤w.heap.size) :
  ∃ a' cap w',(Builtin.append_ #[t,t] ty #[v,x]).run P w = .ok (.slice a' (n+m) cap) w'∧w'.ownsRow base e size (.slice a' (n+m) cap) (n+m) (xs++news)∧w.grownBy w' v.ownBlock ∧
   (∀ k,(Value.slice a' (n+m) cap).ownBlock=some k→v.ownBlock=some k∨w.heap.size≤k):=by
 obtain⟨hl,a,cap,rfl,hle,hm,hc⟩:=hx;cases a with
 | some ad =>
  have hnews:∀ j u,news[j]? = some u→w.cell? (ad.add j)=some u:=fun j u hj=>by
   have hjl:=(List.getElem?_eq_some_iff.1 hj).1
   have hm0:0<m:=by
    rcases Nat.eq_zero_or_pos m with h0|h0
    ·rw[h0] at hl;omega
    exact h0
   obtain⟨b,off,ha,-,-,hcs⟩:=hc hm0;simp only[w_9] at ha;subst ha;rw[← hj,← hcs j (by omega),← Go.WideShapes.add_plain]
  obtain⟨v',w',hr,h2,h3,-,h5⟩:=run_append_own_at (P:=P) w base t ty e i z size bytes ht hi hz hsize hby hzs hsz v n xs hown ad m cap news hl hnews h1 h63 hbytes hbase;obtain⟨a',cap',rfl,-⟩:=Zgj h2;refine⟨a',cap',w',hr,h2,h3,fun k hk => ?_⟩;rcases h5 with h5|h5
  ·exact Or.inl (by rw[← h5];exact hk)
  rw[h5] at hk;exact Or.inr (by simp only[w_9] at hk;omega)
 | none =>
  have hm0:m=0:=by
   rcases Nat.eq_zero_or_pos m with h0|h0
   ·exact h0
   obtain⟨b,off,ha,-⟩:=hc h0;cases ha
  subst hm0;have hnil:news=[]:=List.eq_nil_of_length_eq_zero (by omega);subst hnil;obtain⟨a',cap',rfl,hlc⟩:=Zgj hown;subst hsize;refine⟨a',cap',w,run_append_nothing w t t ty e i ht hi a' n cap' hlc _ (Src.ofNil w ht cap),by simpa using hown,⟨rfl,rfl,rfl,Nat.le_refl _,fun _ _ _=>rfl⟩,fun k hk=>Or.inl hk⟩
theorem Ze8 {o:Oper} {a:Act} {K:Act→World→Prop} {Q:Exit→Act→World→Prop} (s x:Operand) (t:TypeId)
  (ho:o.op = .call { callee:=.builtin .append,args:=#[s,x],argTypes:=#[t,t] })
  (base:Nat) (e:TypeId) (i:TypeInfo) (z:Value) (size bytes:Nat) (ht:P.underlying t=some (.slice e)) (hi:P.info? e=some i) (hz:i.zero=some z)
  (hsize:i.size=size) (hby:i.bytes=bytes) (hzs:z.cells.size=size) (hsz:0<size)
  (v:Value) (n:Nat) (xs:List Value) (hs:a.eval s=v) (hown:w.ownsRow base e size v n xs)
  (y:Value) (m:Nat) (news:List Value) (hy:a.eval x=y) (hx:Sl 0 w y m size news) (h1:∀ u∈news,u.oneCell'=true)
  (h63:n+m≤maxLen) (hbytes:(n+m)*bytes≤140737488355328) (hbase:base≤w.heap.size)
  (h:∀ a' cap w',w'.ownsRow base e size (.slice a' (n+m) cap) (n+m) (xs++news)→w.grownBy w' v.ownBlock→(∀ k,(Value.slice a' (n+m) cap).ownBlock=some k→v.ownBlock=some k∨w.heap.size≤k)→K (a.put o.dst (.slice a' (n+m) cap)) w'):o.wp P a w K Q:=by
 obtain⟨a',cap,w',hr,h2,h3,h4⟩:=ZhY (P:=P) w t o.type base e i z size bytes ht hi hz hsize hby hzs hsz v n xs hown y m news hx h1 h63 hbytes hbase;unfold Oper.wp execOp;simp only[ho,resolve,invoke,builtin,Sem.run_bind,Sem.run_pure,Result.andThen_ok,List.map_toArray,List.map_cons,List.map_nil,hs,hy,hr];exact h a' cap w' h2 h3 h4
theorem Zal {ops:Array Oper} {rest:List Oper} {o:Oper} {a:Act} {Q:Exit→Act→World→Prop} (hgd:o.guard=none) (s x:Operand) (t:TypeId)
  (ho:o.op = .call { callee:=.builtin .append,args:=#[s,x],argTypes:=#[t,t] })
  (base:Nat) (e:TypeId) (i:TypeInfo) (z:Value) (size bytes:Nat) (ht:P.underlying t=some (.slice e)) (hi:P.info? e=some i) (hz:i.zero=some z)
  (hsize:i.size=size) (hby:i.bytes=bytes) (hzs:z.cells.size=size) (hsz:0<size)
  (v:Value) (n:Nat) (xs:List Value) (hs:a.eval s=v) (hown:w.ownsRow base e size v n xs)
  (y:Value) (m:Nat) (news:List Value) (hy:a.eval x=y) (hx:Sl 0 w y m size news) (h1:∀ u∈news,u.oneCell'=true)
  (h63:n+m≤maxLen) (hbytes:(n+m)*bytes≤140737488355328) (hbase:base≤w.heap.size)
  (h:∀ a' cap w',w'.ownsRow base e size (.slice a' (n+m) cap) (n+m) (xs++news)→w.grownBy w' v.ownBlock→(∀ k,(Value.slice a' (n+m) cap).ownBlock=some k→v.ownBlock=some k∨w.heap.size≤k)→wpList P ops Q rest (a.put o.dst (.slice a' (n+m) cap)) w'):wpList P ops Q (o::rest) a w :=
 wpList_plain hgd fun _ hK=>Ze8 w s x t ho base e i z size bytes ht hi hz hsize hby hzs hsz v n xs hs hown y m news hy hx h1 h63 hbytes hbase fun a' cap w' h2 h3 h4=>hK _ _ (h a' cap w' h2 h3 h4)
theorem ZcJ {ops:Array Oper} {o:Oper} {a:Act} {K:Act→World→Prop} {Q:Exit→Act→World→Prop} {E:Prop} (hgd:o.guard=none) (s x:Operand) (t:TypeId)
  (ho:o.op = .call { callee:=.builtin .append,args:=#[s,x],argTypes:=#[t,t] })
  (base:Nat) (e:TypeId) (i:TypeInfo) (z:Value) (size bytes:Nat) (ht:P.underlying t=some (.slice e)) (hi:P.info? e=some i) (hz:i.zero=some z)
  (hsize:i.size=size) (hby:i.bytes=bytes) (hzs:z.cells.size=size) (hsz:0<size)
  (v:Value) (n:Nat) (xs:List Value) (hs:a.eval s=v) (hown:w.ownsRow base e size v n xs)
  (y:Value) (m:Nat) (news:List Value) (hy:a.eval x=y) (hx:Sl 0 w y m size news) (h1:∀ u∈news,u.oneCell'=true)
  (h63:n+m≤maxLen) (hbytes:(n+m)*bytes≤140737488355328) (hbase:base≤w.heap.size)
  (h:∀ a' cap w',w'.ownsRow base e size (.slice a' (n+m) cap) (n+m) (xs++news)→w.grownBy w' v.ownBlock→(∀ k,(Value.slice a' (n+m) cap).ownBlock=some k→v.ownBlock=some k∨w.heap.size≤k)→K (a.put o.dst (.slice a' (n+m) cap)) w') :
  if Region.wanted o (yielded ops a.tmps)=true then Oper.wp P o a w K Q else E:=by
 have hw:Region.wanted o (yielded ops a.tmps)=true:=by simp[Region.wanted,hgd]
 rw[if_pos hw];exact Ze8 w s x t ho base e i z size bytes ht hi hz hsize hby hzs hsz v n xs hs hown y m news hy hx h1 h63 hbytes hbase h
end
theorem on_i {k:IntKind} {x:Int}:∀ u∈[Value.int k x],u.oneCell'=true:=by simp[Value.oneCell']
theorem ZoR (l:List Bool) (x:Bool):boolCells (l++[x])=boolCells l++[.bool x]:=by simp[boolCells]
theorem Zm9 (l:List Int) (x:Int):intCells (l++[x])=intCells l++[.int .i64 x]:=by simp[intCells]
theorem Zqg {xs:List Int}:∀ u∈intCells xs,u.oneCell'=true:=fun u hu=>by obtain⟨x,-,rfl⟩:=List.mem_map.1 hu;simp[Value.oneCell']
theorem ZpR {xs:List (Int × Int × Int)}:∀ u∈xs.flatMap Zac,u.oneCell'=true:=fun u hu=>by obtain⟨x,-,hx⟩:=List.mem_flatMap.1 hu;simp only[Zac,List.mem_cons,List.not_mem_nil,or_false] at hx;rcases hx with rfl|rfl|rfl<;>simp[Value.oneCell']
theorem Zds {xs:List (Int × Int)}:∀ u∈xs.flatMap Zaa,u.oneCell'=true:=fun u hu=>by obtain⟨x,-,hx⟩:=List.mem_flatMap.1 hu;simp only[Zaa,List.mem_cons,List.not_mem_nil,or_false] at hx;rcases hx with rfl|rfl<;>simp[Value.oneCell']
theorem St.appS {w0 w w':World} {L:List Ent} (h:St w0 w L) (i:Nat) {B e size n m cap:Nat} {a':Option Addr} {v:Value} {cs cs':List Value} (hx:L[i]? = some (Ent.row e size v n cs)) (hown:w'.ownsRow B e size (.slice a' m cap) m cs') (hg:w.grownBy w' v.ownBlock)
  (hat:∀ k,(Value.slice a' m cap).ownBlock=some k→v.ownBlock=some k∨w.heap.size≤k):St w0 w' (L.set i (Ent.row e size (.slice a' m cap) m cs')):=h.grow i hx hg hown hat
theorem ZiQ {l:List Int} {k:Nat} (hk:k<l.length):setV (l.take (k+1))=adj (setV (l.take k)) (l.getD k 0).toNat:=by unfold setV;exact ZbX _ _ hk 0
end Go.Proofs.YtncekbbhgipdlaaGreat
namespace Go.Proofs.YtncekbbhgipdlaaGreat
open Go.RowKit
abbrev nfaC (n:NfaD) (v1 v2 v3:Value):Array Value:=#[.int .i64 n.states,v1,v2,v3]
theorem ZdG {v:Nat} {c:Int} {u:Nat} {m:Int × Int × Int} (h:(decide (m.2.1=c)&&v.testBit m.1.toNat)=false):Za3 v c u m=u:=by unfold Za3;simp[h]
end Go.Proofs.YtncekbbhgipdlaaGreat
namespace Go.Proofs.YtncekbbhgipdlaaGreat
open Go.RowKit
def endV (n:NfaD) (x:Nat):Bool:=n.ends.any fun s=>x.testBit s.toNat
end Go.Proofs.YtncekbbhgipdlaaGreat
