/-
  States met in breadth, letter by letter, with the words that lead to them: the plain meaning of the program's and of the reference's searches.
  No condition: this text speaks of no program.
  A map from things to their places in a list.
  No condition: this text speaks of no program.
  The first of the things met that ends, and its word: plain laws; the same for the numbered automaton.
  No condition: this text speaks of no program.
-/
import Derived.Test.YtfanhfcamblghaaPq00Cp
namespace Go.Proofs.Ytfanhfcamblghaa
structure Bs (α:Type) where
 met:List α
 words:List (List Nat)
section
variable {α:Type} [DecidableEq α]
def bvisit (nx:α→Nat→α) (x:α) (wd:List Nat) (s:Bs α) (c:Nat):Bs α :=
 if nx x c∈s.met then s else⟨s.met++[nx x c],s.words++[wd++[c]]⟩
def brow (nx:α→Nat→α) (x:α) (wd:List Nat) (s:Bs α):Nat→Bs α
 | 0=>s
 | n+1=>bvisit nx x wd (brow nx x wd s n) n
def bat (nx:α→Nat→α) (a:α):Nat→Bs α
 | 0=>⟨[a],[[]]⟩
 | k+1=>if k<(bat nx a k).met.length then brow nx ((bat nx a k).met.getD k a) ((bat nx a k).words.getD k []) (bat nx a k) 3 else bat nx a k
def bpart (nx:α→Nat→α) (a:α) (k n:Nat):Bs α:=brow nx ((bat nx a k).met.getD k a) ((bat nx a k).words.getD k []) (bat nx a k) n
variable {nx:α→Nat→α} {a:α}
theorem Zb2 {k:Nat} (h:k<(bat nx a k).met.length):bat nx a (k+1)=bpart nx a k 3:=by simp only[bat,if_pos h];rfl
theorem Zdb {k:Nat} (h:(bat nx a k).met.length≤k):bat nx a (k+1)=bat nx a k:=by simp only[bat,if_neg (show ¬ k<(bat nx a k).met.length by omega)]
theorem ZeP (Q:Bs α→Prop) {x:α} {wd:List Nat} {s:Bs α} (hs:Q s) (hv:∀ t c,c<3→Q t→Q (bvisit nx x wd t c)):∀ n,n≤3→Q (brow nx x wd s n)
 | 0,_=>hs
 | n+1,h=>hv _ n (by omega) (ZeP Q hs hv n (by omega))
theorem Zek (Q:Bs α→Prop) (h0:Q ⟨[a],[[]]⟩) (hv:∀ s k,k<s.met.length→∀ t c,c<3→Q s→Q t→Q (bvisit nx (s.met.getD k a) (s.words.getD k []) t c)):∀ k,Q (bat nx a k)
 | 0=>h0
 | k+1=>by
  have ih:=Zek Q h0 hv k;by_cases h:k<(bat nx a k).met.length
  ·rw[Zb2 h];exact ZeP Q ih (fun t c hc ht=>hv _ k h t c hc ih ht) 3 (by omega)
  rw[Zdb (by omega)];exact ih
omit [DecidableEq α] in
theorem Zc7 {l:List α} {x:α} (h:l.Nodup) (hx:x ∉ l):(l++[x]).Nodup:=by rw[List.nodup_append];refine⟨h,by simp,?_⟩;intro b hb c hc;simp only[List.mem_singleton] at hc;subst hc;intro e;subst e;exact hx hb
theorem ZfK (x:α) (wd:List Nat) {t:Bs α} (c:Nat) (h:t.met.Nodup∧t.words.length=t.met.length∧t.met.head? = some a) :
  (bvisit nx x wd t c).met.Nodup∧(bvisit nx x wd t c).words.length=(bvisit nx x wd t c).met.length∧(bvisit nx x wd t c).met.head? = some a:=by
 unfold bvisit
 split
 ·exact h
 rename_i hx;obtain⟨h1,h2,h3⟩:=h;exact⟨Zc7 h1 hx,by simp[h2],by simp[h3]⟩
theorem Zb3 (k:Nat):(bat nx a k).met.Nodup∧(bat nx a k).words.length=(bat nx a k).met.length∧(bat nx a k).met.head? = some a :=
 Zek (fun s=>s.met.Nodup∧s.words.length=s.met.length∧s.met.head? = some a) (by simp) (fun s k _ t c _ _ ht=>ZfK _ _ _ ht) k
def Bs.le (s t:Bs α):Prop:=s.met <+: t.met∧s.words <+: t.words
omit [DecidableEq α] in
theorem Bs.le_refl (s:Bs α):s.le s:=⟨List.prefix_rfl,List.prefix_rfl⟩
omit [DecidableEq α] in
theorem Bs.le_trans {s t u:Bs α} (h:s.le t) (k:t.le u):s.le u:=⟨h.1.trans k.1,h.2.trans k.2⟩
def Zat (l:List α) (x:α):Nat:=l.idxOf x
theorem Zcc {l:List α} {x:α} (h:x∈l):Zat l x<l.length:=List.idxOf_lt_length_iff.2 h
omit [DecidableEq α] in
theorem Zbh {l m:List α} (h:l <+: m) {k:Nat} (hk:k<l.length) (d:α):m.getD k d=l.getD k d:=by obtain⟨t,rfl⟩:=h;simp[List.getElem?_append_left hk]
theorem Zl4 {l:List α} {x:α} (hx:x∈l) (d:α):l.getD (Zat l x) d=x:=by unfold Zat;rw[List.getD_eq_getElem?_getD,List.getElem?_eq_getElem (List.idxOf_lt_length_iff.2 hx)];simp
theorem ZgF {l m:List α} (hn:l.Nodup) (hs:∀ x∈l,x∈m):l.length≤m.length:=by
 induction l generalizing m with
 | nil=>simp
 | cons x l ih =>
  rw[List.nodup_cons] at hn;have h1:=ih (m:=m.erase x) hn.2 fun y hy=>(List.mem_erase_of_ne (fun e=>hn.1 (by rw[← e];exact hy))).2 (hs y (by simp[hy]))
  have h2:=List.length_erase_of_mem (hs x (by simp));have h3:=List.length_pos_of_mem (hs x (by simp));simp only[List.length_cons];omega
end
def ZeW (n:Nat):List Int:=(List.range n).map Int.ofNat
theorem Zd9 {n:Nat} {x:Nat}:(x:Int)∈ZeW n↔x<n:=by
 simp only[ZeW,List.mem_map,List.mem_range];constructor
 ·rintro⟨y,hy,e⟩;have e2:(y:Int)=(x:Int):=e;omega
 intro h;exact⟨x,h,rfl⟩
theorem ZdZ (n:Nat):(ZeW n).length=n:=by simp[ZeW]
end Go.Proofs.Ytfanhfcamblghaa
namespace Go.Proofs.Ytfanhfcamblghaa
open Go.RowKit
section
variable {α:Type} [DecidableEq α]
def numbered (l:List α):List (α × Value):=l.zipIdx.map fun p=>(p.1,Value.int .i64 (p.2:Int))
end
end Go.Proofs.Ytfanhfcamblghaa
namespace Go.Proofs.Ytfanhfcamblghaa
open Go.RowKit
theorem memD {α:Type} {xs:List α} {k:Nat} {d:α} (h:k<xs.length):xs.getD k d∈xs:=by rw[List.getD_eq_getElem?_getD,List.getElem?_eq_getElem h];simp
theorem ZcB {α:Type} {xs:List α} {k:Nat} {d:α} (h:k<xs.length):xs.getD k d=xs[k]:=by simp[h]
def dnx (d:DfaD) (s:Int) (c:Nat):Int:=(d.next.getD s.toNat []).getD c 0
def den (d:DfaD) (s:Int):Bool:=d.ends.getD s.toNat false
def ZgP {α:Type} (en:α→Bool) (s:Bs α):Option (List Nat):=((s.met.zip s.words).find? fun p=>en p.1).map (·.2)
section
variable {α:Type} [DecidableEq α] {nx nx':α→Nat→α} {a:α}
theorem ZiV:∀ k:Nat,∀ wd∈(bat nx a k).words,wd.length≤k
 | 0,wd,h=>by simp[bat] at h;simp[h]
 | k+1,wd,h=>by
  have ih:=ZiV k;by_cases hk:k<(bat nx a k).met.length
  ·rw[Zb2 hk] at h;have hg:=(Zb3 (nx:=nx) (a:=a) k).2.1;refine ZeP (fun t=>∀ wd∈t.words,wd.length≤k+1) (fun wd h=>Nat.le_succ_of_le (ih wd h)) (fun t c _ ht => ?_) 3 (Nat.le_refl 3) wd h;unfold bvisit
   split
   ·exact ht
   intro v hv;simp only[List.mem_append,List.mem_singleton] at hv;rcases hv with hv|rfl
   ·exact ht v hv
   have:=ih _ (memD (d:=[]) (show k<(bat nx a k).words.length by omega));simpa using this
  rw[Zdb (by omega)] at h;exact Nat.le_succ_of_le (ih wd h)
end
def DfaAt (w:World) (b:Nat) (d:DfaD):Prop:=∃ v1 v2,Bx w b #[v1,v2] 45 ∧ IntSS 0 w v1 d.next∧Bools 0 w v2 d.ends
theorem DfaAt.below {w w':World} {b:Nat} {d:DfaD} (h:DfaAt w b d) (hb:Below w.heap.size w w'):DfaAt w' b d:=by obtain⟨v1,v2,h1,h2,h3⟩:=h;exact⟨v1,v2,h1.below hb h1.lt,h2.below hb,h3.below hb⟩
def ZnU (f:Bool→Bool→Bool) (a b:DfaD) (p:Int × Int):Bool:=f (a.ends.getD p.1.toNat false) (b.ends.getD p.2.toNat false)
structure Ent where
 foot:Nat→Prop
 holds:World→Prop
 stable:∀ w w':World,holds w→(∀ k,foot k→w'.heap[k]? = w.heap[k]?)→holds w'
def Ent.apart (a b:Ent):Prop:=∀ k,a.foot k→¬ b.foot k
theorem Ent.apart.symm {a b:Ent} (h:a.apart b):b.apart a:=fun k hb ha=>h k ha hb
def Ent.nil:Ent:=⟨fun _=>False,fun _=>True,fun _ _ _ _=>trivial⟩
def Ent.box (b:Nat) (cs:Array Value) (T:TypeId):Ent:=⟨fun k=>k=b,fun w=>Bx w b cs T,fun _ _ h hk=>(hk b rfl).trans h⟩
def Ent.row (e size:Nat) (v:Value) (n:Nat) (cs:List Value):Ent :=
 ⟨fun k=>v.ownBlock=some k,fun w=>w.ownsRow 0 e size v n cs,fun _ _ h hk=>(Own.kept (Zae h) hk).1⟩
def Ent.rows (es e:Nat) (v:Value) (vs:List Value) (css:List (List Value)):Ent :=
 ⟨fun k=>v.ownBlock=some k∨∃ i,i<css.length∧(vs.getD i undef).ownBlock=some k,
  fun w=>w.ownsRow 0 es 1 v css.length vs∧(∀ i,i<css.length→w.ownsRow 0 e 1 (vs.getD i undef) (css.getD i []).length (css.getD i [])) ∧
   (∀ i j k,i<j→j<css.length→(vs.getD i undef).ownBlock=some k→(vs.getD j undef).ownBlock≠some k),
  fun _ _ h hk=>⟨(Own.kept (Zae h.1) fun k hh=>hk k (Or.inl hh)).1,fun i hi=>(Own.kept (Zae (h.2.1 i hi)) fun k hh=>hk k (Or.inr ⟨i,hi,hh⟩)).1,h.2.2⟩⟩
structure St (w0 w:World) (L:List Ent):Prop where
 bel:Below w0.heap.size w0 w
 has:∀ (i:Nat) (x:Ent),L[i]? = some x→x.holds w∧∀ k,x.foot k→w0.heap.size≤k∧k<w.heap.size
 far:∀ (i j:Nat) (x y:Ent),i≠j→L[i]? = some x→L[j]? = some y→x.apart y
section
variable {w0 w w':World} {L:List Ent}
theorem St.start (w:World):St w w []:=⟨Below.refl _ _,fun i x h=>by simp at h,fun i j x y _ h=>by simp at h⟩
theorem St.size (h:St w0 w L):w0.heap.size≤w.heap.size:=h.bel.size
theorem St.call (h:St w0 w L) (hb:Below w.heap.size w w'):St w0 w' L :=
 ⟨h.bel.trans (hb.mono h.bel.size),fun i x hx=>by obtain⟨a,b⟩:=h.has i x hx;exact⟨x.stable w w' a fun k hk=>hb.block k (b k hk).2,fun k hk=>⟨(b k hk).1,Nat.lt_of_lt_of_le (b k hk).2 hb.size⟩⟩,h.far⟩
theorem St.drew (h:St w0 w L):St w0 w.drew L:=h.call (Below.refl _ _).drew
theorem St.drewN (h:St w0 w L) (n:Nat):St w0 (w.drewN n) L:=h.call (below_drewN (Below.refl _ _) n)
theorem St.add (h:St w0 w L) (hb:Below w.heap.size w w') (y:Ent) (hy:y.holds w') (hf:∀ k,y.foot k→w.heap.size≤k∧k<w'.heap.size):St w0 w' (L++[y]):=by
 have h2:=h.call hb
 have key:∀ i x,(L++[y])[i]? = some x→(L[i]? = some x)∨(i=L.length∧x=y):=fun i x hx=>by
  rw[List.getElem?_append] at hx
  split at hx
  ·exact Or.inl hx
  rename_i hl
  have:i-L.length=0:=by
   rcases Nat.eq_zero_or_pos (i-L.length) with h0|h0
   ·exact h0
   rw[List.getElem?_eq_none (by simp;omega)] at hx;cases hx
  rw[this] at hx;simp at hx;exact Or.inr ⟨by omega,hx.symm⟩
 refine⟨h2.bel,fun i x hx => ?_,fun i j x z hij hx hz => ?_⟩
 ·rcases key i x hx with hx1|⟨-,rfl⟩
  ·exact h2.has i x hx1
  exact⟨hy,fun k hk=>⟨Nat.le_trans h.bel.size (hf k hk).1,(hf k hk).2⟩⟩
 rcases key i x hx with hx1|⟨hi,hxy⟩
 ·rcases key j z hz with hz1|⟨hj,hzy⟩
  ·exact h.far i j x z hij hx1 hz1
  intro k hk hk2;rw[hzy] at hk2;have:=((h.has i x hx1).2 k hk).2;have:=(hf k hk2).1;omega
 rcases key j z hz with hz1|⟨hj,hzy⟩
 ·intro k hk hk2;rw[hxy] at hk;have:=((h.has j z hz1).2 k hk2).2;have:=(hf k hk).1;omega
 exact absurd (hi.trans hj.symm) hij
theorem St.alloc (h:St w0 w L) (b:Nat) (hb:w.heap.size=b) (cs:Array Value) (T:TypeId):St w0 (w.alloc (.cells cs T)) (L++[Ent.box b cs T]):=by subst hb;exact h.add ((Below.refl _ _).alloc (Nat.le_refl _) _) _ (Bx.new w cs T) fun k hk=>by have hk:k=w.heap.size:=hk;subst hk;exact⟨Nat.le_refl _,by simp⟩
theorem St.alloc_ (h:St w0 w L) (o:Obj):St w0 (w.alloc o) L:=h.call ((Below.refl _ _).alloc (Nat.le_refl _) _)
theorem ZcS {B B' e size n:Nat} {v:Value} {cs:List Value} (h:w.ownsRow B e size v n cs) (hB:B'≤B):w.ownsRow B' e size v n cs:=(Own.mono (Zae h) hB (Nat.le_refl _)).1
theorem Zd4 {B e size n:Nat} {v:Value} {cs:List Value} (h:w.ownsRow 0 e size v n cs) (hB:∀ k,v.ownBlock=some k→B≤k):w.ownsRow B e size v n cs:=by
 refine⟨h.1,?_⟩;rcases h.2 with h1|⟨g,cap,cur,rfl,-,r⟩
 ·exact Or.inl h1
 exact Or.inr ⟨g,cap,cur,rfl,hB g rfl,r⟩
theorem St.made (h:St w0 w L) (hb:Below w.heap.size w w') {e size n:Nat} {v:Value} {cs:List Value} (hr:w'.ownsRow w.heap.size e size v n cs):St w0 w' (L++[Ent.row e size v n cs]) :=
 h.add hb _ (ZcS hr (Nat.zero_le _)) fun k hk=>hr.lt k hk
theorem St.nilRow (h:St w0 w L) (e size:Nat):St w0 w (L++[Ent.row e size (.slice none 0 0) 0 []]) :=
 h.add (Below.refl _ _) _ ⟨by simp,Or.inl ⟨rfl,rfl⟩⟩ fun k hk=>by cases hk
theorem St.only {lo hi:Nat} (h:St w0 w L) (hm:Only lo hi w w') (hlo:w0.heap.size≤lo) (hd:∀ x∈L,∀ k,x.foot k→k<lo∨hi≤k):St w0 w' L :=
 ⟨h.bel.trans ⟨hm.os,hm.tape,hm.output,hm.size,fun k hk=>hm.block k (Nat.lt_of_lt_of_le hk h.size) (Or.inl (Nat.lt_of_lt_of_le hk hlo))⟩,fun i x hx=>by obtain⟨a,b⟩:=h.has i x hx;exact⟨x.stable w w' a fun k hk=>hm.block k (b k hk).2 (hd x (List.mem_of_getElem? hx) k hk),fun k hk=>⟨(b k hk).1,Nat.lt_of_lt_of_le (b k hk).2 hm.size⟩⟩,h.far⟩
theorem St.turn (h:St w0 w L) (i:Nat) {x:Ent} (hx:L[i]? = some x) (y:Ent) (hos:w'.os=w.os) (ht:w'.tape=w.tape) (ho:w'.output=w.output) (hs:w.heap.size≤w'.heap.size)
  (hk:∀ k,k<w.heap.size→¬ x.foot k→w'.heap[k]? = w.heap[k]?) (hy:y.holds w') (hf:∀ k,y.foot k→k<w'.heap.size∧(x.foot k∨w.heap.size≤k)):St w0 w' (L.set i y):=by
 have hil:i<L.length:=(List.getElem?_eq_some_iff.1 hx).1
 have key:∀ j z,(L.set i y)[j]? = some z→(j≠i∧L[j]? = some z)∨(j=i∧z=y):=fun j z hz=>by
  rw[List.getElem?_set] at hz
  split at hz
  ·rename_i e;subst e;simp only[Option.some.injEq] at hz;exact Or.inr ⟨rfl,hz.symm⟩
  rename_i e;exact Or.inl ⟨fun e2=>e e2.symm,hz⟩
 have hb:Below w0.heap.size w0 w':=h.bel.trans ⟨hos,ht,ho,hs,fun k hk0=>hk k (Nat.lt_of_lt_of_le hk0 h.size) fun hf0=>by have:=((h.has i x hx).2 k hf0).1;omega⟩;refine⟨hb,fun j z hz => ?_,fun j l z u hjl hz hu => ?_⟩
 ·rcases key j z hz with⟨hj,hz⟩|⟨-,rfl⟩
  ·obtain⟨a,b⟩:=h.has j z hz;exact⟨z.stable w w' a fun k hk2=>hk k (b k hk2).2 (h.far j i z x hj hz hx k hk2),fun k hk2=>⟨(b k hk2).1,Nat.lt_of_lt_of_le (b k hk2).2 hs⟩⟩
  refine⟨hy,fun k hk2=>⟨?_,(hf k hk2).1⟩⟩;rcases(hf k hk2).2 with h1|h1
  ·exact((h.has i x hx).2 k h1).1
  exact Nat.le_trans h.size h1
 have one:∀ (l:Nat) (u:Ent),l≠i→L[l]? = some u→y.apart u:=fun l u hl hu k hk1 hk2=>by
  rcases(hf k hk1).2 with h1|h1
  ·exact h.far i l x u (fun e=>hl e.symm) hx hu k h1 hk2
  have:=((h.has l u hu).2 k hk2).2;omega
 rcases key j z hz with⟨hj,hz1⟩|⟨hj,hzy⟩
 ·rcases key l u hu with⟨hl,hu1⟩|⟨hl,huy⟩
  ·exact h.far j l z u hjl hz1 hu1
  rw[huy];exact(one j z hj hz1).symm
 rw[hzy];rcases key l u hu with⟨hl,hu1⟩|⟨hl,huy⟩
 ·exact one l u hl hu1
 exact absurd (hj.trans hl.symm) hjl
theorem St.set (h:St w0 w L) (i:Nat) {b:Nat} {cs:Array Value} {T:TypeId} (hx:L[i]? = some (Ent.box b cs T)) (j:Nat) (v:Value):St w0 (w.setCell ⟨b,j,none⟩ v) (L.set i (Ent.box b (cs.setIfInBounds j v) T)):=by have hb:Bx w b cs T:=(h.has i _ hx).1;exact h.turn i hx _ rfl rfl rfl (by simp[World.setCell]) (fun k _ hk=>Below.heap_setCell _ _ _ _ hk) (hb.set j v) fun k hk=>by have hk:k=b:=hk;subst hk;exact⟨(hb.set j v).lt,Or.inl rfl⟩
theorem St.store (h:St w0 w L) (i:Nat) {e size g n cap:Nat} {cs:List Value} (hx:L[i]? = some (Ent.row e size (.slice (some ⟨g,0,none⟩) n cap) n cs)) (j:Nat) (v:Value) :
  St w0 (w.setCell ⟨g,j,none⟩ v) (L.set i (Ent.row e size (.slice (some ⟨g,0,none⟩) n cap) n (cs.set j v))):=by
 have hr:w.ownsRow 0 e size (.slice (some ⟨g,0,none⟩) n cap) n cs:=(h.has i _ hx).1;have hr2:=(hr.stored j v).1;exact h.turn i hx _ rfl rfl rfl (by simp[World.setCell]) (fun k _ hk=>Below.heap_setCell _ _ _ _ (fun e=>hk (by rw[e];rfl))) hr2 fun k hk=>⟨(hr2.lt k hk).2,Or.inl hk⟩
theorem St.grow (h:St w0 w L) (i:Nat) {B e size n m:Nat} {v v':Value} {cs cs':List Value} (hx:L[i]? = some (Ent.row e size v n cs)) (hg:w.grownBy w' v.ownBlock) (hown:w'.ownsRow B e size v' m cs')
  (hat:∀ k,v'.ownBlock=some k→v.ownBlock=some k∨w.heap.size≤k):St w0 w' (L.set i (Ent.row e size v' m cs')) :=
 h.turn i hx _ hg.os hg.tape hg.output hg.size (fun k hk hn=>hg.block k hk fun e=>hn e.symm) (ZcS hown (Nat.zero_le _)) fun k hk=>⟨(hown.lt k hk).2,hat k hk⟩
theorem ZiI {v:Value} {g n cap H:Nat} (hat:v.ownBlock=some g∨g=H):∀ k,(Value.slice (some ⟨g,0,none⟩) n cap).ownBlock=some k→v.ownBlock=some k∨H≤k:=fun k hk=>by
 have hk:some g=some k:=hk;obtain rfl:g=k:=Option.some.inj hk;rcases hat with h1|h1
 ·exact Or.inl h1
 exact Or.inr (by omega)
theorem St.app (h:St w0 w L) (i:Nat) {B e size n m g cap:Nat} {v:Value} {cs cs':List Value} (hx:L[i]? = some (Ent.row e size v n cs)) (hown:w'.ownsRow B e size (.slice (some ⟨g,0,none⟩) m cap) m cs') (hg:w.grownBy w' v.ownBlock)
  (hat:v.ownBlock=some g∨g=w.heap.size):St w0 w' (L.set i (Ent.row e size (.slice (some ⟨g,0,none⟩) m cap) m cs')):=h.grow i hx hg hown (ZiI hat)
theorem St.pick (h:St w0 w L) (f:List Nat) (hn:f.Nodup):St w0 w (f.map fun i=>L.getD i Ent.nil):=by
 have key:∀ i x,(f.map fun i=>L.getD i Ent.nil)[i]? = some x→∃ a,f[i]? = some a∧(L[a]? = some x∨x=Ent.nil):=fun i x hx=>by
  rw[List.getElem?_map] at hx;cases hf:f[i]? with
  | none=>rw[hf] at hx;cases hx
  | some a =>
   rw[hf] at hx;simp only[Option.map_some,Option.some.injEq,List.getD_eq_getElem?_getD] at hx;refine⟨a,hf,?_⟩;cases hl:L[a]? with
   | none=>rw[hl] at hx;exact Or.inr hx.symm
   | some y=>rw[hl] at hx;exact Or.inl (by rw[← hx];rfl)
 refine⟨h.bel,fun i x hx => ?_,fun i j x y hij hx hy => ?_⟩
 ·obtain⟨a,-,h1|rfl⟩:=key i x hx
  ·exact h.has a x h1
  exact⟨trivial,fun k hk=>hk.elim⟩
 obtain⟨a,ha,h1⟩:=key i x hx;obtain⟨c,hc,h2⟩:=key j y hy;rcases h1 with h1|rfl
 ·rcases h2 with h2|rfl
  ·refine h.far a c x y (fun e=>hij ?_) h1 h2;subst e;exact(List.getElem?_inj (List.getElem?_eq_some_iff.1 ha).1 hn).1 (ha.trans hc.symm)
  exact fun k _ hk=>hk
 exact fun k hk=>hk.elim
theorem St.box (h:St w0 w L) (i:Nat) {b:Nat} {cs:Array Value} {T:TypeId} (hx:L[i]? = some (Ent.box b cs T)):Bx w b cs T:=(h.has i _ hx).1
theorem St.cell (h:St w0 w L) (i j:Nat) {b:Nat} {cs:Array Value} {T:TypeId} {v:Value} (hx:L[i]? = some (Ent.box b cs T)) (hv:cs[j]? = some v):w.cell? ⟨b,j,none⟩=some v:=((h.box i hx).cell j).trans hv
theorem St.fr (h:St w0 w L) (i j:Nat) {b:Nat} {cs:Array Value} {T:TypeId} (hx:L[i]? = some (Ent.box b cs T)):w.frozen? ⟨b,j,none⟩=false:=(h.box i hx).fr j
theorem St.boxlt (h:St w0 w L) (i:Nat) {b:Nat} {cs:Array Value} {T:TypeId} (hx:L[i]? = some (Ent.box b cs T)):w0.heap.size≤b∧b<w.heap.size:=(h.has i _ hx).2 b rfl
theorem St.row (h:St w0 w L) (i:Nat) {e size n:Nat} {v:Value} {cs:List Value} (hx:L[i]? = some (Ent.row e size v n cs)):w.ownsRow w0.heap.size e size v n cs:=Zd4 (h.has i _ hx).1 fun k hk=>((h.has i _ hx).2 k hk).1
theorem St.rcell (h:St w0 w L) (i j:Nat) {e size g n cap:Nat} {cs:List Value} {v:Value} (hx:L[i]? = some (Ent.row e size (.slice (some ⟨g,0,none⟩) n cap) n cs)) (hj:j<n*size) (hv:cs[j]? = some v):w.cell? ⟨g,j,none⟩=some v :=
 ((h.row i hx).cellAt j hj).trans hv
theorem St.rfr (h:St w0 w L) (i j:Nat) {e size g n cap:Nat} {cs:List Value} (hx:L[i]? = some (Ent.row e size (.slice (some ⟨g,0,none⟩) n cap) n cs)):w.frozen? ⟨g,j,none⟩=false :=
 World.ownsRow.frozenAt (h.row i hx) j
theorem St.rowcap (h:St w0 w L) (i:Nat) {e size g n cap:Nat} {cs:List Value} (hx:L[i]? = some (Ent.row e size (.slice (some ⟨g,0,none⟩) n cap) n cs)):n≤cap∧cap≤9223372036854775807:=by
 have hr:=h.row i hx;rcases hr.2 with⟨h1,-⟩|⟨g',cap',cur,h1,-,-,h4,h5,-⟩
 ·cases h1
 simp only[Value.slice.injEq,true_and] at h1;obtain⟨-,rfl⟩:=h1;exact⟨h4,h5⟩
theorem St.rowform (h:St w0 w L) (i:Nat) {e size n:Nat} {v:Value} {cs:List Value} (hx:L[i]? = some (Ent.row e size v n cs)) (hn:0<n):∃ g cap,v = .slice (some ⟨g,0,none⟩) n cap:=by
 rcases(h.row i hx).2 with⟨-,h1⟩|⟨g',cap',cur,h1,-⟩
 ·omega
 exact⟨g',cap',h1⟩
theorem St.rowany (h:St w0 w L) (i:Nat) {e size n:Nat} {v:Value} {cs:List Value} (hx:L[i]? = some (Ent.row e size v n cs)):∃ a cap,v = .slice a n cap∧n≤cap∧cap≤9223372036854775807:=by
 rcases(h.row i hx).2 with⟨h1,h2⟩|⟨g',cap',cur,h1,-,-,h4,h5,-⟩
 ·exact⟨none,0,by rw[h1,h2],by omega,by omega⟩
 exact⟨_,cap',h1,h4,h5⟩
theorem St.merge (h:St w0 w L) (i j:Nat) (hij:i≠j) {x y:Ent} (hx:L[i]? = some x) (hy:L[j]? = some y) (z:Ent) (hz:x.holds w→y.holds w→x.apart y→z.holds w) (hf:∀ k,z.foot k→x.foot k∨y.foot k):St w0 w ((L.set i z).set j Ent.nil):=by
 have hil:i<L.length:=(List.getElem?_eq_some_iff.1 hx).1;have hjl:j<L.length:=(List.getElem?_eq_some_iff.1 hy).1
 have key:∀ l u,((L.set i z).set j Ent.nil)[l]? = some u→u=Ent.nil∨(l=i∧u=z)∨(l≠i∧l≠j∧L[l]? = some u):=fun l u hu=>by
  rw[List.getElem?_set] at hu
  split at hu
  ·simp[hjl] at hu;exact Or.inl hu.symm
  rename_i hlj;rw[List.getElem?_set] at hu
  split at hu
  ·rename_i hli;simp at hu;exact Or.inr (Or.inl ⟨hli.symm,hu.symm⟩)
  rename_i hli;exact Or.inr (Or.inr ⟨fun e=>hli e.symm,fun e=>hlj e.symm,hu⟩)
 refine⟨h.bel,fun l u hu => ?_,fun l m u t hlm hu ht => ?_⟩
 ·rcases key l u hu with rfl|⟨-,rfl⟩|⟨-,-,h1⟩
  ·exact⟨trivial,fun k hk=>hk.elim⟩
  ·refine⟨hz (h.has i x hx).1 (h.has j y hy).1 (h.far i j x y hij hx hy),fun k hk => ?_⟩;rcases hf k hk with h2|h2
   ·exact(h.has i x hx).2 k h2
   exact(h.has j y hy).2 k h2
  exact h.has l u h1
 have one:∀ (l:Nat) (u:Ent),l≠i→l≠j→L[l]? = some u→z.apart u:=fun l u hl1 hl2 hu k hk1 hk2=>by
  rcases hf k hk1 with h2|h2
  ·exact h.far i l x u (fun e=>hl1 e.symm) hx hu k h2 hk2
  exact h.far j l y u (fun e=>hl2 e.symm) hy hu k h2 hk2
 rcases key l u hu with hun|⟨hl,huz⟩|⟨hl1,hl2,h1⟩
 ·rw[hun];exact fun k hk=>hk.elim
 ·rcases key m t ht with htn|⟨hm,htz⟩|⟨hm1,hm2,h2⟩
  ·rw[htn];exact fun k _ hk=>hk
  ·exact absurd (hl.trans hm.symm) hlm
  rw[huz];exact one m t hm1 hm2 h2
 rcases key m t ht with htn|⟨hm,htz⟩|⟨hm1,hm2,h2⟩
 ·rw[htn];exact fun k _ hk=>hk
 ·rw[htz];exact(one l u hl1 hl2 h1).symm
 exact h.far l m u t hlm h1 h2
theorem St.same (h:St w0 w L) (i:Nat) {x:Ent} (hx:L[i]? = some x) (y:Ent) (hy:x.holds w→y.holds w) (hf:∀ k,y.foot k→x.foot k):St w0 w (L.set i y) :=
 h.turn i hx y rfl rfl rfl (Nat.le_refl _) (fun _ _ _=>rfl) (hy (h.has i x hx).1) fun k hk=>⟨((h.has i x hx).2 k (hf k hk)).2,Or.inl (hf k hk)⟩
theorem St.boxrow (h:St w0 w L) (i:Nat) {b:Nat} {T:TypeId} (n size:Nat) (cs:List Value) (hx:L[i]? = some (Ent.box b cs.toArray T)) (hl:cs.length=n*size) (hn:n≤maxLen):St w0 w (L.set i (Ent.row T size (.slice (some ⟨b,0,none⟩) n n) n cs)) :=
 h.same i hx _ (fun hb=>Zki hb hl (Nat.zero_le _) hn) fun k hk=>by have hk:some b=some k:=hk;exact(Option.some.inj hk).symm
theorem St.norows (h:St w0 w L) (i:Nat) {es:Nat} {v:Value} (hx:L[i]? = some (Ent.row es 1 v 0 [])) (e:Nat):St w0 w (L.set i (Ent.rows es e v [] [])) :=
 h.same i hx _ (fun hb=>⟨hb,fun i hi=>absurd hi (by simp),fun i j k _ hj=>absurd hj (by simp)⟩) fun k hk=>by
  rcases hk with hk|⟨i,hi,-⟩
  ·exact hk
  simp at hi
theorem St.snoc (h:St w0 w L) (i j:Nat) (hij:i≠j) {es e m:Nat} {v v' rv:Value} {vs cs:List Value} {css:List (List Value)} (hx:L[i]? = some (Ent.rows es e v vs css)) (hy:L[j]? = some (Ent.row e 1 rv m cs)) (hne:es≠e)
  (hg:w.grownBy w' v.ownBlock) {B:Nat} (hown:w'.ownsRow B es 1 v' (css.length+1) (vs++[rv])) (hat:∀ k,v'.ownBlock=some k→v.ownBlock=some k∨w.heap.size≤k) :
  St w0 w' ((L.set i (Ent.rows es e v' (vs++[rv]) (css++[cs]))).set j Ent.nil):=by
 have hx1:(Ent.rows es e v vs css).holds w:=(h.has i _ hx).1;have hy1:(Ent.row e 1 rv m cs).holds w:=(h.has j _ hy).1;have hfar:=h.far i j _ _ hij hx hy;obtain⟨p1,p2,p3⟩:=hx1;have hap:ZbQ w v.ownBlock e:=Zam p1 hne;have hl:vs.length=css.length:=by have:=p1.1;omega
 have hmc:cs.length=m:=by have:=hy1.1;omega
 have hget:∀ i,i<css.length→(vs++[rv]).getD i undef=vs.getD i undef:=fun i hi=>by simp only[List.getD_eq_getElem?_getD];rw[List.getElem?_append_left (by omega)]
 have hgetn:(vs++[rv]).getD css.length undef=rv:=by simp[← hl]
 have hcget:∀ i,i<css.length→(css++[cs]).getD i []=css.getD i []:=fun i hi=>by simp only[List.getD_eq_getElem?_getD];rw[List.getElem?_append_left (by omega)]
 have hcgetn:(css++[cs]).getD css.length []=cs:=by simp
 have hil:i<L.length:=(List.getElem?_eq_some_iff.1 hx).1;have hjl:j<L.length:=(List.getElem?_eq_some_iff.1 hy).1;have hM:=h.merge i j hij hx hy ⟨fun k=>(Ent.rows es e v vs css).foot k∨(Ent.row e 1 rv m cs).foot k,fun w=>(Ent.rows es e v vs css).holds w∧(Ent.row e 1 rv m cs).holds w,fun a b h1 h2=>⟨Ent.stable _ a b h1.1 fun k hk=>h2 k (Or.inl hk),Ent.stable _ a b h1.2 fun k hk=>h2 k (Or.inr hk)⟩⟩ (fun a b _=>⟨a,b⟩) fun k hk=>hk
 have hT:=hM.turn i (by rw[List.getElem?_set,if_neg (fun e=>hij e.symm),List.getElem?_set,if_pos rfl,if_pos hil]) (Ent.rows es e v' (vs++[rv]) (css++[cs])) hg.os hg.tape hg.output hg.size
  (fun k hk hn=>hg.block k hk fun e=>hn (Or.inl (Or.inl e.symm))) ?_ ?_
 ·have e1:∀ a y:Ent,(((L.set i a).set j Ent.nil).set i y)=((L.set i y).set j Ent.nil):=fun a y=>by rw[List.set_comm _ _ (fun e=>hij e.symm),List.set_set]
  rw[e1] at hT;exact hT
 ·refine⟨by rw[List.length_append];exact ZcS hown (Nat.zero_le _),fun l hl2 => ?_,fun a b k hab hb hk => ?_⟩
  ·rw[List.length_append,List.length_singleton] at hl2;by_cases hlc:l<css.length
   ·rw[hget l hlc,hcget l hlc];exact Zai (p2 l hlc) hg hap
   obtain rfl:l=css.length:=by omega
   rw[hgetn,hcgetn,hmc];exact Zai hy1 hg hap
  rw[List.length_append,List.length_singleton] at hb;rw[hget a (by omega)] at hk;by_cases hbc:b<css.length
  ·rw[hget b hbc];exact p3 a b k hab hbc hk
  obtain rfl:b=css.length:=by omega
  rw[hgetn];intro hk2;exact hfar k (Or.inr ⟨a,hab,hk⟩) hk2
 intro k hk;rcases hk with hk|⟨l,hl2,hk⟩
 ·refine⟨(hown.lt k hk).2,?_⟩;rcases hat k hk with h1|h1
  ·exact Or.inl (Or.inl (Or.inl h1))
  exact Or.inr h1
 rw[List.length_append,List.length_singleton] at hl2;by_cases hlc:l<css.length
 ·rw[hget l hlc] at hk;exact⟨Nat.lt_of_lt_of_le ((p2 l hlc).lt k hk).2 hg.size,Or.inl (Or.inl (Or.inr ⟨l,hlc,hk⟩))⟩
 obtain rfl:l=css.length:=by omega
 rw[hgetn] at hk;exact⟨Nat.lt_of_lt_of_le (World.ownsRow.lt hy1 k hk).2 hg.size,Or.inl (Or.inr hk)⟩
theorem St.rows (h:St w0 w L) (i:Nat) {es e:Nat} {v:Value} {vs:List Value} {css:List (List Value)} (hx:L[i]? = some (Ent.rows es e v vs css)) :
  w.ownsRow w0.heap.size es 1 v css.length vs∧(∀ i,i<css.length→w.ownsRow w0.heap.size e 1 (vs.getD i undef) (css.getD i []).length (css.getD i []))∧(∀ i j k,i<j→j<css.length→(vs.getD i undef).ownBlock=some k→(vs.getD j undef).ownBlock≠some k):=by
 have h1:(Ent.rows es e v vs css).holds w:=(h.has i _ hx).1;have h2:=(h.has i _ hx).2;exact⟨Zd4 h1.1 fun k hk=>(h2 k (Or.inl hk)).1,fun j hj=>Zd4 (h1.2.1 j hj) fun k hk=>(h2 k (Or.inr ⟨j,hj,hk⟩)).1,h1.2.2⟩
theorem St.cat {L':List Ent} (h:St w0 w L) (h':St w w' L'):St w0 w' (L++L'):=by
 have h2:=h.call h'.bel
 have key:∀ i x,(L++L')[i]? = some x→(i<L.length∧L[i]? = some x)∨(L.length≤i∧L'[i-L.length]? = some x):=fun i x hx=>by
  rw[List.getElem?_append] at hx
  split at hx
  ·exact Or.inl ⟨by assumption,hx⟩
  exact Or.inr ⟨by omega,hx⟩
 refine⟨h2.bel,fun i x hx => ?_,fun i j x y hij hx hy => ?_⟩
 ·rcases key i x hx with⟨-,h1⟩|⟨-,h1⟩
  ·exact h2.has i x h1
  refine⟨(h'.has _ x h1).1,fun k hk => ?_⟩;have:=(h'.has _ x h1).2 k hk;exact⟨Nat.le_trans h.size this.1,this.2⟩
 rcases key i x hx with⟨hi,h1⟩|⟨hi,h1⟩
 ·rcases key j y hy with⟨hj,h3⟩|⟨hj,h3⟩
  ·exact h.far i j x y hij h1 h3
  intro k hk hk2;have:=((h.has _ x h1).2 k hk).2;have:=((h'.has _ y h3).2 k hk2).1;omega
 rcases key j y hy with⟨hj,h3⟩|⟨hj,h3⟩
 ·intro k hk hk2;have:=((h.has _ y h3).2 k hk2).2;have:=((h'.has _ x h1).2 k hk).1;omega
 exact h'.far _ _ x y (by omega) h1 h3
theorem St.intSS (h:St w0 w L) (i:Nat) {es e:Nat} {v:Value} {vs:List Value} {xss:List (List Int)} (hx:L[i]? = some (Ent.rows es e v vs (xss.map intCells))):OIntSS es e w0.heap.size w.heap.size w v xss:=by
 obtain⟨p1,p2,p3⟩:=h.rows i hx;rw[List.length_map] at p1 p2 p3;refine⟨vs,Zae p1,fun i hi => ?_,p3⟩;have:=p2 i hi;have e1:(xss.map intCells).getD i []=intCells (xss.getD i []):=by simp[hi]
 rw[e1] at this;have:=Zae this;simpa [OInts] using this
end
/-! Many things as one. -/
def Ent.all (R:List Ent):Ent:=⟨fun k=>∃ x∈R,x.foot k,fun w=>∀ x∈R,x.holds w,fun _ _ h hk x hx=>x.stable _ _ (h x hx) fun k hf=>hk k ⟨x,hx,hf⟩⟩
theorem St.pack {w0 w:World} {A R:List Ent} (h:St w0 w (A++R)):St w0 w (A++[Ent.all R]):=by
 have hR:∀ x∈R,∃ i,A.length≤i∧(A++R)[i]? = some x:=fun x hx=>by obtain⟨j,hj,e⟩:=List.getElem_of_mem hx;exact⟨A.length+j,by omega,by rw[List.getElem?_append_right (by omega),Nat.add_sub_cancel_left,List.getElem?_eq_getElem hj,e]⟩
 have key:∀ i x,(A++[Ent.all R])[i]? = some x→(i<A.length∧(A++R)[i]? = some x)∨(i=A.length∧x=Ent.all R):=fun i x hx=>by
  rw[List.getElem?_append] at hx
  split at hx
  ·rename_i hl;exact Or.inl ⟨hl,by rw[List.getElem?_append_left hl];exact hx⟩
  rename_i hl;rcases Nat.eq_zero_or_pos (i-A.length) with h0|h0
  ·rw[h0] at hx;simp at hx;exact Or.inr ⟨by omega,hx.symm⟩
  rw[List.getElem?_eq_none (by simp;omega)] at hx;cases hx
 refine⟨h.bel,fun i x hx => ?_,fun i j x y hij hx hy => ?_⟩
 ·rcases key i x hx with⟨-,h1⟩|⟨-,rfl⟩
  ·exact h.has i x h1
  refine⟨fun z hz => ?_,fun k ⟨z,hz,hk⟩ => ?_⟩
  ·obtain⟨l,-,hl⟩:=hR z hz;exact(h.has l z hl).1
  obtain⟨l,-,hl⟩:=hR z hz;exact(h.has l z hl).2 k hk
 rcases key i x hx with⟨hi,h1⟩|⟨hi,hxe⟩
 ·rcases key j y hy with⟨hj,h2⟩|⟨hj,hye⟩
  ·exact h.far i j x y hij h1 h2
  rw[hye];rintro k hk ⟨z,hz,hk2⟩;obtain⟨l,hl1,hl⟩:=hR z hz;exact h.far i l x z (by omega) h1 hl k hk hk2
 rcases key j y hy with⟨hj,h2⟩|⟨hj,hye⟩
 ·rw[hxe];rintro k ⟨z,hz,hk⟩ hk2;obtain⟨l,hl1,hl⟩:=hR z hz;exact h.far l j z y (by omega) hl h2 k hk hk2
 exact absurd (hi.trans hj.symm) hij
theorem St.unpack {w0 w w':World} {A A' R:List Ent} (h:St w0 w (A++R)) (h':St w0 w' (A'++[Ent.all R])):St w0 w' (A'++R):=by
 have hX:(A'++[Ent.all R])[A'.length]? = some (Ent.all R):=by simp
 have hXh:=h'.has _ _ hX
 have key:∀ i x,(A'++R)[i]? = some x→(i<A'.length∧(A'++[Ent.all R])[i]? = some x)∨(A'.length≤i∧R[i-A'.length]? = some x):=fun i x hx=>by
  rw[List.getElem?_append] at hx
  split at hx
  ·rename_i hl;exact Or.inl ⟨hl,by rw[List.getElem?_append_left hl];exact hx⟩
  exact Or.inr ⟨by omega,hx⟩
 refine⟨h'.bel,fun i x hx => ?_,fun i j x y hij hx hy => ?_⟩
 ·rcases key i x hx with⟨-,h1⟩|⟨-,h1⟩
  ·exact h'.has i x h1
  have hm:=List.mem_of_getElem? h1;exact⟨hXh.1 x hm,fun k hk=>hXh.2 k ⟨x,hm,hk⟩⟩
 rcases key i x hx with⟨hi,h1⟩|⟨hi,h1⟩
 ·rcases key j y hy with⟨hj,h2⟩|⟨hj,h2⟩
  ·exact h'.far i j x y hij h1 h2
  intro k hk hk2;exact h'.far i A'.length x _ (by omega) h1 hX k hk ⟨y,List.mem_of_getElem? h2,hk2⟩
 rcases key j y hy with⟨hj,h2⟩|⟨hj,h2⟩
 ·intro k hk hk2;exact h'.far A'.length j _ y (by omega) hX h2 k ⟨x,List.mem_of_getElem? h1,hk⟩ hk2
 refine h.far (A.length+(i-A'.length)) (A.length+(j-A'.length)) x y (by omega) ?_ ?_
 ·rw[List.getElem?_append_right (by omega)];simpa using h1
 rw[List.getElem?_append_right (by omega)];simpa using h2
/-! What is read above a block stays where a block below is written. -/
theorem Sl.far {B:Nat} {w:World} {v:Value} {n size:Nat} {cs:List Value} (h:Sl B w v n size cs) {b:Nat} (hb:b<B) (j:Nat) (u:Value):Sl B (w.setCell ⟨b,j,none⟩ u) v n size cs:=by obtain⟨hl,a,cap,hv,h1,h2,h3⟩:=h;refine⟨hl,a,cap,hv,h1,h2,fun hn => ?_⟩;obtain⟨c,off,ha,hc,hlt,hcs⟩:=h3 hn;refine⟨c,off,ha,hc,by rw[Zbp];exact hlt,fun i hi => ?_⟩;rw[← hcs i hi];exact World.cell?_of_block (Below.heap_setCell w ⟨b,j,none⟩ u c (by show c≠b;omega))
theorem IntSS.far {B:Nat} {w:World} {v:Value} {xss:List (List Int)} (h:IntSS B w v xss) {b:Nat} (hb:b<B) (j:Nat) (u:Value):IntSS B (w.setCell ⟨b,j,none⟩ u) v xss:=by obtain⟨vs,h1,h2⟩:=h;exact⟨vs,h1.far hb j u,fun i hi=>Sl.far (h2 i hi) hb j u⟩
theorem DfaR.far {B:Nat} {w:World} {v:Value} {d:DfaD} (h:DfaR B w v d) {b:Nat} (hb:b<B) (j:Nat) (u:Value):DfaR B (w.setCell ⟨b,j,none⟩ u) v d:=by obtain⟨v1,v2,hv,h1,h2⟩:=h;exact⟨v1,v2,hv,h1.far hb j u,Sl.far h2 hb j u⟩
end Go.Proofs.Ytfanhfcamblghaa
