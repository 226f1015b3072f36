/-
  Facts about automata with choices that are in order, and their rows in memory; appending a slice that may be empty.
  No condition.
-/
import Derived.Test.YtfgpkadhegdffaaGreatPc04Nm
set_option maxHeartbeats 4000000
set_option maxRecDepth 100000
namespace Go.Proofs.YtfgpkadhegdffaaGreat
open Go.RowKit Go.Maps
theorem Zhr {l:List Int} {m:Int} (h:stOk l m=true) {j:Nat} (hj:j<l.length):(0≤l.getD j 0∧l.getD j 0≤m-1)∧(0<j→l.getD (j-1) 0<l.getD j 0):=by
 unfold stOk at h;rw[List.all_eq_true] at h;have h1:=h j (List.mem_range.2 hj);unfold okAt at h1;rw[Bool.and_eq_true,Bool.or_eq_true] at h1;obtain⟨h1,h2⟩:=h1;refine⟨by simpa [inB] using h1,fun h0 => ?_⟩;rcases h2 with h2|h2
 ·have:=of_decide_eq_true h2;omega
 exact of_decide_eq_true h2
theorem Zlo {l:List Int} {m:Int} (h:stOk l m=true):∀ j,j<l.length→(j:Int)≤l.getD j 0
 | 0,hj=>(Zhr h hj).1.1
 | j+1,hj=>by have h1:=Zlo h j (by omega);have h2:=(Zhr h hj).2 (by omega);rw[Nat.add_sub_cancel] at h2;omega
theorem ZgU {l:List Int} {m:Nat} (h:stOk l (m:Int)=true):inN m l∧l.length≤m:=by
 refine⟨fun s hs => ?_,?_⟩
 ·obtain⟨j,hj,e⟩:=List.getElem_of_mem hs;have:=(Zhr h hj).1;rw[Zba hj,e] at this;omega
 rcases Nat.eq_zero_or_pos l.length with h0|h0
 ·omega
 have h1:=Zlo h (l.length-1) (by omega);have h2:=(Zhr h (j:=l.length-1) (by omega)).1.2;omega
theorem ZdT {n:NfaD} (h:ZkJ n=true):∃ m:Nat,n.states=(m:Int)∧m≤40∧mvIn m n.moves∧n.moves.length≤400∧inN m n.firsts∧n.firsts.length≤40∧inN m n.ends∧n.ends.length≤40:=by
 unfold ZkJ at h;simp only[Bool.and_eq_true] at h;obtain⟨⟨⟨⟨h1,h2⟩,h3⟩,h4⟩,h5⟩:=h;have h1:0≤n.states∧n.states≤40:=by simpa [inB] using h1
 obtain⟨m,hm⟩:=Int.eq_ofNat_of_zero_le h1.1;rw[hm] at h3 h4 h5;have f3:=ZgU h3;have f4:=ZgU h4;refine⟨m,hm,by omega,fun x hx => ?_,of_decide_eq_true h2,f3.1,by omega,f4.1,by omega⟩;rw[List.all_eq_true] at h5;have:=h5 x hx;unfold mvOk at this;simp only[Bool.and_eq_true,inB,decide_eq_true_eq] at this;omega
def eds (d:DfaD):Nat→List Int
 | 0=>[]
 | s+1=>if d.ends.getD s false=true then eds d s++[(s:Int)] else eds d s
theorem ZcL (d:DfaD):∀ s,(eds d s).length≤s
 | 0=>Nat.le_refl _
 | s+1=>by
  have ih:=ZcL d s;unfold eds
  split
  ·rw[List.length_append,List.length_singleton];omega
  omega
theorem Zas (l:List Int) (x:Int):intCells (l++[x])=intCells l++[.int .i64 x]:=by simp[intCells]
theorem ZbA {k:IntKind} {x:Int}:∀ u∈[Value.int k x],u.oneCell'=true:=by intro u hu;simp only[List.mem_singleton] at hu;subst hu;rfl
def RNfaS (n:NfaD) (w:World) (e:Ending) (w':World):Prop:=∃ a1 c1 a2 c2 a3 c3,e = .returned (.agg #[.int .i64 n.states,.slice a1 n.moves.length c1,.slice a2 n.firsts.length c2,.slice a3 n.ends.length c3]) ∧
 St w w' [Ent.row 135 3 (.slice a1 n.moves.length c1) n.moves.length (n.moves.flatMap Zad),Ent.row 3 1 (.slice a2 n.firsts.length c2) n.firsts.length (intCells n.firsts),Ent.row 3 1 (.slice a3 n.ends.length c3) n.ends.length (intCells n.ends)]
theorem Zcy {w:World} {B e:Nat} {v:Value} {xs:List (Int × Int × Int)} (hr:w.ownsRow B e 3 v xs.length (xs.flatMap Zad)):Moves 0 w v xs :=
 ((Zab hr).sl (by omega)).mono (Nat.zero_le _)
theorem Zdo {w:World} {B e:Nat} {v:Value} {xs:List Int} (hr:w.ownsRow B e 1 v xs.length (intCells xs)):Ints 0 w v xs :=
 ((Zab hr).sl (by omega)).mono (Nat.zero_le _)
theorem St.moves {w0 w:World} {L:List Ent} (h:St w0 w L) (i:Nat) {e:Nat} {v:Value} {xs:List (Int × Int × Int)} (hx:L[i]? = some (Ent.row e 3 v xs.length (xs.flatMap Zad))):Moves 0 w v xs:=Zcy (h.row i hx)
theorem Tryz.infoMv:(Tryz.prog.info? 135).map (fun i=>(i.zero,i.size,i.bytes))=some (some (.agg #[.int .i64 0,.int .i64 0,.int .i64 0]),3,24):=by kernel_rfl
theorem ZdJ {s c x:Int}:∀ u∈[Value.int .i64 s,Value.int .i64 c,Value.int .i64 x],u.oneCell'=true:=by intro u hu;simp at hu;rcases hu with rfl|rfl|rfl<;>rfl
theorem Zcj (xs:List (Int × Int × Int)) (s c x:Int):(xs++[(s,c,x)]).flatMap Zad=xs.flatMap Zad++[.int .i64 s,.int .i64 c,.int .i64 x]:=by simp[Zad]
end Go.Proofs.YtfgpkadhegdffaaGreat
namespace Go.Proofs.YtfgpkadhegdffaaGreat
open Go.RowKit
section
variable {P:Program} (w:World)
theorem ZfX {w:World} {base e size n:Nat} {v:Value} {xs:List Value} (h:w.ownsRow base e size v n xs):∃ a cap,v = .slice a n cap∧n≤cap:=by
 rcases h.2 with⟨h1,h2⟩|⟨g',cap',cur,h1,-,-,h4,-⟩
 ·exact⟨none,0,by rw[h1,h2],by omega⟩
 exact⟨_,cap',h1,h4⟩
theorem Zht (t ty:TypeId) (base:Nat) (e:TypeId) (i:TypeInfo) (z:Value) (size bytes:Nat) (ht:P.underlying t=some (.slice e)) (hi:P.info? e=some i) (hz:i.zero=some z)
  (hsize:i.size=size) (hby:i.bytes=bytes) (hzs:z.cells.size=size) (hsz:0<size)
  (v:Value) (n:Nat) (xs:List Value) (hown:w.ownsRow base e size v n xs) (x:Value) (m:Nat) (news:List Value) (hx:Sl 0 w x m size news) (h1:∀ u∈news,u.oneCell'=true)
  (h63:n+m≤maxLen) (hbytes:(n+m)*bytes≤140737488355328) (hbase:base≤w.heap.size) :
  ∃ a' cap w',(Builtin.append_ #[t,t] ty #[v,x]).run P w = .ok (.slice a' (n+m) cap) w'∧w'.ownsRow base e size (.slice a' (n+m) cap) (n+m) (xs++news)∧w.grownBy w' v.ownBlock ∧
   (∀ k,(Value.slice a' (n+m) cap).ownBlock=some k→v.ownBlock=some k∨w.heap.size≤k):=by
 obtain⟨hl,a,cap,rfl,hle,hm,hc⟩:=hx;cases a with
 | some ad =>
  have hnews:∀ j u,news[j]? = some u→w.cell? (ad.add j)=some u:=fun j u hj=>by
   have hjl:=(List.getElem?_eq_some_iff.1 hj).1
   have hm0:0<m:=by
    rcases Nat.eq_zero_or_pos m with h0|h0
    ·rw[h0] at hl;omega
    exact h0
   obtain⟨b,off,ha,-,-,hcs⟩:=hc hm0;simp only[Option.some.injEq] at ha;subst ha;rw[← hj,← hcs j (by omega),← Go.WideShapes.add_plain]
  obtain⟨v',w',hr,h2,h3,-,h5⟩:=run_append_own_at (P:=P) w base t ty e i z size bytes ht hi hz hsize hby hzs hsz v n xs hown ad m cap news hl hnews h1 h63 hbytes hbase;obtain⟨a',cap',rfl,-⟩:=ZfX h2;refine⟨a',cap',w',hr,h2,h3,fun k hk => ?_⟩;rcases h5 with h5|h5
  ·exact Or.inl (by rw[← h5];exact hk)
  rw[h5] at hk;exact Or.inr (by simp only[Option.some.injEq] at hk;omega)
 | none =>
  have hm0:m=0:=by
   rcases Nat.eq_zero_or_pos m with h0|h0
   ·exact h0
   obtain⟨b,off,ha,-⟩:=hc h0;cases ha
  subst hm0;have hnil:news=[]:=List.eq_nil_of_length_eq_zero (by omega);subst hnil;obtain⟨a',cap',rfl,hlc⟩:=ZfX hown;subst hsize;refine⟨a',cap',w,run_append_nothing w t t ty e i ht hi a' n cap' hlc _ (Src.ofNil w ht cap),by simpa using hown,⟨rfl,rfl,rfl,Nat.le_refl _,fun _ _ _=>rfl⟩,fun k hk=>Or.inl hk⟩
theorem Zif {o:Oper} {a:Act} {K:Act→World→Prop} {Q:Exit→Act→World→Prop} (s x:Operand) (t:TypeId)
  (ho:o.op = .call { callee:=.builtin .append,args:=#[s,x],argTypes:=#[t,t] })
  (base:Nat) (e:TypeId) (i:TypeInfo) (z:Value) (size bytes:Nat) (ht:P.underlying t=some (.slice e)) (hi:P.info? e=some i) (hz:i.zero=some z)
  (hsize:i.size=size) (hby:i.bytes=bytes) (hzs:z.cells.size=size) (hsz:0<size)
  (v:Value) (n:Nat) (xs:List Value) (hs:a.eval s=v) (hown:w.ownsRow base e size v n xs)
  (y:Value) (m:Nat) (news:List Value) (hy:a.eval x=y) (hx:Sl 0 w y m size news) (h1:∀ u∈news,u.oneCell'=true)
  (h63:n+m≤maxLen) (hbytes:(n+m)*bytes≤140737488355328) (hbase:base≤w.heap.size)
  (h:∀ a' cap w',w'.ownsRow base e size (.slice a' (n+m) cap) (n+m) (xs++news)→w.grownBy w' v.ownBlock→(∀ k,(Value.slice a' (n+m) cap).ownBlock=some k→v.ownBlock=some k∨w.heap.size≤k)→K (a.put o.dst (.slice a' (n+m) cap)) w'):o.wp P a w K Q:=by
 obtain⟨a',cap,w',hr,h2,h3,h4⟩:=Zht (P:=P) w t o.type base e i z size bytes ht hi hz hsize hby hzs hsz v n xs hown y m news hx h1 h63 hbytes hbase;unfold Oper.wp execOp;simp only[ho,resolve,invoke,builtin,Sem.run_bind,Sem.run_pure,Result.andThen_ok,List.map_toArray,List.map_cons,List.map_nil,hs,hy,hr];exact h a' cap w' h2 h3 h4
theorem Zar {ops:Array Oper} {rest:List Oper} {o:Oper} {a:Act} {Q:Exit→Act→World→Prop} (hgd:o.guard=none) (s x:Operand) (t:TypeId)
  (ho:o.op = .call { callee:=.builtin .append,args:=#[s,x],argTypes:=#[t,t] })
  (base:Nat) (e:TypeId) (i:TypeInfo) (z:Value) (size bytes:Nat) (ht:P.underlying t=some (.slice e)) (hi:P.info? e=some i) (hz:i.zero=some z)
  (hsize:i.size=size) (hby:i.bytes=bytes) (hzs:z.cells.size=size) (hsz:0<size)
  (v:Value) (n:Nat) (xs:List Value) (hs:a.eval s=v) (hown:w.ownsRow base e size v n xs)
  (y:Value) (m:Nat) (news:List Value) (hy:a.eval x=y) (hx:Sl 0 w y m size news) (h1:∀ u∈news,u.oneCell'=true)
  (h63:n+m≤maxLen) (hbytes:(n+m)*bytes≤140737488355328) (hbase:base≤w.heap.size)
  (h:∀ a' cap w',w'.ownsRow base e size (.slice a' (n+m) cap) (n+m) (xs++news)→w.grownBy w' v.ownBlock→(∀ k,(Value.slice a' (n+m) cap).ownBlock=some k→v.ownBlock=some k∨w.heap.size≤k)→wpList P ops Q rest (a.put o.dst (.slice a' (n+m) cap)) w'):wpList P ops Q (o::rest) a w :=
 wpList_plain hgd fun _ hK=>Zif w s x t ho base e i z size bytes ht hi hz hsize hby hzs hsz v n xs hs hown y m news hy hx h1 h63 hbytes hbase fun a' cap w' h2 h3 h4=>hK _ _ (h a' cap w' h2 h3 h4)
end
theorem on_i {k:IntKind} {x:Int}:∀ u∈[Value.int k x],u.oneCell'=true:=by simp[Value.oneCell']
theorem ZnF (l:List Bool) (x:Bool):boolCells (l++[x])=boolCells l++[.bool x]:=by simp[boolCells]
theorem Zl9 (l:List Int) (x:Int):intCells (l++[x])=intCells l++[.int .i64 x]:=by simp[intCells]
theorem ZoU {xs:List Int}:∀ u∈intCells xs,u.oneCell'=true:=fun u hu=>by obtain⟨x,-,rfl⟩:=List.mem_map.1 hu;simp[Value.oneCell']
theorem Zov {xs:List (Int × Int × Int)}:∀ u∈xs.flatMap Zad,u.oneCell'=true:=fun u hu=>by obtain⟨x,-,hx⟩:=List.mem_flatMap.1 hu;simp only[Zad,List.mem_cons,List.not_mem_nil,or_false] at hx;rcases hx with rfl|rfl|rfl<;>simp[Value.oneCell']
theorem Zj5 {xs:List (Int × Int)}:∀ u∈xs.flatMap Zaa,u.oneCell'=true:=fun u hu=>by obtain⟨x,-,hx⟩:=List.mem_flatMap.1 hu;simp only[Zaa,List.mem_cons,List.not_mem_nil,or_false] at hx;rcases hx with rfl|rfl<;>simp[Value.oneCell']
theorem St.appS {w0 w w':World} {L:List Ent} (h:St w0 w L) (i:Nat) {B e size n m cap:Nat} {a':Option Addr} {v:Value} {cs cs':List Value} (hx:L[i]? = some (Ent.row e size v n cs)) (hown:w'.ownsRow B e size (.slice a' m cap) m cs') (hg:w.grownBy w' v.ownBlock)
  (hat:∀ k,(Value.slice a' m cap).ownBlock=some k→v.ownBlock=some k∨w.heap.size≤k):St w0 w' (L.set i (Ent.row e size (.slice a' m cap) m cs')):=h.grow i hx hg hown hat
theorem Zip {l:List Int} {k:Nat} (hk:k<l.length):setV (l.take (k+1))=adj (setV (l.take k)) (l.getD k 0).toNat:=by unfold setV;exact ZbT _ _ hk 0
end Go.Proofs.YtfgpkadhegdffaaGreat
namespace Go.Proofs.YtfgpkadhegdffaaGreat
open Go.RowKit
abbrev nfaC (n:NfaD) (v1 v2 v3:Value):Array Value:=#[.int .i64 n.states,v1,v2,v3]
theorem Zdy {v:Nat} {c:Int} {u:Nat} {m:Int × Int × Int} (h:(decide (m.2.1=c)&&v.testBit m.1.toNat)=false):Za6 v c u m=u:=by unfold Za6;simp[h]
end Go.Proofs.YtfgpkadhegdffaaGreat
namespace Go.Proofs.YtfgpkadhegdffaaGreat
open Go.RowKit
def endV (n:NfaD) (x:Nat):Bool:=n.ends.any fun s=>x.testBit s.toNat
def FlagsAt (w:World) (v:Value) (m x:Nat):Prop:=∃ B g cap,v = .slice (some ⟨g,0,none⟩) m cap∧w.ownsRow B 4 1 v m (boolCells (flags m x))
theorem FlagsAt.of {w:World} {B g cap m x:Nat} (h:w.ownsRow B 4 1 (.slice (some ⟨g,0,none⟩) m cap) m (boolCells (flags m x))):FlagsAt w (.slice (some ⟨g,0,none⟩) m cap) m x:=⟨_,_,_,rfl,h⟩
theorem FlagsAt.below {w w':World} {v:Value} {m x:Nat} (h:FlagsAt w v m x) (hb:Below w.heap.size w w'):FlagsAt w' v m x:=by obtain⟨B,g,cap,hv,h⟩:=h;exact⟨B,g,cap,hv,(Own.below (Zab h) hb).1⟩
theorem Zdp {m x s:Nat} (h:s<m):(boolCells (flags m x))[s]? = some (.bool (x.testBit s)):=by simp[flags,h]
theorem Zgg {m x s:Nat}:(boolCells (flags m x)).set s (.bool true)=boolCells (flags m (adj x s)):=by simp[boolCells,Zmm,List.map_set]
def ZmM (B m x:Nat) (e:Ending) (w':World):Prop:=∃ g cap,e = .returned (.slice (some ⟨g,0,none⟩) m cap)∧w'.ownsRow B 4 1 (.slice (some ⟨g,0,none⟩) m cap) m (boolCells (flags m x))
theorem Zg2 {w:World} {B m:Nat} {v:Value} (h:w.ownsRow B 4 1 v m (madeCells (Value.bool false).cells (m*1)).toList):w.ownsRow B 4 1 v m (boolCells (flags m 0)):=by
 have e:(madeCells (Value.bool false).cells (m*1)).toList=boolCells (flags m 0):=by rw[ZkX];simp[madeCells,Value.cells,boolCells,Nat.mod_one,List.map_const']
 rwa [e] at h
theorem ZiJ (l:List Int) (m:Nat) (v:Value) (w:World) (hm:m≤1000) (hl:inN m l) (hn:l.length≤1000000) (h:Ints 0 w v l) :
  Calls Tryz.prog 176 #[v,.int .i64 m] w fun e w'=>ZmM w.heap.size m (setV l) e w'∧Below w.heap.size w w':=by
 obtain⟨a1,c1,rfl,hc1,hm1,hr1⟩:=h.form;obtain⟨i0,hi,hz0,hz1,hz2⟩:=info_parts Tryz.infoBool;replace hr1:=qh hr1;replace hl:=qh hl;clear h
 go_enter Tryz.func176, Tryz.ntmps176
 go_wp2_with (at_make;refine wpList_make_full _ rfl _ _ 23 rfl w.heap.size 4 i0 (.bool false) 1 Tryz.underlying23 hi hz0 hz1 .i64 .i64 _ _ m rfl rfl rfl rfl (by rw[hz2];omega) (by unfold maxLen;omega) (Nat.le_refl _) ?_;intro w1 hown hgrow);have hS:=(St.start w).made ((Below.refl _ _).grown hgrow (Nat.le_refl _) (fun _ h=>by cases h)) (Zg2 hown);replace hS:=qh hS;clear hown hgrow hi hz0 hz1 hz2
 go_loopw [6] (fun i wr=>∃ k:Nat,k≤l.length∧i = .int .i64 k∧St w wr [Ent.row 4 1 (.slice (some ⟨w.heap.size,0,none⟩) m m) m (boolCells (flags m (setV (l.take k))))])
  (fun i _=>l.length-(intOf i).toNat)
 case atStart=>exact⟨0,Nat.zero_le _,rfl,hS.out⟩
 case round =>
  obtain⟨k,hk,rfl,hS⟩:=hrel;by_cases hlt:k<l.length
  ·obtain⟨b1,o1,rfl,-,hbl,hcs⟩:=hr1.out (by omega);have hc:=(bcell hS.bel b1 _ hbl).trans (hcs k hlt);obtain⟨s0,s1⟩:=hl.out _ (memD (d:=0) hlt);obtain⟨s,hs⟩:=Int.eq_ofNat_of_zero_le s0;rw[hs] at hc s1;have d0:=hS.rcell 0 s rfl (by omega) (Zdp (show s<m by omega));have f0:=hS.rfr 0 s rfl;have Hhs:=qh hs;clear hs;replace hS:=qh hS;clear hcs s0;go_wp2;go_roundw
   case rel =>refine⟨k+1,by omega,by go_num,?_⟩;have h:=hS.out.store 0 rfl s (.bool true);rw[Zgg] at h;rw[Zip hlt,Hhs.out];exact h
   case measure=>simp[intOf];omega
  obtain rfl:k=l.length:=by omega
  rw[List.take_length] at hS;replace hS:=qh hS;go_wp2;go_ret;exact⟨⟨_,_,rfl,hS.out.row 0 rfl⟩,hS.out.bel⟩
theorem Zh9 {xs:List Bool}:∀ u∈boolCells xs,u.oneCell'=true:=by intro u hu;obtain⟨q,-,rfl⟩:=List.mem_map.1 hu;rfl
theorem Zm2 {w:World} {B e size g m c:Nat} {cs:List Value} (h:w.ownsRow B e size (.slice (some ⟨g,0,none⟩) m c) m cs):∀ j u,cs[j]? = some u→w.cell? ((⟨g,0,none⟩:Addr).add j)=some u:=fun j u hu=>by
 have hadd:(⟨g,0,none⟩:Addr).add j=⟨g,j,none⟩:=by unfold Addr.add;split<;>simp_all
 have hj:j<m*size:=by rw[← h.1];exact(List.getElem?_eq_some_iff.1 hu).1
 rw[hadd];exact(h.cellAt j hj).trans hu
theorem ZiD {m M:Nat} {ms:List (Int × Int × Int)} (h:mvIn m ms) (hm:m≤M):mvIn M ms:=fun x hx=>by have:=h x hx;omega
theorem Zn1 {m:Nat} {ms:List (Int × Int × Int)} (h:mvIn m ms) (hm:m≤40):mvIn 40 ms:=fun x hx=>by have:=h x hx;omega
theorem Ze0 (M:Nat) (hM:M≤1000) (n:NfaD) (m x:Nat) (v1 v2 v3 bv:Value) (w:World) (hm:m≤M) (hmv:mvIn m n.moves) (hml:n.moves.length≤1000000) (hx:x<2 ^ m) (h1:Moves 0 w v1 n.moves) (hbv:FlagsAt w bv m x) :
  Calls Tryz.prog 175 #[.agg (nfaC n v1 v2 v3),bv] w fun e w'=>ZmM w.heap.size m (clV M n.moves x) e w'∧Below w.heap.size w w':=by
 obtain⟨a1,c1,rfl,hc1,hm1,hr1⟩:=h1.form;obtain⟨Bv,gv,cv,rfl,hbr⟩:=hbv;obtain⟨i0,hi,hz0,hz1,hz2⟩:=info_parts Tryz.infoBool;obtain⟨ms,hms⟩:=eI (n.moves);rw[← hms] at hmv hml hc1 hr1;rw[← hms];have hmv40:=ZiD hmv hm;have hlx:∀ j,clIt ms x j<2 ^ m:=ZdW hmv hx;have hS0:=((St.start w).alloc _ rfl (nfaC n (.slice a1 ms.length c1) v2 v3) 90).alloc (w.heap.size+1) (by simp) #[] 4;have hbr1:=(Own.below (Zab hbr) (((Below.refl w.heap.size w).alloc (Nat.le_refl _) (.cells (nfaC n (.slice a1 ms.length c1) v2 v3) 90)).alloc (by simp) (.cells #[] 4))).1;have hS1:=hS0.boxrow 1 0 1 [] rfl rfl (by omega);have hE:((w.alloc (.cells (nfaC n (.slice a1 ms.length c1) v2 v3) 90)).alloc (.cells #[] 4)).ownsRow (w.heap.size+1) 4 1 (.slice (some ⟨w.heap.size+1,0,none⟩) 0 0) 0 []:=Zca (cs:=[]) (hS0.box 1 rfl) rfl (Nat.le_refl _) (by omega);replace hE:=qh hE;have Hhr1:=qh hr1;clear hr1;have Hhmv:=qh hmv;clear hmv;have Hhmv40:=qh hmv40;clear hmv40;have Hhx:=qh hx;clear hx;have Hhlx:=qh hlx;clear hlx;have Hhms:=qh hms;clear hms;have Hhi:=qh hi;clear hi;have Hhz0:=qh hz0;clear hz0;have Hhz1:=qh hz1;clear hz1;have Hhz2:=qh hz2;clear hz2;have Hhbr1:=qh hbr1;clear hbr1;have HhS1:=qh hS1;clear hS1;clear h1 hbr hS0
 go_enter Tryz.func175, Tryz.ntmps175
 go_wp2_with (at_builtin;refine wpList_append_own_wide _ rfl _ _ _ rfl (w.heap.size+1) 4 i0 (.bool false) 1 1 Tryz.underlying23 Hhi.out Hhz0.out Hhz1.out Hhz2.out rfl (by omega) _ 0 _ rfl hE.out ⟨gv,0,none⟩ m cv (boolCells (flags m x)) rfl (by simp[flags]) (Zm2 Hhbr1.out) Zh9 (by unfold maxLen;omega) (by omega) (by simp) ?_;intro v6 w6 hown6 hgrow6 hnil6;have Hown6:=qh hown6;have Hgrow6:=qh hgrow6;have Hnil6:=qh hnil6;clear hown6 hgrow6 hnil6);rw[Nat.zero_add,List.nil_append] at Hown6
 have hS6:=HhS1.out.grow 1 rfl Hgrow6.out Hown6.out (fun k hk=>by
  have h1:=(Own.lt (Zab Hown6.out) k hk).1;by_cases h2:k=w.heap.size+1
  ·exact Or.inl (by rw[h2];rfl)
  right;simp only[World.size_alloc];omega)
 obtain⟨g,cap,hv6⟩:∃ g cap,v6 = .slice (some ⟨g,0,none⟩) m cap:=by
  rcases Hown6.out.2 with⟨h1,-⟩|⟨g',cap',cur,h1,-⟩
  ·exact absurd (Hnil6.out.1 h1).1 (fun e=>by cases e)
  exact⟨g',cap',h1⟩
 subst hv6;have HhS6:=qh hS6;clear hS6;clear Hown6 Hgrow6 Hnil6;obtain⟨B0,hB0⟩:=eI (w.heap.size)
 go_loopg [6] (M+2) (fun g' ag wr=>∃ j:Nat,g'=M+2-j∧(∃ ab:Bool,ag = .bool ab∧ab=(decide (j=0) || !decide (clIt ms x j=clIt ms x (j-1)))) ∧
   St w wr [Ent.box w.heap.size (nfaC n (.slice a1 ms.length c1) v2 v3) 90,Ent.row 4 1 (.slice (some ⟨g,0,none⟩) m cap) m (boolCells (flags m (clIt ms x j)))])
 case atStart=>exact⟨0,rfl,⟨true,rfl,by simp⟩,HhS6.out⟩
 case round =>
  obtain⟨j,rfl,⟨ab,rfl,hab⟩,hS⟩:=hrel;obtain⟨wo,hwo⟩:∃ wo:World,wo=wr:=⟨_,rfl⟩;subst hwo;have e1:=hS.cell 0 1 rfl rfl;have Hhab:=qh hab;clear hab;have HhS:=qh hS;clear hS;cases ab
  ·have hj:clIt ms x (j-1+1)=clIt ms x (j-1)∧j-1+1=j:=by
    have h:=Hhab.out;simp at h;have:j-1+1=j:=by omega
    rw[this];exact⟨h.2,rfl⟩
   have hv:clIt ms x j=clV M ms x:=by rw[ZnV Hhmv40.out hj.1,← hj.1,hj.2]
   have Hhj:=qh hj;clear hj;have Hhv:=qh hv;clear hv;go_wp2;go_ret;refine⟨⟨_,_,rfl,?_⟩,HhS.out.bel⟩;rw[← Hhv.out];exact HhS.out.row 1 rfl
  obtain⟨X,hX⟩:=eI (clIt ms x j);have HhX:=qh hX;clear hX;go_wp2
  go_loopw [6,7] (fun ag i wi=>∃ k:Nat,k≤ms.length∧i = .int .i64 k∧(∃ ab:Bool,ag = .bool ab∧ab = !decide ((ms.take k).foldl Zau X=X)) ∧
    St w wi [Ent.box w.heap.size (nfaC n (.slice a1 ms.length c1) v2 v3) 90,Ent.row 4 1 (.slice (some ⟨g,0,none⟩) m cap) m (boolCells (flags m ((ms.take k).foldl Zau X)))])
   (fun _ i _=>ms.length-(intOf i).toNat)
  case atStart=>exact⟨0,Nat.zero_le _,rfl,⟨false,rfl,by simp⟩,by rw[HhX.out];exact HhS.out⟩
  case round =>
   obtain⟨k,hk,rfl,⟨ag,rfl,hag⟩,hSi⟩:=hrel;obtain⟨C,hC⟩:=eI ((ms.take k).foldl Zau X);have hCm:C<2 ^ m:=by rw[hC];exact ZcJ _ (fun v=>v<2 ^ m) (fun v m hmm hv=>Zgp Hhmv.out hmm hv) (by rw[HhX.out];exact Hhlx.out j) k
   rw[← hC] at hSi hag;clear e1;have e1:=hSi.cell 0 1 rfl rfl;by_cases hlt:k<ms.length
   ·obtain⟨b1,o1,rfl,-,hbl,hcs⟩:=Hhr1.out (by omega);obtain⟨p1,p2,p3⟩:=hcs k hlt;replace p1:=(bcell hSi.bel b1 _ hbl).trans p1;replace p2:=(bcell hSi.bel b1 _ hbl).trans p2;replace p3:=(bcell hSi.bel b1 _ hbl).trans p3;have hmm:=Hhmv.out _ (memD (d:=(0,0,0)) hlt);have hsucc:=ZbT Zau X hlt (0,0,0);rw[← hC] at hsucc;have hne1:=ZiW (v:=X) Hhmv40.out hlt;have hne2:=ZdO (v:=X) Hhmv40.out hlt;rw[← hC] at hne1 hne2;obtain⟨mm,hmd⟩:=eI (ms.getD k (0,0,0));rw[← hmd] at p1 p2 p3 hmm hsucc hne1;obtain⟨f,l,t⟩:=mm;simp only at p1 p2 p3 hmm;obtain⟨⟨f0,f1⟩,t0,t1⟩:=hmm;obtain⟨f,rfl⟩:=Int.eq_ofNat_of_zero_le f0;obtain⟨t,rfl⟩:=Int.eq_ofNat_of_zero_le t0;have hfm:f<m:=by omega
    have htm:t<m:=by omega
    have hSa:=hSi.alloc _ rfl #[.int .i64 (f:Int),.int .i64 l,.int .i64 (t:Int)] 135;have cf:=hSa.rcell 1 f rfl (by omega) (Zdp hfm);have ct:=hSa.rcell 1 t rfl (by omega) (Zdp htm);have ff:=hSa.rfr 1 t rfl;have hkk:(k:Int)<ms.length:=by omega
    have Hstay:=qh (fun (h:Zau C ((f:Int),l,(t:Int))=C)=>(show(ms.take (k+1)).foldl Zau X=C from hsucc.trans h));replace hC:=qh hC;have HhCm:=qh hCm;clear hCm;have Hhag:=qh hag;clear hag;have Hhsucc:=qh hsucc;clear hsucc;have Hhne1:=qh hne1;clear hne1;have Hhne2:=qh hne2;clear hne2;have Hhmd:=qh hmd;clear hmd;have HhSi:=qh hSi;clear hSi;have HhSa:=qh hSa;clear hSa;clear hcs f0 t0
    have Hsame:=qh (fun (h:Zau C ((f:Int),l,(t:Int))=C)=>(show ∃ k':Nat,k'≤ms.length∧Value.int .i64 ((k:Int)+1) = .int .i64 (k':Int)∧(∃ ab:Bool,Value.bool ag = .bool ab∧ab = !decide ((ms.take k').foldl Zau X=X)) ∧
      St w (wr.alloc (.cells #[.int .i64 (f:Int),.int .i64 l,.int .i64 (t:Int)] 135)) [Ent.box w.heap.size (nfaC n (.slice (some ⟨b1,o1,none⟩) ms.length c1) v2 v3) 90,Ent.row 4 1 (.slice (some ⟨g,0,none⟩) m cap) m (boolCells (flags m ((ms.take k').foldl Zau X)))] from
      ⟨k+1,by omega,by go_num,⟨ag,rfl,by rw[Hstay.out h];exact Hhag.out⟩,by rw[Hstay.out h];exact HhSa.out.pick [0,1] (by decide)⟩))
    by_cases hl:l = -1
    ·subst hl;cases hf:C.testBit f
     ·rw[hf] at cf;have Hhf:=qh hf;clear hf;have hst:=Hsame.out (by unfold Zau;simp[Hhf.out]);have Hhst:=qh hst;clear hst;go_wp2;go_roundw
      case rel=>exact Hhst.out
      case measure=>simp[intOf];omega
     cases ht:C.testBit t
     ·rw[hf] at cf;rw[ht] at ct;have Hhf:=qh hf;clear hf;have Hht:=qh ht;clear ht;go_wp2;go_roundw
      case rel =>
       have hcm:Zau C ((f:Int),-1,(t:Int))=adj C t:=by unfold Zau;simp[Hhf.out,Hht.out]
       have hne:Zau C ((f:Int),-1,(t:Int))≠C:=by rw[hcm];intro e;have:=ZeJ C t t;rw[e,Hht.out] at this;simp at this
       have hs2:(ms.take (k+1)).foldl Zau X=adj C t:=Hhsucc.out.trans hcm;refine⟨k+1,by omega,by go_num,⟨true,rfl,?_⟩,?_⟩
       ·rw[decide_eq_false (Hhne1.out hne)];rfl
       rw[hs2,← Zgg];exact(HhSa.out.store 1 rfl t (.bool true)).pick [0,1] (by decide)
      case measure=>simp[intOf];omega
     rw[hf] at cf;rw[ht] at ct;have Hhf:=qh hf;clear hf;have Hht:=qh ht;clear ht;have hst:=Hsame.out (by unfold Zau;simp[Hhf.out,Hht.out]);have Hhst:=qh hst;clear hst;go_wp2;go_roundw
     case rel=>exact Hhst.out
     case measure=>simp[intOf];omega
    have hst:=Hsame.out (by unfold Zau;simp[hl]);have hl1:(l == -1)=false:=by simpa using hl
    have Hhst:=qh hst;clear hst;have Hhl:=qh hl;clear hl;go_wp2;go_roundw
    case rel=>exact Hhst.out
    case measure=>simp[intOf];omega
   obtain rfl:k=ms.length:=by omega
   rw[List.take_length] at hC;have hn:C=clIt ms x (j+1):=by rw[hC,HhX.out];rfl
   have hj0:j<M+2:=by
    by_cases h0:j=0
    ·omega
    have h:=Hhab.out;simp[h0] at h;have:=ZeO (k:=j-1) Hhmv40.out (by rw[show j-1+1=j by omega];exact h);omega
   replace hC:=qh hC;have Hhn:=qh hn;clear hn;have Hhag:=qh hag;clear hag;have HhSi:=qh hSi;clear hSi;go_wp2
   go_roundg (M+2-(j+1))
   case measure=>omega
   case rel =>refine⟨j+1,rfl,⟨ag,rfl,?_⟩,by rw[← Hhn.out];exact HhSi.out⟩;rw[Hhag.out,← Hhn.out,show j+1-1=j by omega,← HhX.out];simp
theorem Zjz (M:Nat) (hM:M≤1000) (n:NfaD) (m x:Nat) (c:Int) (v1 v2 v3 bv:Value) (w:World) (hns:n.states=(m:Int)) (hm:m≤M) (hmv:mvIn m n.moves) (hml:n.moves.length≤1000000) (h1:Moves 0 w v1 n.moves) (hbv:Bools 0 w bv (flags m x)) :
  Calls Tryz.prog 177 #[.agg (nfaC n v1 v2 v3),bv,.int .i64 c] w fun e w'=>ZmM w.heap.size m (stV M n.moves x c) e w'∧Below w.heap.size w w':=by
 have H1:=qh h1;obtain⟨a1,c1,rfl,hc1,hm1,hr1⟩:=h1.form;obtain⟨av,cv,rfl,hcv,hmv',hbr⟩:=hbv.form;rw[Zgh] at hcv hbr;rw[Zgh];clear hbv;obtain⟨i0,hi,hz0,hz1,hz2⟩:=info_parts Tryz.infoBool;obtain⟨ms,hms⟩:=eI (n.moves);have hmv2:=hmv;have hml2:=hml;rw[← hms] at hmv hml hc1 hr1;have hst:stV M n.moves x c=clV M ms (ms.foldl (Za6 x c) 0):=by rw[hms];rfl
 have hfm40:ms.foldl (Za6 x c) 0<2 ^ m:=Zct _ (fun v=>v<2 ^ m) (fun _ _ hmm hv=>Zdg hmv hmm hv) (Nat.two_pow_pos m);obtain⟨ln,hln⟩:=eI (ms.length);have hlnn:ln=n.moves.length:=by rw[hln,hms]
 rw[← hlnn] at H1;rw[← hlnn];rw[← hln] at hc1 hr1 hml;have hS0:=(St.start w).alloc _ rfl (nfaC n (.slice a1 ln c1) v2 v3) 90;have e0:=hS0.cell (v:=.int .i64 (m:Int)) 0 0 rfl (by simp[nfaC,hns]);replace hns:=qh hns;have Hhr1:=qh hr1;clear hr1;replace hmv:=qh hmv;have Hhmv2:=qh hmv2;clear hmv2;replace hml2:=qh hml2;have Hhms:=qh hms;clear hms;have Hhst:=qh hst;clear hst;replace hfm40:=qh hfm40;have Hhln:=qh hln;clear hln;have Hhlnn:=qh hlnn;clear hlnn;have Hhi:=qh hi;clear hi;have Hhz0:=qh hz0;clear hz0;have Hhz1:=qh hz1;clear hz1;have Hhz2:=qh hz2;clear hz2;replace hbr:=qh hbr;replace hS0:=qh hS0;clear h1
 go_enter Tryz.func177, Tryz.ntmps177
 go_wp2_with (at_make;refine wpList_make_full _ rfl _ _ 23 rfl _ 4 i0 (.bool false) 1 Tryz.underlying23 Hhi.out Hhz0.out Hhz1.out .i64 .i64 _ _ m rfl rfl rfl rfl (by rw[Hhz2.out];omega) (by unfold maxLen;omega) (Nat.le_refl _) ?_;intro w1 hown hgrow);have hS1:=hS0.out.made ((Below.refl _ _).grown hgrow (Nat.le_refl _) (fun _ h=>by cases h)) (Zg2 hown);rw[World.size_alloc] at hS1;have hb1:=hS1.bel;have HhS1:=qh hS1;clear hS1;clear hown hgrow e0
 go_loopw [8] (fun i wi=>∃ k:Nat,k≤ln∧i = .int .i64 k∧St w wi [Ent.box w.heap.size (nfaC n (.slice a1 ln c1) v2 v3) 90,Ent.row 4 1 (.slice (some ⟨w.heap.size+1,0,none⟩) m m) m (boolCells (flags m ((ms.take k).foldl (Za6 x c) 0)))])
  (fun i _=>ln-(intOf i).toNat)
 case atStart=>exact⟨0,Nat.zero_le _,rfl,HhS1.out⟩
 case round =>
  obtain⟨k,hk,rfl,hSi⟩:=hrel;obtain⟨C,hC⟩:=eI ((ms.take k).foldl (Za6 x c) 0);rw[← hC] at hSi;have e1:=hSi.cell (v:=.slice a1 ln c1) 0 1 rfl rfl;clear hb1;by_cases hlt:k<ln
  ·have hlt':k<ms.length:=by rw[← Hhln.out];exact hlt
   obtain⟨b1,o1,rfl,-,hbl,hcs⟩:=Hhr1.out (by omega);obtain⟨p1,p2,p3⟩:=hcs k hlt;replace p1:=(bcell hSi.bel b1 _ hbl).trans p1;replace p2:=(bcell hSi.bel b1 _ hbl).trans p2;replace p3:=(bcell hSi.bel b1 _ hbl).trans p3;have hmm:=hmv.out _ (memD (d:=(0,0,0)) hlt');have hsucc:=ZbT (Za6 x c) 0 hlt' (0,0,0);rw[← hC] at hsucc;obtain⟨mm,hmd⟩:=eI (ms.getD k (0,0,0));rw[← hmd] at p1 p2 p3 hmm hsucc;obtain⟨f,l,t⟩:=mm;simp only at p1 p2 p3 hmm;obtain⟨⟨f0,f1⟩,t0,t1⟩:=hmm;obtain⟨f,rfl⟩:=Int.eq_ofNat_of_zero_le f0;obtain⟨t,rfl⟩:=Int.eq_ofNat_of_zero_le t0;have hfm:f<m:=by omega
   have htm:t<m:=by omega
   have hSa:=hSi.alloc _ rfl #[.int .i64 (f:Int),.int .i64 l,.int .i64 (t:Int)] 135;have hal:=(Below.refl w.heap.size w).trans hSa.bel;obtain⟨gv,ov,rfl,-,hgl,hbc⟩:=hbr.out (by omega);have cf:=(bcell hal gv (ov+f) hgl).trans (hbc f hfm);rw[ZeK hfm] at cf;clear hbc;have ct:=hSa.rcell 1 t rfl (by omega) (Zdp htm);have ff:=hSa.rfr 1 t rfl;have hkk:(k:Int)<ln:=by omega
   replace hC:=qh hC;have Hhsucc:=qh hsucc;clear hsucc;have Hhmd:=qh hmd;clear hmd;have HhSi:=qh hSi;clear hSi;have HhSa:=qh hSa;clear hSa;clear hcs f0 t0 hal
   have Hsame:=qh (fun (h:Za6 x c C ((f:Int),l,(t:Int))=C)=>(show ∃ k':Nat,k'≤ln∧Value.int .i64 ((k:Int)+1) = .int .i64 (k':Int) ∧
     St w (wr.alloc (.cells #[.int .i64 (f:Int),.int .i64 l,.int .i64 (t:Int)] 135)) [Ent.box w.heap.size (nfaC n (.slice (some ⟨b1,o1,none⟩) ln c1) v2 v3) 90,Ent.row 4 1 (.slice (some ⟨w.heap.size+1,0,none⟩) m m) m (boolCells (flags m ((ms.take k').foldl (Za6 x c) 0)))] from
     ⟨k+1,by omega,by go_num,by rw[Hhsucc.out,h];exact HhSa.out.pick [0,1] (by decide)⟩))
   by_cases hl:l=c
   ·subst hl;cases hf:x.testBit f
    ·rw[hf] at cf;have Hhf:=qh hf;clear hf;have hst:=Hsame.out (Zdy (by simp[Hhf.out]));have Hhst:=qh hst;clear hst;go_wp2;go_roundw
     case rel=>exact Hhst.out
     case measure=>simp[intOf];omega
    rw[hf] at cf;have Hhf:=qh hf;clear hf;go_wp2;go_roundw
    case rel =>
     have hcm:Za6 x l C ((f:Int),l,(t:Int))=adj C t:=by unfold Za6;simp[Hhf.out]
     refine⟨k+1,by omega,by go_num,?_⟩;rw[Hhsucc.out.trans hcm,← Zgg];exact(HhSa.out.store 1 rfl t (.bool true)).pick [0,1] (by decide)
    case measure=>simp[intOf];omega
   have hst:=Hsame.out (Zdy (by simp[hl]));have hl1:(l==c)=false:=by simpa using hl
   have Hhst:=qh hst;clear hst;have Hhl:=qh hl;clear hl;go_wp2;go_roundw
   case rel=>exact Hhst.out
   case measure=>simp[intOf];omega
  have hkn:(ms.take k).foldl (Za6 x c) 0=ms.foldl (Za6 x c) 0:=by rw[List.take_of_length_le (by rw[← Hhln.out];omega)]
  have hCm:C<2 ^ m:=by rw[hC,hkn];exact hfm40.out
  have HM':=qh (H1.out.below hSi.bel);have HF:Hid (FlagsAt wr (.slice (some ⟨w.heap.size+1,0,none⟩) m m) m C):=qh ⟨_,_,_,rfl,hSi.row 1 rfl⟩;have d0:=hSi.cell (v:=.int .i64 n.states) 0 0 rfl rfl;have d2:=hSi.cell (v:=v2) 0 2 rfl rfl;have d3:=hSi.cell (v:=v3) 0 3 rfl rfl;replace hC:=qh hC;have Hhkn:=qh hkn;clear hkn;have HhSi:=qh hSi;clear hSi;have HhCm:=qh hCm;clear hCm;go_wp2_with fail;refine(Ze0 M hM n m C (.slice a1 ln c1) v2 v3 _ _ hm Hhmv2.out hml2.out HhCm.out HM'.out HF.out).mono ?_;rintro e w2 ⟨⟨g2,c2,rfl,hr2⟩,hb2⟩;have hS2:=HhSi.out.made hb2 hr2;have hVs:clV M n.moves C=stV M n.moves x c:=by rw[Hhst.out,hC.out,Hhkn.out,Hhms.out]
  have HhS2:=qh hS2;clear hS2;have HhVs:=qh hVs;clear hVs;clear hr2 hb2;go_wp2;go_ret;refine⟨⟨_,_,rfl,?_⟩,HhS2.out.bel⟩;rw[← HhVs.out];exact HhS2.out.row 2 rfl
def BoolSS (B:Nat) (w:World) (v:Value) (xss:List (List Bool)):Prop :=
 ∃ vs:List Value,Sl B w v xss.length 1 vs∧∀ i,i<xss.length→Bools B w (vs.getD i undef) (xss.getD i [])
theorem BoolSS.below {B:Nat} {w w':World} {v:Value} {xss:List (List Bool)} (h:BoolSS B w v xss) (he:Below w.heap.size w w'):BoolSS B w' v xss:=by obtain⟨vs,h1,h2⟩:=h;exact⟨vs,h1.below he,fun i hi=>(h2 i hi).below he⟩
theorem BoolSS.form {B:Nat} {w:World} {v:Value} {xss:List (List Bool)} (h:BoolSS B w v xss):∃ a cap,v = .slice a xss.length cap∧xss.length≤cap∧cap≤9223372036854775807 ∧
  (0<xss.length→∃ b off,a=some ⟨b,off,none⟩∧b<w.heap.size∧∀ i,i<xss.length→∃ a' cap',w.cell? ⟨b,off+i,none⟩=some (.slice a' (xss.getD i []).length cap')∧Bools B w (.slice a' (xss.getD i []).length cap') (xss.getD i [])):=by
 obtain⟨vs,⟨hl,a,cap,hv,h1,h2,h3⟩,hr⟩:=h;refine⟨a,cap,hv,h1,h2,fun hn => ?_⟩;obtain⟨b,off,ha,hb,hlt,hc⟩:=h3 hn;refine⟨b,off,ha,hlt,fun i hi => ?_⟩;obtain⟨a',cap',hv',-⟩:=(hr i hi).form;refine⟨a',cap',?_,?_⟩
 ·rw[hc i (by omega),← hv'];simp at hl;simp[show i<vs.length by omega]
 rw[← hv'];exact hr i hi
theorem St.boolSS {w0 w:World} {L:List Ent} (h:St w0 w L) (i:Nat) {es e:Nat} {v:Value} {vs:List Value} {xss:List (List Bool)} (hx:L[i]? = some (Ent.rows es e v vs (xss.map boolCells))):BoolSS 0 w v xss:=by
 obtain⟨p1,p2,-⟩:=h.rows i hx;rw[List.length_map] at p1 p2;refine⟨vs,((Zab p1).sl (by omega)).mono (Nat.zero_le _),fun i hi => ?_⟩;have:=p2 i hi;have e1:(xss.map boolCells).getD i []=boolCells (xss.getD i []):=by simp[hi]
 rw[e1] at this;have:=((Zab this).sl (by omega)).mono (Nat.zero_le _);simpa [Bools] using this
theorem St.bools {w0 w:World} {L:List Ent} (h:St w0 w L) (i:Nat) {e:Nat} {v:Value} {xs:List Bool} {n:Nat} (hx:L[i]? = some (Ent.row e 1 v n (boolCells xs))):Bools 0 w v xs:=by
 have hr:=h.row i hx;have e1:n=xs.length:=by have:=hr.1;simp at this;omega
 subst e1;exact((Zab hr).sl (by omega)).mono (Nat.zero_le _)
theorem St.intsR {w0 w:World} {L:List Ent} (h:St w0 w L) (i:Nat) {e:Nat} {v:Value} {xs:List Int} {n:Nat} (hx:L[i]? = some (Ent.row e 1 v n (intCells xs))):Ints 0 w v xs:=by
 have hr:=h.row i hx;have e1:n=xs.length:=by have:=hr.1;simp at this;omega
 subst e1;exact((Zab hr).sl (by omega)).mono (Nat.zero_le _)
theorem Zi3 {w:World} {B e n:Nat} {v:Value} {xs:List Bool} (hr:w.ownsRow B e 1 v n (boolCells xs)):Bools 0 w v xs:=by
 have e1:n=xs.length:=by have:=hr.1;simp at this;omega
 subst e1;exact((Zab hr).sl (by omega)).mono (Nat.zero_le _)
theorem ZaZ {w:World} {B e n:Nat} {v:Value} {xs:List Bool} (hr:w.ownsRow B e 1 v n (boolCells xs)):Bools B w v xs:=by
 have e1:n=xs.length:=by have:=hr.1;simp at this;omega
 subst e1;exact(Zab hr).sl (by omega)
theorem St.rowAt {w0 w:World} {L:List Ent} (h:St w0 w L) (i:Nat) {es e g n cap:Nat} {vs:List Value} {css:List (List Value)} (hx:L[i]? = some (Ent.rows es e (.slice (some ⟨g,0,none⟩) n cap) vs css)) (hn:css.length=n) {k:Nat} (hk:k<n) :
  ∃ a c,w.cell? ⟨g,k,none⟩=some (.slice a (css.getD k []).length c)∧w.ownsRow w0.heap.size e 1 (.slice a (css.getD k []).length c) (css.getD k []).length (css.getD k [])∧(css.getD k []).length≤c∧c≤9223372036854775807∧n≤cap∧cap≤9223372036854775807∧g<w.heap.size:=by
 obtain⟨p1,p2,-⟩:=h.rows i hx;subst hn;have hv:vs.length=css.length:=by have:=p1.1;omega
 have h2:=p2 k hk;have hc:=p1.cellAt k (by omega);have hgl:=(p1.lt g rfl).2
 obtain⟨a,c,hva,h3,h4⟩:∃ a c,vs.getD k undef = .slice a (css.getD k []).length c∧(css.getD k []).length≤c∧c≤9223372036854775807:=by
  rcases h2.2 with⟨h5,h6⟩|⟨g',cap',cur,h5,-,-,h6,h7,-⟩
  ·exact⟨none,0,by rw[h5,h6],by omega,by omega⟩
  exact⟨_,_,h5,h6,h7⟩
 rw[hva] at h2;refine⟨a,c,?_,h2,h3,h4,?_⟩
 ·rw[hc,← hva];simp[show k<vs.length by omega]
 rcases p1.2 with⟨h5,-⟩|⟨g',cap',cur,h5,-,-,h6,h7,-⟩
 ·cases h5
 simp only[Value.slice.injEq,true_and] at h5;obtain⟨-,rfl⟩:=h5;exact⟨h6,h7,hgl⟩
theorem ZkP (xs ys:List Bool) (n:Nat) (v1 v2:Value) (w:World) (hx:xs.length=n) (hy:ys.length=n) (h1:Bools 0 w v1 xs) (h2:Bools 0 w v2 ys) (r:Bool) (hr:decide (xs=ys)=r) :
  Calls Tryz.prog 179 #[v1,v2] w fun e w'=>e = .returned (.bool r)∧Below w.heap.size w w':=by
 obtain⟨a1,c1,rfl,hc1,hm1,hr1⟩:=h1.form;obtain⟨a2,c2,rfl,hc2,hm2,hr2⟩:=h2.form;rw[hx] at hc1 hr1;rw[hy] at hc2 hr2;rw[hx,hy];replace hx:=qh hx;have Hhy:=qh hy;clear hy;replace hr:=qh hr;clear h1 h2
 go_enter Tryz.func179, Tryz.ntmps179
 go_wp2
 go_loopw [4,5] (fun r i wr=>∃ k:Nat,k≤n∧i = .int .i64 k∧xs.take k=ys.take k∧Below w.heap.size w wr) (fun _ i _=>n-(intOf i).toNat)
 case atStart=>exact⟨0,Nat.zero_le _,rfl,rfl,Below.refl _ _⟩
 case round =>
  obtain⟨k,hk,rfl,htk,hb⟩:=hrel;have Hhtk:=qh htk;clear htk;by_cases hlt:k<n
  ·obtain⟨b1,o1,rfl,-,hbl1,hcs1⟩:=hr1 (by omega);obtain⟨b2,o2,rfl,-,hbl2,hcs2⟩:=hr2 (by omega);have k1:=(bcell hb b1 (o1+k) hbl1).trans (hcs1 k hlt);have k2:=(bcell hb b2 (o2+k) hbl2).trans (hcs2 k hlt);obtain⟨p,hp⟩:=eI (xs.getD k false);obtain⟨q,hq⟩:=eI (ys.getD k false);rw[← hp] at k1;rw[← hq] at k2;replace hp:=qh hp;have Hhq:=qh hq;clear hq;replace hb:=qh hb;clear hcs1 hcs2 hr1 hr2;by_cases hpq:p=q
   ·have g1:(p != q)=false:=by simpa using hpq
    have g2:(!(p==q))=false:=by simpa using hpq
    have Hhpq:=qh hpq;clear hpq;go_wp2
    go_quiet (fail)
    go_wp2;go_roundw
    case rel=>exact⟨k+1,by omega,by go_num,ZeU (d:=false) (by rw[hx.out];exact hlt) (by rw[Hhy.out];exact hlt) Hhtk.out (by rw[← hp.out,← Hhq.out];exact Hhpq.out),below_drewN hb.out _⟩
    case measure=>simp[intOf];omega
   have g1:(p != q)=true:=by simpa using hpq
   have g2:(!(p==q))=true:=by simpa using hpq
   have Hhpq:=qh hpq;clear hpq;go_wp2
   go_quiet (fail)
   go_wp2;go_ret;exact⟨by rw[← hr.out,decide_eq_false (Zg1 (k:=k) (d:=false) (by rw[← hp.out,← Hhq.out];exact Hhpq.out))];rfl,below_drewN hb.out _⟩
  obtain rfl:k=n:=by omega
  replace hb:=qh hb;clear hr1 hr2;go_wp2;go_ret;refine⟨?_,hb.out⟩;have h:=Hhtk.out;rw[List.take_of_length_le (by rw[hx.out];exact Nat.le_refl _),List.take_of_length_le (by rw[Hhy.out];exact Nat.le_refl _)] at h;rw[← hr.out,decide_eq_true h];rfl
def ZhX (S:List (List Bool)) (x:List Bool):Int:=if x∈S then(Zaj S x:Int) else -1
theorem Zke {S:List (List Bool)} {x:List Bool} {k:Nat} (hk:k<S.length) (hn:x ∉ S.take k) (h:S.getD k []=x):ZhX S x=(k:Int):=by
 have hm:x∈S:=by rw[← h];exact memD hk
 have hp:S.take k++[x] <+: S:=by rw[← h,show S.getD k []=S[k] from by simp[hk],← List.take_succ_eq_append_getElem hk];exact List.take_prefix _ _
 have hi:=Zfy hp hn;unfold ZhX;rw[if_pos hm,hi];simp;omega
theorem Zhc {S:List (List Bool)} {x:List Bool} (h:x ∉ S):ZhX S x = -1:=by unfold ZhX;rw[if_neg h]
theorem Zhl {α:Type} {S:List α} {k:Nat} (hk:k<S.length) (x:α) {d:α} (h:x∈S.take (k+1)):x∈S.take k∨x=S.getD k d:=by
 rw[List.take_succ_eq_append_getElem hk,List.mem_append,List.mem_singleton] at h;rcases h with h|h
 ·exact Or.inl h
 right;rw[h];simp[hk]
theorem ZkQ (S:List (List Bool)) (x:List Bool) (n:Nat) (v1 v2:Value) (w:World) (hS:∀ y∈S,y.length=n) (hx:x.length=n) (hl:S.length≤1000000) (h1:BoolSS 0 w v1 S) (h2:Bools 0 w v2 x) :
  Calls Tryz.prog 178 #[v1,v2] w fun e w'=>e = .returned (.int .i64 (ZhX S x))∧Below w.heap.size w w':=by
 obtain⟨a1,c1,rfl,hc1,hm1,hr1⟩:=h1.form;have H2:=qh h2;obtain⟨a2,c2,rfl,hc2,hm2,-⟩:=h2.form;replace hS:=qh hS;have Hhx:=qh hx;clear hx;clear h1 h2
 go_enter Tryz.func178, Tryz.ntmps178
 go_wp2
 go_loopw [4,5] (fun r i wr=>∃ k:Nat,k≤S.length∧i = .int .i64 k∧x ∉ S.take k∧Below w.heap.size w wr) (fun _ i _=>S.length-(intOf i).toNat)
 case atStart=>exact⟨0,Nat.zero_le _,rfl,by simp,Below.refl _ _⟩
 case round =>
  obtain⟨k,hk,rfl,htk,hb⟩:=hrel;have Hhtk:=qh htk;clear htk;by_cases hlt:k<S.length
  ·obtain⟨b1,o1,rfl,hbl1,hcs1⟩:=hr1 (by omega);obtain⟨a3,c3,k1,hrow⟩:=hcs1 k hlt;replace k1:=(bcell hb b1 (o1+k) hbl1).trans k1;have hrow':=hrow.below hb;have hyl:=hS.out _ (memD (d:=[]) hlt);have hin:=fun h=>Zhl (d:=[]) hlt x h
   obtain⟨y,hy⟩:=eI (S.getD k []);rw[← hy] at k1 hrow' hyl hin;have Hhrow':=qh hrow';clear hrow';have Hhyl:=qh hyl;clear hyl;have Hhin:=qh hin;clear hin;have Hhy:=qh hy;clear hy;have Hhb:=qh hb;clear hb;clear hcs1 hr1 hrow;cases hd:decide (y=x)
   all_goals
    have Hhd:=qh hd;clear hd;go_wp2_with fail;refine(ZkP y x n _ _ _ Hhyl.out Hhx.out Hhrow'.out (H2.out.below Hhb.out) _ Hhd.out).mono ?_;rintro e w2 ⟨rfl,hb2⟩;have hb3:=Hhb.out.trans (hb2.mono Hhb.out.size);have Hhb3:=qh hb3;clear hb3;clear hb2;go_wp2
   ·go_roundw
    case rel=>exact⟨k+1,by omega,by go_num,fun h=>by rcases Hhin.out h with h|h;exact Hhtk.out h;exact of_decide_eq_false Hhd.out h.symm,Hhb3.out⟩
    case measure=>simp[intOf];omega
   go_ret;exact⟨Zey (by rw[Zke hlt Hhtk.out (by rw[← Hhy.out];exact of_decide_eq_true Hhd.out)]),Hhb3.out⟩
  obtain rfl:k=S.length:=by omega
  have Hhb:=qh hb;clear hb;clear hr1;go_wp2;go_ret;refine⟨Zey (by rw[Zhc];have h:=Hhtk.out;rwa [List.take_length] at h),Hhb.out⟩
end Go.Proofs.YtfgpkadhegdffaaGreat
