/-
  Facts about automata with choices that are in order, and their rows in memory; appending a slice that may be empty.
  No condition.
-/
import Derived.Test.YtehmjmjedopkkaaGreatPn02Nm
set_option maxHeartbeats 4000000
set_option maxRecDepth 100000
namespace Go.Proofs.YtehmjmjedopkkaaGreat
open Go.RowKit Go.Maps
theorem Zhl {l:List Int} {m:Int} (h:stOk l m=true) {j:Nat} (hj:j<l.length):(0≤l.getD j 0∧l.getD j 0≤m-1)∧(0<j→l.getD (j-1) 0<l.getD j 0):=by
 unfold stOk at h;rw[List.all_eq_true] at h;have h1:=h j (List.mem_range.2 hj);unfold okAt at h1;rw[Bool.and_eq_true,Bool.or_eq_true] at h1;obtain⟨h1,h2⟩:=h1;refine⟨by simpa [inB] using h1,fun h0 => ?_⟩;rcases h2 with h2|h2
 ·have:=of_decide_eq_true h2;omega
 exact of_decide_eq_true h2
theorem ZlW {l:List Int} {m:Int} (h:stOk l m=true):∀ j,j<l.length→(j:Int)≤l.getD j 0
 | 0,hj=>(Zhl h hj).1.1
 | j+1,hj=>by have h1:=ZlW h j (by omega);have h2:=(Zhl h hj).2 (by omega);rw[Nat.add_sub_cancel] at h2;omega
theorem ZgO {l:List Int} {m:Nat} (h:stOk l (m:Int)=true):inN m l∧l.length≤m:=by
 refine⟨fun s hs => ?_,?_⟩
 ·obtain⟨j,hj,e⟩:=List.getElem_of_mem hs;have:=(Zhl h hj).1;rw[Za4 hj,e] at this;omega
 rcases Nat.eq_zero_or_pos l.length with h0|h0
 ·omega
 have h1:=ZlW h (l.length-1) (by omega);have h2:=(Zhl h (j:=l.length-1) (by omega)).1.2;omega
theorem Zc0 {n:NfaD} (h:Zhy n=true):∃ m:Nat,n.states=(m:Int)∧m≤40∧mvIn m n.moves∧n.moves.length≤400∧inN m n.firsts∧n.firsts.length≤40∧inN m n.ends∧n.ends.length≤40:=by
 unfold Zhy at h;simp only[Bool.and_eq_true] at h;obtain⟨⟨⟨⟨h1,h2⟩,h3⟩,h4⟩,h5⟩:=h;have h1:0≤n.states∧n.states≤40:=by simpa [inB] using h1
 obtain⟨m,hm⟩:=Int.eq_ofNat_of_zero_le h1.1;rw[hm] at h3 h4 h5;have f3:=ZgO h3;have f4:=ZgO h4;refine⟨m,hm,by omega,fun x hx => ?_,of_decide_eq_true h2,f3.1,by omega,f4.1,by omega⟩;rw[List.all_eq_true] at h5;have:=h5 x hx;unfold mvOk at this;simp only[Bool.and_eq_true,inB,decide_eq_true_eq] at this;omega
def eds (d:DfaD):Nat→List Int
 | 0=>[]
 | s+1=>if d.ends.getD s false=true then eds d s++[(s:Int)] else eds d s
theorem Zcz (d:DfaD):∀ s,(eds d s).length≤s
 | 0=>Nat.le_refl _
 | s+1=>by
  have ih:=Zcz d s;unfold eds
  split
  ·rw[List.length_append,List.length_singleton];omega
  omega
theorem Zav (l:List Int) (x:Int):intCells (l++[x])=intCells l++[.int .i64 x]:=by simp[intCells]
theorem Zbf {k:IntKind} {x:Int}:∀ u∈[Value.int k x],u.oneCell'=true:=by intro u hu;simp only[List.mem_singleton] at hu;subst hu;rfl
def RNfaS (n:NfaD) (w:World) (e:Ending) (w':World):Prop:=∃ a1 c1 a2 c2 a3 c3,e = .returned (.agg #[.int .i64 n.states,.slice a1 n.moves.length c1,.slice a2 n.firsts.length c2,.slice a3 n.ends.length c3]) ∧
 St w w' [Ent.row 122 3 (.slice a1 n.moves.length c1) n.moves.length (n.moves.flatMap Zac),Ent.row 3 1 (.slice a2 n.firsts.length c2) n.firsts.length (intCells n.firsts),Ent.row 3 1 (.slice a3 n.ends.length c3) n.ends.length (intCells n.ends)]
theorem Zcr {w:World} {B e:Nat} {v:Value} {xs:List (Int × Int × Int)} (hr:w.ownsRow B e 3 v xs.length (xs.flatMap Zac)):Moves 0 w v xs :=
 ((Zaa hr).sl (by omega)).mono (Nat.zero_le _)
theorem Zdi {w:World} {B e:Nat} {v:Value} {xs:List Int} (hr:w.ownsRow B e 1 v xs.length (intCells xs)):Ints 0 w v xs :=
 ((Zaa hr).sl (by omega)).mono (Nat.zero_le _)
theorem St.moves {w0 w:World} {L:List Ent} (h:St w0 w L) (i:Nat) {e:Nat} {v:Value} {xs:List (Int × Int × Int)} (hx:L[i]? = some (Ent.row e 3 v xs.length (xs.flatMap Zac))):Moves 0 w v xs:=Zcr (h.row i hx)
theorem Tryz.infoMv:(Tryz.prog.info? 122).map (fun i=>(i.zero,i.size,i.bytes))=some (some (.agg #[.int .i64 0,.int .i64 0,.int .i64 0]),3,24):=by kernel_rfl
theorem ZdD {s c x:Int}:∀ u∈[Value.int .i64 s,Value.int .i64 c,Value.int .i64 x],u.oneCell'=true:=by intro u hu;simp at hu;rcases hu with rfl|rfl|rfl<;>rfl
theorem Zce (xs:List (Int × Int × Int)) (s c x:Int):(xs++[(s,c,x)]).flatMap Zac=xs.flatMap Zac++[.int .i64 s,.int .i64 c,.int .i64 x]:=by simp[Zac]
end Go.Proofs.YtehmjmjedopkkaaGreat
namespace Go.Proofs.YtehmjmjedopkkaaGreat
open Go.RowKit
section
variable {P:Program} (w:World)
theorem ZfI {w:World} {base e size n:Nat} {v:Value} {xs:List Value} (h:w.ownsRow base e size v n xs):∃ a cap,v = .slice a n cap∧n≤cap:=by
 rcases h.2 with⟨h1,h2⟩|⟨g',cap',cur,h1,-,-,h4,-⟩
 ·exact⟨none,0,by rw[h1,h2],by omega⟩
 exact⟨_,cap',h1,h4⟩
theorem Zhq (t ty:TypeId) (base:Nat) (e:TypeId) (i:TypeInfo) (z:Value) (size bytes:Nat) (ht:P.underlying t=some (.slice e)) (hi:P.info? e=some i) (hz:i.zero=some z)
  (hsize:i.size=size) (hby:i.bytes=bytes) (hzs:z.cells.size=size) (hsz:0<size)
  (v:Value) (n:Nat) (xs:List Value) (hown:w.ownsRow base e size v n xs) (x:Value) (m:Nat) (news:List Value) (hx:Sl 0 w x m size news) (h1:∀ u∈news,u.oneCell'=true)
  (h63:n+m≤maxLen) (hbytes:(n+m)*bytes≤140737488355328) (hbase:base≤w.heap.size) :
  ∃ a' cap w',(Builtin.append_ #[t,t] ty #[v,x]).run P w = .ok (.slice a' (n+m) cap) w'∧w'.ownsRow base e size (.slice a' (n+m) cap) (n+m) (xs++news)∧w.grownBy w' v.ownBlock ∧
   (∀ k,(Value.slice a' (n+m) cap).ownBlock=some k→v.ownBlock=some k∨w.heap.size≤k):=by
 obtain⟨hl,a,cap,rfl,hle,hm,hc⟩:=hx;cases a with
 | some ad =>
  have hnews:∀ j u,news[j]? = some u→w.cell? (ad.add j)=some u:=fun j u hj=>by
   have hjl:=(List.getElem?_eq_some_iff.1 hj).1
   have hm0:0<m:=by
    rcases Nat.eq_zero_or_pos m with h0|h0
    ·rw[h0] at hl;omega
    exact h0
   obtain⟨b,off,ha,-,-,hcs⟩:=hc hm0;simp only[Option.some.injEq] at ha;subst ha;rw[← hj,← hcs j (by omega),← Go.WideShapes.add_plain]
  obtain⟨v',w',hr,h2,h3,-,h5⟩:=run_append_own_at (P:=P) w base t ty e i z size bytes ht hi hz hsize hby hzs hsz v n xs hown ad m cap news hl hnews h1 h63 hbytes hbase;obtain⟨a',cap',rfl,-⟩:=ZfI h2;refine⟨a',cap',w',hr,h2,h3,fun k hk => ?_⟩;rcases h5 with h5|h5
  ·exact Or.inl (by rw[← h5];exact hk)
  rw[h5] at hk;exact Or.inr (by simp only[Option.some.injEq] at hk;omega)
 | none =>
  have hm0:m=0:=by
   rcases Nat.eq_zero_or_pos m with h0|h0
   ·exact h0
   obtain⟨b,off,ha,-⟩:=hc h0;cases ha
  subst hm0;have hnil:news=[]:=List.eq_nil_of_length_eq_zero (by omega);subst hnil;obtain⟨a',cap',rfl,hlc⟩:=ZfI hown;subst hsize;refine⟨a',cap',w,run_append_nothing w t t ty e i ht hi a' n cap' hlc _ (Src.ofNil w ht cap),by simpa using hown,⟨rfl,rfl,rfl,Nat.le_refl _,fun _ _ _=>rfl⟩,fun k hk=>Or.inl hk⟩
theorem ZeN {o:Oper} {a:Act} {K:Act→World→Prop} {Q:Exit→Act→World→Prop} (s x:Operand) (t:TypeId)
  (ho:o.op = .call { callee:=.builtin .append,args:=#[s,x],argTypes:=#[t,t] })
  (base:Nat) (e:TypeId) (i:TypeInfo) (z:Value) (size bytes:Nat) (ht:P.underlying t=some (.slice e)) (hi:P.info? e=some i) (hz:i.zero=some z)
  (hsize:i.size=size) (hby:i.bytes=bytes) (hzs:z.cells.size=size) (hsz:0<size)
  (v:Value) (n:Nat) (xs:List Value) (hs:a.eval s=v) (hown:w.ownsRow base e size v n xs)
  (y:Value) (m:Nat) (news:List Value) (hy:a.eval x=y) (hx:Sl 0 w y m size news) (h1:∀ u∈news,u.oneCell'=true)
  (h63:n+m≤maxLen) (hbytes:(n+m)*bytes≤140737488355328) (hbase:base≤w.heap.size)
  (h:∀ a' cap w',w'.ownsRow base e size (.slice a' (n+m) cap) (n+m) (xs++news)→w.grownBy w' v.ownBlock→(∀ k,(Value.slice a' (n+m) cap).ownBlock=some k→v.ownBlock=some k∨w.heap.size≤k)→K (a.put o.dst (.slice a' (n+m) cap)) w'):o.wp P a w K Q:=by
 obtain⟨a',cap,w',hr,h2,h3,h4⟩:=Zhq (P:=P) w t o.type base e i z size bytes ht hi hz hsize hby hzs hsz v n xs hown y m news hx h1 h63 hbytes hbase;unfold Oper.wp execOp;simp only[ho,resolve,invoke,builtin,Sem.run_bind,Sem.run_pure,Result.andThen_ok,List.map_toArray,List.map_cons,List.map_nil,hs,hy,hr];exact h a' cap w' h2 h3 h4
theorem Zaj {ops:Array Oper} {rest:List Oper} {o:Oper} {a:Act} {Q:Exit→Act→World→Prop} (hgd:o.guard=none) (s x:Operand) (t:TypeId)
  (ho:o.op = .call { callee:=.builtin .append,args:=#[s,x],argTypes:=#[t,t] })
  (base:Nat) (e:TypeId) (i:TypeInfo) (z:Value) (size bytes:Nat) (ht:P.underlying t=some (.slice e)) (hi:P.info? e=some i) (hz:i.zero=some z)
  (hsize:i.size=size) (hby:i.bytes=bytes) (hzs:z.cells.size=size) (hsz:0<size)
  (v:Value) (n:Nat) (xs:List Value) (hs:a.eval s=v) (hown:w.ownsRow base e size v n xs)
  (y:Value) (m:Nat) (news:List Value) (hy:a.eval x=y) (hx:Sl 0 w y m size news) (h1:∀ u∈news,u.oneCell'=true)
  (h63:n+m≤maxLen) (hbytes:(n+m)*bytes≤140737488355328) (hbase:base≤w.heap.size)
  (h:∀ a' cap w',w'.ownsRow base e size (.slice a' (n+m) cap) (n+m) (xs++news)→w.grownBy w' v.ownBlock→(∀ k,(Value.slice a' (n+m) cap).ownBlock=some k→v.ownBlock=some k∨w.heap.size≤k)→wpList P ops Q rest (a.put o.dst (.slice a' (n+m) cap)) w'):wpList P ops Q (o::rest) a w :=
 wpList_plain hgd fun _ hK=>ZeN w s x t ho base e i z size bytes ht hi hz hsize hby hzs hsz v n xs hs hown y m news hy hx h1 h63 hbytes hbase fun a' cap w' h2 h3 h4=>hK _ _ (h a' cap w' h2 h3 h4)
theorem Zbg {ops:Array Oper} {o:Oper} {a:Act} {K:Act→World→Prop} {Q:Exit→Act→World→Prop} {E:Prop} (hgd:o.guard=none) (s x:Operand) (t:TypeId)
  (ho:o.op = .call { callee:=.builtin .append,args:=#[s,x],argTypes:=#[t,t] })
  (base:Nat) (e:TypeId) (i:TypeInfo) (z:Value) (size bytes:Nat) (ht:P.underlying t=some (.slice e)) (hi:P.info? e=some i) (hz:i.zero=some z)
  (hsize:i.size=size) (hby:i.bytes=bytes) (hzs:z.cells.size=size) (hsz:0<size)
  (v:Value) (n:Nat) (xs:List Value) (hs:a.eval s=v) (hown:w.ownsRow base e size v n xs)
  (y:Value) (m:Nat) (news:List Value) (hy:a.eval x=y) (hx:Sl 0 w y m size news) (h1:∀ u∈news,u.oneCell'=true)
  (h63:n+m≤maxLen) (hbytes:(n+m)*bytes≤140737488355328) (hbase:base≤w.heap.size)
  (h:∀ a' cap w',w'.ownsRow base e size (.slice a' (n+m) cap) (n+m) (xs++news)→w.grownBy w' v.ownBlock→(∀ k,(Value.slice a' (n+m) cap).ownBlock=some k→v.ownBlock=some k∨w.heap.size≤k)→K (a.put o.dst (.slice a' (n+m) cap)) w') :
  if Region.wanted o (yielded ops a.tmps)=true then Oper.wp P o a w K Q else E:=by
 have hw:Region.wanted o (yielded ops a.tmps)=true:=by simp[Region.wanted,hgd]
 rw[if_pos hw];exact ZeN w s x t ho base e i z size bytes ht hi hz hsize hby hzs hsz v n xs hs hown y m news hy hx h1 h63 hbytes hbase h
end
theorem ZoD {x:ByteArray}:∀ u∈[Value.string x],u.oneCell'=true:=by simp[Value.oneCell']
theorem on_i {k:IntKind} {x:Int}:∀ u∈[Value.int k x],u.oneCell'=true:=by simp[Value.oneCell']
theorem Zor (l:List Bool) (x:Bool):boolCells (l++[x])=boolCells l++[.bool x]:=by simp[boolCells]
theorem ZmL (l:List Int) (x:Int):intCells (l++[x])=intCells l++[.int .i64 x]:=by simp[intCells]
theorem ZpE {xs:List Int}:∀ u∈intCells xs,u.oneCell'=true:=fun u hu=>by obtain⟨x,-,rfl⟩:=List.mem_map.1 hu;simp[Value.oneCell']
theorem Zpp {xs:List (Int × Int × Int)}:∀ u∈xs.flatMap Zac,u.oneCell'=true:=fun u hu=>by obtain⟨x,-,hx⟩:=List.mem_flatMap.1 hu;simp only[Zac,List.mem_cons,List.not_mem_nil,or_false] at hx;rcases hx with rfl|rfl|rfl<;>simp[Value.oneCell']
theorem ZcE {xs:List (Int × Int)}:∀ u∈xs.flatMap Zab,u.oneCell'=true:=fun u hu=>by obtain⟨x,-,hx⟩:=List.mem_flatMap.1 hu;simp only[Zab,List.mem_cons,List.not_mem_nil,or_false] at hx;rcases hx with rfl|rfl<;>simp[Value.oneCell']
theorem St.appS {w0 w w':World} {L:List Ent} (h:St w0 w L) (i:Nat) {B e size n m cap:Nat} {a':Option Addr} {v:Value} {cs cs':List Value} (hx:L[i]? = some (Ent.row e size v n cs)) (hown:w'.ownsRow B e size (.slice a' m cap) m cs') (hg:w.grownBy w' v.ownBlock)
  (hat:∀ k,(Value.slice a' m cap).ownBlock=some k→v.ownBlock=some k∨w.heap.size≤k):St w0 w' (L.set i (Ent.row e size (.slice a' m cap) m cs')):=h.grow i hx hg hown hat
end Go.Proofs.YtehmjmjedopkkaaGreat
namespace Go.Proofs.YtehmjmjedopkkaaGreat
open Go.RowKit Go.Maps
def fitI (x:Int):Prop:=-9223372036854775808≤x∧x≤9223372036854775807
theorem Zku {x:Int} (h:fitI x):(Lit.int .i64 x).wf=true:=WalkArith.wf_i64 h
theorem Tryz.laidOut:laidOutB Tryz.prog=true:=by kernel_rfl
theorem ZeG:5+1≤10000:=by omega
def ZaM (p:Int × Int):Value:=.agg #[.int .i64 p.1,.int .i64 p.2]
theorem Zbt:∀ x y:Int × Int,ZaM x=ZaM y→x=y:=by rintro⟨a,b⟩ ⟨c,d⟩ h;simp only[ZaM,Value.agg.injEq] at h;have h1:=congrArg (fun (l:Array Value)=>l[0]?) h;have h2:=congrArg (fun (l:Array Value)=>l[1]?) h;simp at h1 h2;rw[h1,h2]
theorem Zf0 {P:Program} {t:TypeId} {D:Nat} {x:Int} (ht:P.underlying t=some (.int .i64)) (hx:fitI x):P.keyLits (D+1) t [.int .i64 x]=some [.int .i64 x]:=by unfold Program.keyLits;rw[ht];simp[Zku hx]
end Go.Proofs.YtehmjmjedopkkaaGreat
namespace Go.Proofs.YtehmjmjedopkkaaGreat
open Go.RowKit Go.Maps
theorem ZfZ {P:Program} {t:TypeId} {D:Nat} {q:IntKind} {x:Int} (ht:P.underlying t=some (.int q)) (hx:(Lit.int q x).wf=true):P.keyLits (D+1) t [.int q x]=some [.int q x]:=by unfold Program.keyLits;rw[ht];simp[hx]
theorem ZiJ {P:Program} {t e:TypeId} {q:IntKind} (hu:P.underlying t=some (.array 2 e)) (he:P.underlying e=some (.int q)) (hk:P.keyType t=true) (hc:P.cellsOf t=2) (hce:P.cellsOf e=1) (hrow:t<P.types.size)
  (x y:Int) (hx:(Lit.int q x).wf=true) (hy:(Lit.int q y).wf=true):∃ l,keyOf P t (.agg #[.int q x,.int q y])=some l:=by
 have hfm:(Value.agg #[.int q x,.int q y]).formed P t=true:=by simp[Value.formed,hu,hc]
 obtain⟨n,hn⟩:∃ n,P.types.size=n+1:=⟨P.types.size-1,(Nat.succ_pred_eq_of_pos (Nat.lt_of_le_of_lt (Nat.zero_le _) hrow)).symm⟩;have e1:=ZfZ (D:=n) he hx;have e2:=ZfZ (D:=n) he hy;have hlits:P.keyLits (P.types.size+1) t (Value.agg #[.int q x,.int q y]).cells.toList=some [.int q x,.int q y]:=by rw[hn];show P.keyLits (n+1+1) t [.int q x,.int q y]=_;unfold Program.keyLits;rw[hu];simp[hc,hce,List.range_succ,e1,e2]
 exact⟨_,by unfold keyOf;rw[hu];simp only[hk,hfm,Bool.and_self,if_true,hlits];rfl⟩
theorem Zpi {q:IntKind}:∀ x y:Int × Int,(Value.agg #[.int q x.1,.int q x.2]) = .agg #[.int q y.1,.int q y.2]→x=y:=by rintro⟨a,b⟩ ⟨c,d⟩ h;simp only[Value.agg.injEq] at h;have h1:=congrArg (fun (l:Array Value)=>l[0]?) h;have h2:=congrArg (fun (l:Array Value)=>l[1]?) h;simp at h1 h2;rw[h1,h2]
theorem Tryz.rowPr:(170:TypeId)<Tryz.prog.types.size:=of_decide_eq_true (by kernel_rfl)
theorem Tryz.widePr:(match Tryz.prog.underlying 170 with|some (.array _ _)|some (.struct _)=>true|_=>false)=true:=by kernel_rfl
theorem Tryz.keyPr:Tryz.prog.keyType 170 = true:=by kernel_rfl
theorem Tryz.keyAtPr:Tryz.prog.keyTypeAt 5 170 = true:=by kernel_rfl
theorem Tryz.cellsPr:Tryz.prog.cellsOf 170 = 2:=by kernel_rfl
theorem Tryz.cellsInt:Tryz.prog.cellsOf 3 = 1:=by kernel_rfl
theorem Tryz.kindPr:Tryz.prog.underlying 170 = some (.array 2 3):=by kernel_rfl
theorem Tryz.lawPr:Keyed Tryz.prog 170:=Keyed.of_law (deep_law_laid Tryz.laidOut ZeG Tryz.rowPr Tryz.keyAtPr Tryz.widePr)
theorem Tryz.keyOfPr (p:Int × Int) (h1:fitI p.1) (h2:fitI p.2):∃ l,keyOf Tryz.prog 170 (ZaM p)=some l :=
 ZiJ Tryz.kindPr Tryz.underlying3 Tryz.keyPr Tryz.cellsPr Tryz.cellsInt Tryz.rowPr _ _ (Zku h1) (Zku h2)
end Go.Proofs.YtehmjmjedopkkaaGreat
namespace Go.Proofs.YtehmjmjedopkkaaGreat
open Go.RowKit Go.Maps
def fitU (x:Int):Prop:=0≤x∧x≤18446744073709551615
theorem Zm1 {x:Int} (h:fitU x):(Lit.int .u64 x).wf=true:=WalkArith.wf_u64 h
def Zcj (p:Int × Int):Value:=.agg #[.int .u64 p.1,.int .u64 p.2]
theorem Zb9:∀ x y:Int × Int,Zcj x=Zcj y→x=y:=Zpi
def Za9 (p:Int × Int):List Value:=[.int .u64 p.1,.int .u64 p.2]
def ZpH (e lo hi:Nat) (w:World) (v:Value) (xs:List (Int × Int)):Prop:=Own lo hi w e 2 v xs.length (xs.flatMap Za9)
theorem Tryz.rowSet:(151:TypeId)<Tryz.prog.types.size:=of_decide_eq_true (by kernel_rfl)
theorem Tryz.wideSet:(match Tryz.prog.underlying 151 with|some (.array _ _)|some (.struct _)=>true|_=>false)=true:=by kernel_rfl
theorem Tryz.keySet:Tryz.prog.keyType 151 = true:=by kernel_rfl
theorem Tryz.keyAtSet:Tryz.prog.keyTypeAt 5 151 = true:=by kernel_rfl
theorem Tryz.cellsSet:Tryz.prog.cellsOf 151 = 2:=by kernel_rfl
theorem Tryz.cellsU64:Tryz.prog.cellsOf 149 = 1:=by kernel_rfl
theorem Tryz.kindSet:Tryz.prog.underlying 151 = some (.array 2 149):=by kernel_rfl
theorem Tryz.lawSet:Keyed Tryz.prog 151:=Keyed.of_law (deep_law_laid Tryz.laidOut ZeG Tryz.rowSet Tryz.keyAtSet Tryz.wideSet)
theorem Tryz.keyOfSet (p:Int × Int) (h1:fitU p.1) (h2:fitU p.2):∃ l,keyOf Tryz.prog 151 (Zcj p)=some l :=
 ZiJ Tryz.kindSet Tryz.underlying149 Tryz.keySet Tryz.cellsSet Tryz.cellsU64 Tryz.rowSet _ _ (Zm1 h1) (Zm1 h2)
end Go.Proofs.YtehmjmjedopkkaaGreat
namespace Go.Proofs.YtehmjmjedopkkaaGreat
open Go.RowKit
theorem Tryz.infoInt:(Tryz.prog.info? 3).map (fun i=>(i.zero,i.size,i.bytes))=some (some (.int .i64 0),1,8):=by kernel_rfl
theorem Tryz.infoBool:(Tryz.prog.info? 4).map (fun i=>(i.zero,i.size,i.bytes))=some (some (.bool false),1,1):=by kernel_rfl
theorem Tryz.infoInts:(Tryz.prog.info? 59).map (fun i=>(i.zero,i.size,i.bytes))=some (some (.slice none 0 0),1,24):=by kernel_rfl
theorem ZcO {xs:List Value} {n k:Nat} {cs:List Value} {u:Value} (hl:cs.length=n) (hx:xs.length=n) (hk:k<n) (h:cs.take k=xs.take k) (hu:xs[k]? = some u) :
  (cs.set k u).take (k+1)=xs.take (k+1):=by
 apply List.ext_getElem?;intro j;rw[List.getElem?_take,List.getElem?_take];by_cases hj:j<k+1
 ·rw[if_pos hj,if_pos hj,List.getElem?_set];by_cases he:k=j
  ·subst he;rw[if_pos rfl,if_pos (by omega),hu]
  rw[if_neg he];have:=congrArg (fun l=>l[j]?) h;simpa [List.getElem?_take,show j<k by omega] using this
 rw[if_neg hj,if_neg hj]
def small (d:DfaD):Prop:=d.next.length≤1048576∧(∀ i,i<d.next.length→(d.next.getD i []).length≤1048576)∧d.ends.length≤1048576
end Go.Proofs.YtehmjmjedopkkaaGreat
namespace Go.Proofs.YtehmjmjedopkkaaGreat
open Go.RowKit Go.Maps
section
variable {α:Type}
structure ExW (kt sz:Nat) (enc:α→Value) (cel:α→List Value) (B B1 B2 B4 hi:Nat) (w:World) (met:List α) (rows:List (List Int)) (ends:List Bool) (vm vn ve:Value):Prop where
 m:w.ownsRow B kt sz vm met.length (met.flatMap cel)
 n:MapL Tryz.prog kt enc w B2 (numbered met)
 r:Bx w B1 #[.slice none 0 0,.slice none 0 0] 32
 d:Bx w B4 #[vn,ve] 32
 nx:OIntSS 59 3 B hi w vn rows
 en:w.ownsRow B 4 1 ve ends.length (boolCells ends)
 ne:B1≠B4
variable {kt sz B B1 B2 B4 hi:Nat} {enc:α→Value} {cel:α→List Value} {w w':World} {met:List α} {rows:List (List Int)} {ends:List Bool} {vm vn ve:Value}
theorem ExW.below (h:ExW kt sz enc cel B B1 B2 B4 hi w met rows ends vm vn ve) (hb:Below w.heap.size w w'):ExW kt sz enc cel B B1 B2 B4 hi w' met rows ends vm vn ve :=
 ⟨(Own.below (Zaa h.m) hb).1,h.n.below hb,h.r.below hb h.r.lt,h.d.below hb h.d.lt,h.nx.below hb,(Own.below (Zaa h.en) hb).1,h.ne⟩
theorem ExW.up {hi':Nat} (h:ExW kt sz enc cel B B1 B2 B4 hi w met rows ends vm vn ve) (hh:hi≤hi'):ExW kt sz enc cel B B1 B2 B4 hi' w met rows ends vm vn ve :=
 ⟨h.m,h.n,h.r,h.d,h.nx.mono (Nat.le_refl _) hh,h.en,h.ne⟩
def Own4 (kt:Nat):Prop:=kt ≠ 3 ∧ kt ≠ 59 ∧ kt ≠ 4 ∧ kt ≠ 32
theorem ExW.newState (hk:Own4 kt) (h:ExW kt sz enc cel B B1 B2 B4 hi w met rows ends vm vn ve) {x:α} {w1 w2 w3:World} {vm':Value} (hn:MapL Tryz.prog kt enc w1 B2 (numbered (met++[x]))) (hg1:w.grownBy w1 (some B2))
  (hb:Below w1.heap.size w1 w2) (hown:w3.ownsRow B kt sz vm' (met.length+1) (met.flatMap cel++cel x)) (hg2:w2.grownBy w3 vm.ownBlock) :
  ExW kt sz enc cel B B1 B2 B4 hi w3 (met++[x]) rows ends vm' vn ve:=by
 obtain⟨k1,k2,k3,k4⟩:=hk;have a:∀ e,ZbZ w (some B2) e:=fun e=>h.n.apart
 have m2:w2.ownsRow B kt sz vm met.length (met.flatMap cel):=(Own.below (Zaa (Zag h.m hg1 (a _))) hb).1;have b:∀ e,kt≠e→ZbZ w2 vm.ownBlock e:=fun e he=>Zal m2 he
 refine⟨?_,(hn.below hb).grown hg2 (Zb5 m2),?_,?_,?_,?_,h.ne⟩
 ·simpa using hown
 ·have r1:=h.r.grown hg1 (a _);exact(r1.below hb r1.lt).grown hg2 (b _ k4)
 ·have r1:=h.d.grown hg1 (a _);exact(r1.below hb r1.lt).grown hg2 (b _ k4)
 ·exact((h.nx.grown hg1 (a _) (a _)).below hb).grown hg2 (b _ k2) (b _ k1)
 exact Zag (Own.below (Zaa (Zag h.en hg1 (a _))) hb).1 hg2 (b _ k3)
theorem ExW.setRow (hk:Own4 kt) (h:ExW kt sz enc cel B B1 B2 B4 hi w met rows ends vm vn ve) {R n:Nat} {cs:List Value} (hR:hi≤R) {base:Nat} (hrow:w.ownsRow base 3 1 (.slice (some ⟨R,0,none⟩) n n) n cs) (j:Nat) (v:Value) :
  ExW kt sz enc cel B B1 B2 B4 hi (w.setCell ⟨R,j,none⟩ v) met rows ends vm vn ve:=by
 obtain⟨k1,k2,k3,k4⟩:=hk;have hg:=ZaF w R j v;have a:∀ e,3 ≠ e→ZbZ w (some R) e:=fun e he=>Zal (v:=.slice (some ⟨R,0,none⟩) n n) hrow he
 have c:Zfr w (some R):=Zb5 (v:=.slice (some ⟨R,0,none⟩) n n) hrow;exact⟨Zag h.m hg (a _ (Ne.symm k1)),h.n.grown hg c,h.r.grown hg (a _ (by decide)),h.d.grown hg (a _ (by decide)),h.nx.far hR j v,Zag h.en hg (a _ (by decide)),h.ne⟩
theorem Zj7 {w1 w2 w3:World} {R n base e:Nat} {cs:List Value} {vm:Value} {b2 mb:Nat} {ms:List Value} (hrow:w.ownsRow base e 1 (.slice (some ⟨R,0,none⟩) n n) n cs) (hne:kt≠e)
  (hm2:w2.ownsRow mb kt sz vm b2 ms) (ha:ZbZ w (some B2) e) (hg1:w.grownBy w1 (some B2)) (hb:Below w1.heap.size w1 w2) (hg2:w2.grownBy w3 vm.ownBlock):w3.ownsRow base e 1 (.slice (some ⟨R,0,none⟩) n n) n cs :=
 Zag (Own.below (Zaa (Zag hrow hg1 ha)) hb).1 hg2 (Zal hm2 hne)
theorem ExW.addRow (hk:Own4 kt) (h:ExW kt sz enc cel B B1 B2 B4 hi w met rows ends vm vn ve) {vs:List Value} {rv vn':Value} {x:List Int} {w3:World} {lr:Nat}
  (h1:Own B hi w 59 1 vn rows.length vs) (h2:∀ i,i<rows.length→OInts 3 B hi w (vs.getD i undef) (rows.getD i []))
  (h3:∀ i j k,i<j→j<rows.length→(vs.getD i undef).ownBlock=some k→(vs.getD j undef).ownBlock≠some k)
  (hrow:OInts 3 lr w.heap.size w rv x) (hlr:hi≤lr) (hlo:B≤lr) (hg:w.grownBy w3 vn.ownBlock) (hown:w3.ownsRow B 59 1 vn' (rows.length+1) (vs++[rv])) :
  ExW kt sz enc cel B B1 B2 B4 w3.heap.size (w3.setCell ⟨B4,0,none⟩ vn') met (rows++[x]) ends vm vn' ve:=by
 obtain⟨k1,k2,k3,k4⟩:=hk;have a:∀ e,59 ≠ e→ZbZ w vn.ownBlock e:=fun e he=>Zal h1.1 he
 have d3:Bx w3 B4 #[vn,ve] 32:=h.d.grown hg (a _ (by decide));have hg4:=ZaF w3 B4 0 vn';have b:∀ e,32 ≠ e→ZbZ w3 (some B4) e:=fun e he=>d3.apart he
 have r3:Bx w3 B1 #[.slice none 0 0,.slice none 0 0] 32:=h.r.grown hg (a _ (by decide));have n4:MapL Tryz.prog kt enc (w3.setCell ⟨B4,0,none⟩ vn') B2 (numbered met):=(h.n.grown hg (Zb5 h1.1)).grown hg4 d3.cells;refine⟨Zag (Zag h.m hg (a _ (Ne.symm k2))) hg4 (b _ (Ne.symm k4)),n4,?_,d3.set 0 vn',?_,Zag (Zag h.en hg (a _ (by decide))) hg4 (b _ (by decide)),h.ne⟩
 ·exact r3.set_ne _ _ h.ne
 exact(OIntSS.snoc h1 h2 h3 hrow hlr hlo (by decide) hg hown).grown hg4 (b _ (by decide)) (b _ (by decide))
theorem ExW.addEnd (hk:Own4 kt) (h:ExW kt sz enc cel B B1 B2 B4 hi w met rows ends vm vn ve) {w3:World} {ve':Value} {e:Bool} (hg:w.grownBy w3 ve.ownBlock) (hown:w3.ownsRow B 4 1 ve' (ends.length+1) (boolCells ends++[.bool e])) :
  ExW kt sz enc cel B B1 B2 B4 hi (w3.setCell ⟨B4,1,none⟩ ve') met rows (ends++[e]) vm vn ve':=by
 obtain⟨k1,k2,k3,k4⟩:=hk;have a:∀ t,4 ≠ t→ZbZ w ve.ownBlock t:=fun t ht=>Zal h.en ht
 have d3:Bx w3 B4 #[vn,ve] 32:=h.d.grown hg (a _ (by decide));have hg4:=ZaF w3 B4 1 ve';have b:∀ t,32 ≠ t→ZbZ w3 (some B4) t:=fun t ht=>d3.apart ht
 have r3:Bx w3 B1 #[.slice none 0 0,.slice none 0 0] 32:=h.r.grown hg (a _ (by decide));have n4:MapL Tryz.prog kt enc (w3.setCell ⟨B4,1,none⟩ ve') B2 (numbered met):=(h.n.grown hg (Zb5 h.en)).grown hg4 d3.cells;refine⟨Zag (Zag h.m hg (a _ (Ne.symm k3))) hg4 (b _ (Ne.symm k4)),n4,r3.set_ne _ _ h.ne,d3.set 1 ve',(h.nx.grown hg (a _ (by decide)) (a _ (by decide))).grown hg4 (b _ (by decide)) (b _ (by decide)),?_,h.ne⟩;refine Zag ?_ hg4 (b _ (by decide));simpa using hown
end
end Go.Proofs.YtehmjmjedopkkaaGreat
namespace Go.Proofs.YtehmjmjedopkkaaGreat
open Go.RowKit
structure Touch (e lo hi:Nat) (w w':World):Prop where
 os:w'.os=w.os
 tape:w'.tape=w.tape
 output:w'.output=w.output
 size:w.heap.size≤w'.heap.size
 block:∀ k,k<w.heap.size→((k<lo∨hi≤k)∨∀ cur fr,w.heap[k]? ≠ some (.cells cur e fr))→w'.heap[k]? = w.heap[k]?
theorem Touch.refl (e lo hi:Nat) (w:World):Touch e lo hi w w:=⟨rfl,rfl,rfl,Nat.le_refl _,fun _ _ _=>rfl⟩
theorem Touch.trans {e lo hi:Nat} {a b c:World} (h:Touch e lo hi a b) (k:Touch e lo hi b c):Touch e lo hi a c:=by
 refine⟨k.os.trans h.os,k.tape.trans h.tape,k.output.trans h.output,Nat.le_trans h.size k.size,fun i hi hh => ?_⟩;have e1:=h.block i hi hh;refine(k.block i (Nat.lt_of_lt_of_le hi h.size) ?_).trans e1;rcases hh with hh|hh
 ·exact .inl hh
 exact .inr (by rw[e1];exact hh)
theorem Touch.only {e lo hi:Nat} {a b:World} (h:Touch e lo hi a b):Only lo hi a b:=⟨h.os,h.tape,h.output,h.size,fun k hk hh=>h.block k hk (.inl hh)⟩
theorem Own.lt' {lo hi e size n:Nat} {w:World} {v:Value} {cs:List Value} (h:Own lo hi w e size v n cs):w.ownsRow lo e size v n cs:=h.1
theorem OIntSS.row {es e lo hi:Nat} {w w':World} {v:Value} {xss:List (List Int)} {vs:List Value} {x:List Int} {j:Nat} (hne:es≠e)
  (h1:Own lo hi w es 1 v xss.length vs) (h2:∀ i,i<xss.length→OInts e lo hi w (vs.getD i undef) (xss.getD i []))
  (h3:∀ i j k,i<j→j<xss.length→(vs.getD i undef).ownBlock=some k→(vs.getD j undef).ownBlock≠some k)
  (hj:j<xss.length) (hx:OInts e lo hi w' (vs.getD j undef) x) (hg:w.grownBy w' (vs.getD j undef).ownBlock) :
  Own lo hi w' es 1 v (xss.set j x).length vs∧(∀ i,i<(xss.set j x).length→OInts e lo hi w' (vs.getD i undef) ((xss.set j x).getD i [])) ∧
   (∀ i j' k,i<j'→j'<(xss.set j x).length→(vs.getD i undef).ownBlock=some k→(vs.getD j' undef).ownBlock≠some k):=by
 have ha:ZbZ w (vs.getD j undef).ownBlock es:=Zal (Own.lt' (h2 j hj)) (Ne.symm hne);rw[List.length_set];refine⟨h1.grown hg ha,fun i hi => ?_,h3⟩;by_cases hij:j=i
 ·subst hij;have:(xss.set j x).getD j []=x:=by simp[hj]
  rw[this];exact hx
 have:(xss.set j x).getD i []=xss.getD i []:=by simp[List.getElem?_set_ne hij]
 rw[this];refine Own.kept (h2 i hi) fun k hk=>hg.block k (Own.lt (h2 i hi) k hk).2.2 fun hr => ?_
 rcases Nat.lt_or_gt_of_ne hij with hlt|hgt
 ·exact h3 j i k hlt hi hr.symm hk
 exact h3 i j k hgt hj hk hr.symm
theorem Zig {l:List Int} {k:Nat} (hk:k<l.length):setV (l.take (k+1))=adj (setV (l.take k)) (l.getD k 0).toNat:=by unfold setV;exact ZbL _ _ hk 0
end Go.Proofs.YtehmjmjedopkkaaGreat
namespace Go.Proofs.YtehmjmjedopkkaaGreat
open Go.RowKit
abbrev nfaC (n:NfaD) (v1 v2 v3:Value):Array Value:=#[.int .i64 n.states,v1,v2,v3]
theorem Zds {v:Nat} {c:Int} {u:Nat} {m:Int × Int × Int} (h:(decide (m.2.1=c)&&v.testBit m.1.toNat)=false):ZaL v c u m=u:=by unfold ZaL;simp[h]
end Go.Proofs.YtehmjmjedopkkaaGreat
namespace Go.Proofs.YtehmjmjedopkkaaGreat
open Go.RowKit
def fstV (n:NfaD):Nat:=clV 40 n.moves (setV n.firsts)
def endV (n:NfaD) (x:Nat):Bool:=n.ends.any fun s=>x.testBit s.toNat
def FlagsAt (w:World) (v:Value) (m x:Nat):Prop:=∃ B g cap,v = .slice (some ⟨g,0,none⟩) m cap∧w.ownsRow B 4 1 v m (boolCells (flags m x))
theorem FlagsAt.of {w:World} {B g cap m x:Nat} (h:w.ownsRow B 4 1 (.slice (some ⟨g,0,none⟩) m cap) m (boolCells (flags m x))):FlagsAt w (.slice (some ⟨g,0,none⟩) m cap) m x:=⟨_,_,_,rfl,h⟩
theorem FlagsAt.below {w w':World} {v:Value} {m x:Nat} (h:FlagsAt w v m x) (hb:Below w.heap.size w w'):FlagsAt w' v m x:=by obtain⟨B,g,cap,hv,h⟩:=h;exact⟨B,g,cap,hv,(Own.below (Zaa h) hb).1⟩
theorem Zdj {m x s:Nat} (h:s<m):(boolCells (flags m x))[s]? = some (.bool (x.testBit s)):=by simp[flags,h]
theorem Zgd {m x s:Nat}:(boolCells (flags m x)).set s (.bool true)=boolCells (flags m (adj x s)):=by simp[boolCells,ZmZ,List.map_set]
def Znz (B m x:Nat) (e:Ending) (w':World):Prop:=∃ g cap,e = .returned (.slice (some ⟨g,0,none⟩) m cap)∧w'.ownsRow B 4 1 (.slice (some ⟨g,0,none⟩) m cap) m (boolCells (flags m x))
theorem ZgW {w:World} {B m:Nat} {v:Value} (h:w.ownsRow B 4 1 v m (madeCells (Value.bool false).cells (m*1)).toList):w.ownsRow B 4 1 v m (boolCells (flags m 0)):=by
 have e:(madeCells (Value.bool false).cells (m*1)).toList=boolCells (flags m 0):=by rw[Zlp];simp[madeCells,Value.cells,boolCells,Nat.mod_one,List.map_const']
 rwa [e] at h
theorem ZiB (l:List Int) (m:Nat) (v:Value) (w:World) (hm:m≤1000) (hl:inN m l) (hn:l.length≤1000000) (h:Ints 0 w v l) :
  Calls Tryz.prog 163 #[v,.int .i64 m] w fun e w'=>Znz w.heap.size m (setV l) e w'∧Below w.heap.size w w':=by
 obtain⟨a1,c1,rfl,hc1,hm1,hr1⟩:=h.form;obtain⟨i0,hi,hz0,hz1,hz2⟩:=info_parts Tryz.infoBool;replace hr1:=qh hr1;replace hl:=qh hl;clear h
 go_enter Tryz.func163, Tryz.ntmps163
 go_wp2_with (at_make;refine wpList_make_full _ rfl _ _ 30 rfl w.heap.size 4 i0 (.bool false) 1 Tryz.underlying30 hi hz0 hz1 .i64 .i64 _ _ m rfl rfl rfl rfl (by rw[hz2];omega) (by unfold maxLen;omega) (Nat.le_refl _) ?_;intro w1 hown hgrow);have hS:=(St.start w).made ((Below.refl _ _).grown hgrow (Nat.le_refl _) (fun _ h=>by cases h)) (ZgW hown);replace hS:=qh hS;clear hown hgrow hi hz0 hz1 hz2
 go_loopw [6] (fun i wr=>∃ k:Nat,k≤l.length∧i = .int .i64 k∧St w wr [Ent.row 4 1 (.slice (some ⟨w.heap.size,0,none⟩) m m) m (boolCells (flags m (setV (l.take k))))])
  (fun i _=>l.length-(intOf i).toNat)
 case atStart=>exact⟨0,Nat.zero_le _,rfl,hS.out⟩
 case round =>
  obtain⟨k,hk,rfl,hS⟩:=hrel;by_cases hlt:k<l.length
  ·obtain⟨b1,o1,rfl,-,hbl,hcs⟩:=hr1.out (by omega);have hc:=(bcell hS.bel b1 _ hbl).trans (hcs k hlt);obtain⟨s0,s1⟩:=hl.out _ (memD (d:=0) hlt);obtain⟨s,hs⟩:=Int.eq_ofNat_of_zero_le s0;rw[hs] at hc s1;have d0:=hS.rcell 0 s rfl (by omega) (Zdj (show s<m by omega));have f0:=hS.rfr 0 s rfl;have Hhs:=qh hs;clear hs;replace hS:=qh hS;clear hcs s0;go_wp2;go_roundw
   case rel =>refine⟨k+1,by omega,by go_num,?_⟩;have h:=hS.out.store 0 rfl s (.bool true);rw[Zgd] at h;rw[Zig hlt,Hhs.out];exact h
   case measure=>simp[intOf];omega
  obtain rfl:k=l.length:=by omega
  rw[List.take_length] at hS;replace hS:=qh hS;go_wp2;go_ret;exact⟨⟨_,_,rfl,hS.out.row 0 rfl⟩,hS.out.bel⟩
theorem Zh5 {xs:List Bool}:∀ u∈boolCells xs,u.oneCell'=true:=by intro u hu;obtain⟨q,-,rfl⟩:=List.mem_map.1 hu;rfl
theorem ZnL {w:World} {B e size g m c:Nat} {cs:List Value} (h:w.ownsRow B e size (.slice (some ⟨g,0,none⟩) m c) m cs):∀ j u,cs[j]? = some u→w.cell? ((⟨g,0,none⟩:Addr).add j)=some u:=fun j u hu=>by
 have hadd:(⟨g,0,none⟩:Addr).add j=⟨g,j,none⟩:=by unfold Addr.add;split<;>simp_all
 have hj:j<m*size:=by rw[← h.1];exact(List.getElem?_eq_some_iff.1 hu).1
 rw[hadd];exact(h.cellAt j hj).trans hu
theorem ZfN {m M:Nat} {ms:List (Int × Int × Int)} (h:mvIn m ms) (hm:m≤M):mvIn M ms:=fun x hx=>by have:=h x hx;omega
theorem Zmt {m:Nat} {ms:List (Int × Int × Int)} (h:mvIn m ms) (hm:m≤40):mvIn 40 ms:=fun x hx=>by have:=h x hx;omega
theorem ZeS (M:Nat) (hM:M≤1000) (n:NfaD) (m x:Nat) (v1 v2 v3 bv:Value) (w:World) (hm:m≤M) (hmv:mvIn m n.moves) (hml:n.moves.length≤1000000) (hx:x<2 ^ m) (h1:Moves 0 w v1 n.moves) (hbv:FlagsAt w bv m x) :
  Calls Tryz.prog 162 #[.agg (nfaC n v1 v2 v3),bv] w fun e w'=>Znz w.heap.size m (clV M n.moves x) e w'∧Below w.heap.size w w':=by
 obtain⟨a1,c1,rfl,hc1,hm1,hr1⟩:=h1.form;obtain⟨Bv,gv,cv,rfl,hbr⟩:=hbv;obtain⟨i0,hi,hz0,hz1,hz2⟩:=info_parts Tryz.infoBool;obtain⟨ms,hms⟩:=eI (n.moves);rw[← hms] at hmv hml hc1 hr1;rw[← hms];have hmv40:=ZfN hmv hm;have hlx:∀ j,clIt ms x j<2 ^ m:=Zc5 hmv hx;have hS0:=((St.start w).alloc _ rfl (nfaC n (.slice a1 ms.length c1) v2 v3) 91).alloc (w.heap.size+1) (by simp) #[] 4;have hbr1:=(Own.below (Zaa hbr) (((Below.refl w.heap.size w).alloc (Nat.le_refl _) (.cells (nfaC n (.slice a1 ms.length c1) v2 v3) 91)).alloc (by simp) (.cells #[] 4))).1;have hS1:=hS0.boxrow 1 0 1 [] rfl rfl (by omega);have hE:((w.alloc (.cells (nfaC n (.slice a1 ms.length c1) v2 v3) 91)).alloc (.cells #[] 4)).ownsRow (w.heap.size+1) 4 1 (.slice (some ⟨w.heap.size+1,0,none⟩) 0 0) 0 []:=Zhw (cs:=[]) (hS0.box 1 rfl) rfl (Nat.le_refl _) (by omega);replace hE:=qh hE;have Hhr1:=qh hr1;clear hr1;have Hhmv:=qh hmv;clear hmv;have Hhmv40:=qh hmv40;clear hmv40;have Hhx:=qh hx;clear hx;have Hhlx:=qh hlx;clear hlx;have Hhms:=qh hms;clear hms;have Hhi:=qh hi;clear hi;have Hhz0:=qh hz0;clear hz0;have Hhz1:=qh hz1;clear hz1;have Hhz2:=qh hz2;clear hz2;have Hhbr1:=qh hbr1;clear hbr1;have HhS1:=qh hS1;clear hS1;clear h1 hbr hS0
 go_enter Tryz.func162, Tryz.ntmps162
 go_wp2_with (at_builtin;refine wpList_append_own_wide _ rfl _ _ _ rfl (w.heap.size+1) 4 i0 (.bool false) 1 1 Tryz.underlying30 Hhi.out Hhz0.out Hhz1.out Hhz2.out rfl (by omega) _ 0 _ rfl hE.out ⟨gv,0,none⟩ m cv (boolCells (flags m x)) rfl (by simp[flags]) (ZnL Hhbr1.out) Zh5 (by unfold maxLen;omega) (by omega) (by simp) ?_;intro v6 w6 hown6 hgrow6 hnil6;have Hown6:=qh hown6;have Hgrow6:=qh hgrow6;have Hnil6:=qh hnil6;clear hown6 hgrow6 hnil6);rw[Nat.zero_add,List.nil_append] at Hown6
 have hS6:=HhS1.out.grow 1 rfl Hgrow6.out Hown6.out (fun k hk=>by
  have h1:=(Own.lt (Zaa Hown6.out) k hk).1;by_cases h2:k=w.heap.size+1
  ·exact Or.inl (by rw[h2];rfl)
  right;simp only[World.size_alloc];omega)
 obtain⟨g,cap,hv6⟩:∃ g cap,v6 = .slice (some ⟨g,0,none⟩) m cap:=by
  rcases Hown6.out.2 with⟨h1,-⟩|⟨g',cap',cur,h1,-⟩
  ·exact absurd (Hnil6.out.1 h1).1 (fun e=>by cases e)
  exact⟨g',cap',h1⟩
 subst hv6;have HhS6:=qh hS6;clear hS6;clear Hown6 Hgrow6 Hnil6;obtain⟨B0,hB0⟩:=eI (w.heap.size)
 go_loopg [6] (M+2) (fun g' ag wr=>∃ j:Nat,g'=M+2-j∧(∃ ab:Bool,ag = .bool ab∧ab=(decide (j=0) || !decide (clIt ms x j=clIt ms x (j-1)))) ∧
   St w wr [Ent.box w.heap.size (nfaC n (.slice a1 ms.length c1) v2 v3) 91,Ent.row 4 1 (.slice (some ⟨g,0,none⟩) m cap) m (boolCells (flags m (clIt ms x j)))])
 case atStart=>exact⟨0,rfl,⟨true,rfl,by simp⟩,HhS6.out⟩
 case round =>
  obtain⟨j,rfl,⟨ab,rfl,hab⟩,hS⟩:=hrel;obtain⟨wo,hwo⟩:∃ wo:World,wo=wr:=⟨_,rfl⟩;subst hwo;have e1:=hS.cell 0 1 rfl rfl;have Hhab:=qh hab;clear hab;have HhS:=qh hS;clear hS;cases ab
  ·have hj:clIt ms x (j-1+1)=clIt ms x (j-1)∧j-1+1=j:=by
    have h:=Hhab.out;simp at h;have:j-1+1=j:=by omega
    rw[this];exact⟨h.2,rfl⟩
   have hv:clIt ms x j=clV M ms x:=by rw[ZoJ Hhmv40.out hj.1,← hj.1,hj.2]
   have Hhj:=qh hj;clear hj;have Hhv:=qh hv;clear hv;go_wp2;go_ret;refine⟨⟨_,_,rfl,?_⟩,HhS.out.bel⟩;rw[← Hhv.out];exact HhS.out.row 1 rfl
  obtain⟨X,hX⟩:=eI (clIt ms x j);have HhX:=qh hX;clear hX;go_wp2
  go_loopw [6,7] (fun ag i wi=>∃ k:Nat,k≤ms.length∧i = .int .i64 k∧(∃ ab:Bool,ag = .bool ab∧ab = !decide ((ms.take k).foldl Zaq X=X)) ∧
    St w wi [Ent.box w.heap.size (nfaC n (.slice a1 ms.length c1) v2 v3) 91,Ent.row 4 1 (.slice (some ⟨g,0,none⟩) m cap) m (boolCells (flags m ((ms.take k).foldl Zaq X)))])
   (fun _ i _=>ms.length-(intOf i).toNat)
  case atStart=>exact⟨0,Nat.zero_le _,rfl,⟨false,rfl,by simp⟩,by rw[HhX.out];exact HhS.out⟩
  case round =>
   obtain⟨k,hk,rfl,⟨ag,rfl,hag⟩,hSi⟩:=hrel;obtain⟨C,hC⟩:=eI ((ms.take k).foldl Zaq X);have hCm:C<2 ^ m:=by rw[hC];exact Zcx _ (fun v=>v<2 ^ m) (fun v m hmm hv=>Zgl Hhmv.out hmm hv) (by rw[HhX.out];exact Hhlx.out j) k
   rw[← hC] at hSi hag;clear e1;have e1:=hSi.cell 0 1 rfl rfl;by_cases hlt:k<ms.length
   ·obtain⟨b1,o1,rfl,-,hbl,hcs⟩:=Hhr1.out (by omega);obtain⟨p1,p2,p3⟩:=hcs k hlt;replace p1:=(bcell hSi.bel b1 _ hbl).trans p1;replace p2:=(bcell hSi.bel b1 _ hbl).trans p2;replace p3:=(bcell hSi.bel b1 _ hbl).trans p3;have hmm:=Hhmv.out _ (memD (d:=(0,0,0)) hlt);have hsucc:=ZbL Zaq X hlt (0,0,0);rw[← hC] at hsucc;have hne1:=Zi3 (v:=X) Hhmv40.out hlt;have hne2:=ZdH (v:=X) Hhmv40.out hlt;rw[← hC] at hne1 hne2;obtain⟨mm,hmd⟩:=eI (ms.getD k (0,0,0));rw[← hmd] at p1 p2 p3 hmm hsucc hne1;obtain⟨f,l,t⟩:=mm;simp only at p1 p2 p3 hmm;obtain⟨⟨f0,f1⟩,t0,t1⟩:=hmm;obtain⟨f,rfl⟩:=Int.eq_ofNat_of_zero_le f0;obtain⟨t,rfl⟩:=Int.eq_ofNat_of_zero_le t0;have hfm:f<m:=by omega
    have htm:t<m:=by omega
    have hSa:=hSi.alloc _ rfl #[.int .i64 (f:Int),.int .i64 l,.int .i64 (t:Int)] 122;have cf:=hSa.rcell 1 f rfl (by omega) (Zdj hfm);have ct:=hSa.rcell 1 t rfl (by omega) (Zdj htm);have ff:=hSa.rfr 1 t rfl;have hkk:(k:Int)<ms.length:=by omega
    have Hstay:=qh (fun (h:Zaq C ((f:Int),l,(t:Int))=C)=>(show(ms.take (k+1)).foldl Zaq X=C from hsucc.trans h));replace hC:=qh hC;have HhCm:=qh hCm;clear hCm;have Hhag:=qh hag;clear hag;have Hhsucc:=qh hsucc;clear hsucc;have Hhne1:=qh hne1;clear hne1;have Hhne2:=qh hne2;clear hne2;have Hhmd:=qh hmd;clear hmd;have HhSi:=qh hSi;clear hSi;have HhSa:=qh hSa;clear hSa;clear hcs f0 t0
    have Hsame:=qh (fun (h:Zaq C ((f:Int),l,(t:Int))=C)=>(show ∃ k':Nat,k'≤ms.length∧Value.int .i64 ((k:Int)+1) = .int .i64 (k':Int)∧(∃ ab:Bool,Value.bool ag = .bool ab∧ab = !decide ((ms.take k').foldl Zaq X=X)) ∧
      St w (wr.alloc (.cells #[.int .i64 (f:Int),.int .i64 l,.int .i64 (t:Int)] 122)) [Ent.box w.heap.size (nfaC n (.slice (some ⟨b1,o1,none⟩) ms.length c1) v2 v3) 91,Ent.row 4 1 (.slice (some ⟨g,0,none⟩) m cap) m (boolCells (flags m ((ms.take k').foldl Zaq X)))] from
      ⟨k+1,by omega,by go_num,⟨ag,rfl,by rw[Hstay.out h];exact Hhag.out⟩,by rw[Hstay.out h];exact HhSa.out.pick [0,1] (by decide)⟩))
    by_cases hl:l = -1
    ·subst hl;cases hf:C.testBit f
     ·rw[hf] at cf;have Hhf:=qh hf;clear hf;have hst:=Hsame.out (by unfold Zaq;simp[Hhf.out]);have Hhst:=qh hst;clear hst;go_wp2;go_roundw
      case rel=>exact Hhst.out
      case measure=>simp[intOf];omega
     cases ht:C.testBit t
     ·rw[hf] at cf;rw[ht] at ct;have Hhf:=qh hf;clear hf;have Hht:=qh ht;clear ht;go_wp2;go_roundw
      case rel =>
       have hcm:Zaq C ((f:Int),-1,(t:Int))=adj C t:=by unfold Zaq;simp[Hhf.out,Hht.out]
       have hne:Zaq C ((f:Int),-1,(t:Int))≠C:=by rw[hcm];intro e;have:=Zb2 C t t;rw[e,Hht.out] at this;simp at this
       have hs2:(ms.take (k+1)).foldl Zaq X=adj C t:=Hhsucc.out.trans hcm;refine⟨k+1,by omega,by go_num,⟨true,rfl,?_⟩,?_⟩
       ·rw[decide_eq_false (Hhne1.out hne)];rfl
       rw[hs2,← Zgd];exact(HhSa.out.store 1 rfl t (.bool true)).pick [0,1] (by decide)
      case measure=>simp[intOf];omega
     rw[hf] at cf;rw[ht] at ct;have Hhf:=qh hf;clear hf;have Hht:=qh ht;clear ht;have hst:=Hsame.out (by unfold Zaq;simp[Hhf.out,Hht.out]);have Hhst:=qh hst;clear hst;go_wp2;go_roundw
     case rel=>exact Hhst.out
     case measure=>simp[intOf];omega
    have hst:=Hsame.out (by unfold Zaq;simp[hl]);have hl1:(l == -1)=false:=by simpa using hl
    have Hhst:=qh hst;clear hst;have Hhl:=qh hl;clear hl;go_wp2;go_roundw
    case rel=>exact Hhst.out
    case measure=>simp[intOf];omega
   obtain rfl:k=ms.length:=by omega
   rw[List.take_length] at hC;have hn:C=clIt ms x (j+1):=by rw[hC,HhX.out];rfl
   have hj0:j<M+2:=by
    by_cases h0:j=0
    ·omega
    have h:=Hhab.out;simp[h0] at h;have:=ZeJ (k:=j-1) Hhmv40.out (by rw[show j-1+1=j by omega];exact h);omega
   replace hC:=qh hC;have Hhn:=qh hn;clear hn;have Hhag:=qh hag;clear hag;have HhSi:=qh hSi;clear hSi;go_wp2
   go_roundg (M+2-(j+1))
   case measure=>omega
   case rel =>refine⟨j+1,rfl,⟨ag,rfl,?_⟩,by rw[← Hhn.out];exact HhSi.out⟩;rw[Hhag.out,← Hhn.out,show j+1-1=j by omega,← HhX.out];simp
theorem ZjD (M:Nat) (hM:M≤1000) (n:NfaD) (m x:Nat) (c:Int) (v1 v2 v3 bv:Value) (w:World) (hns:n.states=(m:Int)) (hm:m≤M) (hmv:mvIn m n.moves) (hml:n.moves.length≤1000000) (h1:Moves 0 w v1 n.moves) (hbv:Bools 0 w bv (flags m x)) :
  Calls Tryz.prog 164 #[.agg (nfaC n v1 v2 v3),bv,.int .i64 c] w fun e w'=>Znz w.heap.size m (stV M n.moves x c) e w'∧Below w.heap.size w w':=by
 have H1:=qh h1;obtain⟨a1,c1,rfl,hc1,hm1,hr1⟩:=h1.form;obtain⟨av,cv,rfl,hcv,hmv',hbr⟩:=hbv.form;rw[Zge] at hcv hbr;rw[Zge];clear hbv;obtain⟨i0,hi,hz0,hz1,hz2⟩:=info_parts Tryz.infoBool;obtain⟨ms,hms⟩:=eI (n.moves);have hmv2:=hmv;have hml2:=hml;rw[← hms] at hmv hml hc1 hr1;have hst:stV M n.moves x c=clV M ms (ms.foldl (ZaL x c) 0):=by rw[hms];rfl
 have hfm40:ms.foldl (ZaL x c) 0<2 ^ m:=ZbD _ (fun v=>v<2 ^ m) (fun _ _ hmm hv=>Zch hmv hmm hv) (Nat.two_pow_pos m);obtain⟨ln,hln⟩:=eI (ms.length);have hlnn:ln=n.moves.length:=by rw[hln,hms]
 rw[← hlnn] at H1;rw[← hlnn];rw[← hln] at hc1 hr1 hml;have hS0:=(St.start w).alloc _ rfl (nfaC n (.slice a1 ln c1) v2 v3) 91;have e0:=hS0.cell (v:=.int .i64 (m:Int)) 0 0 rfl (by simp[nfaC,hns]);replace hns:=qh hns;have Hhr1:=qh hr1;clear hr1;replace hmv:=qh hmv;have Hhmv2:=qh hmv2;clear hmv2;replace hml2:=qh hml2;have Hhms:=qh hms;clear hms;have Hhst:=qh hst;clear hst;replace hfm40:=qh hfm40;have Hhln:=qh hln;clear hln;have Hhlnn:=qh hlnn;clear hlnn;have Hhi:=qh hi;clear hi;have Hhz0:=qh hz0;clear hz0;have Hhz1:=qh hz1;clear hz1;have Hhz2:=qh hz2;clear hz2;replace hbr:=qh hbr;replace hS0:=qh hS0;clear h1
 go_enter Tryz.func164, Tryz.ntmps164
 go_wp2_with (at_make;refine wpList_make_full _ rfl _ _ 30 rfl _ 4 i0 (.bool false) 1 Tryz.underlying30 Hhi.out Hhz0.out Hhz1.out .i64 .i64 _ _ m rfl rfl rfl rfl (by rw[Hhz2.out];omega) (by unfold maxLen;omega) (Nat.le_refl _) ?_;intro w1 hown hgrow);have hS1:=hS0.out.made ((Below.refl _ _).grown hgrow (Nat.le_refl _) (fun _ h=>by cases h)) (ZgW hown);rw[World.size_alloc] at hS1;have hb1:=hS1.bel;have HhS1:=qh hS1;clear hS1;clear hown hgrow e0
 go_loopw [8] (fun i wi=>∃ k:Nat,k≤ln∧i = .int .i64 k∧St w wi [Ent.box w.heap.size (nfaC n (.slice a1 ln c1) v2 v3) 91,Ent.row 4 1 (.slice (some ⟨w.heap.size+1,0,none⟩) m m) m (boolCells (flags m ((ms.take k).foldl (ZaL x c) 0)))])
  (fun i _=>ln-(intOf i).toNat)
 case atStart=>exact⟨0,Nat.zero_le _,rfl,HhS1.out⟩
 case round =>
  obtain⟨k,hk,rfl,hSi⟩:=hrel;obtain⟨C,hC⟩:=eI ((ms.take k).foldl (ZaL x c) 0);rw[← hC] at hSi;have e1:=hSi.cell (v:=.slice a1 ln c1) 0 1 rfl rfl;clear hb1;by_cases hlt:k<ln
  ·have hlt':k<ms.length:=by rw[← Hhln.out];exact hlt
   obtain⟨b1,o1,rfl,-,hbl,hcs⟩:=Hhr1.out (by omega);obtain⟨p1,p2,p3⟩:=hcs k hlt;replace p1:=(bcell hSi.bel b1 _ hbl).trans p1;replace p2:=(bcell hSi.bel b1 _ hbl).trans p2;replace p3:=(bcell hSi.bel b1 _ hbl).trans p3;have hmm:=hmv.out _ (memD (d:=(0,0,0)) hlt');have hsucc:=ZbL (ZaL x c) 0 hlt' (0,0,0);rw[← hC] at hsucc;obtain⟨mm,hmd⟩:=eI (ms.getD k (0,0,0));rw[← hmd] at p1 p2 p3 hmm hsucc;obtain⟨f,l,t⟩:=mm;simp only at p1 p2 p3 hmm;obtain⟨⟨f0,f1⟩,t0,t1⟩:=hmm;obtain⟨f,rfl⟩:=Int.eq_ofNat_of_zero_le f0;obtain⟨t,rfl⟩:=Int.eq_ofNat_of_zero_le t0;have hfm:f<m:=by omega
   have htm:t<m:=by omega
   have hSa:=hSi.alloc _ rfl #[.int .i64 (f:Int),.int .i64 l,.int .i64 (t:Int)] 122;have hal:=(Below.refl w.heap.size w).trans hSa.bel;obtain⟨gv,ov,rfl,-,hgl,hbc⟩:=hbr.out (by omega);have cf:=(bcell hal gv (ov+f) hgl).trans (hbc f hfm);rw[ZeF hfm] at cf;clear hbc;have ct:=hSa.rcell 1 t rfl (by omega) (Zdj htm);have ff:=hSa.rfr 1 t rfl;have hkk:(k:Int)<ln:=by omega
   replace hC:=qh hC;have Hhsucc:=qh hsucc;clear hsucc;have Hhmd:=qh hmd;clear hmd;have HhSi:=qh hSi;clear hSi;have HhSa:=qh hSa;clear hSa;clear hcs f0 t0 hal
   have Hsame:=qh (fun (h:ZaL x c C ((f:Int),l,(t:Int))=C)=>(show ∃ k':Nat,k'≤ln∧Value.int .i64 ((k:Int)+1) = .int .i64 (k':Int) ∧
     St w (wr.alloc (.cells #[.int .i64 (f:Int),.int .i64 l,.int .i64 (t:Int)] 122)) [Ent.box w.heap.size (nfaC n (.slice (some ⟨b1,o1,none⟩) ln c1) v2 v3) 91,Ent.row 4 1 (.slice (some ⟨w.heap.size+1,0,none⟩) m m) m (boolCells (flags m ((ms.take k').foldl (ZaL x c) 0)))] from
     ⟨k+1,by omega,by go_num,by rw[Hhsucc.out,h];exact HhSa.out.pick [0,1] (by decide)⟩))
   by_cases hl:l=c
   ·subst hl;cases hf:x.testBit f
    ·rw[hf] at cf;have Hhf:=qh hf;clear hf;have hst:=Hsame.out (Zds (by simp[Hhf.out]));have Hhst:=qh hst;clear hst;go_wp2;go_roundw
     case rel=>exact Hhst.out
     case measure=>simp[intOf];omega
    rw[hf] at cf;have Hhf:=qh hf;clear hf;go_wp2;go_roundw
    case rel =>
     have hcm:ZaL x l C ((f:Int),l,(t:Int))=adj C t:=by unfold ZaL;simp[Hhf.out]
     refine⟨k+1,by omega,by go_num,?_⟩;rw[Hhsucc.out.trans hcm,← Zgd];exact(HhSa.out.store 1 rfl t (.bool true)).pick [0,1] (by decide)
    case measure=>simp[intOf];omega
   have hst:=Hsame.out (Zds (by simp[hl]));have hl1:(l==c)=false:=by simpa using hl
   have Hhst:=qh hst;clear hst;have Hhl:=qh hl;clear hl;go_wp2;go_roundw
   case rel=>exact Hhst.out
   case measure=>simp[intOf];omega
  have hkn:(ms.take k).foldl (ZaL x c) 0=ms.foldl (ZaL x c) 0:=by rw[List.take_of_length_le (by rw[← Hhln.out];omega)]
  have hCm:C<2 ^ m:=by rw[hC,hkn];exact hfm40.out
  have HM':=qh (H1.out.below hSi.bel);have HF:Hid (FlagsAt wr (.slice (some ⟨w.heap.size+1,0,none⟩) m m) m C):=qh ⟨_,_,_,rfl,hSi.row 1 rfl⟩;have d0:=hSi.cell (v:=.int .i64 n.states) 0 0 rfl rfl;have d2:=hSi.cell (v:=v2) 0 2 rfl rfl;have d3:=hSi.cell (v:=v3) 0 3 rfl rfl;replace hC:=qh hC;have Hhkn:=qh hkn;clear hkn;have HhSi:=qh hSi;clear hSi;have HhCm:=qh hCm;clear hCm;go_wp2_with fail;refine(ZeS M hM n m C (.slice a1 ln c1) v2 v3 _ _ hm Hhmv2.out hml2.out HhCm.out HM'.out HF.out).mono ?_;rintro e w2 ⟨⟨g2,c2,rfl,hr2⟩,hb2⟩;have hS2:=HhSi.out.made hb2 hr2;have hVs:clV M n.moves C=stV M n.moves x c:=by rw[Hhst.out,hC.out,Hhkn.out,Hhms.out]
  have HhS2:=qh hS2;clear hS2;have HhVs:=qh hVs;clear hVs;clear hr2 hb2;go_wp2;go_ret;refine⟨⟨_,_,rfl,?_⟩,HhS2.out.bel⟩;rw[← HhVs.out];exact HhS2.out.row 2 rfl
end Go.Proofs.YtehmjmjedopkkaaGreat
