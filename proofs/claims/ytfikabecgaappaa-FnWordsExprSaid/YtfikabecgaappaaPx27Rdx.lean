/-
  Texts of expressions, plain: the text of a tree; a reader of texts; it reads the text of a tree as that tree.
  No condition: this text speaks of no program.
-/
import Derived.Test.YtfikabecgaappaaPx10Jv
namespace Go.Proofs.Ytfikabecgaappaa
def bnd:Ex→Nat
 | .alt _ _=>1
 | .both _ _=>2
 | .join _ _=>3
 | .neg _=>4
 | .star _=>5
 | _=>6
def brk (l:Nat) (a:Ex) (x:List Nat):List Nat:=if bnd a<l then 40::(x++[41]) else x
def prE:Ex→List Nat
 | .zero=>[48]
 | .one=>[49]
 | .ltr c=>[97+c.val]
 | .join a b=>brk 3 a (prE a)++brk 4 b (prE b)
 | .alt a b=>brk 1 a (prE a)++124::brk 2 b (prE b)
 | .both a b=>brk 2 a (prE a)++38::brk 3 b (prE b)
 | .neg a=>33::brk 4 a (prE a)
 | .star a=>brk 5 a (prE a)++[42]
/-! The reader. -/
abbrev PS:Type:=List (Int × Int) × List Nat × Bool
def ZnN (p:Int × Int) (st:List Ex):Option (List Ex) :=
 if p.1=1 then some (.zero::st) else if p.1=2 then some (.one::st) else if p.1=3 then some (.ltr (Fin.ofNat 3 p.2.toNat)::st)
 else if p.1=7 then(match st with|a::st=>some (.neg a::st)|[]=>none)
 else if p.1=8 then(match st with|a::st=>some (.star a::st)|[]=>none)
 else match st with
  | b::a::st=>if p.1=4 then some (.join a b::st) else if p.1=5 then some (.alt a b::st) else some (.both a b::st)
  | _=>none
def ZdB:List (Int × Int)→List Ex→Option (List Ex)
 | [],st=>some st
 | p::r,st=>(ZnN p st).bind (ZdB r)
theorem ZjN:∀ (t:Ex) (r:List (Int × Int)) (st:List Ex),ZdB (t.post++r) st=ZdB r (t::st):=by
 intro t
 induction t with
 | zero=>intro r st;rfl
 | one=>intro r st;rfl
 | ltr c =>
  intro r st;obtain⟨c,hc⟩:=c;obtain rfl|rfl|rfl:c=0∨c=1∨c=2:=by omega
  all_goals rfl
 | neg a ha=>intro r st;show ZdB (a.post++[(7,0)]++r) st=_;rw[List.append_assoc,ha];rfl
 | star a ha=>intro r st;show ZdB (a.post++[(8,0)]++r) st=_;rw[List.append_assoc,ha];rfl
 | join a b ha hb=>intro r st;show ZdB (a.post++b.post++[(4,0)]++r) st=_;rw[List.append_assoc,List.append_assoc,ha,hb];rfl
 | alt a b ha hb=>intro r st;show ZdB (a.post++b.post++[(5,0)]++r) st=_;rw[List.append_assoc,List.append_assoc,ha,hb];rfl
 | both a b ha hb=>intro r st;show ZdB (a.post++b.post++[(6,0)]++r) st=_;rw[List.append_assoc,List.append_assoc,ha,hb];rfl
def ZjX (e:List (Int × Int)):Option Ex:=match ZdB e [] with
 | some [t]=>some t
 | _=>none
theorem ZeE (t:Ex):ZjX t.post=some t:=by have:=ZjN t [] [];rw[List.append_nil] at this;unfold ZjX;rw[this];rfl
theorem ZlU {t u:Ex} (h:t.post=u.post):t=u:=by have h1:=ZeE t;rw[h,ZeE u] at h1;exact(Option.some.inj h1).symm
def ZnJ (e:List (Int × Int)):List Nat:=if exOk e=true then(match ZjX e with|some t=>prE t|none=>[]) else []
def yesR (x:PS) (s:List Nat):Prop:=x.2.2=false∧x.2.1=[]∧ZnJ x.1=s
instance (x:PS) (s:List Nat):Decidable (yesR x s):=by unfold yesR;infer_instance
/-! How much is read. -/
/-! What is left is an end of what was there. -/
end Go.Proofs.Ytfikabecgaappaa
namespace Go.Proofs.Ytfikabecgaappaa
open Go.RowKit
theorem ZiY {c:Nat} {r:List Nat} (h:isT (c::r)):isT r∧c<256:=⟨fun x hx=>h x (List.mem_cons_of_mem _ hx),h c (by simp)⟩
theorem ZmT {l m:List Nat} (hl:isT l) (hm:isT m) (h:txB l=txB m):l=m:=by
 have h1:=congrArg (fun s:ByteArray=>s.data.toList) h;simp only[txB] at h1
 have h2:∀ (l m:List Nat),isT l→isT m→l.map UInt8.ofNat=m.map UInt8.ofNat→l=m:=by
  intro l
  induction l with
  | nil =>
   intro m _ _ h;cases m with
   | nil=>rfl
   | cons=>simp at h
  | cons a l ih =>
   intro m hl hm h;cases m with
   | nil=>simp at h
   | cons b m =>obtain⟨hl1,ha⟩:=ZiY hl;obtain⟨hm1,hb⟩:=ZiY hm;simp only[List.map_cons,List.cons.injEq] at h;have h3:=congrArg UInt8.toNat h.1;rw[UInt8.toNat_ofNat',UInt8.toNat_ofNat'] at h3;rw[show a=b by omega,ih m hl1 hm1 h.2]
 exact h2 l m hl hm (by simpa using h1)
theorem ZmU {l m:List Nat} (hl:isT l) (hm:isT m) (h:l≠m):((txB l).toList==(txB m).toList)=false:=by rw[beq_eq_false_iff_ne];intro h1;rw[ByteArray.toList_eq,ByteArray.toList_eq] at h1;exact h (ZmT hl hm (ByteArray.ext (Array.ext' h1)))
end Go.Proofs.Ytfikabecgaappaa
