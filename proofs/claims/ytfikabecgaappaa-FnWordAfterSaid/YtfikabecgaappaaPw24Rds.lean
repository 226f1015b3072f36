/-
  Texts of expressions, plain: the text of a tree; a reader of texts; it reads the text of a tree as that tree.
  No condition: this text speaks of no program.
-/
import Derived.Test.YtfikabecgaappaaPw10Ex
namespace Go.Proofs.Ytfikabecgaappaa
def bnd:Ex→Nat
 | .alt _ _=>1
 | .both _ _=>2
 | .join _ _=>3
 | .neg _=>4
 | .star _=>5
 | _=>6
def brk (l:Nat) (a:Ex) (x:List Nat):List Nat:=if bnd a<l then 40::(x++[41]) else x
def prE:Ex→List Nat
 | .zero=>[48]
 | .one=>[49]
 | .ltr c=>[97+c.val]
 | .join a b=>brk 3 a (prE a)++brk 4 b (prE b)
 | .alt a b=>brk 1 a (prE a)++124::brk 2 b (prE b)
 | .both a b=>brk 2 a (prE a)++38::brk 3 b (prE b)
 | .neg a=>33::brk 4 a (prE a)
 | .star a=>brk 5 a (prE a)++[42]
/-! The reader. -/
abbrev PS:Type:=List (Int × Int) × List Nat × Bool
def Zl9 (p:Int × Int) (st:List Ex):Option (List Ex) :=
 if p.1=1 then some (.zero::st) else if p.1=2 then some (.one::st) else if p.1=3 then some (.ltr (Fin.ofNat 3 p.2.toNat)::st)
 else if p.1=7 then(match st with|a::st=>some (.neg a::st)|[]=>none)
 else if p.1=8 then(match st with|a::st=>some (.star a::st)|[]=>none)
 else match st with
  | b::a::st=>if p.1=4 then some (.join a b::st) else if p.1=5 then some (.alt a b::st) else some (.both a b::st)
  | _=>none
def Zdc:List (Int × Int)→List Ex→Option (List Ex)
 | [],st=>some st
 | p::r,st=>(Zl9 p st).bind (Zdc r)
theorem ZiL:∀ (t:Ex) (r:List (Int × Int)) (st:List Ex),Zdc (t.post++r) st=Zdc r (t::st):=by
 intro t
 induction t with
 | zero=>intro r st;rfl
 | one=>intro r st;rfl
 | ltr c =>
  intro r st;obtain⟨c,hc⟩:=c;obtain rfl|rfl|rfl:c=0∨c=1∨c=2:=by omega
  all_goals rfl
 | neg a ha=>intro r st;show Zdc (a.post++[(7,0)]++r) st=_;rw[List.append_assoc,ha];rfl
 | star a ha=>intro r st;show Zdc (a.post++[(8,0)]++r) st=_;rw[List.append_assoc,ha];rfl
 | join a b ha hb=>intro r st;show Zdc (a.post++b.post++[(4,0)]++r) st=_;rw[List.append_assoc,List.append_assoc,ha,hb];rfl
 | alt a b ha hb=>intro r st;show Zdc (a.post++b.post++[(5,0)]++r) st=_;rw[List.append_assoc,List.append_assoc,ha,hb];rfl
 | both a b ha hb=>intro r st;show Zdc (a.post++b.post++[(6,0)]++r) st=_;rw[List.append_assoc,List.append_assoc,ha,hb];rfl
def ZiV (e:List (Int × Int)):Option Ex:=match Zdc e [] with
 | some [t]=>some t
 | _=>none
theorem Zd8 (t:Ex):ZiV t.post=some t:=by have:=ZiL t [] [];rw[List.append_nil] at this;unfold ZiV;rw[this];rfl
theorem ZhQ {t u:Ex} (h:t.post=u.post):t=u:=by have h1:=Zd8 t;rw[h,Zd8 u] at h1;exact(Option.some.inj h1).symm
def Zl8 (e:List (Int × Int)):List Nat:=if exOk e=true then(match ZiV e with|some t=>prE t|none=>[]) else []
def yesR (x:PS) (s:List Nat):Prop:=x.2.2=false∧x.2.1=[]∧Zl8 x.1=s
instance (x:PS) (s:List Nat):Decidable (yesR x s):=by unfold yesR;infer_instance
/-! How much is read. -/
/-! What is left is an end of what was there. -/
end Go.Proofs.Ytfikabecgaappaa
namespace Go.Proofs.Ytfikabecgaappaa
open Go.RowKit
def endI (S:List Nat) (x:PS):Int:=if x.2.2=true then -1 else((S.length-x.2.1.length:Nat):Int)
def RRs (S:List Nat) (x:PS) (w:World) (e:Ending) (w':World):Prop:=∃ a c,e = .returned (.tuple #[.slice a x.1.length c,.int .i64 (endI S x)])∧St w w' [Ent.row 34 2 (.slice a x.1.length c) x.1.length (x.1.flatMap Zah)]
theorem RRs.nil (S:List Nat) (q:List Nat) {w w':World} {a:Option Addr} {c:Nat} (hS:St w w' [Ent.row 34 2 (.slice a 0 c) 0 []]):RRs S ([],q,true) w (.returned (.tuple #[.slice a 0 c,.int .i64 (-1)])) w':=⟨a,c,rfl,hS⟩
end Go.Proofs.Ytfikabecgaappaa
