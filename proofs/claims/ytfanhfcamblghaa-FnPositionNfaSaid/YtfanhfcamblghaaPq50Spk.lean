/-
  Plain: tables of the parts of a word for the trees of an expression, and which trees stand on the program's stack and in the reference's table.
  No condition.
-/
import Derived.Test.YtfanhfcamblghaaPq48Spn
set_option maxHeartbeats 8000000
set_option maxRecDepth 100000
namespace Go.Proofs.Ytfanhfcamblghaa
open Go.RowKit
def mkE (p:Int × Int) (a b:Ex):Ex:=if p.1=1 then .zero else if p.1=2 then .one else if p.1=3 then .ltr (if p.2=1 then 1 else if p.2=2 then 2 else 0) else if p.1=4 then .join a b else if p.1=5 then .alt a b else if p.1=6 then .both a b else if p.1=7 then .neg a else .star a
theorem Zkv (c:Fin 3) (a b:Ex):mkE (3,(c.val:Int)) a b = .ltr c:=by
 have:c=0∨c=1∨c=2:=by omega
 rcases this with rfl|rfl|rfl<;>rfl
def stpE (p:Int × Int) (st:List Ex):Option (List Ex) :=
 if Zaa p=0 then some (mkE p .zero .zero::st)
 else if Zaa p=1 then
  match st with
  | a::r=>some (mkE p a a::r)
  | []=>none
 else
  match st with
  | b::a::r=>some (mkE p a b::r)
  | _=>none
def runE:List (Int × Int)→List Ex→Option (List Ex)
 | [],st=>some st
 | p::ps,st=>(stpE p st).bind (runE ps)
theorem Ze9 {p:Int × Int} (hp:Zaa p=0) (rest:List (Int × Int)) (st:List Ex):runE (p::rest) st=runE rest (mkE p .zero .zero::st):=by show(stpE p st).bind _=_;unfold stpE;rw[if_pos hp];rfl
theorem Ziq {p:Int × Int} (hp:Zaa p=1) (rest:List (Int × Int)) (a:Ex) (st:List Ex):runE (p::rest) (a::st)=runE rest (mkE p a a::st):=by show(stpE p (a::st)).bind _=_;unfold stpE;rw[if_neg (by omega),if_pos hp];rfl
theorem Zgx {p:Int × Int} (hp:Zaa p=2) (rest:List (Int × Int)) (a b:Ex) (st:List Ex):runE (p::rest) (b::a::st)=runE rest (mkE p a b::st):=by show(stpE p (b::a::st)).bind _=_;unfold stpE;rw[if_neg (by omega),if_neg (by omega)];rfl
theorem Za9:∀ (t:Ex) (rest:List (Int × Int)) (st:List Ex),runE (t.post++rest) st=runE rest (t::st)
 | .zero,rest,st=>Ze9 Zbx rest st
 | .one,rest,st=>Ze9 Zbw rest st
 | .ltr c,rest,st=>by have:=Ze9 (Zbk c) rest st;rw[Zkv] at this;exact this
 | .join a b,rest,st=>by show runE (a.post++b.post++[(4,0)]++rest) st=_;rw[List.append_assoc,List.append_assoc,Za9 a,Za9 b];exact Zgx Zcu rest a b st
 | .alt a b,rest,st=>by show runE (a.post++b.post++[(5,0)]++rest) st=_;rw[List.append_assoc,List.append_assoc,Za9 a,Za9 b];exact Zgx ZdC rest a b st
 | .both a b,rest,st=>by show runE (a.post++b.post++[(6,0)]++rest) st=_;rw[List.append_assoc,List.append_assoc,Za9 a,Za9 b];exact Zgx Zfe rest a b st
 | .neg a,rest,st=>by show runE (a.post++[(7,0)]++rest) st=_;rw[List.append_assoc,Za9 a];exact Ziq Zg7 rest a st
 | .star a,rest,st=>by show runE (a.post++[(8,0)]++rest) st=_;rw[List.append_assoc,Za9 a];exact Ziq Zct rest a st
theorem Zi5 (t:Ex):runE t.post []=some [t]:=by
 have:=Za9 t [] []
 rwa [List.append_nil] at this
theorem Zj4 {es:List (Int × Int)} {k:Nat} (hk:k<es.length) (st:List Ex):runE (es.drop k) st=(stpE (es.getD k (0,0)) st).bind (runE (es.drop (k+1))):=by
 have e:es.drop k=es.getD k (0,0)::es.drop (k+1):=by rw[show es.getD k (0,0)=es[k] by simp[hk]];exact(List.getElem_cons_drop hk).symm
 rw[e];rfl
-- steps, over a stack whose top is its end
theorem ZgI {l:List Ex} {t:Nat} (h:l.length=t+1):l=l.take t++[l.getD t .zero]:=by
 have e:l.take (t+1)=l:=by rw[← h];exact List.take_length
 rw[List.take_succ_eq_append_getElem (by omega)] at e;have e2:l.getD t .zero=l[t]:=by simp[show t<l.length by omega]
 rw[e2];exact e.symm
theorem Zn5 {p:Int × Int} (hp:Zaa p=0) (ds:List Ex):stpE p ds.reverse=some ((ds.take (ds.length-0)++[mkE p .zero .zero]).reverse):=by unfold stpE;rw[if_pos hp,Nat.sub_zero,List.take_length,List.reverse_append];rfl
theorem Zn4 {p:Int × Int} (hp:Zaa p=1) {ds:List Ex} {t:Nat} (h:ds.length=t+1):stpE p ds.reverse=some ((ds.take t++[mkE p (ds.getD t .zero) (ds.getD t .zero)]).reverse):=by
 have e:=ZgI h;have er:ds.reverse=ds.getD t .zero::(ds.take t).reverse:=by rw[show ds.reverse=(ds.take t++[ds.getD t .zero]).reverse by rw[← e]];simp
 rw[er];unfold stpE;rw[if_neg (by omega),if_pos hp];simp
theorem Zn3 {p:Int × Int} (hp:Zaa p=2) {ds:List Ex} {t:Nat} (h:ds.length=t+1+1):stpE p ds.reverse=some ((ds.take t++[mkE p (ds.getD t .zero) (ds.getD (t+1) .zero)]).reverse):=by
 have e:=ZgI h;have hl:(ds.take (t+1)).length=t+1:=by rw[List.length_take];omega
 have e2:=ZgI hl;have e3:(ds.take (t+1)).getD t .zero=ds.getD t .zero:=by simp only[List.getD_eq_getElem?_getD];rw[List.getElem?_take,if_pos (Nat.lt_succ_self t)]
 rw[List.take_take,Nat.min_eq_left (by omega),e3] at e2;have er:ds.reverse=ds.getD (t+1) .zero::ds.getD t .zero::(ds.take t).reverse:=by rw[show ds.reverse=(ds.take (t+1)++[ds.getD (t+1) .zero]).reverse by rw[← e],e2];simp
 rw[er];unfold stpE;rw[if_neg (by omega),if_neg (by omega)];simp
-- the trees that end at the parts
theorem Zlz (i j:Nat) (u:World) (r:Bool) (hr:r=true↔i=j) (_hi:i≤8) (hj:j≤8) :
  Calls Try.prog 134 #[.int .i64 (i:Int),.int .i64 (j:Int)] u fun e w'=>e = .returned (.bool r)∧Below u.heap.size u w':=by
 by_cases h:i=j
 ·have hr1:=hr.2 h;subst hr1 h;clear hr
  go_enter Try.func134, Try.ntmps134
  go_wp2;go_ret;exact⟨by simp,Below.refl _ _⟩
 have hr1:r=false:=by
  cases r with
  | false=>rfl
  | true=>exact absurd (hr.1 rfl) h
 subst hr1;have hn:((i:Int)==(j:Int))=false:=by simp;omega
 clear hr
 go_enter Try.func134, Try.ntmps134
 go_wp2;go_ret;exact⟨by simp,Below.refl _ _⟩
theorem Zju (A B:Nat→Nat→Bool) (b2 b3 i j:Nat) (u:World) (hij:i≤j) (hj:j≤8) (hA:TabAt u b2 A) (hB:TabAt u b3 B) (r:Bool) (hr:(A i j||B i j)=r) :
  Calls Try.prog 137 #[.int .i64 (i:Int),.int .i64 (j:Int),.pointer (some ⟨b2,0,none⟩),.pointer (some ⟨b3,0,none⟩)] u fun e w'=>e = .returned (.bool r)∧Below u.heap.size u w':=by
 have hi9:(i:Int)<9:=by omega
 have hj9:(j:Int)<9:=by omega
 have k0:=hA i j (by omega) (by omega);have k1:=hB i j (by omega) (by omega);cases ha:A i j with
 | true =>
  rw[ha] at k0 hr;subst hr;clear ha hA hB k1
  go_enter Try.func137, Try.ntmps137
  go_wp2;go_ret;exact⟨rfl,Below.refl _ _⟩
 | false =>
  rw[ha] at k0 hr;obtain⟨y,hy⟩:=eJ (B i j);rw[hy] at k1 hr;rw[Bool.false_or] at hr;subst hr;clear ha hA hB hy
  go_enter Try.func137, Try.ntmps137
  go_wp2;go_ret;exact⟨rfl,Below.refl _ _⟩
theorem Zlh (A B:Nat→Nat→Bool) (b2 b3 i j:Nat) (u:World) (hij:i≤j) (hj:j≤8) (hA:TabAt u b2 A) (hB:TabAt u b3 B) (r:Bool) (hr:(A i j&&B i j)=r) :
  Calls Try.prog 138 #[.int .i64 (i:Int),.int .i64 (j:Int),.pointer (some ⟨b2,0,none⟩),.pointer (some ⟨b3,0,none⟩)] u fun e w'=>e = .returned (.bool r)∧Below u.heap.size u w':=by
 have hi9:(i:Int)<9:=by omega
 have hj9:(j:Int)<9:=by omega
 have k0:=hA i j (by omega) (by omega);have k1:=hB i j (by omega) (by omega);cases ha:A i j with
 | false =>
  rw[ha] at k0 hr;subst hr;clear ha hA hB k1
  go_enter Try.func138, Try.ntmps138
  go_wp2;go_ret;exact⟨rfl,Below.refl _ _⟩
 | true =>
  rw[ha] at k0 hr;obtain⟨y,hy⟩:=eJ (B i j);rw[hy] at k1 hr;rw[Bool.true_and] at hr;subst hr;clear ha hA hB hy
  go_enter Try.func138, Try.ntmps138
  go_wp2;go_ret;exact⟨rfl,Below.refl _ _⟩
theorem ZlI (A:Nat→Nat→Bool) (b2 i j:Nat) (u:World) (hij:i≤j) (hj:j≤8) (hA:TabAt u b2 A) (r:Bool) (hr:(!A i j)=r) :
  Calls Try.prog 139 #[.int .i64 (i:Int),.int .i64 (j:Int),.pointer (some ⟨b2,0,none⟩)] u fun e w'=>e = .returned (.bool r)∧Below u.heap.size u w':=by
 have hi9:(i:Int)<9:=by omega
 have hj9:(j:Int)<9:=by omega
 have k0:=hA i j (by omega) (by omega);obtain⟨y,hy⟩:=eJ (A i j);rw[hy] at k0 hr;subst hr;clear hA hy
 go_enter Try.func139, Try.ntmps139
 go_wp2;go_ret;exact⟨rfl,Below.refl _ _⟩
theorem ZnR {l:List Nat} {i:Nat} (hi:i<l.length):(lsT l).getD i 0=l.getD i 0-97:=by simp[lsT,hi]
theorem ZkF (l:List Nat) (b2 b3 i j c:Nat) (u:World) (ht:isT l) (hwd:wdOk l=true) (hij:i≤j) (hj:j≤l.length) (h2:u.cell? ⟨b2,0,none⟩=some (.string (txB l))) (h3:u.cell? ⟨b3,1,none⟩=some (.int .i64 (c:Int))) (r:Bool) (hr:decide (j=i+1∧(lsT l).getD i 0=c)=r) :
  Calls Try.prog 135 #[.int .i64 (i:Int),.int .i64 (j:Int),.pointer (some ⟨b2,0,none⟩),.pointer (some ⟨b3,0,none⟩)] u fun e w'=>e = .returned (.bool r)∧Below u.heap.size u w':=by
 obtain⟨hn,h97⟩:=Zc4 hwd;have hw1:IntKind.i64.wrap ((i:Int)+1)=(i:Int)+1:=IntWalk.i64_in _ (by omega);have Ht:=qh ht;clear ht hwd;by_cases hji:j=i+1
 ·have hd:((j:Int)==(i:Int)+1)=true:=by simp;omega
  have hlt:i<l.length:=by omega
  have hlo:=(h97 i hlt).1;obtain⟨d,hd9⟩:=eJ (l.getD i 0-97);rw[ZnR hlt,hd9] at hr
  have hr2:((d:Int)==(c:Int))=r:=by
   rw[← hr];by_cases h:d=c
   ·subst h;simp[hji]
   rw[decide_eq_false (fun g=>h g.2)];simp;omega
  subst hr2;have hle:=fun u'=>Zcy l i hlt Ht.out hlo u'
  rw[hd9] at hle;have Hle:=qh hle;clear hle hd9 hr h97 hlo
  go_enter Try.func135, Try.ntmps135
  go_wp2
  go_quiet ((go_at_call 93;with_reducible exact ZlD (Hle.out _)))
  go_wp2;go_ret;exact⟨rfl,below_drewN (Below.refl _ _) _⟩
 have hd:((j:Int)==(i:Int)+1)=false:=by simp;omega
 have hr2:r=false:=by rw[← hr,decide_eq_false (fun g=>hji g.1)]
 subst hr2;clear hr h97
 go_enter Try.func135, Try.ntmps135
 go_wp2
 go_quiet (fail)
 go_wp2;go_ret;exact⟨rfl,below_drewN (Below.refl _ _) _⟩
end Go.Proofs.Ytfanhfcamblghaa
