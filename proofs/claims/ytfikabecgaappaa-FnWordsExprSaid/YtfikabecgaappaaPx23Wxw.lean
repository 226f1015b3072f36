/-
  Plain: tables of the parts of a word for the trees of an expression, and which trees stand on the program's stack and in the reference's table.
  No condition.
-/
import Derived.Test.YtfikabecgaappaaPx21Spn
set_option maxHeartbeats 8000000
set_option maxRecDepth 100000
namespace Go.Proofs.Ytfikabecgaappaa
open Go.RowKit
theorem ZeI {A B:Nat→Nat→Prop} {n:Nat} (h:∀ a b,a≤b→b≤n→(A a b↔B a b)):∀ (m:Nat) {i j:Nat},i≤j→j≤n→(stR A m i j↔stR B m i j)
 | 0,_,_,_,_=>Iff.rfl
 | m+1,i,j,hij,hj=>or_congr (ZeI h m hij hj) (exists_congr fun k=>and_congr_right fun h1=>and_congr_right fun h2=>and_congr (ZeI h m h1 (by omega)) (h k j h2 hj))
def tabE (n:Nat) (ls:List Nat):Ex→Nat→Nat→Bool
 | .zero=>fun _ _=>false
 | .one=>fun i j=>decide (i=j)
 | .ltr c=>fun i j=>decide (j=i+1∧ls.getD i 0=c.val)
 | .join a b=>Zfq (Zak n (tabE n ls a)) (Zak n (tabE n ls b))
 | .alt a b=>fun i j=>Zak n (tabE n ls a) i j||Zak n (tabE n ls b) i j
 | .both a b=>fun i j=>Zak n (tabE n ls a) i j&&Zak n (tabE n ls b) i j
 | .neg a=>fun i j => !Zak n (tabE n ls a) i j
 | .star a=>stB n (Zak n (tabE n ls a)) n
theorem Zbx {n:Nat} {ls:List Nat} (hl:ls.length=n) (hn:n≤8):∀ (t:Ex) {i j:Nat},i≤j→j≤n→(tabE n ls t i j=true↔memS t ls i j)
 | .zero,i,j,_,_=>by simp[tabE,ZkO]
 | .one,i,j,hij,hj=>by rw[Zl5 hij (by omega)];simp[tabE]
 | .ltr c,i,j,hij,hj=>by rw[Zl6 hij (by omega)];simp[tabE]
 | .join a b,i,j,hij,hj=>by
  rw[ZkQ hij (by omega)];show Zfq _ _ i j=true↔_;rw[Zdp hn hj];refine exists_congr fun k=>and_congr_right fun h1=>and_congr_right fun h2 => ?_
  rw[Za3 _ h1 (by omega),Za3 _ h2 hj,Zbx hl hn a h1 (by omega),Zbx hl hn b h2 hj]
 | .alt a b,i,j,hij,hj=>by show(Zak n _ i j||Zak n _ i j)=true↔_;rw[Za3 _ hij hj,Za3 _ hij hj,Bool.or_eq_true,Zbx hl hn a hij hj,Zbx hl hn b hij hj];rfl
 | .both a b,i,j,hij,hj=>by show(Zak n _ i j&&Zak n _ i j)=true↔_;rw[Za3 _ hij hj,Za3 _ hij hj,Bool.and_eq_true,Zbx hl hn a hij hj,Zbx hl hn b hij hj];rfl
 | .neg a,i,j,hij,hj=>by show(!Zak n _ i j)=true↔¬ memS a ls i j;rw[Za3 _ hij hj,← Zbx hl hn a hij hj];simp
 | .star a,i,j,hij,hj=>by show stB n _ n i j=true↔_;rw[ZhU hn _ n hij hj,← ZmW hij (by omega),hl];refine ZeI (n:=n) (fun x y hx hy => ?_) n hij hj;rw[Za3 _ hx hy,Zbx hl hn a hx hy]
theorem ZlM {ls:List Nat} (hn:ls.length≤8) (t:Ex):tabE ls.length ls t 0 ls.length=true↔memE t ls:=by rw[Zbx rfl hn t (Nat.zero_le _) (Nat.le_refl _)];unfold memS;rw[ZmY]
def mkE (p:Int × Int) (a b:Ex):Ex:=if p.1=1 then .zero else if p.1=2 then .one else if p.1=3 then .ltr (if p.2=1 then 1 else if p.2=2 then 2 else 0) else if p.1=4 then .join a b else if p.1=5 then .alt a b else if p.1=6 then .both a b else if p.1=7 then .neg a else .star a
theorem ZkJ (c:Fin 3) (a b:Ex):mkE (3,(c.val:Int)) a b = .ltr c:=by
 have:c=0∨c=1∨c=2:=by omega
 rcases this with rfl|rfl|rfl<;>rfl
def stpE (p:Int × Int) (st:List Ex):Option (List Ex) :=
 if Zah p=0 then some (mkE p .zero .zero::st)
 else if Zah p=1 then
  match st with
  | a::r=>some (mkE p a a::r)
  | []=>none
 else
  match st with
  | b::a::r=>some (mkE p a b::r)
  | _=>none
def runE:List (Int × Int)→List Ex→Option (List Ex)
 | [],st=>some st
 | p::ps,st=>(stpE p st).bind (runE ps)
theorem ZeM {p:Int × Int} (hp:Zah p=0) (rest:List (Int × Int)) (st:List Ex):runE (p::rest) st=runE rest (mkE p .zero .zero::st):=by show(stpE p st).bind _=_;unfold stpE;rw[if_pos hp];rfl
theorem ZiJ {p:Int × Int} (hp:Zah p=1) (rest:List (Int × Int)) (a:Ex) (st:List Ex):runE (p::rest) (a::st)=runE rest (mkE p a a::st):=by show(stpE p (a::st)).bind _=_;unfold stpE;rw[if_neg (by omega),if_pos hp];rfl
theorem Zgh {p:Int × Int} (hp:Zah p=2) (rest:List (Int × Int)) (a b:Ex) (st:List Ex):runE (p::rest) (b::a::st)=runE rest (mkE p a b::st):=by show(stpE p (b::a::st)).bind _=_;unfold stpE;rw[if_neg (by omega),if_neg (by omega)];rfl
theorem Zbe:∀ (t:Ex) (rest:List (Int × Int)) (st:List Ex),runE (t.post++rest) st=runE rest (t::st)
 | .zero,rest,st=>ZeM Zgp rest st
 | .one,rest,st=>ZeM Zgo rest st
 | .ltr c,rest,st=>by have:=ZeM (Zeq c) rest st;rw[ZkJ] at this;exact this
 | .join a b,rest,st=>by show runE (a.post++b.post++[(4,0)]++rest) st=_;rw[List.append_assoc,List.append_assoc,Zbe a,Zbe b];exact Zgh Zh5 rest a b st
 | .alt a b,rest,st=>by show runE (a.post++b.post++[(5,0)]++rest) st=_;rw[List.append_assoc,List.append_assoc,Zbe a,Zbe b];exact Zgh Zkr rest a b st
 | .both a b,rest,st=>by show runE (a.post++b.post++[(6,0)]++rest) st=_;rw[List.append_assoc,List.append_assoc,Zbe a,Zbe b];exact Zgh Zh6 rest a b st
 | .neg a,rest,st=>by show runE (a.post++[(7,0)]++rest) st=_;rw[List.append_assoc,Zbe a];exact ZiJ Zkq rest a st
 | .star a,rest,st=>by show runE (a.post++[(8,0)]++rest) st=_;rw[List.append_assoc,Zbe a];exact ZiJ Zh4 rest a st
theorem Zjo (t:Ex):runE t.post []=some [t]:=by
 have:=Zbe t [] []
 rwa [List.append_nil] at this
theorem Zke {es:List (Int × Int)} {k:Nat} (hk:k<es.length) (st:List Ex):runE (es.drop k) st=(stpE (es.getD k (0,0)) st).bind (runE (es.drop (k+1))):=by
 have e:es.drop k=es.getD k (0,0)::es.drop (k+1):=by rw[show es.getD k (0,0)=es[k] by simp[hk]];exact(List.getElem_cons_drop hk).symm
 rw[e];rfl
-- steps, over a stack whose top is its end
theorem Zgz {l:List Ex} {t:Nat} (h:l.length=t+1):l=l.take t++[l.getD t .zero]:=by
 have e:l.take (t+1)=l:=by rw[← h];exact List.take_length
 rw[List.take_succ_eq_append_getElem (by omega)] at e;have e2:l.getD t .zero=l[t]:=by simp[show t<l.length by omega]
 rw[e2];exact e.symm
theorem ZnM {p:Int × Int} (hp:Zah p=0) (ds:List Ex):stpE p ds.reverse=some ((ds.take (ds.length-0)++[mkE p .zero .zero]).reverse):=by unfold stpE;rw[if_pos hp,Nat.sub_zero,List.take_length,List.reverse_append];rfl
theorem ZnL {p:Int × Int} (hp:Zah p=1) {ds:List Ex} {t:Nat} (h:ds.length=t+1):stpE p ds.reverse=some ((ds.take t++[mkE p (ds.getD t .zero) (ds.getD t .zero)]).reverse):=by
 have e:=Zgz h;have er:ds.reverse=ds.getD t .zero::(ds.take t).reverse:=by rw[show ds.reverse=(ds.take t++[ds.getD t .zero]).reverse by rw[← e]];simp
 rw[er];unfold stpE;rw[if_neg (by omega),if_pos hp];simp
theorem ZnK {p:Int × Int} (hp:Zah p=2) {ds:List Ex} {t:Nat} (h:ds.length=t+1+1):stpE p ds.reverse=some ((ds.take t++[mkE p (ds.getD t .zero) (ds.getD (t+1) .zero)]).reverse):=by
 have e:=Zgz h;have hl:(ds.take (t+1)).length=t+1:=by rw[List.length_take];omega
 have e2:=Zgz hl;have e3:(ds.take (t+1)).getD t .zero=ds.getD t .zero:=by simp only[List.getD_eq_getElem?_getD];rw[List.getElem?_take,if_pos (Nat.lt_succ_self t)]
 rw[List.take_take,Nat.min_eq_left (by omega),e3] at e2;have er:ds.reverse=ds.getD (t+1) .zero::ds.getD t .zero::(ds.take t).reverse:=by rw[show ds.reverse=(ds.take (t+1)++[ds.getD (t+1) .zero]).reverse by rw[← e],e2];simp
 rw[er];unfold stpE;rw[if_neg (by omega),if_neg (by omega)];simp
-- the trees that end at the parts
theorem ZlR (i j:Nat) (u:World) (r:Bool) (hr:r=true↔i=j) (_hi:i≤8) (hj:j≤8) :
  Calls Try.prog 80 #[.int .i64 (i:Int),.int .i64 (j:Int)] u fun e w'=>e = .returned (.bool r)∧Below u.heap.size u w':=by
 by_cases h:i=j
 ·have hr1:=hr.2 h;subst hr1 h;clear hr
  go_enter Try.func80, Try.ntmps80
  go_wp2;go_ret;exact⟨by simp,Below.refl _ _⟩
 have hr1:r=false:=by
  cases r with
  | false=>rfl
  | true=>exact absurd (hr.1 rfl) h
 subst hr1;have hn:((i:Int)==(j:Int))=false:=by simp;omega
 clear hr
 go_enter Try.func80, Try.ntmps80
 go_wp2;go_ret;exact⟨by simp,Below.refl _ _⟩
theorem ZjH (A B:Nat→Nat→Bool) (b2 b3 i j:Nat) (u:World) (hij:i≤j) (hj:j≤8) (hA:TabAt u b2 A) (hB:TabAt u b3 B) (r:Bool) (hr:(A i j||B i j)=r) :
  Calls Try.prog 83 #[.int .i64 (i:Int),.int .i64 (j:Int),.pointer (some ⟨b2,0,none⟩),.pointer (some ⟨b3,0,none⟩)] u fun e w'=>e = .returned (.bool r)∧Below u.heap.size u w':=by
 have hi9:(i:Int)<9:=by omega
 have hj9:(j:Int)<9:=by omega
 have k0:=hA i j (by omega) (by omega);have k1:=hB i j (by omega) (by omega);cases ha:A i j with
 | true =>
  rw[ha] at k0 hr;subst hr;clear ha hA hB k1
  go_enter Try.func83, Try.ntmps83
  go_wp2;go_ret;exact⟨rfl,Below.refl _ _⟩
 | false =>
  rw[ha] at k0 hr;obtain⟨y,hy⟩:=eJ (B i j);rw[hy] at k1 hr;rw[Bool.false_or] at hr;subst hr;clear ha hA hB hy
  go_enter Try.func83, Try.ntmps83
  go_wp2;go_ret;exact⟨rfl,Below.refl _ _⟩
theorem Zlz (A B:Nat→Nat→Bool) (b2 b3 i j:Nat) (u:World) (hij:i≤j) (hj:j≤8) (hA:TabAt u b2 A) (hB:TabAt u b3 B) (r:Bool) (hr:(A i j&&B i j)=r) :
  Calls Try.prog 84 #[.int .i64 (i:Int),.int .i64 (j:Int),.pointer (some ⟨b2,0,none⟩),.pointer (some ⟨b3,0,none⟩)] u fun e w'=>e = .returned (.bool r)∧Below u.heap.size u w':=by
 have hi9:(i:Int)<9:=by omega
 have hj9:(j:Int)<9:=by omega
 have k0:=hA i j (by omega) (by omega);have k1:=hB i j (by omega) (by omega);cases ha:A i j with
 | false =>
  rw[ha] at k0 hr;subst hr;clear ha hA hB k1
  go_enter Try.func84, Try.ntmps84
  go_wp2;go_ret;exact⟨rfl,Below.refl _ _⟩
 | true =>
  rw[ha] at k0 hr;obtain⟨y,hy⟩:=eJ (B i j);rw[hy] at k1 hr;rw[Bool.true_and] at hr;subst hr;clear ha hA hB hy
  go_enter Try.func84, Try.ntmps84
  go_wp2;go_ret;exact⟨rfl,Below.refl _ _⟩
theorem ZlW (A:Nat→Nat→Bool) (b2 i j:Nat) (u:World) (hij:i≤j) (hj:j≤8) (hA:TabAt u b2 A) (r:Bool) (hr:(!A i j)=r) :
  Calls Try.prog 85 #[.int .i64 (i:Int),.int .i64 (j:Int),.pointer (some ⟨b2,0,none⟩)] u fun e w'=>e = .returned (.bool r)∧Below u.heap.size u w':=by
 have hi9:(i:Int)<9:=by omega
 have hj9:(j:Int)<9:=by omega
 have k0:=hA i j (by omega) (by omega);obtain⟨y,hy⟩:=eJ (A i j);rw[hy] at k0 hr;subst hr;clear hA hy
 go_enter Try.func85, Try.ntmps85
 go_wp2;go_ret;exact⟨rfl,Below.refl _ _⟩
def lsT (l:List Nat):List Nat:=l.map (·-97)
theorem ZkR (l:List Nat):(lsT l).length=l.length:=by simp[lsT]
theorem ZnA {l:List Nat} {i:Nat} (hi:i<l.length):(lsT l).getD i 0=l.getD i 0-97:=by simp[lsT,hi]
theorem ZaP {l:List Nat} (h:wdOk l=true):l.length≤8∧∀ i,i<l.length→97≤l.getD i 0∧l.getD i 0≤99:=by unfold wdOk okT at h;rw[Bool.and_eq_true,decide_eq_true_eq,List.all_eq_true] at h;refine⟨h.2,fun i hi => ?_⟩;have h1:=h.1 i (List.mem_range.2 hi);simp only[inB,Bool.and_eq_true,decide_eq_true_eq] at h1;omega
theorem ZkS (l:List Nat) (b2 b3 i j c:Nat) (u:World) (ht:isT l) (hwd:wdOk l=true) (hij:i≤j) (hj:j≤l.length) (h2:u.cell? ⟨b2,0,none⟩=some (.string (txB l))) (h3:u.cell? ⟨b3,1,none⟩=some (.int .i64 (c:Int))) (r:Bool) (hr:decide (j=i+1∧(lsT l).getD i 0=c)=r) :
  Calls Try.prog 81 #[.int .i64 (i:Int),.int .i64 (j:Int),.pointer (some ⟨b2,0,none⟩),.pointer (some ⟨b3,0,none⟩)] u fun e w'=>e = .returned (.bool r)∧Below u.heap.size u w':=by
 obtain⟨hn,h97⟩:=ZaP hwd;have hw1:IntKind.i64.wrap ((i:Int)+1)=(i:Int)+1:=IntWalk.i64_in _ (by omega);have Ht:=qh ht;clear ht hwd;by_cases hji:j=i+1
 ·have hd:((j:Int)==(i:Int)+1)=true:=by simp;omega
  have hlt:i<l.length:=by omega
  have hlo:=(h97 i hlt).1;obtain⟨d,hd9⟩:=eJ (l.getD i 0-97);rw[ZnA hlt,hd9] at hr
  have hr2:((d:Int)==(c:Int))=r:=by
   rw[← hr];by_cases h:d=c
   ·subst h;simp[hji]
   rw[decide_eq_false (fun g=>h g.2)];simp;omega
  subst hr2;have hle:=fun u'=>Zck l i hlt Ht.out hlo u'
  rw[hd9] at hle;have Hle:=qh hle;clear hle hd9 hr h97 hlo
  go_enter Try.func81, Try.ntmps81
  go_wp2
  go_quiet ((go_at_call 44;with_reducible exact Zgl (Hle.out _)))
  go_wp2;go_ret;exact⟨rfl,below_drewN (Below.refl _ _) _⟩
 have hd:((j:Int)==(i:Int)+1)=false:=by simp;omega
 have hr2:r=false:=by rw[← hr,decide_eq_false (fun g=>hji g.1)]
 subst hr2;clear hr h97
 go_enter Try.func81, Try.ntmps81
 go_wp2
 go_quiet (fail)
 go_wp2;go_ret;exact⟨rfl,below_drewN (Below.refl _ _) _⟩
def wsP (ls:List (List Nat)):Nat→List (Int × Int)
 | 0=>[(1,0)]
 | k+1=>if k=0 then ZaK (ls.getD k []) else wsP ls k++ZaK (ls.getD k [])++[(5,0)]
def wsT (ls:List (List Nat)):Nat→Ex
 | 0 => .zero
 | k+1=>if k=0 then wxT (lets (ls.getD k [])) (ls.getD k []).length else .alt (wsT ls k) (wxT (lets (ls.getD k [])) (ls.getD k []).length)
def wsOk (ls:List (List Nat)):Bool:=(List.range ls.length).all (fun k=>wdOk (ls.getD k [])&&decide ((wsP ls (k+1)).length≤60))
theorem Zf4 {ls:List (List Nat)} (h:wsOk ls=true) {k:Nat} (hk:k<ls.length):wdOk (ls.getD k [])=true∧(wsP ls (k+1)).length≤60:=by
 have:=List.all_eq_true.1 h k (List.mem_range.2 hk)
 rwa [Bool.and_eq_true,decide_eq_true_eq] at this
theorem Zep {ls:List (List Nat)} {k:Nat} (hk:k<ls.length) (h:¬ (wdOk (ls.getD k [])=true∧(wsP ls (k+1)).length≤60)):wsOk ls=false:=by
 cases hb:wsOk ls with
 | false=>rfl
 | true=>exact absurd (Zf4 hb hk) h
theorem Zji {l:List Nat} (h:wdOk l=false):ZaK l=[]:=by unfold ZaK;rw[if_neg (by rw[h];decide)]
theorem Zjh {l:List Nat} (h:wdOk l=true):1≤(ZaK l).length∧(ZaK l).length≤16:=by
 have h8:=(ZaP h).1;unfold ZaK;rw[if_pos h]
 split
 ·decide
 next h0 =>
 refine⟨?_,by have:=Zf3 l l.length;omega⟩;obtain⟨k,hk⟩:∃ k,l.length=k+1:=⟨l.length-1,by omega⟩;rw[hk];unfold wxK;rw[List.length_append,List.length_append,List.length_singleton];omega
theorem ZjR (ls:List (List Nat)):wsP ls 1=ZaK (ls.getD 0 []):=by unfold wsP;rw[if_pos rfl]
theorem Ziy {ls:List (List Nat)} {k:Nat} (h:0<k):wsP ls (k+1)=wsP ls k++ZaK (ls.getD k [])++[(5,0)]:=by rw[wsP,if_neg (by omega)]
theorem Zix {ls:List (List Nat)} (h:∀ k,k<ls.length→wdOk (ls.getD k [])=true):∀ k,k≤ls.length→(wsT ls k).post=wsP ls k
 | 0,_=>rfl
 | k+1,hk=>by
  unfold wsT wsP
  split
  ·exact(ZeC (h k (by omega))).1
  show(wsT ls k).post++(wxT (lets (ls.getD k [])) (ls.getD k []).length).post++[(5,0)]=_;rw[Zix h k (by omega),(ZeC (h k (by omega))).1]
theorem ZhK {ls:List (List Nat)} (h:∀ k,k<ls.length→wdOk (ls.getD k [])=true):∀ k,k≤ls.length→∀ w,memE (wsT ls k) w↔∃ i,i<k∧w=lets (ls.getD i [])
 | 0,_,w=>⟨fun h=>h.elim,fun ⟨i,hi,_⟩=>absurd hi (by omega)⟩
 | k+1,hk,w=>by
  have hw:=(ZeC (h k (by omega))).2 w;unfold wsT
  split
  ·next h0 =>
   subst h0;rw[hw]
   exact⟨fun e=>⟨0,by omega,e⟩,fun ⟨i,hi,e⟩=>by
    obtain rfl:i=0:=by omega
    exact e⟩
  show memE (wsT ls k) w∨memE (wxT (lets (ls.getD k [])) (ls.getD k []).length) w↔_;rw[hw,ZhK h k (by omega) w];constructor
  ·rintro(⟨i,hi,e⟩|e)
   ·exact⟨i,by omega,e⟩
   exact⟨k,by omega,e⟩
  rintro⟨i,hi,e⟩;by_cases hik:i=k
  ·subst hik;exact .inr e
  exact .inl ⟨i,by omega,e⟩
theorem Zja:∀ (n:Nat) (p:List Nat→Bool) (x:List Nat),isW x→cntP n (fun w=>p w||w==x)=cntP n p+(if x.length=n∧p x=false then 1 else 0)
 | 0,p,x,_=>by
  show(if (p []||[]==x)=true then 1 else 0)=(if p []=true then 1 else 0)+_;cases x with
  | nil=>cases hp:p []<;>simp[hp]
  | cons c x=>cases hp:p []<;>simp[hp]
 | n+1,p,x,hx=>by
  show cntP n (fun w=>p (0::w)||(0::w)==x)+cntP n (fun w=>p (1::w)||(1::w)==x)+cntP n (fun w=>p (2::w)||(2::w)==x)=(cntP n (fun w=>p (0::w))+cntP n (fun w=>p (1::w))+cntP n (fun w=>p (2::w)))+_;cases x with
  | nil =>
   have e:∀ c:Nat,(fun w:List Nat=>p (c::w)||(c::w)==[])=fun w=>p (c::w):=fun c=>by
    funext w
    have:((c::w)==([]:List Nat))=false:=rfl;rw[this,Bool.or_false]
   rw[e,e,e,if_neg (by simp)];rfl
  | cons a x =>
   have hxx:isW x:=fun c hc=>hx c (List.mem_cons_of_mem _ hc)
   have ha:a<3:=hx a (List.mem_cons_self ..)
   have e:∀ c:Nat,c≠a→(fun w:List Nat=>p (c::w)||(c::w)==(a::x))=fun w=>p (c::w):=fun c hc=>by
    funext w
    have:((c::w)==(a::x))=false:=by rw[beq_eq_false_iff_ne];intro h;exact hc (List.cons.inj h).1
    rw[this,Bool.or_false]
   have e2:(fun w:List Nat=>p (a::w)||(a::w)==(a::x))=fun w=>(fun v=>p (a::v)) w||w==x:=by
    funext w
    have:((a::w)==(a::x))=(w==x):=by rw[Bool.eq_iff_iff,beq_iff_eq,beq_iff_eq];exact⟨fun h=>(List.cons.inj h).2,fun h=>by rw[h]⟩
    rw[this]
   have ih:=Zja n (fun v=>p (a::v)) x hxx
   have hlen:((a::x).length=n+1∧p (a::x)=false)↔(x.length=n∧p (a::x)=false):=by
    rw[List.length_cons];constructor
    ·rintro⟨h,g⟩;exact⟨by omega,g⟩
    rintro⟨h,g⟩;exact⟨by omega,g⟩
   rw[← e2] at ih;simp only[hlen];obtain rfl|rfl|rfl:a=0∨a=1∨a=2:=by omega
   ·rw[ih,e 1 (by decide),e 2 (by decide)];omega
   ·rw[ih,e 0 (by decide),e 2 (by decide)];omega
   rw[ih,e 0 (by decide),e 1 (by decide)];omega
def Zdl (p:List Nat→Bool):Nat→Nat
 | 0=>0
 | n+1=>Zdl p n+cntP n p
theorem Zhj {p:List Nat→Bool} {x:List Nat} (hx:isW x):∀ n,Zdl (fun w=>p w||w==x) n=Zdl p n+(if x.length<n∧p x=false then 1 else 0)
 | 0=>rfl
 | n+1=>by
  show Zdl (fun w=>p w||w==x) n+cntP n (fun w=>p w||w==x)=Zdl p n+cntP n p+_;rw[Zhj hx n,Zja n p x hx];by_cases hp:p x=false
  ·by_cases h1:x.length<n
   ·rw[if_pos ⟨h1,hp⟩,if_neg (fun h=>by omega),if_pos ⟨by omega,hp⟩];omega
   by_cases h2:x.length=n
   ·rw[if_neg (fun h=>h1 h.1),if_pos ⟨h2,hp⟩,if_pos ⟨by omega,hp⟩];omega
   rw[if_neg (fun h=>h1 h.1),if_neg (fun h=>h2 h.1),if_neg (fun h=>by omega)];omega
  rw[if_neg (fun h=>hp h.2),if_neg (fun h=>hp h.2),if_neg (fun h=>hp h.2)];omega
theorem ZeV {p q:List Nat→Bool} (h:∀ w,isW w→p w=q w):∀ n,Zdl p n=Zdl q n
 | 0=>rfl
 | n+1=>by show Zdl p n+cntP n p=Zdl q n+cntP n q;rw[ZeV h n,ZfU n fun w hw _=>h w hw]
theorem ZfN:∀ n,Zdl (fun _=>false) n=0
 | 0=>rfl
 | n+1=>by
  have hz:∀ n,cntP n (fun _=>false)=0:=fun n=>by
   induction n with
   | zero=>rfl
   | succ n ih=>show cntP n (fun _=>false)+cntP n (fun _=>false)+cntP n (fun _=>false)=0;omega
  show Zdl (fun _=>false) n+cntP n (fun _=>false)=0;rw[ZfN n,hz]
def newW (ls:List (List Nat)) (k j:Nat):Bool:=(List.range j).all fun i => !decide (ls.getD i []=ls.getD k [])
def difW (ls:List (List Nat)):Nat→Nat
 | 0=>0
 | k+1=>difW ls k+(if newW ls k k=true then 1 else 0)
theorem Zlc (ls:List (List Nat)):∀ k,difW ls k≤k
 | 0=>Nat.le_refl _
 | k+1=>by
  have:=Zlc ls k;unfold difW
  split<;>omega
theorem ZkE (ls:List (List Nat)) (k j:Nat):newW ls k (j+1)=(newW ls k j && !decide (ls.getD j []=ls.getD k [])):=by unfold newW;rw[List.range_succ,List.all_append];simp
def inW (ls:List (List Nat)) (k:Nat) (w:List Nat):Bool:=(List.range k).any fun i=>w==lets (ls.getD i [])
theorem Zmg (ls:List (List Nat)) (k:Nat):inW ls (k+1)=fun w=>inW ls k w||w==lets (ls.getD k []):=by
 funext w
 unfold inW;rw[List.range_succ,List.any_append];simp
theorem Zl8 {a b:List Nat} (ha:wdOk a=true) (hb:wdOk b=true) (h:lets a=lets b):a=b:=by
 have h1:=(ZaP ha).2;have h2:=(ZaP hb).2;have hl:a.length=b.length:=by have:=congrArg List.length h;simpa [lets] using this
 apply List.ext_getElem hl;intro i h3 h4;have h5:=h1 i h3;have h6:=h2 i h4;have h7:(lets a)[i]? = (lets b)[i]?:=by rw[h]
 unfold lets at h7;rw[List.getElem?_map,List.getElem?_map,List.getElem?_eq_getElem h3,List.getElem?_eq_getElem h4] at h7;simp at h7;rw[List.getD_eq_getElem?_getD,List.getElem?_eq_getElem h3] at h5;rw[List.getD_eq_getElem?_getD,List.getElem?_eq_getElem h4] at h6;simp at h5 h6;omega
theorem ZiR {ls:List (List Nat)} (h:∀ k,k<ls.length→wdOk (ls.getD k [])=true):∀ k,k≤ls.length→Zdl (inW ls k) 9=difW ls k
 | 0,_=>ZfN 9
 | k+1,hk=>by
  have hw:=h k (by omega);have h8:=(ZaP hw).1;have hl:(lets (ls.getD k [])).length=(ls.getD k []).length:=by simp[lets]
  rw[Zmg,Zhj (Zgx hw),ZiR h k (by omega)];show _=difW ls k+(if newW ls k k=true then 1 else 0);congr 1
  have e:inW ls k (lets (ls.getD k []))=false↔newW ls k k=true:=by
   unfold inW newW;rw[List.any_eq_false,List.all_eq_true];constructor
   ·intro g i hi;have:=g i hi;rw[beq_iff_eq] at this;rw[Bool.not_eq_true',decide_eq_false_iff_not];intro e;exact this (by rw[e])
   intro g i hi;have:=g i hi;rw[Bool.not_eq_true',decide_eq_false_iff_not] at this;rw[beq_iff_eq];intro e;exact this (Zl8 (h i (by have:=List.mem_range.1 hi;omega)) hw e.symm)
  by_cases hn:newW ls k k=true
  ·rw[if_pos ⟨by omega,e.2 hn⟩,if_pos hn]
  rw[if_neg (fun g=>hn (e.1 g.2)),if_neg hn]
def Zef (d:DfaD):Nat→Nat
 | 0=>0
 | n+1=>Zef d n+cntD d n 0
theorem ZfO (d:DfaD):∀ n,Zef d n=Zdl (accD d) n
 | 0=>rfl
 | n+1=>by show Zef d n+cntD d n 0=Zdl (accD d) n+cntP n (accD d);rw[ZfO d n];rfl
theorem ZiS (d:DfaD):∀ n,n≤9→Zef d n≤20000*n
 | 0,_=>Nat.le_refl _
 | n+1,h=>by
  have h1:=ZiS d n (by omega);have h2:=Zip d n 0;have h3:3 ^ n≤3 ^ 8:=Nat.pow_le_pow_right (by omega) (by omega);have h4:3 ^ 8=6561:=by decide
  show Zef d n+cntD d n 0≤_;omega
theorem ZhM {K:Nat} (hK:K=40) {ls:List (List Nat)} (h:∀ k,k<ls.length→wdOk (ls.getD k [])=true) {D:DfaD} (hc:Zar K (wsT ls ls.length)=some D):Zef D 9=difW ls ls.length:=by
 rw[ZfO,← ZiR h ls.length (Nat.le_refl _)];refine ZeV (fun w hw => ?_) 9;rw[Bool.eq_iff_iff,Zlf hK _ hc w hw,ZhK h _ (Nat.le_refl _)];unfold inW;rw[List.any_eq_true];constructor
 ·rintro⟨i,hi,e⟩;exact⟨i,List.mem_range.2 hi,by rw[beq_iff_eq];exact e⟩
 rintro⟨i,hi,e⟩;exact⟨i,List.mem_range.1 hi,by rw[beq_iff_eq] at e;exact e⟩
theorem Try.infoPart:(Try.prog.info? 34).map (fun i=>(i.zero,i.size,i.bytes))=some (some (.agg #[.int .i64 0,.int .i64 0]),2,16):=by kernel_rfl
abbrev PZ:Value:=.agg #[.int .i64 0,.int .i64 0]
theorem Zk5 (n:Nat) (w:World) (hn:n≤100000) :
  Calls Try.prog 78 #[.slice none 0 0,.int .i64 (n:Int)] w fun e w'=>∃ a c,e = .returned (.slice a 0 c)∧St w w' [Ent.row 34 2 (.slice a 0 c) 0 []]:=by
 obtain⟨j0,hj,hy0,hy1,hy2⟩:=info_parts Try.infoPart;have h1:¬ ((n:Int)<0):=by omega
 by_cases h0:n=0
 ·subst h0;have hS0:=(St.start w).nilRow 34 2;have HhS0:=qh hS0;clear hS0
  go_enter Try.func78, Try.ntmps78
  go_wp2;go_ret;exact⟨none,0,rfl,HhS0.out⟩
 have hrz:∀ ty,(Builtin.append_ #[24,3] ty #[.slice none 0 0,.int .i64 (n:Int)]).run Try.prog w =
   .ok (.slice (some ⟨w.heap.size,0,none⟩) n (grownCap w n 0 34)) (w.drew.alloc (.cells (Builtin.zeroCells PZ.cells n++Builtin.zeroCells PZ.cells (grownCap w n 0 34 - n)) 34)):=fun ty=>by
  have h:=Lib.run_append_grow_zeros w 24 3 ty 34 j0 PZ .i64 .i64 Try.underlying24 Try.underlying3 hj hy0 none 0 0 [] (run_firstCells_none w.drew j0.size 0 0 0) n (by omega) (by omega) (by omega) (by omega) (by rw[hy2];omega) (by rw[hy2];exact growslice_fits (by omega) (by omega));simpa using h
 have hGn:n≤grownCap w n 0 34:=grownCap_ge w _ _ _;have hG63:grownCap w n 0 34 ≤ maxLen:=grownCap_le_maxLen w n 0 34 (by unfold maxLen;omega);obtain⟨G,hG⟩:=eI (grownCap w n 0 34);obtain⟨cur,hcur⟩:=eI (Builtin.zeroCells PZ.cells n++Builtin.zeroCells PZ.cells (G-n));have hcs:cur.size=G*2:=by rw[hcur,Array.size_append,size_zeroCells,size_zeroCells];show n*2+(G-n)*2=G*2;rw[← hG] at hGn;omega
 rw[← hG] at hrz hGn hG63;rw[← hcur] at hrz
 have hown:(w.drew.alloc (.cells cur 34)).ownsRow w.heap.size 34 2 (.slice (some ⟨w.heap.size,0,none⟩) 0 G) 0 [] :=
  ⟨rfl,.inr ⟨w.heap.size,G,cur,rfl,Nat.le_refl _,heap_alloc_new w.drew _,Nat.zero_le _,hG63,hcs,by simp⟩⟩
 have hS0:=(St.start w).made ((Below.refl _ _).drew.alloc (Nat.le_refl _) (.cells cur 34)) hown;have hG63':G≤9223372036854775807:=by unfold maxLen at hG63;omega
 replace hG:=qh hG;have Hhcur:=qh hcur;clear hcur;have Hhcs:=qh hcs;clear hcs;have Hhown:=qh hown;clear hown;have HhS0:=qh hS0;clear hS0
 go_enter Try.func78, Try.ntmps78
 go_wp2_with (at_builtin;refine Lib.wpList_append_run _ rfl _ _ _ _ rfl _ _ rfl rfl _ _ (hrz _) ?_);go_ret;exact⟨_,G,rfl,HhS0.out⟩
def sumL (ess:List (List (Int × Int))) (k:Nat):Nat:=(ess.take k).flatten.length
theorem Zda (ess:List (List (Int × Int))):sumL ess 0=0:=by simp[sumL]
theorem Zg2 {ess:List (List (Int × Int))} {k:Nat} (h:k<ess.length):sumL ess (k+1)=sumL ess k+(ess.getD k []).length∧(ess.take (k+1)).flatten=(ess.take k).flatten++ess.getD k []:=by
 have e:ess.take (k+1)=ess.take k++[ess.getD k []]:=by rw[List.take_succ_eq_append_getElem h];simp[h]
 have e2:(ess.take (k+1)).flatten=(ess.take k).flatten++ess.getD k []:=by rw[e];simp
 exact⟨by unfold sumL;rw[e2,List.length_append],e2⟩
theorem ZhR {ess:List (List (Int × Int))} (hl:∀ es∈ess,es.length≤1000):∀ k,k≤ess.length→sumL ess k≤1000*k
 | 0,_=>by rw[Zda];omega
 | k+1,h=>by have ih:=ZhR hl k (by omega);have h1:=(Zg2 (ess:=ess) (k:=k) (by omega)).1;have h2:=hl (ess.getD k []) (by simp[List.getElem?_eq_getElem (show k<ess.length by omega)]);omega
theorem Zio (ess:List (List (Int × Int))) (vas:List Value) (ao:Option Addr) (b cap:Nat) (w:World) (hao:0<ess.length→ao=some ⟨b,0,none⟩) (hm:ess.length≤100) (hl:∀ es∈ess,es.length≤1000) (hb:0<ess.length→b<w.heap.size)
  (hc:∀ i,i<ess.length→w.cell? ⟨b,i,none⟩=some (vas.getD i undef)) (hp:∀ i,i<ess.length→Pairs 0 w (vas.getD i undef) (ess.getD i [])) :
  Calls Try.prog 63 #[.slice ao ess.length cap] w fun e w'=>∃ a c,e = .returned (.slice a ess.flatten.length c)∧St w w' [Ent.row 34 2 (.slice a ess.flatten.length c) ess.flatten.length (ess.flatten.flatMap Zad)]:=by
 obtain⟨j0,hj,hy0,hy1,hy2⟩:=info_parts Try.infoPart;obtain⟨m,hmm⟩:=eI (ess.length);have hsum:=fun k (h:k<ess.length)=>Zg2 h
 have hle:=ZhR hl;have hfin:sumL ess m=ess.flatten.length∧(ess.take m).flatten=ess.flatten:=by rw[hmm];unfold sumL;rw[List.take_length];exact⟨rfl,rfl⟩
 have hl':∀ k,k<m→(ess.getD k []).length≤1000:=fun k hk=>hl _ (by simp[List.getElem?_eq_getElem (show k<ess.length by omega)])
 rw[← hmm] at hm hc hp hsum hle hao hb ⊢;have Hao:=qh hao;have Hb:=qh hb;have Hc:=qh hc;have Hp:=qh hp;have Hsum:=qh hsum;have Hle:=qh hle;have Hfin:=qh hfin;have Hl:=qh hl';replace hmm:=qh hmm;clear hc hp hsum hle hfin hl hl' hao hb
 go_enter Try.func63, Try.ntmps63
 go_wp2
 go_loopw [3,11] (fun n i wr=>∃ k:Nat,i = .int .i64 (k:Int)∧n = .int .i64 ((sumL ess k:Nat):Int)∧k≤m∧w=wr) (fun _ i _=>m-(intOf i).toNat)
 case atStart=>exact⟨0,rfl,by rw[Zda];rfl,Nat.zero_le _,rfl⟩
 case round =>
  obtain⟨k,rfl,rfl,hk,rfl⟩:=hrel;by_cases hlt:k<m
  ·have hlt2:(k:Int)<m:=by omega
   have hao:=Hao.out (by omega);subst hao;obtain⟨q1,q2⟩:=Hsum.out k hlt;have q3:=Hle.out k hk;have q4:=Hl.out k hlt;have c0:=Hc.out k hlt;obtain⟨ax,cx,hv,hv1,hv2,-⟩:=(Hp.out k hlt).form;rw[hv] at c0;obtain⟨L,hL⟩:=eI ((ess.getD k []).length);obtain⟨s,hs⟩:=eI (sumL ess k);rw[← hL] at q1 q4 c0;rw[← hs] at q1 q3;rw[← hs];have hw:IntKind.i64.wrap ((s:Int)+(L:Int))=(s:Int)+(L:Int):=IntWalk.i64_in _ (by omega);have hng:¬ (s:Int)+(L:Int)<0:=by omega
   have Hq1:=qh q1;clear q1;replace hL:=qh hL;have Hhs:=qh hs;clear hs;clear q2 hv hv1 hv2;go_wp2;go_roundw
   case rel=>exact⟨k+1,by go_num,by rw[Hq1.out];congr 1,by omega,trivial⟩
   case measure=>simp[intOf];omega
  obtain rfl:k=m:=by omega
  obtain⟨s,hs⟩:=eI (sumL ess k);have q3:=Hle.out k hk;rw[← hs] at q3 ⊢;have Hhs:=qh hs;clear hs;clear hlt;go_wp2_with fail;refine(Zk5 s _ (by omega)).mono ?_;rintro e w1 ⟨a6,c6,rfl,hS'⟩;have HS1:=qh hS';clear hS';go_wp2
  go_loopw [6,27] (fun vo i wr=>∃ (j:Nat) (a:Option Addr) (c:Nat),i = .int .i64 (j:Int)∧vo = .slice a (sumL ess j) c∧j≤k∧St w wr [Ent.row 34 2 (.slice a (sumL ess j) c) (sumL ess j) ((ess.take j).flatten.flatMap Zad)]) (fun _ i _=>k-(intOf i).toNat)
  case atStart=>exact⟨0,a6,c6,rfl,by rw[Zda],by omega,by rw[Zda];exact HS1.out⟩
  case round =>
   obtain⟨j,a,c,rfl,rfl,hj2,hS⟩:=hrel;by_cases hlt:j<k
   ·have hlt2:(j:Int)<k:=by omega
    have hao:=Hao.out (by omega);subst hao;have hb:=Hb.out (by omega);obtain⟨q1,q2⟩:=Hsum.out j hlt;have q3:=Hle.out j (by omega);have q4:=Hl.out j hlt;have m0:=(bcell hS.bel b j hb).trans (Hc.out j hlt);have hPr:=(Hp.out j hlt).below hS.bel;obtain⟨ax,cx,hv,hv1,hv2,-⟩:=hPr.form;rw[hv] at m0 hPr;obtain⟨E,hE⟩:=eI (ess.getD j []);obtain⟨Z,hZ⟩:=eI ((ess.take j).flatten);rw[← hE] at q1 q2 q4 m0 hPr hv1;rw[← hZ] at q2 hS;obtain⟨L,hL⟩:=eI (E.length);obtain⟨s2,hs2⟩:=eI (sumL ess j);have hPr2:Sl 0 wr (.slice ax L cx) L 2 (E.flatMap Zad):=by rw[hL];exact hPr
    rw[← hL] at q1 q4 m0;rw[← hs2] at q1 q3 hS;rw[← hs2];have HS:=qh hS;have HR:=qh (hS.row 0 rfl);have HXw:=qh hPr2;have Hq1:=qh q1;clear q1;have Hq2:=qh q2;clear q2;replace hL:=qh hL;have Hhs2:=qh hs2;clear hs2;replace hE:=qh hE;have HhZ:=qh hZ;clear hZ;clear hS hv hv1 hv2 hPr hPr2 hlt;go_wp2_with (at_builtin;refine Zao _ rfl _ _ _ rfl _ 34 j0 PZ 2 16 Try.underlying24 hj hy0 hy1 hy2 rfl (by omega) _ s2 _ rfl HR.out _ L (E.flatMap Zad) rfl HXw.out Zkx (by unfold maxLen;omega) (by omega) HS.out.size ?_;intro a6 c6 w6 hown6 hgrow6 hat6;have HS6:=qh (HS.out.appS 0 rfl hown6 hgrow6 hat6);clear hown6 hgrow6 hat6);go_roundw
    case rel=>exact⟨j+1,a6,c6,by go_num,by rw[Hq1.out],by omega,by rw[Hq1.out,Hq2.out,List.flatMap_append];exact HS6.out⟩
    case measure=>simp[intOf];omega
   obtain rfl:j=k:=by omega
   rw[Hfin.out.1,Hfin.out.2] at hS;rw[Hfin.out.1];have HS:=qh hS;clear hS hlt;go_wp2;go_ret;exact⟨a,c,rfl,HS.out⟩
def RPo (es:List (Int × Int)) (w:World) (e:Ending) (w':World):Prop:=∃ a c,e = .returned (.slice a es.length c)∧St w w' [Ent.row 34 2 (.slice a es.length c) es.length (es.flatMap Zad)]
theorem Zgq (k:Int) (ess:List (List (Int × Int))) (vas:List Value) (b cap:Nat) (w:World) (hm:ess.length≤100) (hl:∀ es∈ess,es.length≤1000) (hb:b<w.heap.size)
  (hc:∀ i,i<ess.length→w.cell? ⟨b,i,none⟩=some (vas.getD i undef)) (hp:∀ i,i<ess.length→Pairs 0 w (vas.getD i undef) (ess.getD i [])) :
  Calls Try.prog 37 #[.int .i64 k,.slice (some ⟨b,0,none⟩) ess.length cap] w fun e w'=>RPo (ess.flatten++[(k,0)]) w e w':=by
 obtain⟨j0,hj,hy0,hy1,hy2⟩:=info_parts Try.infoPart;have hcon:=qh (Zio ess vas (some ⟨b,0,none⟩) b cap w (fun _=>rfl) hm hl (fun _=>hb) hc hp);have hle:=ZhR hl ess.length (Nat.le_refl _);have hfl:sumL ess ess.length=ess.flatten.length:=by unfold sumL;rw[List.take_length]
 rw[hfl] at hle;clear hc hp hl hfl;obtain⟨m,hmm⟩:=eI (ess.length);rw[← hmm] at hcon hm hle ⊢;obtain⟨E,hE⟩:=eI (ess.flatten);rw[← hE] at hcon hle ⊢;obtain⟨L,hL⟩:=eI (E.length);rw[← hL] at hcon hle;have hL2:(E++[(k,0)]).length=L+1:=by rw[hL];simp
 unfold RPo;rw[hL2];replace hmm:=qh hmm;replace hE:=qh hE;have HhL:=qh hL;clear hL;have HhL2:=qh hL2;clear hL2
 go_enter Try.func37, Try.ntmps37
 go_wp2_with (first
  | (go_at_call 63;refine(hcon.out).mono ?_;rintro e w1 ⟨a6,c6,rfl,hS'⟩;have hS2:=hS'.alloc w1.heap.size rfl #[.int .i64 k,.int .i64 0] 34;have hS3:=hS2.boxrow 1 1 2 [.int .i64 k,.int .i64 0] rfl rfl (by unfold maxLen;omega);have HS:=qh hS3;have HR:=qh (hS3.row 0 rfl);have HX:=qh ((Zaa (hS3.row 1 rfl)).sl (by omega));clear hS' hS2 hS3)
  | (at_builtin;refine Zao _ rfl _ _ _ rfl _ 34 j0 PZ 2 16 Try.underlying24 hj hy0 hy1 hy2 rfl (by omega) _ L _ rfl HR.out _ 1 [.int .i64 k,.int .i64 0] rfl (HX.out.mono (Nat.zero_le _)) (by intro u hu;simp at hu;rcases hu with rfl|rfl<;>rfl) (by unfold maxLen;omega) (by omega) HS.out.size ?_;intro a6 c6 w6 hown6 hgrow6 hat6;have HS6:=qh (HS.out.appS 0 rfl hown6 hgrow6 hat6);clear hown6 hgrow6 hat6))
 go_ret;exact⟨_,_,rfl,by rw[List.flatMap_append];exact HS6.out.pick [0] (by decide)⟩
theorem ZiV (k:Int) (w:World):Calls Try.prog 36 #[.int .i64 k] w fun e w'=>RPo [(k,0)] w e w':=by
 have hS:=((St.start w).alloc w.heap.size rfl #[.int .i64 k,.int .i64 0] 34).boxrow 0 1 2 [.int .i64 k,.int .i64 0] rfl rfl (by unfold maxLen;omega);replace hS:=qh hS
 go_enter Try.func36, Try.ntmps36
 go_wp2;go_ret;exact⟨_,_,rfl,hS.out⟩
theorem Zkv (k:Int) (xs ys:List (Int × Int)) (v u:Value) (b cap:Nat) (w:World) (hl:xs.length≤1000) (hl2:ys.length≤1000) (hb:b<w.heap.size) (h0:w.cell? ⟨b,0,none⟩=some v) (h1:w.cell? ⟨b,1,none⟩=some u) (hp:Pairs 0 w v xs) (hq:Pairs 0 w u ys) :
  Calls Try.prog 37 #[.int .i64 k,.slice (some ⟨b,0,none⟩) 2 cap] w fun e w'=>RPo (xs++ys++[(k,0)]) w e w':=by
 have h:=Zgq k [xs,ys] [v,u] b cap w (by simp) (by intro es he;simp at he;rcases he with rfl|rfl<;>assumption) hb (fun i hi=>by
  obtain rfl|rfl:i=0∨i=1:=by simp at hi;omega
  ·exact h0
  ·exact h1) (fun i hi=>by
  obtain rfl|rfl:i=0∨i=1:=by simp at hi;omega
  ·exact hp
  exact hq)
 have e:[xs,ys].flatten++[(k,0)]=xs++ys++[(k,0)]:=by simp
 rw[e] at h;exact h
def TbH (X:Ent) (v:Value) (N:Nat) (T:Nat→Nat→Bool):Prop:=∃ (B c:Nat) (R:Nat→Nat),v = .slice (some ⟨B,0,none⟩) N c∧∀ u,X.holds u→(∀ i,i<N→u.cell? ⟨B,i,none⟩=some (.slice (some ⟨R i,0,none⟩) N N))∧∀ i j,i<N→j<N→u.cell? ⟨R i,j,none⟩=some (.bool (T i j))
theorem TbH.congr {X:Ent} {v:Value} {N:Nat} {T U:Nat→Nat→Bool} (h:TbH X v N T) (hc:∀ i j,i<N→j<N→T i j=U i j):TbH X v N U:=by obtain⟨B,c,R,hv,h1⟩:=h;exact⟨B,c,R,hv,fun u hu=>⟨(h1 u hu).1,fun i j hi hj=>by rw[(h1 u hu).2 i j hi hj,hc i j hi hj]⟩⟩
theorem St.newRow0 {w0 w:World} {L:List Ent} (h:St w0 w L) (T size:Nat):St w0 (w.alloc (.cells #[] T)) (L++[Ent.row T size (.slice (some ⟨w.heap.size,0,none⟩) 0 0) 0 []]):=by have h1:=(h.alloc w.heap.size rfl #[] T).boxrow (b:=w.heap.size) (T:=T) L.length 0 size [] (by simp) (by simp) (by unfold maxLen;omega);simpa using h1
theorem ZcP {x y:Int}:∀ u∈[Value.int .i64 x,Value.int .i64 y],u.oneCell'=true:=by intro u hu;simp at hu;rcases hu with rfl|rfl<;>rfl
theorem Try.infoPart2:(Try.prog.info? 34).map (fun i=>(i.zero,i.size,i.bytes))=some (some (.agg #[.int .i64 0,.int .i64 0]),2,16):=by kernel_rfl
theorem ZjQ {l:List Nat}:wxK l 1=[(3,((l.getD 0 0-97:Nat):Int))]:=by unfold wxK;rw[if_pos rfl];rfl
theorem ZlG {l:List Nat} {k:Nat} (h:0<k):wxK l (k+1)=wxK l k++[(3,((l.getD k 0-97:Nat):Int))]++[(4,0)]:=by rw[wxK,if_neg (by omega)]
theorem Zd5 (l:List Nat) (w:World) (ht:isT l) (hwd:wdOk l=true):Calls Try.prog 23 #[.string (txB l)] w fun e w'=>RPo (ZaK l) w e w':=by
 obtain⟨hn8,h97⟩:=ZaP hwd;have hes:ZaK l=if l.length=0 then [(2,0)] else wxK l l.length:=by unfold ZaK;rw[if_pos hwd]
 rw[hes];obtain⟨n,hn⟩:=eJ (l.length);have hsz:=Zbw l;have hemp:=ZgZ l;rw[hn] at hsz hn8;have HL:=qh (fun (i:Nat) (u:World) (hi:i<n)=>Zck l i (by omega) ht (h97 i (by omega)).1 u);by_cases h0:n=0
 ·rw[hn,if_pos h0];have hle:l=[]:=List.eq_nil_of_length_eq_zero (by omega);have he:(txB l).toList.isEmpty=true:=by rw[hemp,hle];rfl
  replace hle:=qh hle;have Hhn:=qh hn;clear hn;clear hes hemp h0 h97
  go_enter Try.func23, Try.ntmps23
  go_wp2_with (go_at_call 36;refine(ZiV 2 _).mono ?_;rintro e w1 ⟨a,c,rfl,hS⟩);go_ret;exact⟨a,c,rfl,hS⟩
 rw[hn,if_neg h0];have hle:l≠[]:=fun h=>h0 (by rw[← hn,h];rfl)
 have he:(txB l).toList.isEmpty=false:=by rw[hemp];cases l with|nil=>exact absurd rfl hle|cons=>rfl
 have hn1:1≤n:=by omega
 obtain⟨c0,hc0⟩:∃ c0:Nat,c0=l.getD 0 0-97:=⟨_,rfl⟩;have HS1:=qh (((St.start w).alloc w.heap.size rfl #[.int .i64 3,.int .i64 (c0:Int)] 34).boxrow 0 1 2 [.int .i64 3,.int .i64 (c0:Int)] rfl rfl (by unfold maxLen;omega));have HL0:=qh (fun u:World=>show Calls Try.prog 44 #[.string (txB l),.int .i64 0] u fun e w'=>e = .returned (.int .i64 (c0:Int))∧u=w' from by rw[hc0];exact HL.out 0 u (by omega));replace hc0:=qh hc0;have Hhn:=qh hn;clear hn;clear hes hemp h0 h97 hle
 go_enter Try.func23, Try.ntmps23
 go_wp2_with (go_at_call 44;refine(HL0.out _).mono ?_;rintro e w' ⟨rfl,rfl⟩)
 go_loopw [3,4] (fun ev iv wr=>∃ (k c:Nat) (a:Option Addr),iv = .int .i64 (k:Int)∧ev = .slice a (wxK l k).length c∧1≤k∧k≤n∧St w wr [Ent.row 34 2 (.slice a (wxK l k).length c) (wxK l k).length ((wxK l k).flatMap Zad)]) (fun _ iv _=>n-(intOf iv).toNat)
 case atStart =>refine⟨1,1,some ⟨w.heap.size,0,none⟩,rfl,by rw[ZjQ];rfl,by omega,hn1,?_⟩;rw[ZjQ,← hc0.out];exact HS1.out
 case round =>
  obtain⟨k,c,a,rfl,rfl,hk1,hkn,hS⟩:=hrel;have hwi:IntKind.i64.wrap ((k:Int)+1)=(k:Int)+1:=IntWalk.i64_in _ (by omega);have hlen:=Zf3 l k;obtain⟨E,hE⟩:=eI (wxK l k);rw[← hE] at hS hlen ⊢;by_cases hlt:k<n
  ·have hlI:(k:Int)<(n:Int):=by omega
   obtain⟨ck,hck⟩:∃ ck:Nat,ck=l.getD k 0-97:=⟨_,rfl⟩;have HLk:=qh (fun u:World=>show Calls Try.prog 44 #[.string (txB l),.int .i64 (k:Int)] u fun e w'=>e = .returned (.int .i64 (ck:Int))∧u=w' from by rw[hck];exact HL.out k u hlt);have hst:wxK l (k+1)=E++[(3,(ck:Int))]++[(4,0)]:=by rw[ZlG (by omega),← hE,← hck]
   have hS2:=(hS.alloc wr.heap.size rfl #[.int .i64 3,.int .i64 (ck:Int)] 34).boxrow 1 1 2 [.int .i64 3,.int .i64 (ck:Int)] rfl rfl (by unfold maxLen;omega);have hS3:=hS2.alloc (wr.heap.size+1) (by simp) #[.slice a E.length c,.slice (some ⟨wr.heap.size,0,none⟩) 1 1] 24;have HS3:=qh hS3;have hx:Pairs 0 _ (.slice a E.length c) E:=((Zaa (hS3.row 0 rfl)).sl (by omega)).mono (Nat.zero_le _);have hy:Pairs 0 _ (.slice (some ⟨wr.heap.size,0,none⟩) 1 1) [(3,(ck:Int))]:=((Zaa (hS3.row 1 rfl)).sl (by omega)).mono (Nat.zero_le _);have HX:=qh hx;have HY:=qh hy;have q0:=hS3.cell (v:=.slice a E.length c) 2 0 rfl rfl;have q1:=hS3.cell (v:=.slice (some ⟨wr.heap.size,0,none⟩) 1 1) 2 1 rfl rfl;have hbl:=(hS3.boxlt 2 rfl).2;have Hhst:=qh hst;clear hst;have Hhck:=qh hck;clear hck;replace hE:=qh hE;clear hS hS2 hS3 hx hy
   go_wp2_with (first
    | (go_at_call 44;refine(HLk.out _).mono ?_;rintro e w' ⟨rfl,rfl⟩)
    | (go_at_call 37;refine(Zkv 4 E [(3,(ck:Int))] _ _ _ 2 _ (by omega) (by simp) hbl q0 q1 HX.out HY.out).mono ?_;rintro e w5 ⟨g,cg,rfl,hSo⟩;have HS5:=qh ((HS3.out.cat hSo).pick [3] (by decide));clear hSo))
   go_roundw
   case rel =>refine⟨k+1,cg,g,by go_num,by rw[Hhst.out];simp,by omega,by omega,?_⟩;rw[Hhst.out];exact HS5.out
   case measure=>simp[intOf];omega
  have hlI:¬ (k:Int)<(n:Int):=by omega
  have hkn2:k=n:=by omega
  have hEn:wxK l n=E:=by rw[hE,hkn2]
  have HS:=qh hS;replace hE:=qh hE;have Hhkn2:=qh hkn2;clear hkn2;have HhEn:=qh hEn;clear hEn;clear hS hlt;go_wp2;go_ret;rw[HhEn.out];exact⟨a,c,rfl,HS.out⟩
theorem Zed (l:List Nat) (w:World) (ht:isT l) (hl:l.length≤2000000):Calls Try.prog 8 #[.string (txB l)] w fun e w'=>RPo (ZaK l) w e w':=by
 obtain⟨y,hy⟩:=eJ (wdOk l);have Hc:=qh (fun u=>ZdI l u ht hl y hy);obtain⟨i0,hi,hz0,hz1,hz2⟩:=info_parts Try.infoPart2;replace hi:=qh hi;have Hhz0:=qh hz0;clear hz0;have Hhz1:=qh hz1;clear hz1;have Hhz2:=qh hz2;clear hz2;have HS0:=qh ((St.start w).newRow0 34 2);cases y with
 | false =>
  have he:ZaK l=[]:=by unfold ZaK;rw[hy];rfl
  rw[he];clear hy ht hl
  go_enter Try.func8, Try.ntmps8
  go_wp2_with (go_at_call 24;refine(Hc.out _).mono ?_;rintro e w' ⟨rfl,rfl⟩);go_ret;exact⟨_,0,rfl,HS0.out⟩
 | true =>
  obtain⟨hn8,h97⟩:=ZaP hy;have hes:ZaK l=if l.length=0 then [(2,0)] else wxK l l.length:=by unfold ZaK;rw[if_pos hy]
  obtain⟨Q,hQ⟩:=eJ (ZaK l);rw[hQ] at hes ⊢;obtain⟨n,hn⟩:=eJ (l.length);have hsz:=Zbw l;have hemp:=ZgZ l;rw[hn] at hsz hn8 hes;have HQ:=qh hes;have Ht:=qh ht;have H97:=qh h97;have Hemp:=qh hemp;have Hhn:=qh hn;clear hn;clear hy ht hl hes h97 hemp hQ
  go_enter Try.func8, Try.ntmps8
  go_wp2_with (go_at_call 24;refine(Hc.out _).mono ?_;rintro e w' ⟨rfl,rfl⟩)
  go_loopw [3,4] (fun ev iv wr=>∃ (k c:Nat) (a:Option Addr),iv = .int .i64 (k:Int)∧ev = .slice a (wxK l k).length c∧k≤n∧St w wr [Ent.row 34 2 (.slice a (wxK l k).length c) (wxK l k).length ((wxK l k).flatMap Zad)]) (fun _ iv _=>n-(intOf iv).toNat)
  case atStart=>exact⟨0,0,_,rfl,rfl,Nat.zero_le _,HS0.out⟩
  case round =>
   obtain⟨k,c,a,rfl,rfl,hkn,hS⟩:=hrel;obtain⟨wq,hwq⟩:∃ wq:World,wq=wr:=⟨_,rfl⟩;subst hwq;have hwi:IntKind.i64.wrap ((k:Int)+1)=(k:Int)+1:=IntWalk.i64_in _ (by omega);have hlen:=Zf3 l k;obtain⟨E,hE⟩:=eI (wxK l k);rw[← hE] at hS hlen ⊢;by_cases hlt:k<n
   ·have hlI:(k:Int)<(n:Int):=by omega
    have hil:k<l.length:=by rw[Hhn.out];exact hlt
    have hrun:=Zc9 hil Ht.out;obtain⟨h97a,h97b⟩:=H97.out k hil;obtain⟨ck,hck⟩:∃ ck:Nat,ck=l.getD k 0-97:=⟨_,rfl⟩;have hc2:((l.getD k 0:Nat):Int)=97+(ck:Int):=by omega
    rw[hc2] at hrun
    have hw8:IntKind.u8.wrap (97+(ck:Int)-97)=(ck:Int):=by
     have:97+(ck:Int)-97=(ck:Int):=by omega
     rw[this];exact IntWalk.u8_in _ (by omega)
    have hw9:IntKind.i64.wrap (ck:Int)=(ck:Int):=IntWalk.i64_in _ (by omega);have HSa:=qh (hS.alloc wq.heap.size rfl #[.int .i64 3,.int .i64 (ck:Int)] 34);have HR:=qh (HSa.out.row 0 rfl);have hst:wxK l (k+1)=E++[(3,(ck:Int))]++(if k=0 then [] else [(4,0)]):=by rw[wxK,← hE,← hck]
    have Hhst:=qh hst;clear hst;replace hck:=qh hck;replace hE:=qh hE;clear hS hc2 h97a h97b hil;by_cases hk0:k=0
    ·have hkI:¬ (k:Int)>0:=by omega
     have hkI2:(k:Int)≤0:=by omega
     have hst0:=Hhst.out;rw[if_pos hk0,List.append_nil] at hst0;have Hhst0:=qh hst0;clear hst0;have Hhk0:=qh hk0;clear hk0;go_wp2_with (at_builtin;refine wpList_append_lies _ rfl _ _ _ rfl _ 34 i0 (.agg #[.int .i64 0,.int .i64 0]) 2 16 Try.underlying24 hi.out Hhz0.out Hhz1.out Hhz2.out rfl (by omega) _ E.length _ rfl HR.out ⟨wq.heap.size,0,none⟩ 1 1 [.int .i64 3,.int .i64 (ck:Int)] rfl rfl (World.news_of_block (HSa.out.box 1 rfl)) ZcP (by omega) (by unfold maxLen;omega) (by omega) HSa.out.size _ rfl ?_;intro g7 c7 w7 hown hgrow hat hlt';have HS7:=qh ((HSa.out.app 0 rfl hown hgrow hat).pick [0] (by decide));clear hown hgrow hat hlt';have HSb:=qh (HS7.out.alloc w7.heap.size rfl #[.int .i64 4,.int .i64 0] 34);have HR2:=qh (HSb.out.row 0 rfl));go_roundw
     case rel =>refine⟨k+1,c7,some ⟨g7,0,none⟩,by go_num,by rw[Hhst0.out,List.length_append];rfl,by omega,?_⟩;rw[Hhst0.out,List.length_append,List.flatMap_append];exact HS7.out
     case measure=>simp[intOf]<;>omega
    have hkI:(k:Int)>0:=by omega
    have hkI2:0<(k:Int):=by omega
    have hst0:=Hhst.out;rw[if_neg hk0] at hst0;have Hhst0:=qh hst0;clear hst0;have Hhk0:=qh hk0;clear hk0;go_wp2_with (first|(at_builtin;refine wpList_append_lies _ rfl _ _ _ rfl _ 34 i0 (.agg #[.int .i64 0,.int .i64 0]) 2 16 Try.underlying24 hi.out Hhz0.out Hhz1.out Hhz2.out rfl (by omega) _ E.length _ rfl HR.out ⟨wq.heap.size,0,none⟩ 1 1 [.int .i64 3,.int .i64 (ck:Int)] rfl rfl (World.news_of_block (HSa.out.box 1 rfl)) ZcP (by omega) (by unfold maxLen;omega) (by omega) HSa.out.size _ rfl ?_;intro g7 c7 w7 hown hgrow hat hlt';have HS7:=qh ((HSa.out.app 0 rfl hown hgrow hat).pick [0] (by decide));clear hown hgrow hat hlt';have HSb:=qh (HS7.out.alloc w7.heap.size rfl #[.int .i64 4,.int .i64 0] 34);have HR2:=qh (HSb.out.row 0 rfl))|(at_builtin;refine wpList_append_lies _ rfl _ _ _ rfl _ 34 i0 (.agg #[.int .i64 0,.int .i64 0]) 2 16 Try.underlying24 hi.out Hhz0.out Hhz1.out Hhz2.out rfl (by omega) _ (E.length+1) _ rfl HR2.out ⟨w7.heap.size,0,none⟩ 1 1 [.int .i64 4,.int .i64 0] rfl rfl (World.news_of_block (HSb.out.box 1 rfl)) ZcP (by omega) (by unfold maxLen;omega) (by omega) HSb.out.size _ rfl ?_;intro g8 c8 w8 hown hgrow hat hlt';have HS8:=qh ((HSb.out.app 0 rfl hown hgrow hat).pick [0] (by decide));clear hown hgrow hat hlt'));go_roundw
    case rel =>refine⟨k+1,c8,some ⟨g8,0,none⟩,by go_num,by rw[Hhst0.out,List.length_append,List.length_append];rfl,by omega,?_⟩;rw[Hhst0.out,List.length_append,List.length_append,List.flatMap_append,List.flatMap_append];exact HS8.out
    case measure=>simp[intOf]<;>omega
   have hlI:¬ (k:Int)<(n:Int):=by omega
   have hkn2:k=n:=by omega
   have hEn:wxK l n=E:=by rw[hE,hkn2]
   by_cases h0:n=0
   ·have he:(txB l).toList.isEmpty=true:=by
     rw[Hemp.out];cases hll:l with
     | nil=>rfl
     | cons x xs=>have:=Hhn.out;rw[hll] at this;simp at this;omega
    have hE0:E=[]:=by rw[hE,hkn2,h0];rfl
    subst hE0;have HSa:=qh (hS.alloc wq.heap.size rfl #[.int .i64 2,.int .i64 0] 34);have HR:=qh (HSa.out.row 0 rfl);replace hE:=qh hE;have Hhkn2:=qh hkn2;clear hkn2;have HhEn:=qh hEn;clear hEn;replace h0:=qh h0;clear hS;go_wp2_with (at_builtin;refine wpList_append_lies _ rfl _ _ _ rfl _ 34 i0 (.agg #[.int .i64 0,.int .i64 0]) 2 16 Try.underlying24 hi.out Hhz0.out Hhz1.out Hhz2.out rfl (by omega) _ ([]:List (Int × Int)).length _ rfl HR.out ⟨wq.heap.size,0,none⟩ 1 1 [.int .i64 2,.int .i64 0] rfl rfl (World.news_of_block (HSa.out.box 1 rfl)) ZcP (by omega) (by unfold maxLen;omega) (by omega) HSa.out.size _ rfl ?_;intro g7 c7 w7 hown hgrow hat hlt';have HS7:=qh ((HSa.out.app 0 rfl hown hgrow hat).pick [0] (by decide));clear hown hgrow hat hlt');go_ret;have hq:=HQ.out;rw[if_pos h0.out] at hq;rw[hq];exact⟨some ⟨g7,0,none⟩,c7,rfl,HS7.out⟩
   have he:(txB l).toList.isEmpty=false:=by
    rw[Hemp.out];cases hll:l with
    | nil=>have:=Hhn.out;rw[hll] at this;exact absurd this.symm h0
    | cons x xs=>rfl
   have HS:=qh hS;replace hE:=qh hE;have Hhkn2:=qh hkn2;clear hkn2;have HhEn:=qh hEn;clear hEn;replace h0:=qh h0;clear hS;go_wp2;go_ret;have hq:=HQ.out;rw[if_neg h0.out,HhEn.out] at hq;rw[hq];exact⟨a,c,rfl,HS.out⟩
end Go.Proofs.Ytfikabecgaappaa
