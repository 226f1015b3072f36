/-
  The walks over the reference's l11Dfa and CompileExpr.
  Conditions: the expression's parts read as such.
-/
import Derived.Test.YtfikabecgaappaaGreatPb33Bns
import Derived.Test.YtfikabecgaappaaGreatPb34Jv
import Derived.Test.YtfikabecgaappaaGreatPb38Jy
set_option maxHeartbeats 8000000
set_option maxRecDepth 100000
namespace Go.Proofs.YtfikabecgaappaaGreat
open Go.RowKit
def Zo1 (K:Nat) (es:List (Int × Int)) (o:Option DfaD):Prop:=(exOk es=true∧∃ t:Ex,t.post=es∧ZaE K t=o)∨(exOk es=false∧o=none)
theorem Zn3 (K:Nat) (es:List (Int × Int)):∃ o,Zo1 K es o:=by
 cases h:exOk es with
 | true =>obtain⟨t,ht⟩:=parse h;exact⟨ZaE K t,.inl ⟨h,t,ht,rfl⟩⟩
 | false=>exact⟨none,.inr ⟨h,rfl⟩⟩
theorem ZlU (bs:List Nat) (v:Value) (w:World) (hb:Bytes 0 w v bs) (hlen:bs.length≤100000000) :
  Calls Tryz.prog 29 #[v] w fun e w'=>∃ vb bs',bs'.length≤2000∧(∀ u:World,Bytes 0 u v bs→Bytes 0 u vb bs')∧e = .returned (.pointer (some ⟨w.heap.size,0,none⟩))∧St w w' [RdE w.heap.size vb 0]:=by
 obtain⟨a,c,rfl,hc1,hc2,-⟩:=hb.form;have Hb:=qh hb;clear hb;by_cases h2:2000<bs.length
 ·have q1:(2000:Int)<bs.length:=by omega
  have q2:(2000:Int)≤c:=by omega
  have hS:=(St.start w).alloc _ rfl #[.slice a 2000 c,.int .i64 0] 105;have HS:=qh hS;clear hS
  go_enter Tryz.func29, Tryz.ntmps29
  go_wp2;go_ret;exact⟨_,bs.take 2000,by rw[List.length_take];omega,fun u h=>h.take (by omega),rfl,HS.out⟩
 have q1:(2000<(bs.length:Int))=False:=by simp;omega
 have hS:=(St.start w).alloc _ rfl #[.slice a bs.length c,.int .i64 0] 105;have HS:=qh hS;have h2:bs.length≤2000:=by omega
 clear hS
 go_enter Tryz.func29, Tryz.ntmps29
 go_wp2;go_ret;exact⟨_,bs,h2,fun u h=>h,rfl,HS.out⟩
theorem Zhl (es:List (Int × Int)) (o:Option NfaD) (ho:BldQ es o) (v:Value) (w:World) (hl:es.length≤1000000) (h:Pairs 0 w v es) :
  Calls Tryz.prog 8 #[v] w fun e w'=>RNt (o.getD zeN) o.isSome w e w' :=
 (Zk4 es.length es v w (Nat.le_refl _) hl h).mono fun _ _ ⟨n,b,_,⟨o',hq,hn,hb⟩,hr⟩=>by rw[Zn8 ho hq,← hn,← hb];exact hr
theorem Zix (bs:List Nat) (vb:Value) (b p n:Nat) (w0 w:World) (X:Ent) (hb:Bytes 0 w0 vb bs) (hlen:bs.length≤2000) (hp:p≤700000) (hn1:n≤10000) (hS:St w0 w [RdE b vb p,X]) :
  Calls Tryz.prog 28 #[.pointer (some ⟨b,0,none⟩),.int .i64 ((n:Nat):Int)] w fun e w'=>∃ (v:Value) (es:List (Int × Int)) (E:Ent) (p':Nat),es.length≤100∧PtH E v es∧e = .returned v∧St w0 w' [RdE b vb p',X,E]:=by
 have Hb:=qh hb;have HS0:=qh hS;clear hb hS
 go_enter Tryz.func28, Tryz.ntmps28
 go_wp2_with fail;refine(ZhD bs vb b p n w0 _ X Hb.out hlen (by omega) hn1 HS0.out).mono ?_;rintro e w1 ⟨q,p1,hp1,rfl,hS1⟩;have HS1:=qh hS1;clear hS1 HS0;cases q
 ·go_wp2_with fail;refine(ZaG bs vb b p1 3 w0 _ X Hb.out hlen (by omega) (by omega) (by omega) HS1.out).mono ?_;rintro e w2 ⟨k3,hk3,rfl,hS2⟩;obtain⟨d,hd⟩:∃ d:Nat,(1:Int)+(k3:Int)=((d:Nat):Int):=⟨k3+1,by omega⟩;have hd3:d≤3:=by omega
  have hdw:IntKind.i64.wrap (d:Int)=(d:Int):=IntWalk.i64_in _ (by omega);have hsm:=Zh9 hd3;have HS2:=qh hS2;clear hS2 HS1;go_wp2_with fail;refine(Zj5 bs vb b w0 Hb.out hlen d hd3 true (p1+1) _ X (by omega) HS2.out).mono ?_;rintro e w3 ⟨a,c,es,p2,he1,hel,hp2,rfl,hS3⟩;have HS3:=qh hS3;clear hS3 HS2;go_wp2;go_ret;exact⟨_,es,_,p2,by omega,ZfO a c es,rfl,HS3.out⟩
 go_wp2_with fail;refine(ZnZ bs vb b p1 3 w0 _ X Hb.out hlen (by omega) (by omega) HS1.out).mono ?_;rintro e w2 ⟨v,es,E,p2,hel,hp2,hE,rfl,hS2⟩;have HS2:=qh hS2;have HE:=qh hE;clear hS2 HS1 hE;go_wp2;go_ret;exact⟨v,es,E,p2,hel,HE.out,rfl,HS2.out⟩
theorem ZhY (bs:List Nat) (v:Value) (w:World) (hb:Bytes 0 w v bs) (hlen:bs.length≤100000000) :
  Calls Tryz.prog 6 #[v] w fun e w'=>∃ (es:List (Int × Int)) (v:Value),es.length≤100∧e = .returned v∧Pairs 0 w' v es∧Below w.heap.size w w':=by
 have Hb:=qh hb;clear hb
 go_enter Tryz.func6, Tryz.ntmps6
 go_wp2_with fail;refine(ZlU bs v _ Hb.out hlen).mono ?_;rintro e w1 ⟨vb,bs',hl',hB,rfl,hS'⟩;have hB1:=hB w Hb.out;have HB:=qh hB1;have HS1:=qh (hS'.add (Below.refl _ _) Ent.nil trivial fun k hk=>hk.elim);clear hS' hB hB1;go_wp2_with fail;refine(Zix bs' vb w.heap.size 0 6 w w1 _ HB.out hl' (by omega) (by omega) HS1.out).mono ?_;rintro e w2 ⟨v2,es,E,pn,hel,hh,rfl,hS2⟩;have HS:=qh hS2;have HH:=qh hh;clear hS2 hh;go_wp2;go_ret;exact⟨es,v2,hel,rfl,HH.out.r HS.out 2 rfl,HS.out.bel⟩
end Go.Proofs.YtfikabecgaappaaGreat
namespace Go.Proofs.YtfikabecgaappaaGreat
def seg (w:List Nat) (i j:Nat):List Nat:=(w.drop i).take (j-i)
theorem ZdI {w:List Nat} {i j:Nat} (hij:i≤j) (hj:j≤w.length):(seg w i j).length=j-i:=by unfold seg;rw[List.length_take,List.length_drop];omega
theorem ZjU (w:List Nat) (i:Nat):seg w i i=[]:=by unfold seg;simp
theorem Zot (w:List Nat):seg w 0 w.length=w:=by unfold seg;simp
theorem ZdV {w:List Nat} {i k j:Nat} (h1:i≤k) (h2:k≤j):seg w i j=seg w i k++seg w k j:=by
 unfold seg;have e:j-i=(k-i)+(j-k):=by omega
 rw[e,List.take_add,List.drop_drop];congr 3;omega
theorem ZfH {w u v:List Nat} {i j:Nat} (hij:i≤j) (hj:j≤w.length) (h:seg w i j=u++v):i+u.length≤j∧u=seg w i (i+u.length)∧v=seg w (i+u.length) j:=by
 have hl:=ZdI hij hj;rw[h,List.length_append] at hl;have hk:i+u.length≤j:=by omega
 have hs:=ZdV (w:=w) (i:=i) (k:=i+u.length) (j:=j) (by omega) hk;rw[h] at hs;have hul:u.length=(seg w i (i+u.length)).length:=by rw[ZdI (by omega) (by omega)];omega
 obtain⟨e1,e2⟩:=List.append_inj hs hul;exact⟨hk,e1,e2⟩
theorem Zlv {w:List Nat} {i c:Nat} (hi:i<w.length):seg w i (i+1)=[c]↔w.getD i 0=c:=by
 have e:seg w i (i+1)=[w.getD i 0]:=by unfold seg;rw[Nat.add_sub_cancel_left,List.drop_eq_getElem_cons hi,List.take_succ_cons,List.take_zero];simp[hi]
 rw[e];simp
def memS (t:Ex) (w:List Nat) (i j:Nat):Prop:=memE t (seg w i j)
theorem Zmb (w:List Nat) (i j:Nat):¬ memS .zero w i j:=fun h=>h
theorem ZnC {w:List Nat} {i j:Nat} (hij:i≤j) (hj:j≤w.length):memS .one w i j↔i=j:=by
 show seg w i j=[]↔_;have hl:=ZdI hij hj;constructor
 ·intro h;rw[h] at hl;simp at hl;omega
 rintro rfl;exact ZjU w i
theorem ZnD {w:List Nat} {i j:Nat} {c:Fin 3} (hij:i≤j) (hj:j≤w.length):memS (.ltr c) w i j↔j=i+1∧w.getD i 0=c.val:=by
 show seg w i j=[c.val]↔_;have hl:=ZdI hij hj;constructor
 ·intro h;have e:j=i+1:=by rw[h] at hl;simp at hl;omega
  subst e;exact⟨rfl,(Zlv (by omega)).1 h⟩
 rintro⟨rfl,h⟩;exact(Zlv (by omega)).2 h
theorem Zmd {a b:Ex} {w:List Nat} {i j:Nat} (hij:i≤j) (hj:j≤w.length):memS (.join a b) w i j↔∃ k,i≤k∧k≤j∧memS a w i k∧memS b w k j:=by
 constructor
 ·rintro⟨u,v,h,h1,h2⟩;obtain⟨hk,e1,e2⟩:=ZfH hij hj h;exact⟨i+u.length,by omega,hk,by unfold memS;rw[← e1];exact h1,by unfold memS;rw[← e2];exact h2⟩
 rintro⟨k,h1,h2,h3,h4⟩;exact⟨_,_,ZdV h1 h2,h3,h4⟩
theorem StarL.first {L:List Nat→Prop} {w:List Nat} (h:StarL L w):w=[]∨∃ u v,u≠[]∧w=u++v∧L u∧StarL L v:=by
 obtain⟨ws,rfl,hs⟩:=h
 induction ws with
 | nil=>exact .inl rfl
 | cons u ws ih =>
  by_cases hu:u=[]
  ·subst hu;exact ih fun x hx=>hs x (by simp[hx])
  exact .inr ⟨u,ws.flatten,hu,rfl,hs u (by simp),ws,rfl,fun x hx=>hs x (by simp[hx])⟩
theorem StarL.snoc {L:List Nat→Prop} {u w:List Nat} (h:StarL L w) (h':L u):StarL L (w++u):=by
 obtain⟨ws,rfl,hw⟩:=h;refine⟨ws++[u],by simp,fun x hx => ?_⟩;rcases List.mem_append.1 hx with hx|hx
 ·exact hw x hx
 simp at hx;subst hx;exact h'
theorem StarL.last {L:List Nat→Prop} {w:List Nat} (h:StarL L w):w=[]∨∃ u v,v≠[]∧w=u++v∧StarL L u∧L v:=by
 obtain⟨ws,rfl,hs⟩:=h;obtain⟨rs,rfl⟩:∃ rs:List (List Nat),ws=rs.reverse:=⟨ws.reverse,by simp⟩
 induction rs with
 | nil=>exact .inl rfl
 | cons u rs ih =>
  have hu:L u:=hs u (by simp);have hr:∀ x∈rs.reverse,L x:=fun x hx=>hs x (by simp at hx ⊢;exact .inl hx)
  rw[List.reverse_cons,List.flatten_append];by_cases hn:u=[]
  ·subst hn;simpa using ih hr
  exact .inr ⟨rs.reverse.flatten,u,hn,by simp,⟨rs.reverse,rfl,hr⟩,hu⟩
theorem Zmc {a:Ex} {w:List Nat} {i j:Nat} (hij:i≤j) (hj:j≤w.length):memS (.star a) w i j↔i=j∨∃ k,i+1≤k∧k≤j∧memS a w i k∧memS (.star a) w k j:=by
 constructor
 ·intro h;rcases StarL.first h with h|⟨u,v,hu,h,h1,h2⟩
  ·have hl:=ZdI hij hj;rw[h] at hl;simp at hl;exact .inl (by omega)
  obtain⟨hk,e1,e2⟩:=ZfH hij hj h;have hpos:=List.length_pos_iff.2 hu;exact .inr ⟨i+u.length,by omega,hk,by unfold memS;rw[← e1];exact h1,by unfold memS;rw[← e2];exact h2⟩
 rintro(rfl|⟨k,h1,h2,h3,h4⟩)
 ·unfold memS;rw[ZjU];exact StarL.nil
 unfold memS;rw[ZdV (show i≤k by omega) h2];exact StarL.cons h3 h4
def stR (A:Nat→Nat→Prop):Nat→Nat→Nat→Prop
 | 0,i,j=>i=j
 | m+1,i,j=>stR A m i j∨∃ k,i≤k∧k≤j∧stR A m i k∧A k j
theorem Znj {A:Nat→Nat→Prop} {i j:Nat}:∀ {m n:Nat},m≤n→stR A m i j→stR A n i j
 | m,n,h,hm=>by
  induction n with
  | zero=>obtain rfl:m=0:=by omega
          exact hm
  | succ n ih =>
   by_cases he:m=n+1
   ·subst he;exact hm
   exact .inl (ih (by omega))
theorem Zhj {a:Ex} {w:List Nat}:∀ (m:Nat) {i j:Nat},i≤j→j≤w.length→stR (memS a w) m i j→memS (.star a) w i j
 | 0,i,j,hij,hj,h=>(Zmc hij hj).2 (.inl h)
 | m+1,i,j,hij,hj,h=>by
  rcases h with h|⟨k,h1,h2,h3,h4⟩
  ·exact Zhj m hij hj h
  have hs:=Zhj m h1 (by omega) h3;unfold memS at hs h4 ⊢;rw[ZdV h1 h2];exact StarL.snoc hs h4
theorem Zng {a:Ex} {w:List Nat}:∀ (d:Nat) {i j:Nat},i≤j→j≤w.length→j-i≤d→memS (.star a) w i j→stR (memS a w) d i j:=by
 intro d
 induction d with
 | zero =>intro i j hij hj hd h;exact(show i=j by omega)
 | succ d ih =>
  intro i j hij hj hd h;rcases StarL.last h with h|⟨u,v,hv,h,h1,h2⟩
  ·have hl:=ZdI hij hj;rw[h] at hl;simp at hl;exact Znj (Nat.zero_le _) (show i=j by omega)
  obtain⟨hk,e1,e2⟩:=ZfH hij hj h;have hl:=ZdI hij hj;rw[h,List.length_append] at hl;have hpos:=List.length_pos_iff.2 hv;exact .inr ⟨i+u.length,by omega,hk,ih (by omega) (by omega) (by omega) (by unfold memS;rw[← e1];exact h1),by unfold memS;rw[← e2];exact h2⟩
theorem Zor {a:Ex} {w:List Nat} {i j:Nat} (hij:i≤j) (hj:j≤w.length):stR (memS a w) w.length i j↔memS (.star a) w i j :=
 ⟨Zhj _ hij hj,Zng _ hij hj (by omega)⟩
end Go.Proofs.YtfikabecgaappaaGreat
namespace Go.Proofs.YtfikabecgaappaaGreat
open Go.RowKit
def spC (T:Nat→Nat→Bool):Array Value:=((List.range 81).map fun k=>Value.bool (T (k / 9) (k % 9))).toArray
theorem Zaf (T:Nat→Nat→Bool):(spC T).size=81:=by simp[spC]
theorem Zlt (T:Nat→Nat→Bool) {i j:Nat} (hi:i<9) (hj:j<9):(spC T)[i*9+j]? = some (.bool (T i j)):=by unfold spC;rw[List.getElem?_toArray,List.getElem?_map,List.getElem?_range (by omega)];rw[Option.map_some,show(i*9+j) / 9=i by omega,show(i*9+j) % 9=j by omega]
theorem Zos (T:Nat→Nat→Bool) {i j:Nat} (hi:i<9) (hj:j<9) (v:Bool):(spC T).setIfInBounds (i*9+j) (.bool v)=spC (fun a b=>if a=i∧b=j then v else T a b):=by
 unfold spC;rw[List.setIfInBounds_toArray];congr 1;apply List.ext_getElem?;intro k;rw[List.getElem?_set,List.getElem?_map,List.getElem?_map];by_cases hk:k<81
 ·rw[List.getElem?_range hk];by_cases he:i*9+j=k
  ·subst he;rw[if_pos rfl,if_pos (by simp;omega),Option.map_some];exact congrArg (fun x=>some (Value.bool x)) (if_pos ⟨by omega,by omega⟩).symm
  rw[if_neg he,Option.map_some,Option.map_some];exact congrArg (fun x=>some (Value.bool x)) (if_neg (fun h=>he (by have:=h.1;have:=h.2;omega))).symm
 rw[List.getElem?_eq_none (by simp;omega)];by_cases he:i*9+j=k
 ·omega
 rw[if_neg he];rfl
theorem Za4 (T:Nat→Nat→Bool):∀ v∈(spC T).toList,v.oneCell'=true:=fun v hv=>by simp only[spC,List.mem_map] at hv;obtain⟨k,-,rfl⟩:=hv;rfl
theorem ZcI {T U:Nat→Nat→Bool} (h:∀ i j,i<9→j<9→T i j=U i j):spC T=spC U:=by unfold spC;congr 1;apply List.map_congr_left;intro k hk;rw[List.mem_range] at hk;rw[h (k / 9) (k % 9) (by omega) (by omega)]
def Zap (n:Nat) (F:Nat→Nat→Bool) (a b:Nat):Bool:=decide (a≤b∧b≤n)&&F a b
def Zc7 (n:Nat) (F:Nat→Nat→Bool) (i j a b:Nat):Bool:=decide (a≤b∧b≤n∧(a<i∨a=i∧b<j))&&F a b
theorem ZkQ (n:Nat) (F:Nat→Nat→Bool):spC (Zc7 n F 0 0)=spC (fun _ _=>false):=ZcI fun a b _ _=>by unfold Zc7;rw[decide_eq_false (by omega)];rfl
theorem Zmv (n:Nat) (F:Nat→Nat→Bool) (i:Nat):spC (Zc7 n F i 0)=spC (Zc7 n F i i):=ZcI fun a b _ _=>by unfold Zc7;congr 1;exact decide_eq_decide.2 (by omega)
theorem ZkS (n:Nat) (F:Nat→Nat→Bool) (i:Nat):spC (Zc7 n F i (n+1))=spC (Zc7 n F (i+1) 0):=ZcI fun a b _ _=>by unfold Zc7;congr 1;exact decide_eq_decide.2 (by omega)
theorem Zmw (n:Nat) (F:Nat→Nat→Bool):spC (Zc7 n F (n+1) 0)=spC (Zap n F):=ZcI fun a b _ _=>by unfold Zc7 Zap;congr 1;exact decide_eq_decide.2 (by omega)
theorem ZkR (n:Nat) (F:Nat→Nat→Bool) {i j:Nat} (hij:i≤j) (hj:j≤n) (hn:n≤8):(spC (Zc7 n F i j)).setIfInBounds (i*9+j) (.bool (F i j))=spC (Zc7 n F i (j+1)):=by
 rw[Zos _ (by omega) (by omega)];refine ZcI fun a b _ _ => ?_
 unfold Zc7;by_cases h:a=i∧b=j
 ·obtain⟨rfl,rfl⟩:=h;rw[if_pos ⟨rfl,rfl⟩,decide_eq_true (by omega),Bool.true_and]
 rw[if_neg h];congr 1;exact decide_eq_decide.2 (by omega)
theorem Zbv (fn:Nat) (caps:Array Value) (n:Nat) (F:Nat→Nat→Bool) (w:World) (hn:n≤8) (hrun:∀ args u,(callFunc fn args).run Tryz.prog u = .ok (.enter fn args) u)
  (hF:∀ (i j:Nat),i≤j→j≤n→∀ u:World,Below w.heap.size w u→Calls Tryz.prog fn (#[.int .i64 (i:Int),.int .i64 (j:Int)]++caps) u fun e w'=>e = .returned (.bool (F i j))∧Below u.heap.size u w') :
  Calls Tryz.prog 141 #[.int .i64 (n:Int),.func (.func fn) #[] caps] w fun e w'=>e = .returned (.agg (spC (Zap n F)))∧Below w.heap.size w w':=by
 have HF:=qh hF;have HRUN:=qh hrun;clear hF hrun;have hz:Tryz.zeroCells131 = spC fun _ _=>false:=by rfl
 have HS0:=qh (show St w _ [Ent.box w.heap.size (spC fun _ _=>false) 131,Ent.box (w.heap.size+1) (spC (Zc7 n F 0 0)) 131] from by rw[ZkQ];exact((St.start w).alloc w.heap.size rfl (spC fun _ _=>false) 131).alloc (w.heap.size+1) (by simp) (spC fun _ _=>false) 131);rw[← hz] at HS0;clear hz
 go_enter Tryz.func141, Tryz.ntmps141
 go_wp2
 go_loopw [6,7] (fun vi vj wr=>∃ i:Nat,vi = .int .i64 (i:Int)∧i≤n+1∧St w wr [Ent.box w.heap.size (spC fun _ _=>false) 131,Ent.box (w.heap.size+1) (spC (Zc7 n F i 0)) 131]) (fun vi _ _=>n+1-(intOf vi).toNat)
 case atStart=>exact⟨0,rfl,Nat.zero_le _,HS0.out⟩
 case round =>
  obtain⟨i,rfl,hi,hS⟩:=hrel;have HS:=qh hS;clear hS HS0;by_cases hlt:i≤n
  ·have hi1:(i:Int)≤(n:Int):=by omega
   have hw1:IntKind.i64.wrap ((i:Int)+1)=(i:Int)+1:=IntWalk.i64_in _ (by omega);go_wp2
   go_loopw [7] (fun vj wr=>∃ j:Nat,vj = .int .i64 (j:Int)∧i≤j∧j≤n+1∧St w wr [Ent.box w.heap.size (spC fun _ _=>false) 131,Ent.box (w.heap.size+1) (spC (Zc7 n F i j)) 131]) (fun vj _=>n+1-(intOf vj).toNat)
   case atStart=>exact⟨i,rfl,Nat.le_refl _,by omega,Zmv n F i ▸ HS.out⟩
   case round =>
    obtain⟨j,rfl,hij,hj,hS⟩:=hrel;have HSj:=qh hS;clear hS;by_cases hlt2:j≤n
    ·have hj1:(j:Int)≤(n:Int):=by omega
     have hjn:=hlt2;have hi9:(i:Int)<9:=by omega
     have hj9:(j:Int)<9:=by omega
     have hw2:IntKind.i64.wrap ((j:Int)+1)=(j:Int)+1:=IntWalk.i64_in _ (by omega);go_wp2;refine wp_region_any (by kernel_rfl) ?_
     refine Zaq (fun A listed a w'=>∃ (l0 l1 l2 l3 l4 l5 l6 l7 l8:Bool) ,listed=#[l0,l1,l2,l3,l4,l5,l6,l7,l8] ∧
       a=⟨((((((((A.tmps.setIfInBounds 19 (if l0=true then .int .i64 (i:Int) else A.tmps.getD 19 undef)).setIfInBounds 20 (if l1=true then .int .i64 (j:Int) else A.tmps.getD 20 undef)).setIfInBounds 21 (if l2=true then .func (.func fn) #[] caps else A.tmps.getD 21 undef)).setIfInBounds 22 (if l3=true then .int .i64 (i:Int) else A.tmps.getD 22 undef)).setIfInBounds 23 (if l4=true then .int .i64 (j:Int) else A.tmps.getD 23 undef)).setIfInBounds 24 (if l5=true then .bool (F i j) else A.tmps.getD 24 undef)).setIfInBounds 25 (if l6=true then .pointer (some ⟨(w.heap.size+1),i*9,none⟩) else A.tmps.getD 25 undef)).setIfInBounds 26 (if l7=true then .pointer (some ⟨(w.heap.size+1),i*9+j,none⟩) else A.tmps.getD 26 undef)),A.defers⟩ ∧
       St w w' [Ent.box w.heap.size (spC fun _ _=>false) 131,(if l8=true then Ent.box ((w.heap.size+1)) (spC (Zc7 n F i (j+1))) 131 else Ent.box ((w.heap.size+1)) (spC (Zc7 n F i j)) 131)]) ?_ ?_ ?_
     ·rintro listed a w' ⟨l0,l1,l2,l3,l4,l5,l6,l7,l8,rfl,rfl,hS⟩ i hi;obtain⟨hun,o,ho,hall⟩:=mem_ready.1 hi;have hlt:=(Array.getElem?_eq_some_iff.1 ho).1;refine wpOp_step ho (fun K hK => ?_);clear hi;have HS:=qh hS;clear hS;simp only[List.setIfInBounds_toArray,List.set_cons_zero,List.set_cons_succ,Array.getD_eq_getD_getElem?,List.getElem?_toArray,List.getElem?_cons_zero,List.getElem?_cons_succ,Option.getD_some];obtain h|h|h|h|h|h|h|h|h:i=0∨i=1∨i=2∨i=3∨i=4∨i=5∨i=6∨i=7∨i=8:=by simp at hlt;omega
      all_goals subst h
      all_goals simp only[List.getElem?_toArray,List.getElem?_cons_zero,List.getElem?_cons_succ,Option.some.injEq] at ho
      all_goals subst ho
      all_goals simp[Region.binds] at hun hall
      ·subst hun;go_simp;exact hK _ _ ⟨true,l1,l2,l3,l4,l5,l6,l7,l8,rfl,(by simp),HS.out⟩
      ·subst hun;go_simp;exact hK _ _ ⟨l0,true,l2,l3,l4,l5,l6,l7,l8,rfl,(by simp),HS.out⟩
      ·subst hun;go_simp;exact hK _ _ ⟨l0,l1,true,l3,l4,l5,l6,l7,l8,rfl,(by simp),HS.out⟩
      ·subst hun;go_simp;exact hK _ _ ⟨l0,l1,l2,true,l4,l5,l6,l7,l8,rfl,(by simp),HS.out⟩
      ·subst hun;go_simp;exact hK _ _ ⟨l0,l1,l2,l3,true,l5,l6,l7,l8,rfl,(by simp),HS.out⟩
      ·obtain⟨rfl,rfl,rfl⟩:=hall;subst hun;go_simp;rw[HRUN.out];go_simp;refine(HF.out i j hij hjn _ HS.out.bel).mono ?_;rintro e u1 ⟨rfl,hb⟩;have hS2:=HS.out.call hb;replace hS2:=qh hS2;go_simp;exact hK _ _ ⟨l0,l1,true,true,true,true,l6,l7,l8,rfl,(by simp),hS2.out⟩
      ·obtain rfl:=hall;subst hun;go_simp;exact hK _ _ ⟨true,l1,l2,l3,l4,l5,true,l7,l8,rfl,(by simp),HS.out⟩
      ·obtain⟨rfl,rfl,rfl,-,rfl,rfl,rfl,rfl⟩:=hall;subst hun;go_simp;exact hK _ _ ⟨true,true,true,true,true,true,true,true,l8,rfl,(by simp),HS.out⟩
      obtain⟨rfl,rfl,rfl,rfl,rfl,rfl,rfl,-⟩:=hall;subst hun;have f0:=HS.out.fr 1 (i*9+j) rfl;have k0:=HS.out.cell (v:=.bool (Zc7 n F i j i j)) 1 (i*9+j) rfl (Zlt _ (by omega) (by omega));go_simp;exact hK _ _ ⟨true,true,true,true,true,true,l6,true,true,rfl,(by simp),(ZkR n F hij hjn hn ▸ HS.out.set 1 rfl (i*9+j) (.bool (F i j)))⟩
     ·rintro listed a w' ⟨l0,l1,l2,l3,l4,l5,l6,l7,l8,rfl,rfl,hS⟩ hr;have hall:=Zaw (by kernel_rfl) rfl hr;obtain rfl:l0=true:=by simpa using hall 0 (by simp)
      obtain rfl:l1=true:=by simpa using hall 1 (by simp)
      obtain rfl:l2=true:=by simpa using hall 2 (by simp)
      obtain rfl:l3=true:=by simpa using hall 3 (by simp)
      obtain rfl:l4=true:=by simpa using hall 4 (by simp)
      obtain rfl:l5=true:=by simpa using hall 5 (by simp)
      obtain rfl:l6=true:=by simpa using hall 6 (by simp)
      obtain rfl:l7=true:=by simpa using hall 7 (by simp)
      obtain rfl:l8=true:=by simpa using hall 8 (by simp)
      clear hall hr ;simp only[↓reduceIte] at hS ⊢;simp only[List.setIfInBounds_toArray,List.set_cons_zero,List.set_cons_succ];have HSf:=qh hS;clear hS;go_wp2;go_roundw
      case rel=>exact⟨j+1,by simp,by omega,by omega,HSf.out⟩
      case measure=>simp[intOf];omega
     refine⟨false,false,false,false,false,false,false,false,false,rfl,(by simp),?_⟩;exact HSj.out.drew.pick [0,1] (by decide)
    have hj1:¬ (j:Int)≤(n:Int):=by omega
    obtain rfl:j=n+1:=by omega
    go_wp2;go_roundw
    case rel=>exact⟨i+1,by simp,by omega,ZkS n F i ▸ HSj.out⟩
    case measure=>simp[intOf];omega
  have hi1:¬ (i:Int)≤(n:Int):=by omega
  have hin:i=n+1:=by omega
  have hS9:=HS.out;rw[hin,Zmw] at hS9;have HS9:=qh hS9;have Hhin:=qh hin;clear hin;clear hS9;rename_i hK0;have HK:=qh hK0;clear hK0;go_wp2;refine HK.out _ _ ?_;have hI:(Tryz.prog.info? 131).map (·.size)=some 81:=by kernel_rfl
  refine wp_seq ?_;refine wp_region_list ?_;refine ZgB rfl 131 _ rfl (w.heap.size+1) rfl 131 (spC (Zap n F)) _ (HS9.out.box 1 rfl) Tryz.underlying131 rfl (by rw[hI,Zaf]) ?_;refine Zfu rfl 131 _ _ rfl w.heap.size 131 (spC fun _ _=>false) (spC (Zap n F)) rfl rfl (HS9.out.box 0 rfl) (by rw[hI,Zaf]) (by rw[Zaf,Zaf]) (Za4 _) ?_;refine wpList_nil ?_;have HS8:=qh (HS9.out.setAll 0 rfl (spC (Zap n F)));show Code.wp Tryz.prog Code.ret _ _ _;go_wp2;refine bodyPost_ret (v:=.agg (spC (Zap n F))) (ZbB Tryz.results141 _ _ _ w.heap.size 131 (spC (Zap n F)) _ rfl (HS8.out.box 0 rfl) Tryz.underlying131 rfl (by rw[hI,Zaf])) rfl ?_;exact⟨rfl,HS8.out.bel⟩
def TabAt (w:World) (b:Nat) (T:Nat→Nat→Bool):Prop:=∀ x y,x<9→y<9→w.cell? ⟨b,x*9+y,none⟩=some (.bool (T x y))
theorem TabAt.of_box {w:World} {b:Nat} {T:Nat→Nat→Bool} {t:TypeId} (h:Bx w b (spC T) t):TabAt w b T:=fun x y hx hy=>(h.cell (x*9+y)).trans (Zlt T hx hy)
theorem Zju (A B:Nat→Nat→Bool) (b2 b3 i j:Nat) (u:World) (hij:i≤j) (hj:j≤8) (hA:TabAt u b2 A) (hB:TabAt u b3 B) (r:Bool) (hr:r=true↔∃ k,i≤k∧k≤j∧A i k=true∧B k j=true) :
  Calls Tryz.prog 172 #[.int .i64 (i:Int),.int .i64 (j:Int),.pointer (some ⟨b2,0,none⟩),.pointer (some ⟨b3,0,none⟩)] u fun e w'=>e = .returned (.bool r)∧Below u.heap.size u w':=by
 have HA:=qh hA;have HB:=qh hB;have HR:=qh hr;clear hA hB hr;have hi9:(i:Int)<9:=by omega
 have hj9:(j:Int)<9:=by omega
 go_enter Tryz.func172, Tryz.ntmps172
 go_wp2
 go_loopw [7] (fun vk wr=>∃ k:Nat,vk = .int .i64 (k:Int)∧i≤k∧k≤j+1∧(∀ m,i≤m→m<k→¬ (A i m=true∧B m j=true))∧wr=u) (fun vk _=>j+1-(intOf vk).toNat)
 case atStart=>exact⟨i,rfl,Nat.le_refl _,by omega,fun m h1 h2=>by omega,rfl⟩
 case round =>
  obtain⟨k,rfl,hik,hk,hno,rfl⟩:=hrel;have HNO:=qh hno;clear hno;by_cases hlt:k≤j
  ·have hk1:(k:Int)≤(j:Int):=by omega
   have hk9:(k:Int)<9:=by omega
   have hw1:IntKind.i64.wrap ((k:Int)+1)=(k:Int)+1:=IntWalk.i64_in _ (by omega);have k0:=HA.out i k (by omega) (by omega);have k1:=HB.out k j (by omega) (by omega);cases ha:A i k with
   | false =>
    rw[ha] at k0;have Ha:=qh ha;clear ha;go_wp2;go_roundw
    case rel=>exact⟨k+1,by simp,by omega,by omega,fun m h1 h2 h3=>by
     by_cases he:m=k
     ·subst he;rw[Ha.out] at h3;exact absurd h3.1 (by simp)
     exact HNO.out m h1 (by omega) h3,trivial⟩
    case measure=>simp[intOf];omega
   | true =>
    rw[ha] at k0;have Ha:=qh ha;clear ha;cases hb:B k j with
    | false =>
     rw[hb] at k1;have Hb:=qh hb;clear hb;go_wp2;go_roundw
     case rel=>exact⟨k+1,by simp,by omega,by omega,fun m h1 h2 h3=>by
      by_cases he:m=k
      ·subst he;rw[Hb.out] at h3;exact absurd h3.2 (by simp)
      exact HNO.out m h1 (by omega) h3,trivial⟩
     case measure=>simp[intOf];omega
    | true =>rw[hb] at k1;have hrt:r=true:=HR.out.2 ⟨k,hik,hlt,Ha.out,hb⟩;subst hrt;clear hb;go_wp2;go_ret;exact⟨rfl,Below.refl _ _⟩
  have hk1:¬ (k:Int)≤(j:Int):=by omega
  have hrf:r=false:=by
   cases hr:r with
   | false=>rfl
   | true =>obtain⟨m,h1,h2,h3,h4⟩:=HR.out.1 hr;exact absurd ⟨h3,h4⟩ (HNO.out m h1 (by omega))
  subst hrf;go_wp2;go_ret;exact⟨rfl,Below.refl _ _⟩
theorem Zba {f : FuncId} {fn : Func} {c : Code} (hf : Tryz.prog.funcs[f]? = some fn) (hname : (fn.name == "runtime.NumGoroutine") = false) (hb : fn.body = some c) (args : Array Value) (w : World) :
  (callFunc f args).run Tryz.prog w = .ok (.enter f args) w:=by
 have h1 : fn.name ≠ "runtime.NumGoroutine" := by simpa using hname
 simp[callFunc,hf,h1,hb]
theorem Zdm (n:Nat) (A B F:Nat→Nat→Bool) (w:World) (hn:n≤8) (hF:∀ i j,i≤j→j≤n→(F i j=true↔∃ k,i≤k∧k≤j∧A i k=true∧B k j=true)) :
  Calls Tryz.prog 144 #[.int .i64 (n:Int),.agg (spC A),.agg (spC B)] w fun e w'=>e = .returned (.agg (spC (Zap n F)))∧Below w.heap.size w w':=by
 have HF:=qh hF;clear hF;have hz:Tryz.zeroCells131 = spC fun _ _=>false:=by rfl
 have HS0:=qh (show St w _ [Ent.box w.heap.size (spC A) 131,Ent.box (w.heap.size+1) (spC B) 131,Ent.box (w.heap.size+1+1) (spC fun _ _=>false) 131] from((((St.start w).alloc w.heap.size rfl (spC A) 131).alloc (w.heap.size+1) (by simp) (spC B) 131)).alloc (w.heap.size+1+1) (by simp) (spC fun _ _=>false) 131);rw[← hz] at HS0;replace hz:=qh hz
 go_enter Tryz.func144, Tryz.ntmps144
 go_wp2_with (go_at_call 141;go_loud (refine(Zbv 172 #[.pointer (some ⟨w.heap.size,0,none⟩),.pointer (some ⟨w.heap.size+1,0,none⟩)] n F _ hn (Zba Tryz.func172 (by kernel_rfl) rfl) (fun i j hij hj u hu=>Zju A B _ _ i j u hij (by omega) (TabAt.of_box ((HS0.out.call hu).box 0 rfl)) (TabAt.of_box ((HS0.out.call hu).box 1 rfl)) (F i j) (HF.out i j hij hj))).mono ?_;rintro e w1 ⟨rfl,hb⟩;have HS1:=qh (HS0.out.call hb);have hst:=Za5 (P:=Tryz.prog) (HS1.out.box 2 rfl) (cs':=spC (Zap n F)) (by rw[Zaf,hz.out,Zaf]) (Za4 _);clear hb));have hI:(Tryz.prog.info? 131).map (·.size)=some 81:=by kernel_rfl
 have HS8:=qh (HS1.out.setAll 2 rfl (spC (Zap n F)));refine bodyPost_ret (v:=.agg (spC (Zap n F))) (ZbB Tryz.results144 _ _ _ (w.heap.size+1+1) 131 (spC (Zap n F)) _ rfl (HS8.out.box 2 rfl) Tryz.underlying131 rfl (by rw[hI,Zaf])) rfl ?_;exact⟨rfl,HS8.out.bel⟩
theorem Zlm (i j:Nat) (u:World) (r:Bool) (hr:r=true↔i=j) (_hi:i≤8) (hj:j≤8) :
  Calls Tryz.prog 173 #[.int .i64 (i:Int),.int .i64 (j:Int)] u fun e w'=>e = .returned (.bool r)∧Below u.heap.size u w':=by
 by_cases h:i=j
 ·have hr1:=hr.2 h;subst hr1 h;clear hr
  go_enter Tryz.func173, Tryz.ntmps173
  go_wp2;go_ret;exact⟨by simp,Below.refl _ _⟩
 have hr1:r=false:=by
  cases r with
  | false=>rfl
  | true=>exact absurd (hr.1 rfl) h
 subst hr1;have hn:((i:Int)==(j:Int))=false:=by simp;omega
 clear hr
 go_enter Tryz.func173, Tryz.ntmps173
 go_wp2;go_ret;exact⟨by simp,Below.refl _ _⟩
theorem Zll (A B:Nat→Nat→Bool) (b2 b3 i j:Nat) (u:World) (hij:i≤j) (hj:j≤8) (hA:TabAt u b2 A) (hB:TabAt u b3 B) (r:Bool) (hr:(A i j||B i j)=r) :
  Calls Tryz.prog 174 #[.int .i64 (i:Int),.int .i64 (j:Int),.pointer (some ⟨b2,0,none⟩),.pointer (some ⟨b3,0,none⟩)] u fun e w'=>e = .returned (.bool r)∧Below u.heap.size u w':=by
 have hi9:(i:Int)<9:=by omega
 have hj9:(j:Int)<9:=by omega
 have k0:=hA i j (by omega) (by omega);have k1:=hB i j (by omega) (by omega);cases ha:A i j with
 | true =>
  rw[ha] at k0 hr;subst hr;clear ha hA hB k1
  go_enter Tryz.func174, Tryz.ntmps174
  go_wp2;go_ret;exact⟨rfl,Below.refl _ _⟩
 | false =>
  rw[ha] at k0 hr;obtain⟨y,hy⟩:=eJ (B i j);rw[hy] at k1 hr;rw[Bool.false_or] at hr;subst hr;clear ha hA hB hy
  go_enter Tryz.func174, Tryz.ntmps174
  go_wp2;go_ret;exact⟨rfl,Below.refl _ _⟩
def ZgE (A B:Nat→Nat→Bool) (i j:Nat):Bool:=(List.range 9).any fun k=>decide (i≤k∧k≤j)&&(A i k&&B k j)
theorem Zd9 {A B:Nat→Nat→Bool} {n i j:Nat} (hn:n≤8) (hj:j≤n):ZgE A B i j=true↔∃ k,i≤k∧k≤j∧A i k=true∧B k j=true:=by
 unfold ZgE;rw[List.any_eq_true];constructor
 ·rintro⟨k,-,h⟩;rw[Bool.and_eq_true,Bool.and_eq_true,decide_eq_true_eq] at h;exact⟨k,h.1.1,h.1.2,h.2.1,h.2.2⟩
 rintro⟨k,h1,h2,h3,h4⟩;refine⟨k,List.mem_range.2 (by omega),?_⟩;rw[Bool.and_eq_true,Bool.and_eq_true,decide_eq_true_eq];exact⟨⟨h1,h2⟩,h3,h4⟩
def stB (n:Nat) (A:Nat→Nat→Bool):Nat→Nat→Nat→Bool
 | 0=>fun i j=>decide (i=j)
 | m+1=>fun i j=>stB n A m i j||ZgE (Zap n (stB n A m)) A i j
theorem Zbn {n i j:Nat} (F:Nat→Nat→Bool) (h1:i≤j) (h2:j≤n):Zap n F i j=F i j:=by unfold Zap;rw[decide_eq_true ⟨h1,h2⟩,Bool.true_and]
theorem Zi6 {n:Nat} (hn:n≤8) (A:Nat→Nat→Bool):∀ (m:Nat) {i j:Nat},i≤j→j≤n→(stB n A m i j=true↔stR (fun a b=>A a b=true) m i j)
 | 0,i,j,_,_=>by simp[stB,stR]
 | m+1,i,j,hij,hj=>by show(stB n A m i j||ZgE _ A i j)=true↔stR _ m i j∨_;rw[Bool.or_eq_true,Zi6 hn A m hij hj,Zd9 hn hj];refine or_congr Iff.rfl (exists_congr fun k=>and_congr_right fun h1=>and_congr_right fun h2 => ?_);rw[Zbn _ h1 (by omega),Zi6 hn A m h1 (by omega)]
theorem ZbM {op:Oper} {a:Act} {w:World} {K:Act→World→Prop} {Q:Exit→Act→World→Prop} (ty:TypeId) (x:Operand) (ho:op.op = .load ty x) (b:Nat) (T:TypeId) (cs:Array Value) (d:TypeDesc) (hx:a.eval x = .pointer (some ⟨b,0,none⟩)) (hb:Bx w b cs T)
  (hu:Tryz.prog.underlying ty=some d) (hd:d.isRow=true) (hi:(Tryz.prog.info? ty).map (·.size)=some cs.size) (h:K (a.put op.dst (.agg cs)) w):op.wp Tryz.prog a w K Q:=by
 have hr:(loadVar ty ⟨b,0,none⟩).run Tryz.prog w = .ok (.agg cs) w:=run_loadVar_row w b T ty cs (0,0) d hb hu (by cases d<;>simp_all [TypeDesc.isRow]) hi;unfold Oper.wp execOp;simp only[ho,hx,Instr.loadAt,Instr.sureAddr,Sem.run_bind,Sem.run_pure,Result.andThen_ok,hr];exact h
end Go.Proofs.YtfikabecgaappaaGreat
