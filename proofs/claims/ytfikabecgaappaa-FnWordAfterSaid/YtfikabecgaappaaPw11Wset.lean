/-
  Automata joined, repeated, side by side; what compiling a tree of parts gives; plain.
  No condition: this text speaks of no program.
-/
import Derived.Test.YtfikabecgaappaaPw08Mn
import Derived.Test.YtfikabecgaappaaPw10Ex
set_option maxHeartbeats 8000000
set_option maxRecDepth 100000
namespace Go.Proofs.Ytfikabecgaappaa
open Go.RowKit
def shJ (n:Nat) (m:Int × Int × Int):Int × Int × Int:=(m.1+(n:Int),m.2.1,m.2.2+(n:Int))
def ZcI (a b:DfaD):NfaD :=
 ⟨((a.next.length+b.next.length:Nat):Int),mvs a a.next.length++(mvs b b.next.length).map (shJ a.next.length)++(eds a a.next.length).map (fun e=>(e,-1,(a.next.length:Int))),[0],(eds b b.next.length).map (fun e=>e+(a.next.length:Int))⟩
def Zde (a:DfaD):NfaD :=
 ⟨((a.next.length+1:Nat):Int),mvs a a.next.length++[((a.next.length:Int),-1,0)]++(eds a a.next.length).map (fun e=>(e,-1,(a.next.length:Int))),[(a.next.length:Int)],[(a.next.length:Int)]⟩
def detM (M K:Nat) (n:NfaD):Option DfaD:=if (metSM M n K).length≤K then some (Zak (nxSM M n) (enS n) (metSM M n K)) else none
def Zbm (K:Nat) (f:Bool→Bool→Bool) (a b:DfaD):Option DfaD:=if (metP a b K).length≤K then some (Zak (ZbQ a b) (Zdr f a b) (metP a b K)) else none
def Zen:DfaD:=⟨[[0,0,0]],[false]⟩
def oneD:DfaD:=⟨[[1,1,1],[1,1,1]],[true,false]⟩
def ltrD (c:Fin 3):DfaD:=⟨[[2,2,2].set c.val 1,[2,2,2],[2,2,2]],[false,true,false]⟩
def negD (a:DfaD):DfaD:=⟨a.next,a.ends.map (fun x => !x)⟩
def Zal (K:Nat):Ex→Option DfaD
 | .zero=>some (Zat Zen)
 | .one=>some (Zat oneD)
 | .ltr c=>some (Zat (ltrD c))
 | .join a b=>(Zal K a).bind fun x=>(Zal K b).bind fun y=>(detM 81 K (ZcI x y)).map Zat
 | .alt a b=>(Zal K a).bind fun x=>(Zal K b).bind fun y=>(Zbm K (fun p q=>p||q) x y).map Zat
 | .both a b=>(Zal K a).bind fun x=>(Zal K b).bind fun y=>(Zbm K (fun p q=>p&&q) x y).map Zat
 | .neg a=>(Zal K a).map fun x=>Zat (negD x)
 | .star a=>(Zal K a).bind fun x=>(detM 81 K (Zde x)).map Zat
theorem Zlc {α:Type} [DecidableEq α] {nx:α→Nat→α} {a:α} {en:α→Bool} {K:Nat} (hK:K=40) (h:(bat nx a K).met.length≤K):Zae (Zak nx en (bat nx a K).met).next (Zak nx en (bat nx a K).met).ends=true:=by obtain⟨h1,h2,h3,h4⟩:=Zc6 (en:=en) (nx:=nx) (a:=a) h (by omega);exact Zd3 h1 (by rw[Zay];omega) h3 fun i hi=>h4 i hi
theorem Zcp {M K:Nat} (hK:K=40) {n:NfaD} {d:DfaD} (h:detM M K n=some d):Zae d.next d.ends=true:=by
 unfold detM at h
 split at h
 ·rename_i hle;simp only[Option.some.injEq] at h;subst h;exact Zlc hK hle
 cases h
theorem Zbi {K:Nat} (hK:K=40) {f:Bool→Bool→Bool} {a b d:DfaD} (h:Zbm K f a b=some d):Zae d.next d.ends=true:=by
 unfold Zbm at h
 split at h
 ·rename_i hle;simp only[Option.some.injEq] at h;subst h;exact Zlc hK hle
 cases h
theorem Zbh {d:DfaD} (h:Zae d.next d.ends=true):Zae (Zat d).next (Zat d).ends=true :=
 (ZiU (ZlC (ZiU h).1)).1
theorem ZdW:Zae Zen.next Zen.ends=true:=by decide
theorem ZfI:Zae oneD.next oneD.ends=true:=by decide
theorem Zdm (c:Fin 3):Zae (ltrD c).next (ltrD c).ends=true:=by
 have:c=0∨c=1∨c=2:=by omega
 rcases this with rfl|rfl|rfl<;>decide
theorem ZfM {d:DfaD} (h:Zae d.next d.ends=true):Zae (negD d).next (negD d).ends=true:=by simp only[Zae,Bool.and_eq_true,decide_eq_true_eq] at h ⊢;exact⟨h.1,by simpa [negD] using h.2⟩
theorem Zbk {K:Nat} (hK:K=40):∀ (t:Ex) {d:DfaD},Zal K t=some d→Zae d.next d.ends=true:=by
 intro t;cases t with
 | zero=>intro d h;simp only[Zal,Option.some.injEq] at h;subst h;exact Zbh ZdW
 | one=>intro d h;simp only[Zal,Option.some.injEq] at h;subst h;exact Zbh ZfI
 | ltr c=>intro d h;simp only[Zal,Option.some.injEq] at h;subst h;exact Zbh (Zdm c)
 | join a b =>intro d h;simp only[Zal,Option.bind_eq_some_iff,Option.map_eq_some_iff] at h;obtain⟨x,-,y,-,z,hz,rfl⟩:=h;exact Zbh (Zcp hK hz)
 | alt a b =>intro d h;simp only[Zal,Option.bind_eq_some_iff,Option.map_eq_some_iff] at h;obtain⟨x,-,y,-,z,hz,rfl⟩:=h;exact Zbh (Zbi hK hz)
 | both a b =>intro d h;simp only[Zal,Option.bind_eq_some_iff,Option.map_eq_some_iff] at h;obtain⟨x,-,y,-,z,hz,rfl⟩:=h;exact Zbh (Zbi hK hz)
 | neg a =>intro d h;simp only[Zal,Option.map_eq_some_iff] at h;obtain⟨x,hx,rfl⟩:=h;exact Zbh (ZfM (Zbk hK a hx))
 | star a =>intro d h;simp only[Zal,Option.bind_eq_some_iff,Option.map_eq_some_iff] at h;obtain⟨x,-,z,hz,rfl⟩:=h;exact Zbh (Zcp hK hz)
theorem ZdX {m:Nat} {xs ys:List (Int × Int × Int)} (h:mvIn m xs) (h':mvIn m ys):mvIn m (xs++ys):=fun x hx=>by
 rcases List.mem_append.1 hx with hx|hx
 ·exact h x hx
 exact h' x hx
theorem ZhF {a b:DfaD} (ha:Zae a.next a.ends=true) (hb:Zae b.next b.ends=true):mvIn (a.next.length+b.next.length) (ZcI a b).moves:=by
 have h1:=Zeo ha _ (Nat.le_refl _);have h2:=Zeo hb _ (Nat.le_refl _);have hlb:=Zac hb;refine ZdX (ZdX (Zfc h1 (by omega)) fun x hx => ?_) fun x hx => ?_
 ·obtain⟨y,hy,rfl⟩:=List.mem_map.1 hx;have:=h2 y hy;simp only[shJ];omega
 obtain⟨y,hy,rfl⟩:=List.mem_map.1 hx;have:=ZeF a _ y hy;simp only;omega
theorem Ze2 {a b:DfaD}:inN (a.next.length+b.next.length) (ZcI a b).ends:=fun x hx=>by obtain⟨y,hy,rfl⟩:=List.mem_map.1 hx;have:=ZeF b _ y hy;omega
theorem Zdx {a b:DfaD} (ha:Zae a.next a.ends=true):inN (a.next.length+b.next.length) [0]:=fun x hx=>by have hla:=Zac ha;simp only[List.mem_singleton] at hx;omega
theorem ZhE {a:DfaD} (ha:Zae a.next a.ends=true):mvIn (a.next.length+1) (Zde a).moves:=by
 have h1:=Zeo ha _ (Nat.le_refl _);refine ZdX (ZdX (Zfc h1 (by omega)) fun x hx => ?_) fun x hx => ?_
 ·simp only[List.mem_singleton] at hx;subst hx;simp only;omega
 obtain⟨y,hy,rfl⟩:=List.mem_map.1 hx;have:=ZeF a _ y hy;simp only;omega
theorem Zcv {a:DfaD}:inN (a.next.length+1) [(a.next.length:Int)]:=fun x hx=>by simp only[List.mem_singleton] at hx;omega
theorem Sl.keptJ {B B':Nat} {w w':World} {v:Value} {n size:Nat} {cs:List Value} (h:Sl B w v n size cs) (hB:B'≤B) (hs:w.heap.size≤w'.heap.size) (hk:∀ k,B≤k→k<w.heap.size→w'.heap[k]? = w.heap[k]?):Sl B' w' v n size cs:=by obtain⟨hl,a,cap,hv,h1,h2,h3⟩:=h;refine⟨hl,a,cap,hv,h1,h2,fun hn => ?_⟩;obtain⟨b,off,ha,hb,hlt,hc⟩:=h3 hn;refine⟨b,off,ha,by omega,by omega,fun j hj => ?_⟩;rw[← hc j hj];exact World.cell?_of_block (hk b hb hlt)
def DfaE (w w':World):Ent:=⟨fun k=>w.heap.size≤k∧k<w'.heap.size,fun u=>∀ k,w.heap.size≤k→k<w'.heap.size→u.heap[k]? = w'.heap[k]?,fun _ _ h hk k h1 h2=>(hk k ⟨h1,h2⟩).trans (h k h1 h2)⟩
theorem St.dfaE {w0 w w':World} {L:List Ent} (h:St w0 w L) (hb:Below w.heap.size w w'):St w0 w' (L++[DfaE w w']):=h.add hb _ (fun _ _ _=>rfl) fun _ hk=>hk
structure DfaH (E:Ent) (v1 v2:Value) (vs:List Value) (D:DfaD):Prop where
 rd:∀ w,E.holds w→(∀ k,E.foot k→k<w.heap.size)→Sl 0 w v1 D.next.length 1 vs∧(∀ i,i<D.next.length→Ints 0 w (vs.getD i undef) (D.next.getD i []))∧Bools 0 w v2 D.ends
theorem DfaH.at {w0 w:World} {L:List Ent} {E:Ent} {v1 v2:Value} {vs:List Value} {D:DfaD} (h:DfaH E v1 v2 vs D) (hS:St w0 w L) (i:Nat) (hx:L[i]? = some E):Sl 0 w v1 D.next.length 1 vs∧(∀ i,i<D.next.length→Ints 0 w (vs.getD i undef) (D.next.getD i []))∧Bools 0 w v2 D.ends :=
 h.rd w (hS.has i _ hx).1 fun k hk=>((hS.has i _ hx).2 k hk).2
theorem DfaH.r {w0 w:World} {L:List Ent} {E:Ent} {v1 v2:Value} {vs:List Value} {D:DfaD} (h:DfaH E v1 v2 vs D) (hS:St w0 w L) (i:Nat) (hx:L[i]? = some E):DfaR 0 w (.agg #[v1,v2]) D:=by obtain⟨h1,h2,h3⟩:=h.at hS i hx;exact⟨v1,v2,rfl,⟨vs,h1,h2⟩,h3⟩
theorem DfaH.one {E:Ent} {v1 v2:Value} {vs:List Value} {D:DfaD} (h:DfaH E v1 v2 vs D) {es e m:Nat} {v rv:Value} {row:List Int} (hm:m=row.length):DfaH (Ent.all [E,Ent.row es 1 v 1 [rv],Ent.row e 1 rv m (intCells row)]) v v2 [rv] ⟨[row],D.ends⟩:=by
 subst hm;refine⟨fun w h1 h2 => ?_⟩;have g1:E.holds w:=h1 _ (by simp);have g2:(Ent.row es 1 v 1 [rv]).holds w:=h1 _ (by simp);have g3:(Ent.row e 1 rv row.length (intCells row)).holds w:=h1 _ (by simp);obtain⟨-,-,p3⟩:=h.rd w g1 fun k hk=>h2 k ⟨E,by simp,hk⟩
 refine⟨Sl.mono ((Zaa g2).sl (by omega)) (Nat.zero_le _),fun i hi => ?_,p3⟩;have hi:i<1:=hi;obtain rfl:i=0:=by omega
 exact Sl.mono ((Zaa g3).sl (by omega)) (Nat.zero_le _)
def DfaV (B H:Nat) (v1 v2:Value) (D:DfaD):Ent:=⟨fun k=>B≤k∧k<H,fun u=>∃ w:World,w.heap.size=H∧DfaR B w (.agg #[v1,v2]) D∧∀ k,B≤k→k<H→u.heap[k]? = w.heap[k]?,
 fun _ _ ⟨w,h1,h2,h3⟩ hk=>⟨w,h1,h2,fun k p q=>(hk k ⟨p,q⟩).trans (h3 k p q)⟩⟩
theorem St.dfaV {w0 w w':World} {L:List Ent} (h:St w0 w L) (hb:Below w.heap.size w w') {v1 v2:Value} {D:DfaD} (hr:DfaR w.heap.size w' (.agg #[v1,v2]) D):St w0 w' (L++[DfaV w.heap.size w'.heap.size v1 v2 D]) :=
 h.add hb _ ⟨w',rfl,hr,fun _ _ _=>rfl⟩ fun _ hk=>hk
theorem St.dfaVr {w0 w:World} {L:List Ent} (h:St w0 w L) (i:Nat) {B H:Nat} {v1 v2:Value} {D:DfaD} (hx:L[i]? = some (DfaV B H v1 v2 D)):DfaR 0 w (.agg #[v1,v2]) D:=by
 have hE:=h.has i _ hx;obtain⟨⟨w',h1,⟨x1,x2,hv,⟨vs,h2,h3⟩,h4⟩,h5⟩,hf⟩:=hE;simp only[Value.agg.injEq,Array.mk.injEq,List.cons.injEq,and_true] at hv;obtain⟨rfl,rfl⟩:=hv;by_cases hlt:B<H
 ·have hs:w'.heap.size≤w.heap.size:=by have:H-1<w.heap.size:=(hf (H-1) (show B≤H-1∧H-1<H by omega)).2;omega
  have hk:∀ k,B≤k→k<w'.heap.size→w.heap[k]? = w'.heap[k]?:=fun k p q=>h5 k p (by omega)
  exact⟨_,_,rfl,⟨vs,h2.keptJ (Nat.zero_le _) hs hk,fun i hi=>Sl.keptJ (h3 i hi) (Nat.zero_le _) hs hk⟩,Sl.keptJ h4 (Nat.zero_le _) hs hk⟩
 have hno:∀ {v:Value} {n size:Nat} {cs:List Value},Sl B w' v n size cs→0<size→Sl 0 w v n size cs:=fun {v n size cs} hs hz=>by obtain⟨g1,a,cap,g2,g3,g4,g5⟩:=hs;refine⟨g1,a,cap,g2,g3,g4,fun hn => ?_⟩;obtain⟨b,off,-,p,q,-⟩:=g5 hn;omega
 exact⟨_,_,rfl,⟨vs,hno h2 (by omega),fun i hi=>hno (h3 i hi) (by omega)⟩,hno h4 (by omega)⟩
def RDs (D:DfaD) (w:World) (e:Ending) (w':World):Prop:=∃ a1 c1 a2 c2,e = .returned (.agg #[.slice a1 D.next.length c1,.slice a2 D.ends.length c2])∧DfaR w.heap.size w' (.agg #[.slice a1 D.next.length c1,.slice a2 D.ends.length c2]) D∧Below w.heap.size w w'
end Go.Proofs.Ytfikabecgaappaa
namespace Go.Proofs.Ytfikabecgaappaa
def StarL (L:List Nat→Prop) (w:List Nat):Prop:=∃ ws:List (List Nat),w=ws.flatten∧∀ u∈ws,L u
theorem StarL.nil {L:List Nat→Prop}:StarL L []:=⟨[],rfl,by simp⟩
theorem StarL.cons {L:List Nat→Prop} {u w:List Nat} (h:L u) (h':StarL L w):StarL L (u++w):=by
 obtain⟨ws,rfl,hw⟩:=h'
 exact⟨u::ws,rfl,fun x hx=>by
  rcases List.mem_cons.1 hx with rfl|hx
  ·exact h
  exact hw x hx⟩
def memE:Ex→List Nat→Prop
 | .zero,_=>False
 | .one,w=>w=[]
 | .ltr c,w=>w=[c.val]
 | .join a b,w=>∃ u v,w=u++v∧memE a u∧memE b v
 | .alt a b,w=>memE a w∨memE b w
 | .both a b,w=>memE a w∧memE b w
 | .neg a,w=>¬ memE a w
 | .star a,w=>StarL (memE a) w
theorem StarL.first {L:List Nat→Prop} {w:List Nat} (h:StarL L w):w=[]∨∃ u v,u≠[]∧w=u++v∧L u∧StarL L v:=by
 obtain⟨ws,rfl,hs⟩:=h
 induction ws with
 | nil=>exact .inl rfl
 | cons u ws ih =>
  by_cases hu:u=[]
  ·subst hu;exact ih fun x hx=>hs x (by simp[hx])
  exact .inr ⟨u,ws.flatten,hu,rfl,hs u (by simp),ws,rfl,fun x hx=>hs x (by simp[hx])⟩
end Go.Proofs.Ytfikabecgaappaa
namespace Go.Proofs.Ytfikabecgaappaa
open Go.RowKit
variable {P:Program}
def Ent.inn (X y:Ent):Prop:=(∀ w,X.holds w→y.holds w)∧∀ k,y.foot k→X.foot k
theorem Zhf {w:World} {B e size n cap m:Nat} {a:Option Addr} {cs:List Value} (h:w.ownsRow B e size (.slice a n cap) n cs) (hm:m≤n):w.ownsRow B e size (.slice a m cap) m (cs.take (m*size)):=by
 obtain⟨h1,h2⟩:=h;have hle:m*size≤n*size:=Nat.mul_le_mul_right size hm;refine⟨by rw[List.length_take,h1];omega,?_⟩;rcases h2 with⟨h3,h4⟩|⟨g,c,cur,h3,h4,h5,h6,h7,h8,h9⟩
 ·simp only[Value.slice.injEq] at h3;obtain⟨rfl,rfl,rfl⟩:=h3;obtain rfl:m=0:=by omega
  exact .inl ⟨rfl,rfl⟩
 simp only[Value.slice.injEq] at h3;obtain⟨rfl,-,rfl⟩:=h3;refine .inr ⟨g,cap,cur,rfl,h4,h5,by omega,h7,h8,?_⟩;rw[← h9,List.take_take,Nat.min_eq_left hle]
theorem St.cut {w0 w:World} {L:List Ent} (h:St w0 w L) (i:Nat) {e size n cap:Nat} {a:Option Addr} {cs:List Value} (hx:L[i]? = some (Ent.row e size (.slice a n cap) n cs)) (m:Nat) (hm:m≤n):St w0 w (L.set i (Ent.row e size (.slice a m cap) m (cs.take (m*size)))) :=
 h.same i hx _ (fun hb=>Zhf hb hm) fun k hk=>by
  cases a with
  | none=>cases hk
  | some a=>exact hk
theorem Zcu {l:List Nat} (h:wdOk l=true):l.length≤8∧∀ i,i<l.length→97≤l.getD i 0∧l.getD i 0≤99:=by unfold wdOk okT at h;rw[Bool.and_eq_true,decide_eq_true_eq,List.all_eq_true] at h;refine⟨h.2,fun i hi => ?_⟩;have h1:=h.1 i (List.mem_range.2 hi);simp only[inB,Bool.and_eq_true,decide_eq_true_eq] at h1;omega
def RDz (D:DfaD) (w:World) (e:Ending) (w':World):Prop:=∃ a1 c1 a2 c2,e = .returned (.agg #[.slice a1 D.next.length c1,.slice a2 D.ends.length c2])∧DfaR w.heap.size w' (.agg #[.slice a1 D.next.length c1,.slice a2 D.ends.length c2]) D∧Below w.heap.size w w'
theorem St.dfaVo {w0 w:World} {L:List Ent} (h:St w0 w L) (i:Nat) {B H:Nat} {v1 v2:Value} {D:DfaD} (hx:L[i]? = some (DfaV B H v1 v2 D)):DfaR w0.heap.size w (.agg #[v1,v2]) D:=by
 have hE:=h.has i _ hx;obtain⟨⟨w',h1,⟨x1,x2,hv,⟨vs,h2,h3⟩,h4⟩,h5⟩,hf⟩:=hE;simp only[Value.agg.injEq,Array.mk.injEq,List.cons.injEq,and_true] at hv;obtain⟨rfl,rfl⟩:=hv;by_cases hlt:B<H
 ·have hs:w'.heap.size≤w.heap.size:=by have:H-1<w.heap.size:=(hf (H-1) (show B≤H-1∧H-1<H by omega)).2;omega
  have hB:w0.heap.size≤B:=(hf B (show B≤B∧B<H by omega)).1;have hk:∀ k,B≤k→k<w'.heap.size→w.heap[k]? = w'.heap[k]?:=fun k p q=>h5 k p (by omega)
  exact⟨_,_,rfl,⟨vs,h2.keptJ hB hs hk,fun i hi=>Sl.keptJ (h3 i hi) hB hs hk⟩,Sl.keptJ h4 hB hs hk⟩
 have hno:∀ {v:Value} {n size:Nat} {cs:List Value},Sl B w' v n size cs→0<size→Sl w0.heap.size w v n size cs:=fun {v n size cs} hs hz=>by obtain⟨g1,a,cap,g2,g3,g4,g5⟩:=hs;refine⟨g1,a,cap,g2,g3,g4,fun hn => ?_⟩;obtain⟨b,off,-,p,q,-⟩:=g5 hn;omega
 exact⟨_,_,rfl,⟨vs,hno h2 (by omega),fun i hi=>hno (h3 i hi) (by omega)⟩,hno h4 (by omega)⟩
theorem ZjQ {d:DfaD} (hd:Zae d.next d.ends=true) {q:Nat} (hq:q<d.next.length):Zae (ZbY d q).next (ZbY d q).ends=true:=by have hl:=Zac hd;have hs:=Zdo (Zan hd) hq d.next.length;obtain⟨h1,h2,h3,h4⟩:=Zc6 (en:=den d) (nx:=dnx d) (a:=(q:Int)) hs (by omega);exact Zd3 h1 (by unfold ZbY;rw[Zay];omega) h3 fun i hi=>h4 i hi
theorem ZkU {d:DfaD} (hd:Zae d.next d.ends=true) {q:Nat} (hq:q<d.next.length) {w:List Nat} (hw:isW w):accD (ZbY d q) w=den d (runD d (q:Int) w) :=
 ZcC (Zdo (Zan hd) hq d.next.length) hw
theorem ZgG (d:DfaD) (q:Nat) (hq:q<d.next.length) (v:Value) (w:World) (hd:Zae d.next d.ends=true) (h:DfaR 0 w v d) :
  Calls Try.prog 29 #[v,.int .i64 (q:Int)] w fun e w'=>RDs (ZbY d q) w e w':=by
 refine(ZfX d q hq v w hd h).mono ?_;rintro e w' ⟨a1,c1,a2,c2,vs,rfl,hq⟩;exact⟨a1,c1,a2,c2,rfl,⟨_,_,rfl,(hq.intSS 0 rfl).intSS,Sl.mono (Zga (hq.row 1 rfl)) (Nat.le_refl _)⟩,hq.bel⟩
theorem ZgE (d:DfaD) (v:Value) (w:World) (hd:Zae d.next d.ends=true) (h:DfaR 0 w v d) :
  Calls Try.prog 31 #[v] w fun e w'=>RDs (minD d) w e w' :=
 (Za0 d v w hd h).mono fun _ _ ⟨a1,c1,a2,c2,he,ho,hb⟩=>⟨a1,c1,a2,c2,he,ho.r,hb⟩
theorem ZgQ (d:DfaD) (l:List Nat) (q:Nat) (hq:runD d 0 (lets l)=(q:Int)) (hqn:q<d.next.length) (v:Value) (w:World) (hd:Zae d.next d.ends=true) (h:DfaR 0 w v d) (ht:isT l) (hwd:wdOk l=true) :
  Calls Try.prog 11 #[v,.string (txB l)] w fun e w'=>RDz (minD (ZbY d q)) w e w':=by
 obtain⟨v1,v2,rfl,g1,g2⟩:=h;have hr:DfaR 0 w (.agg #[v1,v2]) d:=⟨_,_,rfl,g1,g2⟩;have hn8:=(Zcu hwd).1;have hrun:=fun (u:World) (hb:Below w.heap.size w u)=>(show Calls Try.prog 30 #[.agg #[v1,v2],.int .i64 0,.string (txB l)] u fun e w'=>e = .returned (.int .i64 (q:Int))∧Below u.heap.size u w' from by have h1:=Zks d 0 (lets l) (.agg #[v1,v2]) u hd (by have:=Zac hd;omega) (ZdY hwd) (by unfold lets;rw[List.length_map];omega) (hr.below hb);rw[← Zkk hwd] at h1;rw[← hq];exact h1)
 have hfrom:=fun (u:World) (hb:Below w.heap.size w u)=>ZgG d q hqn (.agg #[v1,v2]) u hd (hr.below hb)
 have hfo:=ZjQ hd hqn;obtain⟨F,hF⟩:=eJ (ZbY d q);rw[hF] at hfrom hfo;rw[hF];obtain⟨M,hM⟩:=eJ (minD F);have hmin:=fun (v:Value) (u:World) (h:DfaR 0 u v F)=>ZgE F v u hfo h
 rw[hM] at hmin;rw[hM];have Hrun:=qh hrun;have Hfrom:=qh hfrom;have Hmin:=qh hmin;have HR:=qh hr;have Hd:=qh hd;have Ht:=qh ht;have Hwd:=qh hwd;have HS:=qh (((St.start w).alloc _ rfl #[v1,v2] 30).alloc (w.heap.size+1) (by simp) #[.slice none 0 0,.slice none 0 0] 30);have e0:=HS.out.cell (v:=v1) 0 0 rfl rfl;have e1:=HS.out.cell (v:=v2) 0 1 rfl rfl;clear hrun hfrom hmin hF hM hfo hq hr g1 g2 hd ht hwd
 go_enter Try.func11, Try.ntmps11
 go_wp2_with fail;refine(Zcb d _ _ (HR.out.below HS.out.bel) true Hd.out).mono ?_;rintro e w1 ⟨rfl,hb1⟩;have HS2:Hid (St w w1 [Ent.box w.heap.size #[v1,v2] 30,Ent.box (w.heap.size+1) #[.slice none 0 0,.slice none 0 0] 30]):=qh (HS.out.call hb1);clear hb1 e0 e1;go_wp2_with (go_at_call 22;refine(Zbd l _ Ht.out (by omega) true Hwd.out).mono ?_;rintro e w' ⟨rfl,rfl⟩);refine wp_region_any (by kernel_rfl) ?_
 refine Zau (fun A listed a w'=>∃ (l0 l1 l2 l3 l4 l5 l6:Bool) (ax1f:Option Addr) (cx1f:Nat) (ax2f:Option Addr) (cx2f:Nat) (vbf:Nat) (vhf:Nat) (ax1m:Option Addr) (cx1m:Nat) (ax2m:Option Addr) (cx2m:Nat) (vbm:Nat) (vhm:Nat),listed=#[l0,l1,l2,l3,l4,l5,l6]∧(l6=true→l5=true) ∧
   a=⟨((((((A.tmps.setIfInBounds 14 (if l0=true then .agg #[v1,v2] else A.tmps.getD 14 undef)).setIfInBounds 15 (if l1=true then .agg #[v1,v2] else A.tmps.getD 15 undef)).setIfInBounds 16 (if l2=true then .string (txB l) else A.tmps.getD 16 undef)).setIfInBounds 17 (if l3=true then .int .i64 (q:Int) else A.tmps.getD 17 undef)).setIfInBounds 18 (if l4=true then .agg #[.slice ax1f F.next.length cx1f,.slice ax2f F.ends.length cx2f] else A.tmps.getD 18 undef)).setIfInBounds 19 (if l5=true then .agg #[.slice ax1m M.next.length cx1m,.slice ax2m M.ends.length cx2m] else A.tmps.getD 19 undef)),A.defers⟩ ∧
   St w w' [Ent.box w.heap.size #[v1,v2] 30,(if l6=true then Ent.box (w.heap.size+1) #[.slice ax1m M.next.length cx1m,.slice ax2m M.ends.length cx2m] 30 else Ent.box (w.heap.size+1) #[.slice none 0 0,.slice none 0 0] 30),(if l4=true then DfaV vbf vhf (.slice ax1f F.next.length cx1f) (.slice ax2f F.ends.length cx2f) F else Ent.nil),(if l5=true then DfaV vbm vhm (.slice ax1m M.next.length cx1m) (.slice ax2m M.ends.length cx2m) M else Ent.nil)]) ?_ ?_ ?_
 ·rintro listed a w' ⟨l0,l1,l2,l3,l4,l5,l6,ax1f,cx1f,ax2f,cx2f,vbf,vhf,ax1m,cx1m,ax2m,cx2m,vbm,vhm,rfl,hd6,rfl,hS⟩ i hi;obtain⟨hun,o,ho,hall⟩:=mem_ready.1 hi;have hlt:=(Array.getElem?_eq_some_iff.1 ho).1;refine wpOp_step ho (fun K hK => ?_);clear hi;have HS:=qh hS;clear hS;simp only[List.setIfInBounds_toArray,List.set_cons_zero,List.set_cons_succ,Array.getD_eq_getD_getElem?,List.getElem?_toArray,List.getElem?_cons_zero,List.getElem?_cons_succ,Option.getD_some];obtain h|h|h|h|h|h|h:i=0∨i=1∨i=2∨i=3∨i=4∨i=5∨i=6:=by simp at hlt;omega
  all_goals subst h
  all_goals simp only[List.getElem?_toArray,List.getElem?_cons_zero,List.getElem?_cons_succ,Option.some.injEq] at ho
  all_goals subst ho
  all_goals simp[Region.binds] at hun hall
  ·subst hun;have e0:=HS.out.cell (v:=v1) 0 0 rfl rfl;have e1:=HS.out.cell (v:=v2) 0 1 rfl rfl;go_simp;exact hK _ _ ⟨true,l1,l2,l3,l4,l5,l6,ax1f,cx1f,ax2f,cx2f,vbf,vhf,ax1m,cx1m,ax2m,cx2m,vbm,vhm,rfl,hd6,(by simp),HS.out⟩
  ·subst hun;have e0:=HS.out.cell (v:=v1) 0 0 rfl rfl;have e1:=HS.out.cell (v:=v2) 0 1 rfl rfl;go_simp;exact hK _ _ ⟨l0,true,l2,l3,l4,l5,l6,ax1f,cx1f,ax2f,cx2f,vbf,vhf,ax1m,cx1m,ax2m,cx2m,vbm,vhm,rfl,hd6,(by simp),HS.out⟩
  ·subst hun;go_simp;exact hK _ _ ⟨l0,l1,true,l3,l4,l5,l6,ax1f,cx1f,ax2f,cx2f,vbf,vhf,ax1m,cx1m,ax2m,cx2m,vbm,vhm,rfl,hd6,(by simp),HS.out⟩
  ·obtain⟨rfl,rfl⟩:=hall;subst hun;go_simp
   go_at_call 30
   refine(Hrun.out _ HS.out.bel).mono ?_;rintro e u1 ⟨rfl,hb⟩;have hS2:=HS.out.call hb;replace hS2:=qh hS2;go_simp;exact hK _ _ ⟨l0,true,true,true,l4,l5,l6,ax1f,cx1f,ax2f,cx2f,vbf,vhf,ax1m,cx1m,ax2m,cx2m,vbm,vhm,rfl,hd6,(by simp),hS2.out⟩
  ·obtain⟨rfl,rfl,-⟩:=hall;subst hun;go_simp
   go_at_call 29
   refine(Hfrom.out _ HS.out.bel).mono ?_;rintro e u1 ⟨z1,z2,z3,z4,rfl,hr,hb⟩;have hS2:=(HS.out.dfaV hb hr).pick [0,1,4,3] (by decide);replace hS2:=qh hS2;go_simp;exact hK _ _ ⟨true,l1,l2,true,true,l5,l6,z1,z2,z3,z4,w'.heap.size,u1.heap.size,ax1m,cx1m,ax2m,cx2m,vbm,vhm,rfl,hd6,(by simp),hS2.out⟩
  ·obtain rfl:=hall;subst hun;obtain rfl:l6=false:=by cases l6 with|false=>rfl|true=>simpa using hd6 rfl
   go_simp
   go_at_call 31
   refine(Hmin.out _ _ (HS.out.dfaVr 2 rfl)).mono ?_;rintro e u1 ⟨z1,z2,z3,z4,rfl,hr,hb⟩;have hS2:=(HS.out.dfaV hb hr).pick [0,1,2,4] (by decide);replace hS2:=qh hS2;go_simp;exact hK _ _ ⟨l0,l1,l2,l3,true,true,false,ax1f,cx1f,ax2f,cx2f,vbf,vhf,z1,z2,z3,z4,w'.heap.size,u1.heap.size,rfl,by simp,(by simp),hS2.out⟩
  obtain⟨rfl,rfl,rfl,rfl,rfl,rfl,-⟩:=hall;subst hun;have f0:=HS.out.fr 1 0 rfl;have f1:=HS.out.fr 1 1 rfl;have k0:=HS.out.cell (v:=.slice none 0 0) 1 0 rfl rfl;have k1:=HS.out.cell (v:=.slice none 0 0) 1 1 rfl rfl;go_simp;exact hK _ _ ⟨true,true,true,true,true,true,true,ax1f,cx1f,ax2f,cx2f,vbf,vhf,ax1m,cx1m,ax2m,cx2m,vbm,vhm,rfl,by simp,(by simp),((HS.out.set 1 rfl 0 (.slice ax1m M.next.length cx1m)).set 1 rfl 1 (.slice ax2m M.ends.length cx2m))⟩
 ·rintro listed a w' ⟨l0,l1,l2,l3,l4,l5,l6,ax1f,cx1f,ax2f,cx2f,vbf,vhf,ax1m,cx1m,ax2m,cx2m,vbm,vhm,rfl,hd6,rfl,hS⟩ hr;have hall:=ZaL (by kernel_rfl) rfl hr;obtain rfl:l0=true:=by simpa using hall 0 (by simp)
  obtain rfl:l1=true:=by simpa using hall 1 (by simp)
  obtain rfl:l2=true:=by simpa using hall 2 (by simp)
  obtain rfl:l3=true:=by simpa using hall 3 (by simp)
  obtain rfl:l4=true:=by simpa using hall 4 (by simp)
  obtain rfl:l5=true:=by simpa using hall 5 (by simp)
  obtain rfl:l6=true:=by simpa using hall 6 (by simp)
  clear hall hr hd6;simp only[↓reduceIte] at hS ⊢;simp only[List.setIfInBounds_toArray,List.set_cons_zero,List.set_cons_succ,Array.getD_eq_getD_getElem?,List.getElem?_toArray,List.getElem?_cons_zero,List.getElem?_cons_succ,Option.getD_some];have HSf:=qh hS;clear hS;have q0:=HSf.out.cell (v:=.slice ax1m M.next.length cx1m) 1 0 rfl rfl;have q1:=HSf.out.cell (v:=.slice ax2m M.ends.length cx2m) 1 1 rfl rfl;go_wp2;refine bodyPost_ret (v:=.agg #[.slice ax1m M.next.length cx1m,.slice ax2m M.ends.length cx2m]) (by simp[results,Try.results11,go_sem,q0,q1]) rfl ?_;exact⟨_,_,_,_,rfl,HSf.out.dfaVo 3 rfl,HSf.out.bel⟩
 refine⟨false,false,false,false,false,false,false,none,0,none,0,0,0,none,0,none,0,0,0,rfl,by simp,(by simp),?_⟩;exact((HS2.out.drew.add (Below.refl _ _) Ent.nil trivial fun k hk=>hk.elim).add (Below.refl _ _) Ent.nil trivial fun k hk=>hk.elim)
def loW (v:Nat):Nat:=v % 2 ^ 64
def hiW (v:Nat):Nat:=v / 2 ^ 64
theorem Zes (v:Nat):loW v<2 ^ 64:=Nat.mod_lt _ (by omega)
theorem ZjJ {v:Nat} (h:v<2 ^ 128):hiW v<2 ^ 64:=Nat.div_lt_of_lt_mul (by rw[← Nat.pow_add];exact h)
theorem Zet {v s:Nat} (h:s<64):(loW v).testBit s=v.testBit s:=by unfold loW;rw[Nat.testBit_mod_two_pow];simp[h]
theorem Zez {v s:Nat} (h:64≤s):(hiW v).testBit (s-64)=v.testBit s:=by unfold hiW;rw[Nat.testBit_div_two_pow];congr 1;omega
theorem ZcQ (v s t:Nat):(adj v s).testBit t=(v.testBit t||decide (t=s)):=by rw[ZbR];congr 1;exact decide_eq_decide.2 ⟨Eq.symm,Eq.symm⟩
theorem Zl0 {v s:Nat} (h:s<64):loW (adj v s)=adj (loW v) s∧hiW (adj v s)=hiW v:=by
 constructor
 ·refine Nat.eq_of_testBit_eq fun t => ?_
  by_cases ht:t<64
  ·rw[Zet ht,ZcQ,ZcQ,Zet ht]
  have h1:(loW (adj v s)).testBit t=false:=Nat.testBit_lt_two_pow (Nat.lt_of_lt_of_le (Zes _) (Nat.pow_le_pow_right (by omega) (by omega)));have h2:(loW v).testBit t=false:=Nat.testBit_lt_two_pow (Nat.lt_of_lt_of_le (Zes _) (Nat.pow_le_pow_right (by omega) (by omega)));rw[h1,ZcQ,h2,Bool.false_or];exact(decide_eq_false (by omega)).symm
 refine Nat.eq_of_testBit_eq fun t => ?_
 have e1:=Zez (v:=adj v s) (s:=t+64) (by omega);have e2:=Zez (v:=v) (s:=t+64) (by omega);rw[Nat.add_sub_cancel] at e1 e2;rw[e1,e2,ZcQ,decide_eq_false (show ¬ t+64=s by omega),Bool.or_false]
theorem Zl2 {v s:Nat} (h:64≤s):loW (adj v s)=loW v∧hiW (adj v s)=adj (hiW v) (s-64):=by
 constructor
 ·refine Nat.eq_of_testBit_eq fun t => ?_
  by_cases ht:t<64
  ·rw[Zet ht,ZcQ,Zet ht,decide_eq_false (show ¬ t=s by omega),Bool.or_false]
  have h1:(loW (adj v s)).testBit t=false:=Nat.testBit_lt_two_pow (Nat.lt_of_lt_of_le (Zes _) (Nat.pow_le_pow_right (by omega) (by omega)));have h2:(loW v).testBit t=false:=Nat.testBit_lt_two_pow (Nat.lt_of_lt_of_le (Zes _) (Nat.pow_le_pow_right (by omega) (by omega)));rw[h1,h2]
 refine Nat.eq_of_testBit_eq fun t => ?_
 have e1:=Zez (v:=adj v s) (s:=t+64) (by omega);have e2:=Zez (v:=v) (s:=t+64) (by omega);rw[Nat.add_sub_cancel] at e1 e2;rw[e1,ZcQ,ZcQ,e2];congr 1;exact decide_eq_decide.2 ⟨fun h=>by omega,fun h=>by omega⟩
abbrev setW (v:Nat):Value:=.agg #[.int .u64 (loW v:Int),.int .u64 (hiW v:Int)]
theorem ZgY (v s:Nat) (hv:v<2 ^ 64):(bits BinOp.and IntKind.u64 ((v:Int) / 2 ^ s) 1==1)=v.testBit s:=by
 have e:((v:Int) / 2 ^ s)=((v / 2 ^ s:Nat):Int):=by simp
 have hle:v / 2 ^ s≤v:=Nat.div_le_self _ _;rw[e,Nat.testBit_eq_decide_div_mod_eq]
 generalize v / 2 ^ s=q at hle ⊢
 rw[and_one_u64 _ (by omega) (by omega),Bool.eq_iff_iff];simp;omega
theorem Zid (v s:Nat) (hv:v<2 ^ 64) (hs:s<64):bits BinOp.or IntKind.u64 (v:Int) (IntKind.u64.wrap (2 ^ s))=((adj v s:Nat):Int):=by
 have e:((2:Int) ^ s)=((2 ^ s:Nat):Int):=by simp
 have hle:2 ^ s<2 ^ 64:=Nat.pow_lt_pow_right (by omega) hs;unfold adj
 generalize 2 ^ s=q at hle e ⊢
 rw[e,IntKind.wrap_u64,Int.emod_eq_of_lt (by omega) (by omega),u64_or_nat _ _ (by omega) (by omega)]
theorem Zb3 (v s:Nat) (hv:v<2 ^ 128) (hs:s<128) (w:World) (r:Bool) (hr:v.testBit s=r) :
  Calls Try.prog 101 #[setW v,.int .i64 s] w fun e w'=>e = .returned (.bool r)∧Below w.heap.size w w':=by
 by_cases h:s<64
 ·have h1:(s:Int) / 64=0:=by omega
  have h2:(s:Int) % 64=s:=by omega
  have h3:s / 64=0:=by omega
  have hb:=ZgY (loW v) s (Zes v);rw[Zet h,hr] at hb;have Hhr:=qh hr;clear hr;have Hhv:=qh hv;clear hv;replace hb:=qh hb
  go_enter Try.func101, Try.ntmps101
  go_wp2;go_ret;exact⟨ZcU hb.out,(Below.refl _ _).alloc (Nat.le_refl _) _⟩
 have h1:(s:Int) / 64=1:=by omega
 have h2:(s:Int) % 64=((s-64:Nat):Int):=by omega
 have h3:s / 64=1:=by omega
 have hb:=ZgY (hiW v) (s-64) (ZjJ hv);rw[Zez (by omega),hr] at hb;obtain⟨t,ht⟩:=eI (s-64);rw[← ht] at hb h2;have Hht:=qh ht;clear ht;have Hhr:=qh hr;clear hr;have Hhv:=qh hv;clear hv;replace hb:=qh hb
 go_enter Try.func101, Try.ntmps101
 go_wp2;go_ret;exact⟨ZcU hb.out,(Below.refl _ _).alloc (Nat.le_refl _) _⟩
theorem Zcf (v s:Nat) (hv:v<2 ^ 128) (hs:s<128) (w:World) :
  Calls Try.prog 102 #[setW v,.int .i64 s] w fun e w'=>e = .returned (setW (adj v s))∧Below w.heap.size w w':=by
 by_cases h:s<64
 ·have h1:(s:Int) / 64=0:=by omega
  have h2:(s:Int) % 64=s:=by omega
  have h3:s / 64=0:=by omega
  have hb:=Zid (loW v) s (Zes v) h;obtain⟨e1,e2⟩:=Zl0 (v:=v) h;rw[← e1] at hb;obtain⟨L,hL⟩:=eI (loW (adj v s));rw[← hL] at hb;unfold setW;rw[e2,← hL];have Hhv:=qh hv;clear hv;have HhL:=qh hL;clear hL;replace e1:=qh e1;have He2:=qh e2;clear e2
  go_enter Try.func102, Try.ntmps102
  go_wp2
  go_region
  go_wp2;refine bodyPost_ret (v:=.agg #[.int .u64 (L:Int),.int .u64 (hiW v:Int)]) (by simp[results,Try.results102,go_sem]) rfl ⟨rfl,?_⟩;exact((((Below.refl _ _).alloc (Nat.le_refl _) _).alloc (by simp) _).drew)
 have h1:(s:Int) / 64=1:=by omega
 have h3:s / 64=1:=by omega
 obtain⟨t,ht⟩:=eI (s-64);have h2:(s:Int) % 64=(t:Int):=by omega
 have hb:=Zid (hiW v) t (ZjJ hv) (by omega);obtain⟨e1,e2⟩:=Zl2 (v:=v) (s:=s) (by omega);rw[ht,← e2] at hb;rw[← ht] at hb;obtain⟨L,hL⟩:=eI (hiW (adj v s));rw[← hL] at hb;unfold setW;rw[e1,← hL];have Hhv:=qh hv;clear hv;have HhL:=qh hL;clear hL;replace e1:=qh e1;have He2:=qh e2;clear e2;have Hht:=qh ht;clear ht
 go_enter Try.func102, Try.ntmps102
 go_wp2
 go_region
 go_wp2;refine bodyPost_ret (v:=.agg #[.int .u64 (loW v:Int),.int .u64 (L:Int)]) (by simp[results,Try.results102,go_sem]) rfl ⟨rfl,?_⟩;exact((((Below.refl _ _).alloc (Nat.le_refl _) _).alloc (by simp) _).drew)
end Go.Proofs.Ytfikabecgaappaa
