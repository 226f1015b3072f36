/-
  The walks over impl.product with the functions that are handed to it.
  Conditions: the automata read as such and are valid.
-/
import Derived.Test.YtehmjmjedopkkaaGreatPn12Mn
import Derived.Test.YtehmjmjedopkkaaGreatPn18Ivp
import Derived.Test.YtehmjmjedopkkaaGreatPn23Exp
set_option maxHeartbeats 4000000
set_option maxRecDepth 100000
namespace Go.Proofs.YtehmjmjedopkkaaGreat
open Go.RowKit Go.Maps
abbrev metP (a b:DfaD) (most:Nat):List (Int × Int):=(bat (Zay a b) (0,0) most).met
theorem Zf5 {a b:DfaD} (hda:Zaf a.next a.ends=true) (hdb:Zaf b.next b.ends=true):Zb4 a b (0,0)=true:=by have h1:=Zad hda;have h2:=Zad hdb;simp[Zb4,inB];omega
theorem Zf6 {a b:DfaD} (hda:Zaf a.next a.ends=true) (hdb:Zaf b.next b.ends=true) {x:Int × Int} {c:Nat} (hc:c<3) (hx:Zb4 a b x=true):Zb4 a b (Zay a b x c)=true:=by obtain⟨i,j,rfl,hi,hj⟩:=Zcd hx;have h1:=(ZaG hda hi).2 c hc;have h2:=(ZaG hdb hj).2 c hc;have e:Zay a b ((i:Int),(j:Int)) c=((a.next.getD i []).getD c 0,(b.next.getD j []).getD c 0):=rfl;rw[e];simp only[Zb4,inB,Bool.and_eq_true,decide_eq_true_eq];omega
theorem Zlo {a b:DfaD} (hda:Zaf a.next a.ends=true) (hdb:Zaf b.next b.ends=true) {x:Int × Int} (hx:Zb4 a b x=true):fitI x.1∧fitI x.2:=by obtain⟨i,j,rfl,hi,hj⟩:=Zcd hx;have h1:=Zad hda;have h2:=Zad hdb;unfold fitI;simp only;omega
end Go.Proofs.YtehmjmjedopkkaaGreat
namespace Go.Proofs.YtehmjmjedopkkaaGreat
open Go.RowKit
def shJ (n:Nat) (m:Int × Int × Int):Int × Int × Int:=(m.1+(n:Int),m.2.1,m.2.2+(n:Int))
def ZcR (a b:DfaD):NfaD :=
 ⟨((a.next.length+b.next.length:Nat):Int),mvs a a.next.length++(mvs b b.next.length).map (shJ a.next.length)++(eds a a.next.length).map (fun e=>(e,-1,(a.next.length:Int))),[0],(eds b b.next.length).map (fun e=>e+(a.next.length:Int))⟩
def Zc8 (a:DfaD):NfaD :=
 ⟨((a.next.length+1:Nat):Int),mvs a a.next.length++[((a.next.length:Int),-1,0)]++(eds a a.next.length).map (fun e=>(e,-1,(a.next.length:Int))),[(a.next.length:Int)],[(a.next.length:Int)]⟩
def detM (M K:Nat) (n:NfaD):Option DfaD:=if (metSM M n K).length≤K then some (Zat (nxSM M n) (enS n) (metSM M n K)) else none
def Zbs (K:Nat) (f:Bool→Bool→Bool) (a b:DfaD):Option DfaD:=if (metP a b K).length≤K then some (Zat (Zay a b) (ZbY f a b) (metP a b K)) else none
def ZdW:DfaD:=⟨[[0,0,0]],[false]⟩
def oneD:DfaD:=⟨[[1,1,1],[1,1,1]],[true,false]⟩
def ltrD (c:Fin 3):DfaD:=⟨[[2,2,2].set c.val 1,[2,2,2],[2,2,2]],[false,true,false]⟩
def negD (a:DfaD):DfaD:=⟨a.next,a.ends.map (fun x => !x)⟩
def Zao (K:Nat):Ex→Option DfaD
 | .zero=>some (Zak ZdW)
 | .one=>some (Zak oneD)
 | .ltr c=>some (Zak (ltrD c))
 | .join a b=>(Zao K a).bind fun x=>(Zao K b).bind fun y=>(detM 81 K (ZcR x y)).map Zak
 | .alt a b=>(Zao K a).bind fun x=>(Zao K b).bind fun y=>(Zbs K (fun p q=>p||q) x y).map Zak
 | .both a b=>(Zao K a).bind fun x=>(Zao K b).bind fun y=>(Zbs K (fun p q=>p&&q) x y).map Zak
 | .neg a=>(Zao K a).map fun x=>Zak (negD x)
 | .star a=>(Zao K a).bind fun x=>(detM 81 K (Zc8 x)).map Zak
theorem ZoE {α:Type} [DecidableEq α] {nx:α→Nat→α} {a:α} {en:α→Bool} {K:Nat} (hK:K=40) (h:(bat nx a K).met.length≤K):Zaf (Zat nx en (bat nx a K).met).next (Zat nx en (bat nx a K).met).ends=true:=by obtain⟨h1,h2,h3,h4⟩:=Zfl (en:=en) (nx:=nx) (a:=a) h (by omega);exact ZhZ h1 (by rw[ZaO];omega) h3 fun i hi=>h4 i hi
theorem ZcA {M K:Nat} (hK:K=40) {n:NfaD} {d:DfaD} (h:detM M K n=some d):Zaf d.next d.ends=true:=by
 unfold detM at h
 split at h
 ·rename_i hle;simp only[Option.some.injEq] at h;subst h;exact ZoE hK hle
 cases h
theorem Zbl {K:Nat} (hK:K=40) {f:Bool→Bool→Bool} {a b d:DfaD} (h:Zbs K f a b=some d):Zaf d.next d.ends=true:=by
 unfold Zbs at h
 split at h
 ·rename_i hle;simp only[Option.some.injEq] at h;subst h;exact ZoE hK hle
 cases h
theorem ZbP {d:DfaD} (h:Zaf d.next d.ends=true):Zaf (Zak d).next (Zak d).ends=true :=
 (Zjf (ZmW (Zjf h).1)).1
theorem ZdV:Zaf ZdW.next ZdW.ends=true:=by decide
theorem ZfJ:Zaf oneD.next oneD.ends=true:=by decide
theorem ZdL (c:Fin 3):Zaf (ltrD c).next (ltrD c).ends=true:=by
 have:c=0∨c=1∨c=2:=by omega
 rcases this with rfl|rfl|rfl<;>decide
theorem ZfM {d:DfaD} (h:Zaf d.next d.ends=true):Zaf (negD d).next (negD d).ends=true:=by simp only[Zaf,Bool.and_eq_true,decide_eq_true_eq] at h ⊢;exact⟨h.1,by simpa [negD] using h.2⟩
theorem Zbc {K:Nat} (hK:K=40):∀ (t:Ex) {d:DfaD},Zao K t=some d→Zaf d.next d.ends=true:=by
 intro t;cases t with
 | zero=>intro d h;simp only[Zao,Option.some.injEq] at h;subst h;exact ZbP ZdV
 | one=>intro d h;simp only[Zao,Option.some.injEq] at h;subst h;exact ZbP ZfJ
 | ltr c=>intro d h;simp only[Zao,Option.some.injEq] at h;subst h;exact ZbP (ZdL c)
 | join a b =>intro d h;simp only[Zao,Option.bind_eq_some_iff,Option.map_eq_some_iff] at h;obtain⟨x,-,y,-,z,hz,rfl⟩:=h;exact ZbP (ZcA hK hz)
 | alt a b =>intro d h;simp only[Zao,Option.bind_eq_some_iff,Option.map_eq_some_iff] at h;obtain⟨x,-,y,-,z,hz,rfl⟩:=h;exact ZbP (Zbl hK hz)
 | both a b =>intro d h;simp only[Zao,Option.bind_eq_some_iff,Option.map_eq_some_iff] at h;obtain⟨x,-,y,-,z,hz,rfl⟩:=h;exact ZbP (Zbl hK hz)
 | neg a =>intro d h;simp only[Zao,Option.map_eq_some_iff] at h;obtain⟨x,hx,rfl⟩:=h;exact ZbP (ZfM (Zbc hK a hx))
 | star a =>intro d h;simp only[Zao,Option.bind_eq_some_iff,Option.map_eq_some_iff] at h;obtain⟨x,-,z,hz,rfl⟩:=h;exact ZbP (ZcA hK hz)
theorem Zfh {m:Nat} {xs ys:List (Int × Int × Int)} (h:mvIn m xs) (h':mvIn m ys):mvIn m (xs++ys):=fun x hx=>by
 rcases List.mem_append.1 hx with hx|hx
 ·exact h x hx
 exact h' x hx
theorem Zhg {a b:DfaD} (ha:Zaf a.next a.ends=true) (hb:Zaf b.next b.ends=true):mvIn (a.next.length+b.next.length) (ZcR a b).moves:=by
 have h1:=ZeR ha _ (Nat.le_refl _);have h2:=ZeR hb _ (Nat.le_refl _);have hlb:=Zad hb;refine Zfh (Zfh (ZfN h1 (by omega)) fun x hx => ?_) fun x hx => ?_
 ·obtain⟨y,hy,rfl⟩:=List.mem_map.1 hx;have:=h2 y hy;simp only[shJ];omega
 obtain⟨y,hy,rfl⟩:=List.mem_map.1 hx;have:=ZeX a _ y hy;simp only;omega
theorem Zep {a b:DfaD}:inN (a.next.length+b.next.length) (ZcR a b).ends:=fun x hx=>by obtain⟨y,hy,rfl⟩:=List.mem_map.1 hx;have:=ZeX b _ y hy;omega
theorem Zc9 {a b:DfaD} (ha:Zaf a.next a.ends=true):inN (a.next.length+b.next.length) [0]:=fun x hx=>by have hla:=Zad ha;simp only[List.mem_singleton] at hx;omega
theorem Zhf {a:DfaD} (ha:Zaf a.next a.ends=true):mvIn (a.next.length+1) (Zc8 a).moves:=by
 have h1:=ZeR ha _ (Nat.le_refl _);refine Zfh (Zfh (ZfN h1 (by omega)) fun x hx => ?_) fun x hx => ?_
 ·simp only[List.mem_singleton] at hx;subst hx;simp only;omega
 obtain⟨y,hy,rfl⟩:=List.mem_map.1 hx;have:=ZeX a _ y hy;simp only;omega
theorem ZcB {a:DfaD}:inN (a.next.length+1) [(a.next.length:Int)]:=fun x hx=>by simp only[List.mem_singleton] at hx;omega
end Go.Proofs.YtehmjmjedopkkaaGreat
namespace Go.Proofs.YtehmjmjedopkkaaGreat
open Go.RowKit Go.Maps
theorem Zne (x y r:Bool) (hr:(x||y)=r) (w:World):Calls Tryz.prog 109 #[.bool x,.bool y] w fun e w'=>e = .returned (.bool r)∧w=w':=by subst hr;cases x<;>cases y<;>(go_enter Tryz.func109, Tryz.ntmps109;go_wp2;go_ret;exact⟨rfl,rfl⟩)
theorem Zhs (a b:DfaD) (x:Int × Int) (bf ba bb:Nat) (w:World) (hda:Zaf a.next a.ends=true) (hdb:Zaf b.next b.ends=true) (hf:Bx w bf #[.func (.func 109) #[] #[]] 127) (h1:DfaAt w ba a) (h2:DfaAt w bb b) (hx:Zb4 a b x=true) :
  Calls Tryz.prog 158 #[.agg #[.int .i64 x.1,.int .i64 x.2],.pointer (some ⟨bf,0,none⟩),.pointer (some ⟨ba,0,none⟩),.pointer (some ⟨bb,0,none⟩)] w fun e w'=>e = .returned (.bool (ZbY (fun x y=>x||y) a b x))∧Below w.heap.size w w':=by
 obtain⟨i,j,rfl,hi,hj⟩:=Zcd hx;have hla:=Zad hda;have hlb:=Zad hdb;obtain⟨u1,u2,hB1,-,g1⟩:=h1;obtain⟨u3,u4,hB2,-,g2⟩:=h2;obtain⟨q1,o1,c1,rfl,hc1,hm1,e1,d1⟩:=Zem g1 (i:=i) (by omega);obtain⟨q2,o2,c2,rfl,hc2,hm2,e2,d2⟩:=Zem g2 (i:=j) (by omega);obtain⟨ta,hta⟩:=eI (a.ends.getD i false);obtain⟨tb,htb⟩:=eI (b.ends.getD j false);rw[← hta] at e1;rw[← htb] at e2;obtain⟨r,hr⟩:=eJ ((ta||tb));have hres:ZbY (fun x y=>x||y) a b ((i:Int),(j:Int))=r:=by rw[← hr,hta,htb];rfl
 rw[hres];have ca:=hB1.cell 1;have cb:=hB2.cell 1;have cf:=hf.cell 0;simp only[List.getElem?_toArray,List.getElem?_cons_zero,List.getElem?_cons_succ] at ca cb cf;have d5:=hB1.lt;have d6:=hB2.lt;have d7:=hf.lt;obtain⟨l1,l2,l3⟩:=hla;obtain⟨l4,l5,l6⟩:=hlb;have hii:(i:Int)<a.ends.length:=by omega
 have hjj:(j:Int)<b.ends.length:=by omega
 have Hr:=qh hr;clear g1 g2 hB1 hB2 hta htb hx hda hdb hf hres hr l3 l6
 go_enter Tryz.func158, Tryz.ntmps158
 go_wp2
 go_quiet ((go_at_call 109;with_reducible exact Zj9 (Zne _ _ _ Hr.out _)))
 go_wp2;go_ret;exact⟨rfl,below_drewN ((Below.refl _ _).alloc (Nat.le_refl _) _) _⟩
theorem Znf (x y r:Bool) (hr:(x&&y)=r) (w:World):Calls Tryz.prog 110 #[.bool x,.bool y] w fun e w'=>e = .returned (.bool r)∧w=w':=by subst hr;cases x<;>cases y<;>(go_enter Tryz.func110, Tryz.ntmps110;go_wp2;go_ret;exact⟨rfl,rfl⟩)
theorem Zht (a b:DfaD) (x:Int × Int) (bf ba bb:Nat) (w:World) (hda:Zaf a.next a.ends=true) (hdb:Zaf b.next b.ends=true) (hf:Bx w bf #[.func (.func 110) #[] #[]] 127) (h1:DfaAt w ba a) (h2:DfaAt w bb b) (hx:Zb4 a b x=true) :
  Calls Tryz.prog 158 #[.agg #[.int .i64 x.1,.int .i64 x.2],.pointer (some ⟨bf,0,none⟩),.pointer (some ⟨ba,0,none⟩),.pointer (some ⟨bb,0,none⟩)] w fun e w'=>e = .returned (.bool (ZbY (fun x y=>x&&y) a b x))∧Below w.heap.size w w':=by
 obtain⟨i,j,rfl,hi,hj⟩:=Zcd hx;have hla:=Zad hda;have hlb:=Zad hdb;obtain⟨u1,u2,hB1,-,g1⟩:=h1;obtain⟨u3,u4,hB2,-,g2⟩:=h2;obtain⟨q1,o1,c1,rfl,hc1,hm1,e1,d1⟩:=Zem g1 (i:=i) (by omega);obtain⟨q2,o2,c2,rfl,hc2,hm2,e2,d2⟩:=Zem g2 (i:=j) (by omega);obtain⟨ta,hta⟩:=eI (a.ends.getD i false);obtain⟨tb,htb⟩:=eI (b.ends.getD j false);rw[← hta] at e1;rw[← htb] at e2;obtain⟨r,hr⟩:=eJ ((ta&&tb));have hres:ZbY (fun x y=>x&&y) a b ((i:Int),(j:Int))=r:=by rw[← hr,hta,htb];rfl
 rw[hres];have ca:=hB1.cell 1;have cb:=hB2.cell 1;have cf:=hf.cell 0;simp only[List.getElem?_toArray,List.getElem?_cons_zero,List.getElem?_cons_succ] at ca cb cf;have d5:=hB1.lt;have d6:=hB2.lt;have d7:=hf.lt;obtain⟨l1,l2,l3⟩:=hla;obtain⟨l4,l5,l6⟩:=hlb;have hii:(i:Int)<a.ends.length:=by omega
 have hjj:(j:Int)<b.ends.length:=by omega
 have Hr:=qh hr;clear g1 g2 hB1 hB2 hta htb hx hda hdb hf hres hr l3 l6
 go_enter Tryz.func158, Tryz.ntmps158
 go_wp2
 go_quiet ((go_at_call 110;with_reducible exact Zj9 (Znf _ _ _ Hr.out _)))
 go_wp2;go_ret;exact⟨rfl,below_drewN ((Below.refl _ _).alloc (Nat.le_refl _) _) _⟩
theorem Zik (φ:Fn) (f:Bool→Bool→Bool) (a b:DfaD) (most:Nat) (v1 v2:Value) (w:World) (hda:Zaf a.next a.ends=true) (hdb:Zaf b.next b.ends=true) (hm0:0<most) (hm1:most≤100000) (hp2:∀ (x:Int × Int) (bf ba bb:Nat) (w:World),Bx w bf #[.func φ #[] #[]] 127 → DfaAt w ba a→DfaAt w bb b→Zb4 a b x=true→Calls Tryz.prog 158 #[.agg #[.int .i64 x.1,.int .i64 x.2],.pointer (some ⟨bf,0,none⟩),.pointer (some ⟨ba,0,none⟩),.pointer (some ⟨bb,0,none⟩)] w fun e w'=>e = .returned (.bool (ZbY f a b x))∧Below w.heap.size w w') (h1:DfaR 0 w v1 a) (h2:DfaR 0 w v2 b) :
  Calls Tryz.prog 145 #[v1,v2,.int .i64 most,.func φ #[] #[]] w fun e w'=>RExp (Zay a b) (ZbY f a b) most w.heap.size e w'∧Below w.heap.size w w':=by
 obtain⟨u1,u2,rfl,g1,g2⟩:=h1;obtain⟨u3,u4,rfl,g3,g4⟩:=h2
 go_enter Tryz.func145, Tryz.ntmps145
 go_wp2_with fail;obtain⟨W,hW⟩:=eI (((((w.alloc (.cells #[u1,u2] 32)).alloc (.cells #[u3,u4] 32)).alloc (.cells #[.func φ #[] #[]] 127)).alloc (.cells #[.slice none 0 0,.slice none 0 0] 32)));have hbW:Below w.heap.size w W:=by rw[hW];exact((((Below.refl _ _).alloc (Nat.le_refl _) _).alloc (by simp) _).alloc (by simp;omega) _).alloc (by simp;omega) _
 have xA:Bx W w.heap.size #[u1,u2] 32:=by rw[hW];exact(((Bx.new w _ _).alloc _).alloc _).alloc _
 have xB:Bx W (w.heap.size+1) #[u3,u4] 32:=by rw[hW];simpa using ((Bx.new (w.alloc (.cells #[u1,u2] 32)) #[u3,u4] 32).alloc _).alloc _
 have xF:Bx W (w.heap.size+1+1) #[.func φ #[] #[]] 127:=by rw[hW];simpa using (Bx.new ((w.alloc (.cells #[u1,u2] 32)).alloc (.cells #[u3,u4] 32)) #[.func φ #[] #[]] 127).alloc _
 have xR:Bx W (w.heap.size+1+1+1) #[.slice none 0 0,.slice none 0 0] 32:=by rw[hW];simpa using Bx.new (((w.alloc (.cells #[u1,u2] 32)).alloc (.cells #[u3,u4] 32)).alloc (.cells #[.func φ #[] #[]] 127)) #[.slice none 0 0,.slice none 0 0] 32
 have hA:DfaAt W w.heap.size a:=⟨u1,u2,xA,g1.below hbW,g2.below hbW⟩;have hB:DfaAt W (w.heap.size+1) b:=⟨u3,u4,xB,g3.below hbW,g4.below hbW⟩;have hz:=xR.lt;rw[← hW]
 refine(Ze9 (Zay a b) (ZbY f a b) (fun x=>Zb4 a b x=true) most (w.heap.size+1+1) w.heap.size (w.heap.size+1) W (Zf5 hda hdb) (fun x c hc hx=>Zf6 hda hdb hc hx) (fun x hx=>Zlo hda hdb hx) hm0 hm1
  (fun x c w' hx hc hb=>Zil a b x c _ _ w' hda hdb (hA.below hb) (hB.below hb) hx hc)
  (fun x w' hx hb=>hp2 x _ _ _ w' (xF.below hb xF.lt) (hA.below hb) (hB.below hb) hx)).mono ?_
 rintro e w2 ⟨hr,hb2⟩;have yR:=xR.below hb2 hz;have r0:=yR.cell 0;have r1:=yR.cell 1;have f0:=yR.fr 0;have f1:=yR.fr 1;simp only[List.getElem?_toArray,List.getElem?_cons_zero,List.getElem?_cons_succ] at r0 r1;unfold RExp at hr;have hbw2:=hbW.trans (hb2.mono hbW.size);have hz0:w.heap.size≤W.heap.size:=hbW.size;replace hbw2:=qh hbw2;have HyR:=qh yR;clear yR;clear hp2 hA hB xA xB xF xR g1 g2 g3 g4 hda hdb hW hbW hb2;by_cases hle:(bat (Zay a b) (0,0) most).met.length≤most
 ·rw[if_pos hle] at hr;obtain⟨an,cn,ae,ce,am,cm,rfl,⟨q1,q2,hq,hd1,hd2⟩,hp⟩:=hr;simp only[Value.agg.injEq] at hq;have e1:=congrArg (fun (l:Array Value)=>l[0]?) hq;have e2:=congrArg (fun (l:Array Value)=>l[1]?) hq;simp at e1 e2;subst e1;subst e2;clear hq;obtain⟨F,hF⟩:=eI ((bat (Zay a b) (0,0) most).met);rw[← hF] at hd1 hd2 hp hle;rw[← hF];have Hhd1:=qh hd1;clear hd1;have Hhd2:=qh hd2;clear hd2;have Hhp:=qh hp;clear hp;replace hF:=qh hF;go_wp2;have b1:=HyR.out.set 0 (.slice an F.length cn);have b2:=b1.set 1 (.slice ae F.length ce);have z0:=b2.cell 0;have z1:=b2.cell 1;simp only[List.getElem?_toArray,List.getElem?_cons_zero,List.getElem?_cons_succ,List.setIfInBounds_toArray,List.set_cons_zero,List.set_cons_succ] at z0 z1;have g1:=ZaF w2 (w.heap.size+1+1+1) 0 (.slice an F.length cn);have g2:=ZaF (w2.setCell ⟨w.heap.size+1+1+1,0,none⟩ (.slice an F.length cn)) (w.heap.size+1+1+1) 1 (.slice ae F.length ce);refine bodyPost_ret (v:=.tuple #[.agg #[.slice an F.length cn,.slice ae F.length ce],.slice am F.length cm,.bool true]) (by simp[results,Tryz.results145,go_sem,z0,z1]) rfl ⟨?_,?_⟩
  ·unfold RExp;rw[← hF.out,if_pos hle];have ha:∀ e,32 ≠ e→ZbZ w2 (some (w.heap.size+1+1+1)) e:=fun e he=>HyR.out.apart he
   have ha2:∀ e,32 ≠ e→ZbZ (w2.setCell ⟨w.heap.size+1+1+1,0,none⟩ (.slice an F.length cn)) (some (w.heap.size+1+1+1)) e:=fun e he=>b1.apart he
   refine⟨_,_,_,_,_,_,rfl,⟨_,_,rfl,?_,?_⟩,?_⟩
   ·exact((Hhd1.out.grown g1 (ha _ (by decide)) (ha _ (by decide))).grown g2 (ha2 _ (by decide)) (ha2 _ (by decide))).mono hz0 (by simp)
   ·exact Own.mono (Own.grown (Own.grown Hhd2.out g1 (ha _ (by decide))) g2 (ha2 _ (by decide))) hz0 (by simp)
   exact Own.mono (Own.grown (Own.grown Hhp.out g1 (ha _ (by decide))) g2 (ha2 _ (by decide))) hz0 (by simp)
  exact(hbw2.out.setCell (by simp;omega) _).setCell (by simp;omega) _
 rw[if_neg hle] at hr;subst hr;go_wp2;have b1:=HyR.out.set 0 (.slice none 0 0);have b2:=b1.set 1 (.slice none 0 0);have z0:=b2.cell 0;have z1:=b2.cell 1;simp only[List.getElem?_toArray,List.getElem?_cons_zero,List.getElem?_cons_succ,List.setIfInBounds_toArray,List.set_cons_zero,List.set_cons_succ] at z0 z1;refine bodyPost_ret (v:=.tuple #[.agg #[.slice none 0 0,.slice none 0 0],.slice none 0 0,.bool false]) (by simp[results,Tryz.results145,go_sem,z0,z1]) rfl ⟨?_,?_⟩
 ·unfold RExp;rw[if_neg hle]
 exact(hbw2.out.setCell (by simp;omega) _).setCell (by simp;omega) _
theorem Zd5 (φ:Fn) (f:Bool→Bool→Bool) (K:Nat) (hK:K=40) (a b:DfaD) (D:DfaD) (fb:Bool) (hD:((Zbs K f a b).map minD).getD zeD=D) (hfb:((Zbs K f a b).map minD).isSome=fb) (v1 v2:Value) (w:World) (hda:Zaf a.next a.ends=true) (hdb:Zaf b.next b.ends=true) (hp2:∀ (x:Int × Int) (bf ba bb:Nat) (w:World),Bx w bf #[.func φ #[] #[]] 127 → DfaAt w ba a→DfaAt w bb b→Zb4 a b x=true→Calls Tryz.prog 158 #[.agg #[.int .i64 x.1,.int .i64 x.2],.pointer (some ⟨bf,0,none⟩),.pointer (some ⟨ba,0,none⟩),.pointer (some ⟨bb,0,none⟩)] w fun e w'=>e = .returned (.bool (ZbY f a b x))∧Below w.heap.size w w') (h1:DfaR 0 w v1 a) (h2:DfaR 0 w v2 b) :
  Calls Tryz.prog 108 #[v1,v2,.func φ #[] #[]] w fun e w'=>RTt D fb w.heap.size e w'∧Below w.heap.size w w':=by
 have H1:=h1;have H2:=h2;obtain⟨u1,u2,rfl,g1,g2⟩:=h1;obtain⟨u3,u4,rfl,g3,g4⟩:=h2;have hS0:=(((St.start w).alloc _ rfl #[u1,u2] 32).alloc (w.heap.size+1) (by simp) #[u3,u4] 32).alloc (w.heap.size+1+1) (by simp) #[.slice none 0 0,.slice none 0 0] 32;have hpr:=fun (W:World) (hb:Below w.heap.size w W)=>Zik φ f a b K (.agg #[u1,u2]) (.agg #[u3,u4]) W hda hdb (by omega) (by omega) hp2 (H1.below hb) (H2.below hb)
 have hK4:((K:Nat):Int)=40:=by omega
 rw[hK4] at hpr;have Hpr:=qh hpr;replace hS0:=qh hS0;have HhD:=qh hD;clear hD;have Hhfb:=qh hfb;clear hfb;replace hK:=qh hK;clear hpr H1 H2 g1 g2 g3 g4 hda hdb hK4
 go_enter Tryz.func108, Tryz.ntmps108
 have e0:=hS0.out.cell (v:=u1) 0 0 rfl rfl;have e1:=hS0.out.cell (v:=u2) 0 1 rfl rfl;have e2:=hS0.out.cell (v:=u3) 1 0 rfl rfl;have e3:=hS0.out.cell (v:=u4) 1 1 rfl rfl;go_wp2_with fail;refine(Hpr.out _ hS0.out.bel).mono ?_;rintro e w3 ⟨hr,hb3⟩;unfold RExp at hr;by_cases hle:(metP a b K).length≤K
 ·rw[if_pos hle] at hr;obtain⟨an,cn,ae,ce,am,cm,rfl,hown,-⟩:=hr;have htd:Zbs K f a b=some (Zat (Zay a b) (ZbY f a b) (metP a b K)):=if_pos hle;obtain⟨X,hX⟩:=eI (Zat (Zay a b) (ZbY f a b) (metP a b K));have hl1:X.next.length=(metP a b K).length:=by rw[hX];exact ZaO _ _ _
  have hl2:X.ends.length=(metP a b K).length:=by rw[hX];simp[Zat]
  rw[← hX] at hown htd;have hD:=HhD.out;have hfb:=Hhfb.out;rw[htd] at hD hfb;have hD:minD X=D:=hD;have hfb:true=fb:=hfb;subst hD;subst hfb;obtain⟨L,hL⟩:=eI ((metP a b K).length);rw[← hL] at hown hl1 hl2 hle;rw[← hL];have hL40:(L:Int)≤40:=by have:=hK.out;omega
  have hXo:Zaf X.next X.ends=true:=Zbl hK.out htd;have hS4:=(hS0.out.call hb3).alloc _ rfl #[.slice an L cn,.slice ae L ce] 32;have hDR:DfaR 0 (w3.alloc (.cells #[.slice an L cn,.slice ae L ce] 32)) (.agg #[.slice an L cn,.slice ae L ce]) X:=(hown.r.mono (Nat.zero_le _)).below ((Below.refl _ _).alloc (Nat.le_refl _) _);have d0:=hS4.cell (v:=.slice an L cn) 3 0 rfl rfl;have d1:=hS4.cell (v:=.slice ae L ce) 3 1 rfl rfl;have HS4:=qh hS4;have HDR:=qh hDR;have Hhl1:=qh hl1;clear hl1;have Hhl2:=qh hl2;clear hl2;have Hhtd:=qh htd;clear htd;have HhXo:=qh hXo;clear hXo;have HhX:=qh hX;clear hX;have HhL:=qh hL;clear hL;clear hown hb3 hle hS4 hDR e0 e1 e2 e3;go_wp2_with fail;refine(Za6 X _ _ HhXo.out HDR.out).mono ?_;rintro e w5 ⟨a1,c1,a2,c2,rfl,hown,hb5⟩;obtain⟨M,hM⟩:=eI (minD X);rw[← hM] at hown;rw[← hM];have hS5:=HS4.out.call hb5;have f0:=hS5.fr 2 0 rfl;have f1:=hS5.fr 2 1 rfl;have k0:=hS5.cell (v:=.slice none 0 0) 2 0 rfl rfl;have k1:=hS5.cell (v:=.slice none 0 0) 2 1 rfl rfl;have hDM:=DMem.of hown HS4.out.size;have hb0:=hS5.box 2 rfl;have HS5:=qh hS5;have HDM:=qh hDM;have Hhb0:=qh hb0;clear hb0;have HhM:=qh hM;clear hM;clear hS5 hown hb5 hDM d0 d1;go_wp2;have hq:=(HS5.out.set 2 rfl 0 (.slice a1 M.next.length c1)).set 2 rfl 1 (.slice a2 M.ends.length c2);have q0:=hq.cell (v:=.slice a1 M.next.length c1) 2 0 rfl rfl;have q1:=hq.cell (v:=.slice a2 M.ends.length c2) 2 1 rfl rfl
  have hm:=(HDM.out.set Hhb0.out 0 (.slice a1 M.next.length c1)).set (Hhb0.out.set 0 _) 1 (.slice a2 M.ends.length c2);refine bodyPost_ret (v:=.tuple #[.agg #[.slice a1 M.next.length c1,.slice a2 M.ends.length c2],.bool true]) (by simp[results,Tryz.results108,go_sem,q0,q1]) rfl ⟨?_,hq.bel⟩;rw[← HhM.out];exact⟨a1,c1,a2,c2,rfl,_,_,rfl,hm.1,hm.2⟩
 rw[if_neg hle] at hr;subst hr;have htd:Zbs K f a b=none:=if_neg hle;have hD:=HhD.out;have hfb:=Hhfb.out;rw[htd] at hD hfb;have hD:zeD=D:=hD;have hfb:false=fb:=hfb;subst hD;subst hfb;have hS4:=(hS0.out.call hb3).alloc _ rfl #[.slice none 0 0,.slice none 0 0] 32;have f0:=hS4.fr 2 0 rfl;have f1:=hS4.fr 2 1 rfl;have k0:=hS4.cell (v:=.slice none 0 0) 2 0 rfl rfl;have k1:=hS4.cell (v:=.slice none 0 0) 2 1 rfl rfl;have HS4:=qh hS4;clear hb3 hle hS4 e0 e1 e2 e3;go_wp2;have hq:=(HS4.out.set 2 rfl 0 (.slice none 0 0)).set 2 rfl 1 (.slice none 0 0);have q0:=hq.cell (v:=.slice none 0 0) 2 0 rfl rfl;have q1:=hq.cell (v:=.slice none 0 0) 2 1 rfl rfl;refine bodyPost_ret (v:=.tuple #[.agg #[.slice none 0 0,.slice none 0 0],.bool false]) (by simp[results,Tryz.results108,go_sem,q0,q1]) rfl ⟨?_,hq.bel⟩;exact⟨none,0,none,0,rfl,Zhe _ _ _ _ _⟩
theorem ZhJ (K:Nat) (hK:K=40) (a b:DfaD) (D:DfaD) (fb:Bool) (hD:((Zbs K (fun p q=>p||q) a b).map minD).getD zeD=D) (hfb:((Zbs K (fun p q=>p||q) a b).map minD).isSome=fb) (v1 v2:Value) (w:World) (hda:Zaf a.next a.ends=true) (hdb:Zaf b.next b.ends=true) (h1:DfaR 0 w v1 a) (h2:DfaR 0 w v2 b) :
  Calls Tryz.prog 108 #[v1,v2,.func (.func 109) #[] #[]] w fun e w'=>RTt D fb w.heap.size e w'∧Below w.heap.size w w' :=
 Zd5 _ (fun p q=>p||q) K hK a b D fb hD hfb v1 v2 w hda hdb (fun x bf ba bb w' hf g1 g2 hx=>Zhs a b x bf ba bb w' hda hdb hf g1 g2 hx) h1 h2
theorem ZhK (K:Nat) (hK:K=40) (a b:DfaD) (D:DfaD) (fb:Bool) (hD:((Zbs K (fun p q=>p&&q) a b).map minD).getD zeD=D) (hfb:((Zbs K (fun p q=>p&&q) a b).map minD).isSome=fb) (v1 v2:Value) (w:World) (hda:Zaf a.next a.ends=true) (hdb:Zaf b.next b.ends=true) (h1:DfaR 0 w v1 a) (h2:DfaR 0 w v2 b) :
  Calls Tryz.prog 108 #[v1,v2,.func (.func 110) #[] #[]] w fun e w'=>RTt D fb w.heap.size e w'∧Below w.heap.size w w' :=
 Zd5 _ (fun p q=>p&&q) K hK a b D fb hD hfb v1 v2 w hda hdb (fun x bf ba bb w' hf g1 g2 hx=>Zht a b x bf ba bb w' hda hdb hf g1 g2 hx) h1 h2
end Go.Proofs.YtehmjmjedopkkaaGreat
namespace Go.Proofs.YtehmjmjedopkkaaGreat
open Go.RowKit
def loW (v:Nat):Nat:=v % 2 ^ 64
def hiW (v:Nat):Nat:=v / 2 ^ 64
theorem ZfS (v:Nat):loW v<2 ^ 64:=Nat.mod_lt _ (by omega)
theorem ZmP {v:Nat} (h:v<2 ^ 128):hiW v<2 ^ 64:=Nat.div_lt_of_lt_mul (by rw[← Nat.pow_add];exact h)
theorem ZfT {v s:Nat} (h:s<64):(loW v).testBit s=v.testBit s:=by unfold loW;rw[Nat.testBit_mod_two_pow];simp[h]
theorem Zf8 {v s:Nat} (h:64≤s):(hiW v).testBit (s-64)=v.testBit s:=by unfold hiW;rw[Nat.testBit_div_two_pow];congr 1;omega
theorem ZdO (v s t:Nat):(adj v s).testBit t=(v.testBit t||decide (t=s)):=by rw[Zb2];congr 1;exact decide_eq_decide.2 ⟨Eq.symm,Eq.symm⟩
theorem Zps {v s:Nat} (h:s<64):loW (adj v s)=adj (loW v) s∧hiW (adj v s)=hiW v:=by
 constructor
 ·refine Nat.eq_of_testBit_eq fun t => ?_
  by_cases ht:t<64
  ·rw[ZfT ht,ZdO,ZdO,ZfT ht]
  have h1:(loW (adj v s)).testBit t=false:=Nat.testBit_lt_two_pow (Nat.lt_of_lt_of_le (ZfS _) (Nat.pow_le_pow_right (by omega) (by omega)));have h2:(loW v).testBit t=false:=Nat.testBit_lt_two_pow (Nat.lt_of_lt_of_le (ZfS _) (Nat.pow_le_pow_right (by omega) (by omega)));rw[h1,ZdO,h2,Bool.false_or];exact(decide_eq_false (by omega)).symm
 refine Nat.eq_of_testBit_eq fun t => ?_
 have e1:=Zf8 (v:=adj v s) (s:=t+64) (by omega);have e2:=Zf8 (v:=v) (s:=t+64) (by omega);rw[Nat.add_sub_cancel] at e1 e2;rw[e1,e2,ZdO,decide_eq_false (show ¬ t+64=s by omega),Bool.or_false]
theorem Zpu {v s:Nat} (h:64≤s):loW (adj v s)=loW v∧hiW (adj v s)=adj (hiW v) (s-64):=by
 constructor
 ·refine Nat.eq_of_testBit_eq fun t => ?_
  by_cases ht:t<64
  ·rw[ZfT ht,ZdO,ZfT ht,decide_eq_false (show ¬ t=s by omega),Bool.or_false]
  have h1:(loW (adj v s)).testBit t=false:=Nat.testBit_lt_two_pow (Nat.lt_of_lt_of_le (ZfS _) (Nat.pow_le_pow_right (by omega) (by omega)));have h2:(loW v).testBit t=false:=Nat.testBit_lt_two_pow (Nat.lt_of_lt_of_le (ZfS _) (Nat.pow_le_pow_right (by omega) (by omega)));rw[h1,h2]
 refine Nat.eq_of_testBit_eq fun t => ?_
 have e1:=Zf8 (v:=adj v s) (s:=t+64) (by omega);have e2:=Zf8 (v:=v) (s:=t+64) (by omega);rw[Nat.add_sub_cancel] at e1 e2;rw[e1,ZdO,ZdO,e2];congr 1;exact decide_eq_decide.2 ⟨fun h=>by omega,fun h=>by omega⟩
abbrev setW (v:Nat):Value:=.agg #[.int .u64 (loW v:Int),.int .u64 (hiW v:Int)]
theorem Zja (v s:Nat) (hv:v<2 ^ 64):(bits BinOp.and IntKind.u64 ((v:Int) / 2 ^ s) 1==1)=v.testBit s:=by
 have e:((v:Int) / 2 ^ s)=((v / 2 ^ s:Nat):Int):=by simp
 have hle:v / 2 ^ s≤v:=Nat.div_le_self _ _;rw[e,Nat.testBit_eq_decide_div_mod_eq]
 generalize v / 2 ^ s=q at hle ⊢
 rw[and_one_u64 _ (by omega) (by omega),Bool.eq_iff_iff];simp;omega
theorem ZkM (v s:Nat) (hv:v<2 ^ 64) (hs:s<64):bits BinOp.or IntKind.u64 (v:Int) (IntKind.u64.wrap (2 ^ s))=((adj v s:Nat):Int):=by
 have e:((2:Int) ^ s)=((2 ^ s:Nat):Int):=by simp
 have hle:2 ^ s<2 ^ 64:=Nat.pow_lt_pow_right (by omega) hs;unfold adj
 generalize 2 ^ s=q at hle e ⊢
 rw[e,IntKind.wrap_u64,Int.emod_eq_of_lt (by omega) (by omega),u64_or_nat _ _ (by omega) (by omega)]
theorem ZcV (v s:Nat) (hv:v<2 ^ 128) (hs:s<128) (w:World) (r:Bool) (hr:v.testBit s=r) :
  Calls Tryz.prog 154 #[setW v,.int .i64 s] w fun e w'=>e = .returned (.bool r)∧Below w.heap.size w w':=by
 by_cases h:s<64
 ·have h1:(s:Int) / 64=0:=by omega
  have h2:(s:Int) % 64=s:=by omega
  have h3:s / 64=0:=by omega
  have hb:=Zja (loW v) s (ZfS v);rw[ZfT h,hr] at hb;have Hhr:=qh hr;clear hr;have Hhv:=qh hv;clear hv;replace hb:=qh hb
  go_enter Tryz.func154, Tryz.ntmps154
  go_wp2;go_ret;exact⟨ZaP hb.out,(Below.refl _ _).alloc (Nat.le_refl _) _⟩
 have h1:(s:Int) / 64=1:=by omega
 have h2:(s:Int) % 64=((s-64:Nat):Int):=by omega
 have h3:s / 64=1:=by omega
 have hb:=Zja (hiW v) (s-64) (ZmP hv);rw[Zf8 (by omega),hr] at hb;obtain⟨t,ht⟩:=eI (s-64);rw[← ht] at hb h2;have Hht:=qh ht;clear ht;have Hhr:=qh hr;clear hr;have Hhv:=qh hv;clear hv;replace hb:=qh hb
 go_enter Tryz.func154, Tryz.ntmps154
 go_wp2;go_ret;exact⟨ZaP hb.out,(Below.refl _ _).alloc (Nat.le_refl _) _⟩
theorem Zdb (v s:Nat) (hv:v<2 ^ 128) (hs:s<128) (w:World) :
  Calls Tryz.prog 155 #[setW v,.int .i64 s] w fun e w'=>e = .returned (setW (adj v s))∧Below w.heap.size w w':=by
 by_cases h:s<64
 ·have h1:(s:Int) / 64=0:=by omega
  have h2:(s:Int) % 64=s:=by omega
  have h3:s / 64=0:=by omega
  have hb:=ZkM (loW v) s (ZfS v) h;obtain⟨e1,e2⟩:=Zps (v:=v) h;rw[← e1] at hb;obtain⟨L,hL⟩:=eI (loW (adj v s));rw[← hL] at hb;unfold setW;rw[e2,← hL];have Hhv:=qh hv;clear hv;have HhL:=qh hL;clear hL;replace e1:=qh e1;have He2:=qh e2;clear e2
  go_enter Tryz.func155, Tryz.ntmps155
  go_wp2
  go_region
  go_wp2;refine bodyPost_ret (v:=.agg #[.int .u64 (L:Int),.int .u64 (hiW v:Int)]) (by simp[results,Tryz.results155,go_sem]) rfl ⟨rfl,?_⟩;exact((((Below.refl _ _).alloc (Nat.le_refl _) _).alloc (by simp) _).drew)
 have h1:(s:Int) / 64=1:=by omega
 have h3:s / 64=1:=by omega
 obtain⟨t,ht⟩:=eI (s-64);have h2:(s:Int) % 64=(t:Int):=by omega
 have hb:=ZkM (hiW v) t (ZmP hv) (by omega);obtain⟨e1,e2⟩:=Zpu (v:=v) (s:=s) (by omega);rw[ht,← e2] at hb;rw[← ht] at hb;obtain⟨L,hL⟩:=eI (hiW (adj v s));rw[← hL] at hb;unfold setW;rw[e1,← hL];have Hhv:=qh hv;clear hv;have HhL:=qh hL;clear hL;replace e1:=qh e1;have He2:=qh e2;clear e2;have Hht:=qh ht;clear ht
 go_enter Tryz.func155, Tryz.ntmps155
 go_wp2
 go_region
 go_wp2;refine bodyPost_ret (v:=.agg #[.int .u64 (loW v:Int),.int .u64 (L:Int)]) (by simp[results,Tryz.results155,go_sem]) rfl ⟨rfl,?_⟩;exact((((Below.refl _ _).alloc (Nat.le_refl _) _).alloc (by simp) _).drew)
end Go.Proofs.YtehmjmjedopkkaaGreat
