/-
  The walks over impl.product with the functions that are handed to it.
  Conditions: the automata read as such and are valid.
-/
import Derived.Test.YtehmjmjedopkkaaGreatPd09Dm
import Derived.Test.YtehmjmjedopkkaaGreatPd11Ex
import Derived.Test.YtehmjmjedopkkaaGreatPd12Rp
set_option maxHeartbeats 8000000
set_option maxRecDepth 100000
namespace Go.Proofs.YtehmjmjedopkkaaGreat
open Go.RowKit Go.Maps
abbrev metP (a b:DfaD) (most:Nat):List (Int × Int):=(bat (ZcB a b) (0,0) most).met
theorem Zjk {a b:DfaD} (hda:Zai a.next a.ends=true) (hdb:Zai b.next b.ends=true):Zcx a b (0,0)=true:=by have h1:=Zag hda;have h2:=Zag hdb;simp[Zcx,inB];omega
theorem Zjl {a b:DfaD} (hda:Zai a.next a.ends=true) (hdb:Zai b.next b.ends=true) {x:Int × Int} {c:Nat} (hc:c<3) (hx:Zcx a b x=true):Zcx a b (ZcB a b x c)=true:=by obtain⟨i,j,rfl,hi,hj⟩:=ZcO hx;have h1:=(ZaP hda hi).2 c hc;have h2:=(ZaP hdb hj).2 c hc;have e:ZcB a b ((i:Int),(j:Int)) c=((a.next.getD i []).getD c 0,(b.next.getD j []).getD c 0):=rfl;rw[e];simp only[Zcx,inB,Bool.and_eq_true,decide_eq_true_eq];omega
theorem ZkP {a b:DfaD} (hda:Zai a.next a.ends=true) (hdb:Zai b.next b.ends=true) {x:Int × Int} (hx:Zcx a b x=true):fitI x.1∧fitI x.2:=by obtain⟨i,j,rfl,hi,hj⟩:=ZcO hx;have h1:=Zag hda;have h2:=Zag hdb;unfold fitI;simp only;omega
end Go.Proofs.YtehmjmjedopkkaaGreat
namespace Go.Proofs.YtehmjmjedopkkaaGreat
open Go.RowKit
def shJ (n:Nat) (m:Int × Int × Int):Int × Int × Int:=(m.1+(n:Int),m.2.1,m.2.2+(n:Int))
def ZdI (a b:DfaD):NfaD :=
 ⟨((a.next.length+b.next.length:Nat):Int),mvs a a.next.length++(mvs b b.next.length).map (shJ a.next.length)++(eds a a.next.length).map (fun e=>(e,-1,(a.next.length:Int))),[0],(eds b b.next.length).map (fun e=>e+(a.next.length:Int))⟩
def Zet (a:DfaD):NfaD :=
 ⟨((a.next.length+1:Nat):Int),mvs a a.next.length++[((a.next.length:Int),-1,0)]++(eds a a.next.length).map (fun e=>(e,-1,(a.next.length:Int))),[(a.next.length:Int)],[(a.next.length:Int)]⟩
def detM (M K:Nat) (n:NfaD):Option DfaD:=if (metSM M n K).length≤K then some (Zar (nxSM M n) (enS n) (metSM M n K)) else none
def ZbX (K:Nat) (f:Bool→Bool→Bool) (a b:DfaD):Option DfaD:=if (metP a b K).length≤K then some (Zar (ZcB a b) (ZeK f a b) (metP a b K)) else none
def ZfS:DfaD:=⟨[[0,0,0]],[false]⟩
def oneD:DfaD:=⟨[[1,1,1],[1,1,1]],[true,false]⟩
def ltrD (c:Fin 3):DfaD:=⟨[[2,2,2].set c.val 1,[2,2,2],[2,2,2]],[false,true,false]⟩
def negD (a:DfaD):DfaD:=⟨a.next,a.ends.map (fun x => !x)⟩
def Zau (K:Nat):Ex→Option DfaD
 | .zero=>some (ZaE ZfS)
 | .one=>some (ZaE oneD)
 | .ltr c=>some (ZaE (ltrD c))
 | .join a b=>(Zau K a).bind fun x=>(Zau K b).bind fun y=>(detM 81 K (ZdI x y)).map ZaE
 | .alt a b=>(Zau K a).bind fun x=>(Zau K b).bind fun y=>(ZbX K (fun p q=>p||q) x y).map ZaE
 | .both a b=>(Zau K a).bind fun x=>(Zau K b).bind fun y=>(ZbX K (fun p q=>p&&q) x y).map ZaE
 | .neg a=>(Zau K a).map fun x=>ZaE (negD x)
 | .star a=>(Zau K a).bind fun x=>(detM 81 K (Zet x)).map ZaE
theorem Zn2 {α:Type} [DecidableEq α] {nx:α→Nat→α} {a:α} {en:α→Bool} {K:Nat} (hK:K=40) (h:(bat nx a K).met.length≤K):Zai (Zar nx en (bat nx a K).met).next (Zar nx en (bat nx a K).met).ends=true:=by obtain⟨h1,h2,h3,h4⟩:=Zej (en:=en) (nx:=nx) (a:=a) h (by omega);exact Zfp h1 (by rw[ZaK];omega) h3 fun i hi=>h4 i hi
theorem Zdq {M K:Nat} (hK:K=40) {n:NfaD} {d:DfaD} (h:detM M K n=some d):Zai d.next d.ends=true:=by
 unfold detM at h
 split at h
 ·rename_i hle;simp only[Option.some.injEq] at h;subst h;exact Zn2 hK hle
 cases h
theorem ZbO {K:Nat} (hK:K=40) {f:Bool→Bool→Bool} {a b d:DfaD} (h:ZbX K f a b=some d):Zai d.next d.ends=true:=by
 unfold ZbX at h
 split at h
 ·rename_i hle;simp only[Option.some.injEq] at h;subst h;exact Zn2 hK hle
 cases h
theorem ZbM {d:DfaD} (h:Zai d.next d.ends=true):Zai (ZaE d).next (ZaE d).ends=true :=
 (Zk2 (ZoD (Zk2 h).1)).1
theorem Zfh:Zai ZfS.next ZfS.ends=true:=by decide
theorem Zhu:Zai oneD.next oneD.ends=true:=by decide
theorem ZeF (c:Fin 3):Zai (ltrD c).next (ltrD c).ends=true:=by
 have:c=0∨c=1∨c=2:=by omega
 rcases this with rfl|rfl|rfl<;>decide
theorem Zhy {d:DfaD} (h:Zai d.next d.ends=true):Zai (negD d).next (negD d).ends=true:=by simp only[Zai,Bool.and_eq_true,decide_eq_true_eq] at h ⊢;exact⟨h.1,by simpa [negD] using h.2⟩
theorem ZbV {K:Nat} (hK:K=40):∀ (t:Ex) {d:DfaD},Zau K t=some d→Zai d.next d.ends=true:=by
 intro t;cases t with
 | zero=>intro d h;simp only[Zau,Option.some.injEq] at h;subst h;exact ZbM Zfh
 | one=>intro d h;simp only[Zau,Option.some.injEq] at h;subst h;exact ZbM Zhu
 | ltr c=>intro d h;simp only[Zau,Option.some.injEq] at h;subst h;exact ZbM (ZeF c)
 | join a b =>intro d h;simp only[Zau,Option.bind_eq_some_iff,Option.map_eq_some_iff] at h;obtain⟨x,-,y,-,z,hz,rfl⟩:=h;exact ZbM (Zdq hK hz)
 | alt a b =>intro d h;simp only[Zau,Option.bind_eq_some_iff,Option.map_eq_some_iff] at h;obtain⟨x,-,y,-,z,hz,rfl⟩:=h;exact ZbM (ZbO hK hz)
 | both a b =>intro d h;simp only[Zau,Option.bind_eq_some_iff,Option.map_eq_some_iff] at h;obtain⟨x,-,y,-,z,hz,rfl⟩:=h;exact ZbM (ZbO hK hz)
 | neg a =>intro d h;simp only[Zau,Option.map_eq_some_iff] at h;obtain⟨x,hx,rfl⟩:=h;exact ZbM (Zhy (ZbV hK a hx))
 | star a =>intro d h;simp only[Zau,Option.bind_eq_some_iff,Option.map_eq_some_iff] at h;obtain⟨x,-,z,hz,rfl⟩:=h;exact ZbM (Zdq hK hz)
theorem Zfi {m:Nat} {xs ys:List (Int × Int × Int)} (h:mvIn m xs) (h':mvIn m ys):mvIn m (xs++ys):=fun x hx=>by
 rcases List.mem_append.1 hx with hx|hx
 ·exact h x hx
 exact h' x hx
theorem ZjA {a b:DfaD} (ha:Zai a.next a.ends=true) (hb:Zai b.next b.ends=true):mvIn (a.next.length+b.next.length) (ZdI a b).moves:=by
 have h1:=ZfT ha _ (Nat.le_refl _);have h2:=ZfT hb _ (Nat.le_refl _);have hlb:=Zag hb;refine Zfi (Zfi (ZgM h1 (by omega)) fun x hx => ?_) fun x hx => ?_
 ·obtain⟨y,hy,rfl⟩:=List.mem_map.1 hx;have:=h2 y hy;simp only[shJ];omega
 obtain⟨y,hy,rfl⟩:=List.mem_map.1 hx;have:=Zgg a _ y hy;simp only;omega
theorem ZgC {a b:DfaD}:inN (a.next.length+b.next.length) (ZdI a b).ends:=fun x hx=>by obtain⟨y,hy,rfl⟩:=List.mem_map.1 hx;have:=Zgg b _ y hy;omega
theorem ZeT {a b:DfaD} (ha:Zai a.next a.ends=true):inN (a.next.length+b.next.length) [0]:=fun x hx=>by have hla:=Zag ha;simp only[List.mem_singleton] at hx;omega
theorem Zjz {a:DfaD} (ha:Zai a.next a.ends=true):mvIn (a.next.length+1) (Zet a).moves:=by
 have h1:=ZfT ha _ (Nat.le_refl _);refine Zfi (Zfi (ZgM h1 (by omega)) fun x hx => ?_) fun x hx => ?_
 ·simp only[List.mem_singleton] at hx;subst hx;simp only;omega
 obtain⟨y,hy,rfl⟩:=List.mem_map.1 hx;have:=Zgg a _ y hy;simp only;omega
theorem Zdv {a:DfaD}:inN (a.next.length+1) [(a.next.length:Int)]:=fun x hx=>by simp only[List.mem_singleton] at hx;omega
structure DfaC (w:World) (d:DfaD) (b1 o1 cv b2 o2 cw:Nat):Prop where
 l1:1≤d.next.length
 l2:d.next.length≤40
 le:d.ends.length=d.next.length
 c1:d.next.length≤cv∧cv≤9223372036854775807
 c2:d.next.length≤cw∧cw≤9223372036854775807
 hb1:b1<w.heap.size
 hb2:b2<w.heap.size
 row:∀ i,i<d.next.length→∃ b3 o3 c3,b3<w.heap.size∧3≤c3∧c3≤9223372036854775807∧w.cell? ⟨b1,o1+i,none⟩=some (.slice (some ⟨b3,o3,none⟩) 3 c3)∧∀ c,c<3→w.cell? ⟨b3,o3+c,none⟩=some (.int .i64 (nxD d i c:Nat))
 en:∀ i,i<d.next.length→w.cell? ⟨b2,o2+i,none⟩=some (.bool (enD d i))
 lt:∀ i c,i<d.next.length→c<3→nxD d i c<d.next.length
 dx:∀ i c,i<d.next.length→c<3→dnx d (i:Int) c=(nxD d i c:Nat)
theorem ZhO {d:DfaD} {w:World} {v:Value} (hd:Zai d.next d.ends=true) (h:DfaR 0 w v d):∃ b1 o1 cv b2 o2 cw,v = .agg #[.slice (some ⟨b1,o1,none⟩) d.next.length cv,.slice (some ⟨b2,o2,none⟩) d.next.length cw]∧DfaC w d b1 o1 cv b2 o2 cw:=by obtain⟨v1,v2,rfl,q1,q2⟩:=h;have hf:=ZaB hd;obtain⟨hl1,hl2,hle⟩:=Zag hd;obtain⟨av,cv,rfl,hc1,hc2,hr1⟩:=q1.formI;obtain⟨b1,o1,rfl,-,hb1,hcs1⟩:=hr1 (by omega);obtain⟨av2,cw,rfl,hc3,hc4,hr2⟩:=q2.form;rw[hle] at hc3 hr2;obtain⟨b2,o2,rfl,-,hb2,hcs2⟩:=hr2 (by omega);rw[hle];refine⟨b1,o1,cv,b2,o2,cw,rfl,hl1,hl2,hle,⟨hc1,hc2⟩,⟨hc3,hc4⟩,hb1,hb2,fun i hi => ?_,fun i hi=>hcs2 i hi,fun i c hi hc=>(Zcn hf hi hc).1,fun i c hi hc=>(Zcn hf hi hc).2⟩;obtain⟨ax,cx,hks,p1,p2,hIs⟩:=hcs1 i hi;have hr3:=(ZaP hd hi).1;rw[hr3] at hks hIs p1;obtain⟨_,_,hform,-,-,hrs⟩:=hIs.form;rw[hr3] at hform hrs;simp only[Value.slice.injEq,true_and] at hform;obtain⟨rfl,rfl⟩:=hform;obtain⟨b3,o3,rfl,-,hb3,hcs3⟩:=hrs (by omega);refine⟨b3,o3,cx,hb3,p1,p2,hks,fun c hc => ?_⟩;rw[hcs3 c hc];have hyx:=(Zcn hf hi hc).2;unfold dnx at hyx;rw[Int.toNat_natCast] at hyx;rw[hyx]
theorem DfaC.below {w w':World} {d:DfaD} {b1 o1 cv b2 o2 cw:Nat} (h:DfaC w d b1 o1 cv b2 o2 cw) (hb:Below w.heap.size w w'):DfaC w' d b1 o1 cv b2 o2 cw where
 l1:=h.l1
 l2:=h.l2
 le:=h.le
 c1:=h.c1
 c2:=h.c2
 hb1:=Nat.lt_of_lt_of_le h.hb1 hb.size
 hb2:=Nat.lt_of_lt_of_le h.hb2 hb.size
 row:=fun i hi=>by obtain⟨b3,o3,c3,p1,p2,p3,p4,p5⟩:=h.row i hi;exact⟨b3,o3,c3,Nat.lt_of_lt_of_le p1 hb.size,p2,p3,(bcell hb b1 _ h.hb1).trans p4,fun c hc=>(bcell hb b3 _ p1).trans (p5 c hc)⟩
 en:=fun i hi=>(bcell hb b2 _ h.hb2).trans (h.en i hi)
 lt:=h.lt
 dx:=h.dx
def RDo (D:DfaD) (w:World) (e:Ending) (w':World):Prop:=∃ a1 c1 a2 c2,e = .returned (.agg #[.slice a1 D.next.length c1,.slice a2 D.ends.length c2]) ∧
 DfaO 59 3 4 w.heap.size w'.heap.size w' (.agg #[.slice a1 D.next.length c1,.slice a2 D.ends.length c2]) D∧Below w.heap.size w w'
section
variable {n:Nat} {nx:Nat→Nat→Nat}
end
theorem ZgV {n:Nat} {cl cl':Nat→Nat} (h:∀ s,s<n→cl s=cl' s):clsL n cl=clsL n cl':=List.map_congr_left fun s hs=>by rw[h s (List.mem_range.1 hs)]
theorem Zmp (k:Nat) (cl:Nat→Nat):clsL (k+1) cl=clsL k cl++[(cl k:Int)]:=by unfold clsL;rw[List.range_succ,List.map_append];rfl
theorem Zm0 (d:DfaD) (cl:Nat→Nat) (t s:Nat):Zb1 (nxD d) cl t s=(decide (cl t=cl s)&&Zhe d cl t s 3):=rfl
def padL (n s:Nat) (cl:Nat→Nat):List Int:=clsL s cl++List.replicate (n-s) 0
def padT (n s:Nat) (cl:Nat→Nat) (t:Nat):List Int:=clsL s cl++((t:Nat):Int)::List.replicate (n-s-1) 0
theorem ZlC (n:Nat) (cl:Nat→Nat):padL n 0 cl=List.replicate n 0:=by simp[padL,clsL]
theorem Zhs (n:Nat) (cl:Nat→Nat):padL n n cl=clsL n cl:=by simp[padL]
theorem ZjS {n s:Nat} (cl:Nat→Nat) (h:s<n):padL n s cl=padT n s cl 0:=by unfold padL padT;rw[show n-s=(n-s-1)+1 by omega,List.replicate_succ];rfl
theorem Zfg {n s:Nat} (cl:Nat→Nat):padT n s cl (cl s)=padL n (s+1) cl:=by unfold padL padT;rw[Zmp,List.append_assoc,show n-(s+1)=n-s-1 by omega];rfl
theorem Zff {n s:Nat} (cl:Nat→Nat) (t t':Nat):(intCells (padT n s cl t)).set s (.int .i64 ((t':Nat):Int))=intCells (padT n s cl t'):=by unfold intCells;rw[← List.map_set (f:=fun x=>Value.int .i64 x)];congr 1;unfold padT;rw[List.set_append_right _ _ (by rw[ZcA];exact Nat.le_refl _),ZcA,Nat.sub_self];rfl
theorem ZcY {n s:Nat} (cl:Nat→Nat) (t:Nat):(intCells (padT n s cl t))[s]? = some (.int .i64 ((t:Nat):Int)):=by simp[intCells,padT,ZcA]
theorem Zcr {n s:Nat} (cl:Nat→Nat) (h:s<n):(intCells (clsL n cl))[s]? = some (.int .i64 ((cl s:Nat):Int)):=by simp[intCells,clsL,h]
theorem ZfU {w:World} {B n:Nat} {v:Value} (cl:Nat→Nat) (h:w.ownsRow B 3 1 v n (madeCells (Value.int .i64 0).cells (n*1)).toList):w.ownsRow B 3 1 v n (intCells (padL n 0 cl)):=by
 have e:(madeCells (Value.int .i64 0).cells (n*1)).toList=intCells (padL n 0 cl):=by rw[ZlC];simp[madeCells,Value.cells,intCells,Nat.mod_one,List.map_const']
 rwa [e] at h
theorem ZnR {n:Nat} {a b:Nat→Nat}:clsL n a=clsL n b↔∀ s,s<n→a s=b s:=by
 constructor
 ·intro h s hs;have:=congrArg (fun l=>l.getD s 0) h;simp only[Zjt a hs,Zjt b hs] at this;omega
 exact ZgV
theorem St.intsC {w0 w:World} {L:List Ent} (h:St w0 w L) (i:Nat) {v:Value} {n:Nat} {cl:Nat→Nat} (hx:L[i]? = some (Ent.row 3 1 v n (intCells (clsL n cl)))):Ints 0 w v (clsL n cl) :=
 Zdl (B:=w0.heap.size) (e:=3) (by rw[ZcA];exact h.row i hx)
theorem ZkO (xs:List Bool) (y:Bool) (p:Nat) (v:Value) (w:World) (h1:Bools 0 w v xs) (hp:p<xs.length) (hy:xs.getD p false=y) (hno:∀ j,j<p→xs.getD j false≠y) :
  Calls Tryz.prog 112 #[v,.bool y] w fun e w'=>e = .returned (.int .i64 (p:Nat))∧Below w.heap.size w w':=by
 obtain⟨a1,c1,rfl,hc1,hm1,hr1⟩:=h1.form;obtain⟨b1,o1,rfl,-,hbl1,hcs1⟩:=hr1 (by omega);have Hcs:=qh hcs1;have Hno:=qh hno;replace hy:=qh hy;clear hr1 hcs1 hno h1
 go_enter Tryz.func112, Tryz.ntmps112
 go_wp2
 go_loopw [4,8] (fun r i wr=>∃ k:Nat,k≤p∧i = .int .i64 k∧Below w.heap.size w wr) (fun _ i _=>p+1-(intOf i).toNat)
 case atStart=>exact⟨0,Nat.zero_le _,rfl,Below.refl _ _⟩
 case round =>
  obtain⟨k,hk,rfl,hb⟩:=hrel;have hkl:(k:Int)<xs.length:=by omega
  have k1:=(bcell hb b1 (o1+k) hbl1).trans (Hcs.out k (by omega));obtain⟨z,hz⟩:=eI (xs.getD k false);rw[← hz] at k1;replace hb:=qh hb;by_cases he:k=p
  ·subst he;have hzy:z=y:=by rw[hz];exact hy.out
   subst hzy;have Hhz:=qh hz;clear hz;go_wp2;go_ret;exact⟨rfl,hb.out⟩
  have hne:z≠y:=by rw[hz];exact Hno.out k (by omega)
  have g1:(y==z)=false:=by simpa using hne.symm
  have g2:(z==y)=false:=by simpa using hne
  have Hhz:=qh hz;clear hz;have Hhne:=qh hne;clear hne;go_wp2;go_roundw
  case rel=>exact⟨k+1,by omega,by go_num,hb.out⟩
  case measure=>simp[intOf];omega
theorem ZkT (xs ys:List Int) (n:Nat) (v1 v2:Value) (w:World) (hx:xs.length=n) (hy:ys.length=n) (h1:Ints 0 w v1 xs) (h2:Ints 0 w v2 ys) (r:Bool) (hr:decide (xs=ys)=r) :
  Calls Tryz.prog 114 #[v1,v2] w fun e w'=>e = .returned (.bool r)∧Below w.heap.size w w':=by
 obtain⟨a1,c1,rfl,hc1,hm1,hr1⟩:=h1.form;obtain⟨a2,c2,rfl,hc2,hm2,hr2⟩:=h2.form;rw[hx] at hc1 hr1;rw[hy] at hc2 hr2;rw[hx,hy];have hnn:((n:Int) != n)=false:=by simp
 replace hx:=qh hx;have Hhy:=qh hy;clear hy;replace hr:=qh hr;clear h1 h2
 go_enter Tryz.func114, Tryz.ntmps114
 go_wp2
 go_loopw [4,13] (fun r i wr=>∃ k:Nat,k≤n∧i = .int .i64 k∧xs.take k=ys.take k∧Below w.heap.size w wr) (fun _ i _=>n-(intOf i).toNat)
 case atStart=>exact⟨0,Nat.zero_le _,rfl,rfl,Below.refl _ _⟩
 case round =>
  obtain⟨k,hk,rfl,htk,hb⟩:=hrel;have Hhtk:=qh htk;clear htk;by_cases hlt:k<n
  ·obtain⟨b1,o1,rfl,-,hbl1,hcs1⟩:=hr1 (by omega);obtain⟨b2,o2,rfl,-,hbl2,hcs2⟩:=hr2 (by omega);have k1:=(bcell hb b1 (o1+k) hbl1).trans (hcs1 k hlt);have k2:=(bcell hb b2 (o2+k) hbl2).trans (hcs2 k hlt);obtain⟨p,hp⟩:=eI (xs.getD k 0);obtain⟨q,hq⟩:=eI (ys.getD k 0);rw[← hp] at k1;rw[← hq] at k2;replace hp:=qh hp;have Hhq:=qh hq;clear hq;replace hb:=qh hb;clear hcs1 hcs2 hr1 hr2;by_cases hpq:p=q
   ·have g1:(p != q)=false:=by simpa using hpq
    have g2:(!(p==q))=false:=by simpa using hpq
    have g3:(p=q)=True:=by simpa using hpq
    have Hhpq:=qh hpq;clear hpq;go_wp2
    go_quiet (fail)
    go_wp2;go_roundw
    case rel=>exact⟨k+1,by omega,by go_num,Zh1 (d:=0) (by rw[hx.out];exact hlt) (by rw[Hhy.out];exact hlt) Hhtk.out (by rw[← hp.out,← Hhq.out];exact Hhpq.out),below_drewN hb.out _⟩
    case measure=>simp[intOf];omega
   have g1:(p != q)=true:=by simpa using hpq
   have g2:(!(p==q))=true:=by simpa using hpq
   have g3:(p=q)=False:=by simpa using hpq
   have Hhpq:=qh hpq;clear hpq;go_wp2
   go_quiet (fail)
   go_wp2;go_ret;exact⟨by rw[← hr.out,decide_eq_false (ZkH (k:=k) (d:=0) (by rw[← hp.out,← Hhq.out];exact Hhpq.out))];rfl,below_drewN hb.out _⟩
  obtain rfl:k=n:=by omega
  replace hb:=qh hb;clear hr1 hr2;go_wp2;go_ret;refine⟨?_,hb.out⟩;have h:=Hhtk.out;rw[List.take_of_length_le (by rw[hx.out];exact Nat.le_refl _),List.take_of_length_le (by rw[Hhy.out];exact Nat.le_refl _)] at h;rw[← hr.out,decide_eq_true h];rfl
def Zm7 (w:World) (b j:Nat):Nat:=match w.cell? ⟨b,j,none⟩ with
 | some v=>(intOf v).toNat
 | none=>0
theorem Zd6 {w:World} {b j t:Nat} (h:w.cell? ⟨b,j,none⟩=some (.int .i64 ((t:Nat):Int))):Zm7 w b j=t:=by unfold Zm7;rw[h];simp[intOf]
def Zok (w:World) (b n:Nat):Nat:=((List.range n).filter fun s=>decide (Zm7 w b s=s)).length
theorem ZjO {w:World} {b n:Nat} {cl:Nat→Nat} (h:∀ s,s<n→w.cell? ⟨b,s,none⟩=some (.int .i64 ((cl s:Nat):Int))):Zok w b n=reps n cl:=by
 unfold Zok reps;congr 1;refine List.filter_congr fun s hs => ?_
 rw[Zd6 (h s (List.mem_range.1 hs))]
def Zju:Value→Nat
 | .slice (some a) _ _=>a.block
 | _=>0
def Zoy:Value→Bool
 | .bool b=>b
 | _=>false
def RCl (d:DfaD) (w:World) (e:Ending) (w':World):Prop:=∃ b c,e = .returned (.slice (some ⟨b,0,none⟩) d.next.length c)∧St w w' [Ent.row 3 1 (.slice (some ⟨b,0,none⟩) d.next.length c) d.next.length (intCells (clsL d.next.length (clD d)))]
theorem Zgu (d:DfaD) (v:Value) (w:World) (hd:Zai d.next d.ends=true) (h:DfaR 0 w v d) :
  Calls Tryz.prog 77 #[v] w fun e w'=>RCl d w e w':=by
 have HR:=qh h;obtain⟨b1,o1,cv,b2,o2,cw,rfl,hC⟩:=ZhO hd h;have hnx:∀ s c,s<d.next.length→c<3→nxD d s c<d.next.length:=fun s c hs hc=>hC.lt s c hs hc
 obtain⟨N,hN,hNs,hNo⟩:=ZjE (n:=d.next.length) (nx:=nxD d) (enD d);obtain⟨C,hCC⟩:=eI (clAt d.next.length (nxD d) (enD d));have hfin:∀ s,s<d.next.length→C (N+1) s=clD d s:=fun s hs=>by rw[hCC,hNs s hs];exact(ZnS hnx hN hNs hs).symm
 have hgood:∀ i,GoodC d.next.length (C i):=fun i=>by rw[hCC];exact Zgl (enD d) i
 have hc0:∀ s,s<d.next.length→C 0 s≤s∧enD d (C 0 s)=enD d s∧∀ j,j<C 0 s→enD d j≠enD d s:=fun s hs=>by rw[hCC];exact Zds hs
 have hcs:∀ i s,s<d.next.length→C (i+1) s≤s∧Zb1 (nxD d) (C i) (C (i+1) s) s=true∧∀ j,j<C (i+1) s→Zb1 (nxD d) (C i) j s=false:=fun i s hs=>by rw[hCC];exact Za6 hs
 have hsd:∀ i,clsL d.next.length (C (i+1))=clsL d.next.length (C i)↔stays d.next.length (nxD d) (enD d) i:=fun i=>by rw[ZnR,hCC];exact Iff.rfl
 obtain⟨L,hL⟩:=eI (d.next.length);have hl1:=hC.l1;have hl2:=hC.l2;have hS0:=(St.start w).alloc _ rfl #[.slice (some ⟨b1,o1,none⟩) L cv,.slice (some ⟨b2,o2,none⟩) L cw] 32;unfold RCl;rw[← hL] at hl1 hl2 HR hN hgood hc0 hcs hsd hfin;rw[← hL];obtain⟨i0,hi,hz0,hz1,hz2⟩:=info_parts Tryz.infoInt;have HC:=qh hC;have Hgood:=qh hgood;have Hc0:=qh hc0;have Hcs:=qh hcs;have Hsd:=qh hsd;have Hfin:=qh hfin;have HNo:=qh hNo;have HNs:=qh hNs;replace hS0:=qh hS0;replace hL:=qh hL;replace hCC:=qh hCC;have Hhi:=qh hi;clear hi;have Hhz0:=qh hz0;clear hz0;have Hhz1:=qh hz1;clear hz1;have Hhz2:=qh hz2;clear hz2;clear hC hgood hc0 hcs hsd hfin hNo hNs hnx h
 go_enter Tryz.func77, Tryz.ntmps77
 have HD:=qh (show ∀ w1:World,w1.ownsRow (w.alloc (.cells #[.slice (some ⟨b1,o1,none⟩) L cv,.slice (some ⟨b2,o2,none⟩) L cw] 32)).heap.size 3 1 (.slice (some ⟨w.heap.size+1,0,none⟩) L L) L (intCells (padL L 0 (C 0)))→Below (w.alloc (.cells #[.slice (some ⟨b1,o1,none⟩) L cv,.slice (some ⟨b2,o2,none⟩) L cw] 32)).heap.size (w.alloc (.cells #[.slice (some ⟨b1,o1,none⟩) L cv,.slice (some ⟨b2,o2,none⟩) L cw] 32)) w1 →
   St w w1 [Ent.box w.heap.size #[.slice (some ⟨b1,o1,none⟩) L cv,.slice (some ⟨b2,o2,none⟩) L cw] 32,Ent.row 3 1 (.slice (some ⟨w.heap.size+1,0,none⟩) L L) L (intCells (padL L 0 (C 0)))] from fun w1 h1 h2=>hS0.out.made h2 h1)
 go_wp2_with (at_make;refine wpList_make_full _ rfl _ _ 59 rfl _ 3 i0 (.int .i64 0) 1 Tryz.underlying59 Hhi.out Hhz0.out Hhz1.out .i64 .i64 _ _ L rfl rfl rfl rfl (by rw[Hhz2.out];omega) (by unfold maxLen;omega) (Nat.le_refl _) ?_;intro w1 hown hgrow;have hm:=ZfU (C 0) hown;simp only[World.size_alloc] at hm;have HS1:=qh (HD.out w1 (by simpa only [World.size_alloc] using hm) ((Below.refl _ _).grown hgrow (Nat.le_refl _) (fun _ h=>by cases h)));clear hown hgrow hm)
 go_loopw [14] (fun i wr=>∃ s:Nat,i = .int .i64 s∧s≤L∧St w wr [Ent.box w.heap.size #[.slice (some ⟨b1,o1,none⟩) L cv,.slice (some ⟨b2,o2,none⟩) L cw] 32,Ent.row 3 1 (.slice (some ⟨w.heap.size+1,0,none⟩) L L) L (intCells (padL L s (C 0)))]) (fun i _=>L-(intOf i).toNat)
 case atStart=>exact⟨0,rfl,Nat.zero_le _,HS1.out⟩
 case round =>
  obtain⟨s,rfl,hs,hS⟩:=hrel;by_cases hlt:s<L
  ·have hlt2:(s:Int)<L:=by omega
   have hsn:s<d.next.length:=by have:=hL.out;omega
   have hen:=HC.out.en s hsn;have hci:=Hc0.out s hlt;have hpad:=Zfg (n:=L) (s:=s) (C 0);have hset:=Zff (n:=L) (s:=s) (C 0) 0 (C 0 s);rw[ZjS (C 0) hlt] at hS;rw[hpad] at hset;have hat:=ZcY (n:=L) (s:=s) (C 0) 0;have hix:=fun (w':World) (hb:Below w.heap.size w w') (z:Bool) (hz:z=enD d s)=>ZkO d.ends z (C 0 s) (.slice (some ⟨b2,o2,none⟩) L cw) w' (by obtain⟨u1,u2,hq,-,h2⟩:=HR.out;simp only[Value.agg.injEq,Array.mk.injEq,List.cons.injEq,and_true] at hq;rw[hq.2];exact h2.below hb) (by have:=HC.out.le;omega) (by rw[hz];exact hci.2.1) (fun j hj=>by rw[hz];exact hci.2.2 j hj)
   obtain⟨z,hz⟩:=eI (enD d s);rw[← hz] at hen;obtain⟨p,hp⟩:=eI (C 0 s);rw[← hp] at hset hix;have Hix:=qh fun (w':World) (hb:Below w.heap.size w w')=>hix w' hb z hz
   have Hen:=qh hen;obtain⟨X0,hX0⟩:=eI (intCells (padT L s (C 0) 0));obtain⟨X1,hX1⟩:=eI (intCells (padL L (s+1) (C 0)));rw[← hX0,← hX1] at hset;rw[← hX0] at hS hat;have HS:=qh hS;have Hhz:=qh hz;clear hz;have Hhp:=qh hp;clear hp;have Hhset:=qh hset;clear hset;have Hhat:=qh hat;clear hat;have HhX0:=qh hX0;clear hX0;have HhX1:=qh hX1;clear hX1;clear hS hix hen hci hpad;go_wp2;refine wp_region_any (by kernel_rfl) ?_
   refine Zam (fun A listed a w'=>∃ (l0 l1 l2 l3 l4 l5 l6 l7 l8 l9 l10 l11:Bool) ,listed=#[l0,l1,l2,l3,l4,l5,l6,l7,l8,l9,l10,l11] ∧
     a=⟨(((((((((((A.tmps.setIfInBounds 17 (if l0=true then .slice (some ⟨w.heap.size+1,0,none⟩) L L else A.tmps.getD 17 undef)).setIfInBounds 18 (if l1=true then .int .i64 (s:Int) else A.tmps.getD 18 undef)).setIfInBounds 19 (if l2=true then .pointer (some ⟨w.heap.size,1,none⟩) else A.tmps.getD 19 undef)).setIfInBounds 20 (if l3=true then .slice (some ⟨b2,o2,none⟩) L cw else A.tmps.getD 20 undef)).setIfInBounds 21 (if l4=true then .pointer (some ⟨w.heap.size,1,none⟩) else A.tmps.getD 21 undef)).setIfInBounds 22 (if l5=true then .slice (some ⟨b2,o2,none⟩) L cw else A.tmps.getD 22 undef)).setIfInBounds 23 (if l6=true then .int .i64 (s:Int) else A.tmps.getD 23 undef)).setIfInBounds 24 (if l7=true then .pointer (some ⟨b2,o2+s,none⟩) else A.tmps.getD 24 undef)).setIfInBounds 25 (if l8=true then .bool z else A.tmps.getD 25 undef)).setIfInBounds 26 (if l9=true then .int .i64 (p:Int) else A.tmps.getD 26 undef)).setIfInBounds 27 (if l10=true then .pointer (some ⟨w.heap.size+1,s,none⟩) else A.tmps.getD 27 undef)),A.defers⟩ ∧
     St w w' [Ent.box w.heap.size #[.slice (some ⟨b1,o1,none⟩) L cv,.slice (some ⟨b2,o2,none⟩) L cw] 32,Ent.row 3 1 (.slice (some ⟨w.heap.size+1,0,none⟩) L L) L (if l11=true then X1 else X0)]) ?_ ?_ ?_
   ·rintro listed a w' ⟨l0,l1,l2,l3,l4,l5,l6,l7,l8,l9,l10,l11,rfl,rfl,hS⟩ i hi;obtain⟨hun,o,ho,hall⟩:=mem_ready.1 hi;have hlt:=(Array.getElem?_eq_some_iff.1 ho).1;refine wpOp_step ho (fun K hK => ?_);clear hi;have HS:=qh hS;clear hS;simp only[List.setIfInBounds_toArray,List.set_cons_zero,List.set_cons_succ,Array.getD_eq_getD_getElem?,List.getElem?_toArray,List.getElem?_cons_zero,List.getElem?_cons_succ,Option.getD_some];obtain h|h|h|h|h|h|h|h|h|h|h|h:i=0∨i=1∨i=2∨i=3∨i=4∨i=5∨i=6∨i=7∨i=8∨i=9∨i=10∨i=11:=by simp at hlt;omega
    all_goals subst h
    all_goals simp only[List.getElem?_toArray,List.getElem?_cons_zero,List.getElem?_cons_succ,Option.some.injEq] at ho
    all_goals subst ho
    all_goals simp[Region.binds] at hun hall
    ·subst hun;go_simp;exact hK _ _ ⟨true,l1,l2,l3,l4,l5,l6,l7,l8,l9,l10,l11,rfl,(by simp),HS.out⟩
    ·subst hun;go_simp;exact hK _ _ ⟨l0,true,l2,l3,l4,l5,l6,l7,l8,l9,l10,l11,rfl,(by simp),HS.out⟩
    ·subst hun;go_simp;exact hK _ _ ⟨l0,l1,true,l3,l4,l5,l6,l7,l8,l9,l10,l11,rfl,(by simp),HS.out⟩
    ·obtain rfl:=hall;subst hun;have e0:=HS.out.cell (v:=.slice (some ⟨b2,o2,none⟩) L cw) 0 1 rfl rfl;go_simp;exact hK _ _ ⟨l0,l1,true,true,l4,l5,l6,l7,l8,l9,l10,l11,rfl,(by simp),HS.out⟩
    ·subst hun;go_simp;exact hK _ _ ⟨l0,l1,l2,l3,true,l5,l6,l7,l8,l9,l10,l11,rfl,(by simp),HS.out⟩
    ·obtain rfl:=hall;subst hun;have e0:=HS.out.cell (v:=.slice (some ⟨b2,o2,none⟩) L cw) 0 1 rfl rfl;go_simp;exact hK _ _ ⟨l0,l1,l2,l3,true,true,l6,l7,l8,l9,l10,l11,rfl,(by simp),HS.out⟩
    ·subst hun;go_simp;exact hK _ _ ⟨l0,l1,l2,l3,l4,l5,true,l7,l8,l9,l10,l11,rfl,(by simp),HS.out⟩
    ·obtain⟨rfl,rfl⟩:=hall;subst hun;go_simp;exact hK _ _ ⟨l0,l1,l2,l3,l4,true,true,true,l8,l9,l10,l11,rfl,(by simp),HS.out⟩
    ·obtain rfl:=hall;subst hun;have e0:=(bcell HS.out.bel b2 _ HC.out.hb2).trans Hen.out;go_simp;exact hK _ _ ⟨l0,l1,l2,l3,l4,l5,l6,true,true,l9,l10,l11,rfl,(by simp),HS.out⟩
    ·obtain⟨rfl,rfl⟩:=hall;subst hun;go_simp
     go_at_call 112
     refine(Hix.out _ HS.out.bel).mono ?_;rintro e u1 ⟨rfl,hbx⟩;have hS2:=HS.out.call hbx;have HhS2:=qh hS2;clear hS2;go_simp;exact hK _ _ ⟨l0,l1,l2,true,l4,l5,l6,l7,true,true,l10,l11,rfl,(by simp),HhS2.out⟩
    ·obtain⟨rfl,rfl,-,-,rfl,rfl,rfl,rfl,rfl,rfl,rfl,rfl⟩:=hall;subst hun;go_simp;exact hK _ _ ⟨true,true,true,true,true,true,true,true,true,true,true,l11,rfl,(by simp only[↓reduceIte,List.setIfInBounds_toArray,List.set_cons_zero,List.set_cons_succ]),HS.out⟩
    obtain⟨rfl,rfl,rfl,rfl,rfl,rfl,rfl,rfl,rfl,rfl,rfl,-⟩:=hall;subst hun;have f0:=HS.out.rfr 1 s rfl;have k0:=HS.out.rcell (v:=.int .i64 ((0:Nat):Int)) 1 s rfl (by omega) Hhat.out;have hS2:=HS.out.store 1 rfl s (.int .i64 (p:Int));simp only[List.set_cons_succ,List.set_cons_zero,Bool.false_eq_true,↓reduceIte,Hhset.out] at hS2;go_simp;exact hK _ _ ⟨true,true,true,true,true,true,true,true,true,true,true,true,rfl,(by simp only[↓reduceIte,List.setIfInBounds_toArray,List.set_cons_zero,List.set_cons_succ]),hS2⟩
   ·rintro listed a w' ⟨l0,l1,l2,l3,l4,l5,l6,l7,l8,l9,l10,l11,rfl,rfl,hS⟩ hr;have hall:=ZfL (by kernel_rfl) rfl hr;obtain rfl:l0=true:=by simpa using hall 0 (by simp)
    obtain rfl:l1=true:=by simpa using hall 1 (by simp)
    obtain rfl:l2=true:=by simpa using hall 2 (by simp)
    obtain rfl:l3=true:=by simpa using hall 3 (by simp)
    obtain rfl:l4=true:=by simpa using hall 4 (by simp)
    obtain rfl:l5=true:=by simpa using hall 5 (by simp)
    obtain rfl:l6=true:=by simpa using hall 6 (by simp)
    obtain rfl:l7=true:=by simpa using hall 7 (by simp)
    obtain rfl:l8=true:=by simpa using hall 8 (by simp)
    obtain rfl:l9=true:=by simpa using hall 9 (by simp)
    obtain rfl:l10=true:=by simpa using hall 10 (by simp)
    obtain rfl:l11=true:=by simpa using hall 11 (by simp)
    clear hall hr ;simp only[↓reduceIte] at hS ⊢;simp only[List.setIfInBounds_toArray,List.set_cons_zero,List.set_cons_succ];have HS9:=qh hS;clear hS;go_wp2;go_roundw
    case rel =>refine⟨s+1,by go_num,by omega,?_⟩;rw[← HhX1.out];exact HS9.out
    case measure=>simp[intOf];omega
   refine⟨false,false,false,false,false,false,false,false,false,false,false,false,rfl,(by simp),?_⟩;exact HS.out.drew
  obtain rfl:L=s:=by omega
  rw[Zhs] at hS;have HS2:=qh hS;clear hS;go_wp2
  go_loopw [3,5] (fun vc va wr=>∃ (i gc cc:Nat) (ag:Bool),vc = .slice (some ⟨gc,0,none⟩) L cc∧va = .bool ag∧((ag=true∧i≤N)∨(ag=false∧i=N+1)) ∧
    St w wr [Ent.box w.heap.size #[.slice (some ⟨b1,o1,none⟩) L cv,.slice (some ⟨b2,o2,none⟩) L cw] 32,Ent.row 3 1 (.slice (some ⟨gc,0,none⟩) L cc) L (intCells (clsL L (C i)))])
   (fun vc va wr=>if Zoy va=true then L+1-Zok wr (Zju vc) L else 0)
  case atStart=>exact⟨0,_,_,true,rfl,rfl,Or.inl ⟨rfl,Nat.zero_le _⟩,HS2.out⟩
  case round =>
   obtain⟨i,gc,cc,ag,rfl,rfl,hag,hS⟩:=hrel;obtain⟨wo,hwo⟩:∃ wo:World,wo=wr:=⟨_,rfl⟩;subst hwo;rcases hag with⟨rfl,hiN⟩|⟨rfl,rfl⟩
   ·have HS3:=qh hS;clear hS;go_wp2_with (at_make;refine wpList_make_full _ rfl _ _ 59 rfl _ 3 i0 (.int .i64 0) 1 Tryz.underlying59 Hhi.out Hhz0.out Hhz1.out .i64 .i64 _ _ L rfl rfl rfl rfl (by rw[Hhz2.out];omega) (by unfold maxLen;omega) (Nat.le_refl _) ?_;intro w1 hown hgrow;have HS4:=qh (HS3.out.made ((Below.refl _ _).grown hgrow (Nat.le_refl _) (fun _ h=>by cases h)) (ZfU (C (i+1)) hown));clear hown hgrow)
    go_loopw [35] (fun j wi=>∃ s:Nat,j = .int .i64 s∧s≤L∧St w wi [Ent.box w.heap.size #[.slice (some ⟨b1,o1,none⟩) L cv,.slice (some ⟨b2,o2,none⟩) L cw] 32,Ent.row 3 1 (.slice (some ⟨gc,0,none⟩) L cc) L (intCells (clsL L (C i))),Ent.row 3 1 (.slice (some ⟨wo.heap.size,0,none⟩) L L) L (intCells (padL L s (C (i+1))))]) (fun j _=>L-(intOf j).toNat)
    case atStart=>exact⟨0,rfl,Nat.zero_le _,HS4.out⟩
    case round =>
     obtain⟨s,rfl,hs,hS⟩:=hrel;by_cases hlt:s<L
     ·have hlt2:(s:Int)<L:=by omega
      have hsn:s<d.next.length:=by have:=hL.out;omega
      have hci:=Hcs.out i s hlt;have hcis:=hci.1;rw[ZjS _ hlt] at hS;have HS5:=qh hS;have Hci:=qh hci;clear hS hci;go_wp2
      go_loopw [] (fun wi=>∃ t:Nat,t≤C (i+1) s∧(∀ j,j<t→Zb1 (nxD d) (C i) j s=false)∧St w wi [Ent.box w.heap.size #[.slice (some ⟨b1,o1,none⟩) L cv,.slice (some ⟨b2,o2,none⟩) L cw] 32,Ent.row 3 1 (.slice (some ⟨gc,0,none⟩) L cc) L (intCells (clsL L (C i))),Ent.row 3 1 (.slice (some ⟨wo.heap.size,0,none⟩) L L) L (intCells (padT L s (C (i+1)) t))]) (fun wi=>L+1-Zm7 wi wo.heap.size s)
      case atStart=>exact⟨0,Nat.zero_le _,fun j hj=>absurd hj (by omega),HS5.out⟩
      case round =>
       obtain⟨t,ht,hno,hS⟩:=hrel;have htL:t<L:=by omega
       have htL2:(t:Int)<L:=by omega
       have htn:t<d.next.length:=by have:=hL.out;omega
       have c1:=hS.rcell (v:=.int .i64 ((t:Nat):Int)) 2 s rfl (by omega) (ZcY (C (i+1)) t);have c2:=hS.rcell (v:=.int .i64 ((C i t:Nat):Int)) 1 t rfl (by omega) (Zcr (C i) htL);have c3:=hS.rcell (v:=.int .i64 ((C i s:Nat):Int)) 1 s rfl (by omega) (Zcr (C i) hlt);have f1:=hS.rfr 2 s rfl;have hset:=Zff (n:=L) (s:=s) (C (i+1)) t (t+1);have hsr:=Zm0 d (C i) t s;have Hc1:=qh c1;have HS6:=qh hS;have Hno:=qh hno;have Hset:=qh hset;obtain⟨p,hp⟩:=eI (C i t);obtain⟨q,hq⟩:=eI (C i s);rw[← hp] at c2 hsr;rw[← hq] at c3 hsr;have Hhp:=qh hp;clear hp;have Hhq:=qh hq;clear hq;clear hno hset;by_cases he:p=q
       ·have g1:((p:Int) != (q:Int))=false:=by rw[he];simp
        have g2:((p:Int)=(q:Int))=True:=by simp[he]
        have g3:(!((p:Int)==(q:Int)))=false:=by rw[he];simp
        rw[decide_eq_true he,Bool.true_and] at hsr;have b0:=hS.cell (v:=.slice (some ⟨b1,o1,none⟩) L cv) 0 0 rfl rfl;have b3:=hS.cell (v:=.slice (some ⟨b2,o2,none⟩) L cw) 0 1 rfl rfl
        have hk:=fun (w':World) (hb:Below wr.heap.size wr w')=>(show w'.cell? ⟨wo.heap.size,s,none⟩=some (.int .i64 (t:Nat))∧w'.cell? ⟨gc,t,none⟩=some (.int .i64 (p:Nat))∧w'.cell? ⟨gc,s,none⟩=some (.int .i64 (q:Nat))∧w'.cell? ⟨w.heap.size,0,none⟩=some (.slice (some ⟨b1,o1,none⟩) L cv)∧w'.cell? ⟨w.heap.size,1,none⟩=some (.slice (some ⟨b2,o2,none⟩) L cw) from
         ⟨(bcell hb _ _ (hS.rowlt 2 rfl).2).trans c1,(bcell hb _ _ (hS.rowlt 1 rfl).2).trans c2,(bcell hb _ _ (hS.rowlt 1 rfl).2).trans c3,(bcell hb _ _ (hS.boxlt 0 rfl).2).trans b0,(bcell hb _ _ (hS.boxlt 0 rfl).2).trans b3⟩)
        have Hk:=qh hk;cases hr:Zhe d (C i) t s 3
        all_goals
         have hsw:=fun (w':World) (hb:Below wr.heap.size wr w')=>Zi1 d (C i) t s (.agg #[.slice (some ⟨b1,o1,none⟩) L cv,.slice (some ⟨b2,o2,none⟩) L cw]) (.slice (some ⟨gc,0,none⟩) L cc) w' hd htn hsn (fun x hx=>Nat.lt_of_le_of_lt ((Hgood.out i).le x (by rw[hL.out];exact hx)) hx) (HR.out.below (HS6.out.call hb).bel) (by rw[← hL.out];exact(HS6.out.call hb).intsC 1 rfl) _ hr
         rw[hr] at hsr;have Hsw:=qh hsw;have Hsm:=qh hsr;have Hhr:=qh hr;clear hr;have Hhe:=qh he;clear he;clear hS hk hsw hsr;go_wp2
         go_region_held3 (fun w'=>w'.cell? ⟨wo.heap.size,s,none⟩=some (.int .i64 (t:Nat))∧w'.cell? ⟨gc,t,none⟩=some (.int .i64 (p:Nat))∧w'.cell? ⟨gc,s,none⟩=some (.int .i64 (q:Nat))∧w'.cell? ⟨w.heap.size,0,none⟩=some (.slice (some ⟨b1,o1,none⟩) L cv)∧w'.cell? ⟨w.heap.size,1,none⟩=some (.slice (some ⟨b2,o2,none⟩) L cw))
          (first|go_keep|exact Hk.out _ hq0)
          (first
           | (go_at_call 113;(with_reducible refine(Hsw.out _ (Below.refl _ _).drew).mono ?_);rintro e v3 ⟨rfl,hq0'⟩;have hq0:Below wr.heap.size wr v3:=((Below.refl _ _).drew).trans hq0'))
        ·have HS6:=qh (HS6.out.call hq0);have z1:=HS6.out.rcell (v:=.int .i64 ((t:Nat):Int)) 2 s rfl (by omega) (ZcY (C (i+1)) t);have z2:=HS6.out.rfr 2 s rfl;clear hq0 hq0' b0 b3 c1 c2 c3 f1;go_wp2;go_roundw
         case rel =>
          refine⟨t+1,?_,?_,?_⟩
          ·rcases Nat.lt_or_ge t (C (i+1) s) with h|h
           ·exact h
           have he:t=C (i+1) s:=Nat.le_antisymm ht h;have h2:=Hci.out.2.1;rw[← he,Hsm.out] at h2;exact absurd h2 (by simp)
          ·intro j hj;by_cases e:j=t
           ·rw[e];exact Hsm.out
           exact Hno.out j (by omega)
          have h:=HS6.out.store 2 rfl s (.int .i64 ((t:Int)+1));rw[show((t:Int)+1)=((t+1:Nat):Int) by omega] at h;simp only[List.set_cons_succ,List.set_cons_zero,Hset.out] at h;exact h
         case measure =>have h:=HS6.out.store 2 rfl s (.int .i64 ((t:Int)+1));rw[show((t:Int)+1)=((t+1:Nat):Int) by omega] at h;simp only[List.set_cons_succ,List.set_cons_zero,Hset.out] at h;rw[show((t:Int)+1)=((t+1:Nat):Int) by omega,Zd6 (h.rcell (v:=.int .i64 ((t+1:Nat):Int)) 2 s rfl (by omega) (ZcY (C (i+1)) (t+1))),Zd6 Hc1.out];omega
        have HS6:=qh (HS6.out.call hq0);clear hq0 hq0' b0 b3 c1 c2 c3 f1;go_wp2;go_roundw
        case rel =>
         refine⟨s+1,by go_num,by omega,?_⟩
         have e:t=C (i+1) s:=by
          rcases Nat.lt_or_ge t (C (i+1) s) with h|h
          ·have h2:=Hci.out.2.2 t h;rw[Hsm.out] at h2;exact absurd h2 (by simp)
          exact Nat.le_antisymm ht h
         have h:=HS6.out;rw[e,Zfg] at h;exact h
        case measure=>simp[intOf];omega
       have g1:((p:Int) != (q:Int))=true:=by simp;omega
       have g2:((p:Int)=(q:Int))=False:=by simp;omega
       have g3:(!((p:Int)==(q:Int)))=true:=by simp;omega
       rw[decide_eq_false he,Bool.false_and] at hsr;have Hsm:=qh hsr;have Hhe:=qh he;clear he;clear hS hsr;go_wp2
       go_quiet (fail)
       have HS6:=qh (HS6.out.drewN nq);go_wp2;go_roundw
       case rel =>
        refine⟨t+1,?_,?_,?_⟩
        ·rcases Nat.lt_or_ge t (C (i+1) s) with h|h
         ·exact h
         have he:t=C (i+1) s:=Nat.le_antisymm ht h;have h2:=Hci.out.2.1;rw[← he,Hsm.out] at h2;exact absurd h2 (by simp)
        ·intro j hj;by_cases e:j=t
         ·rw[e];exact Hsm.out
         exact Hno.out j (by omega)
        have h:=HS6.out.store 2 rfl s (.int .i64 ((t:Int)+1));rw[show((t:Int)+1)=((t+1:Nat):Int) by omega] at h;simp only[List.set_cons_succ,List.set_cons_zero,Hset.out] at h;exact h
       case measure =>have h:=HS6.out.store 2 rfl s (.int .i64 ((t:Int)+1));rw[show((t:Int)+1)=((t+1:Nat):Int) by omega] at h;simp only[List.set_cons_succ,List.set_cons_zero,Hset.out] at h;rw[show((t:Int)+1)=((t+1:Nat):Int) by omega,Zd6 (h.rcell (v:=.int .i64 ((t+1:Nat):Int)) 2 s rfl (by omega) (ZcY (C (i+1)) (t+1))),Zd6 Hc1.out];omega
     obtain rfl:L=s:=by omega
     rw[Zhs] at hS;have HS5:=qh hS;clear hS
     have hreq:∀ (r:Bool),decide (clsL L (C (i+1))=clsL L (C i))=r→Calls Tryz.prog 114 #[.slice (some ⟨wo.heap.size,0,none⟩) L L,.slice (some ⟨gc,0,none⟩) L cc] wr fun e w'=>e = .returned (.bool r)∧Below wr.heap.size wr w' :=
      fun r hr=>ZkT (clsL L (C (i+1))) (clsL L (C i)) L _ _ wr (ZcA _ _) (ZcA _ _) (HS5.out.intsC 2 rfl) (HS5.out.intsC 1 rfl) r hr
     have hm0:=ZjO (w:=wo) (b:=gc) (n:=L) (cl:=C i) fun x hx=>HS3.out.rcell 1 x rfl (by omega) (Zcr (C i) hx)
     by_cases hiN:i=N
     ·have h1:=hreq true (by rw[decide_eq_true_eq,Hsd.out i,hiN,hL.out];exact HNs.out);have H1:=qh h1;have Hm0:=qh hm0;clear hreq h1 hm0;go_wp2_with fail;refine H1.out.mono ?_;rintro e v3 ⟨rfl,hb3⟩;have HS6:=qh (HS5.out.call hb3);clear hb3;go_wp2;go_roundw
      case rel=>exact⟨i+1,_,_,false,rfl,rfl,Or.inr ⟨rfl,by omega⟩,HS6.out.pick [0,2] (by decide)⟩
      case measure =>have:=Zi6 L (C i);simp only[Zoy,Zju,↓reduceIte,Bool.false_eq_true,Hm0.out];omega
     have hns:=HNo.out i (by omega);have h1:=hreq false (by rw[decide_eq_false_iff_not,Hsd.out i,hL.out];exact hns)
     have hmore:reps L (C i)<reps L (C (i+1)):=by
      have hex:∃ x,x<L∧C (i+1) x≠C i x:=by
       apply Classical.byContradiction;intro hc;refine hns fun x hx => ?_
       rw[← hCC.out];apply Classical.byContradiction;intro hcx;exact hc ⟨x,by rw[hL.out];exact hx,hcx⟩
      obtain⟨x,hx,hxne⟩:=hex;have hst:C (i+1)=Zaw L (nxD d) (C i):=by rw[hCC.out,hL.out];rfl
      rw[hst] at hxne ⊢;exact ZfJ (Hgood.out i) hx hxne
     have H1:=qh h1;have Hm0:=qh hm0;have Hmore:=qh hmore;have Hhns:=qh hns;clear hns;clear hreq h1 hm0 hmore;go_wp2_with fail;refine H1.out.mono ?_;rintro e v3 ⟨rfl,hb3⟩;have HS6:=qh (HS5.out.call hb3);clear hb3;go_wp2;go_roundw
     case rel=>exact⟨i+1,_,_,true,rfl,rfl,Or.inl ⟨rfl,by omega⟩,HS6.out.pick [0,2] (by decide)⟩
     case measure =>
      have h2:=ZjO (w:=v3) (b:=wo.heap.size) (n:=L) (cl:=C (i+1)) fun x hx=>HS6.out.rcell 2 x rfl (by omega) (Zcr (C (i+1)) hx)
      have h3:=Hmore.out;have h4:=Zi6 L (C i);simp only[Zoy,Zju,↓reduceIte,Hm0.out,h2];omega
   have hcl:intCells (clsL L (C (N+1)))=intCells (clsL L (clD d)):=by rw[ZgV Hfin.out]
   rw[hcl] at hS;have HS3:=qh hS;have Hhcl:=qh hcl;clear hcl;clear hS;go_wp2;go_ret;exact⟨gc,cc,rfl,HS3.out.pick [1] (by decide)⟩
def ZnZ (K:Nat) (es:List (Int × Int)) (o:Option DfaD):Prop:=(exOk es=true∧∃ t:Ex,t.post=es∧Zau K t=o)∨(exOk es=false∧o=none)
theorem Zki (K:Nat) (es:List (Int × Int)):∃ o,ZnZ K es o:=by
 cases h:exOk es with
 | true =>obtain⟨t,ht⟩:=parse h;exact⟨Zau K t,.inl ⟨h,t,ht,rfl⟩⟩
 | false=>exact⟨none,.inr ⟨h,rfl⟩⟩
theorem ZlD (bs:List Nat) (v:Value) (w:World) (hb:Bytes 0 w v bs) (hlen:bs.length≤100000000) :
  Calls Tryz.prog 24 #[v] w fun e w'=>∃ vb bs',bs'.length≤2000∧(∀ u:World,Bytes 0 u v bs→Bytes 0 u vb bs')∧e = .returned (.pointer (some ⟨w.heap.size,0,none⟩))∧St w w' [RdE w.heap.size vb 0]:=by
 obtain⟨a,c,rfl,hc1,hc2,-⟩:=hb.form;have Hb:=qh hb;clear hb;by_cases h2:2000<bs.length
 ·have q1:(2000:Int)<bs.length:=by omega
  have q2:(2000:Int)≤c:=by omega
  have hS:=(St.start w).alloc _ rfl #[.slice a 2000 c,.int .i64 0] 77;have HS:=qh hS;clear hS
  go_enter Tryz.func24, Tryz.ntmps24
  go_wp2;go_ret;exact⟨_,bs.take 2000,by rw[List.length_take];omega,fun u h=>h.take (by omega),rfl,HS.out⟩
 have q1:(2000<(bs.length:Int))=False:=by simp;omega
 have hS:=(St.start w).alloc _ rfl #[.slice a bs.length c,.int .i64 0] 77;have HS:=qh hS;have h2:bs.length≤2000:=by omega
 clear hS
 go_enter Tryz.func24, Tryz.ntmps24
 go_wp2;go_ret;exact⟨_,bs,h2,fun u h=>h,rfl,HS.out⟩
variable {P:Program}
theorem Zi7 {w:World} {B e size n cap m:Nat} {a:Option Addr} {cs:List Value} (h:w.ownsRow B e size (.slice a n cap) n cs) (hm:m≤n):w.ownsRow B e size (.slice a m cap) m (cs.take (m*size)):=by
 obtain⟨h1,h2⟩:=h;have hle:m*size≤n*size:=Nat.mul_le_mul_right size hm;refine⟨by rw[List.length_take,h1];omega,?_⟩;rcases h2 with⟨h3,h4⟩|⟨g,c,cur,h3,h4,h5,h6,h7,h8,h9⟩
 ·simp only[Value.slice.injEq] at h3;obtain⟨rfl,rfl,rfl⟩:=h3;obtain rfl:m=0:=by omega
  exact .inl ⟨rfl,rfl⟩
 simp only[Value.slice.injEq] at h3;obtain⟨rfl,-,rfl⟩:=h3;refine .inr ⟨g,cap,cur,rfl,h4,h5,by omega,h7,h8,?_⟩;rw[← h9,List.take_take,Nat.min_eq_left hle]
theorem St.cut {w0 w:World} {L:List Ent} (h:St w0 w L) (i:Nat) {e size n cap:Nat} {a:Option Addr} {cs:List Value} (hx:L[i]? = some (Ent.row e size (.slice a n cap) n cs)) (m:Nat) (hm:m≤n):St w0 w (L.set i (Ent.row e size (.slice a m cap) m (cs.take (m*size)))) :=
 h.same i hx _ (fun hb=>Zi7 hb hm) fun k hk=>by
  cases a with
  | none=>cases hk
  | some a=>exact hk
end Go.Proofs.YtehmjmjedopkkaaGreat
