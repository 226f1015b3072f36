/-
  The walks over the reference's WordAt (weak: some text), l20Near and DrawDeriveWord.
  Conditions: the reader is at hand, its bytes read as such; the list of parts reads as such.
-/
import Derived.Test.YtehmjmjedopkkaaGreatPd06Jy
import Derived.Test.YtehmjmjedopkkaaGreatPd10Jh
import Derived.Test.YtehmjmjedopkkaaGreatPd19Tsx
set_option maxHeartbeats 8000000
set_option maxRecDepth 100000
namespace Go.Proofs.YtehmjmjedopkkaaGreat
open Go.RowKit
theorem Zfz (n0:Nat) (hn:n0≤1000) (w:World):Calls Tryz.prog 57 #[.int .i64 (n0:Int)] w fun e w'=>∃ l b,isT l∧l.length≤9∧e = .returned (.tuple #[.string (txB l),.bool b])∧Below w.heap.size w w':=by
 go_enter Tryz.func57, Tryz.ntmps57
 go_wp2
 go_loopw [0,4,5] (fun nv sv kv wr=>∃ (n k:Nat) (l:List Nat),nv = .int .i64 (n:Int)∧kv = .int .i64 (k:Int)∧sv = .string (txB l)∧n≤1000∧k≤9∧l.length≤k∧isT l∧Below w.heap.size w wr) (fun _ _ kv _=>9-(intOf kv).toNat)
 case atStart=>exact⟨n0,0,[],rfl,rfl,rfl,hn,by omega,Nat.zero_le _,(fun b hb=>by cases hb),Below.refl _ _⟩
 case round =>
  obtain⟨n,k,l,rfl,rfl,rfl,hnn,hk,hl,ht,hb⟩:=hrel;have Ht:=qh ht;have HB:=qh hb;obtain⟨r,hr⟩:=eJ (wdOk l);have Hwv:=qh (Zba l wr ht (by omega) r hr);clear ht hb hr;by_cases hk8:k≤8
  ·have hk8I:(k:Int)≤8:=by omega
   by_cases hn0:0<n
   ·have hn0I:(0:Int)<(n:Int):=by omega
    obtain⟨m,hm⟩:∃ m:Nat,(n:Int)-1=(m:Int):=⟨n-1,by omega⟩;obtain⟨c,hc⟩:∃ c:Nat,c=m % 3:=⟨_,rfl⟩;obtain⟨p,hp⟩:∃ p:Nat,p=m / 3:=⟨_,rfl⟩;have hc3:c<3:=by omega
    have hrem:(m:Int).tmod 3=(c:Int):=by rw[hc];exact(Int.ofNat_tmod m 3).symm
    have hquo:(m:Int).tdiv 3=(p:Int):=by rw[Int.tdiv_eq_ediv_of_nonneg (by omega)];omega
    have hwm:IntKind.i64.wrap (m:Int)=(m:Int):=IntWalk.i64_in _ (by omega);have hwp:IntKind.i64.wrap (p:Int)=(p:Int):=IntWalk.i64_in _ (by omega);have hwc:IntKind.i64.wrap (c:Int)=(c:Int):=IntWalk.i64_in _ (by omega);have hw1:IntKind.i64.wrap (97+(c:Int))=97+(c:Int):=IntWalk.i64_in _ (by omega);have hw2:=ZhY c hc3;have hcv:=Zkh c hc3 (wr.alloc (.cells #[.int .u8 (97+(c:Int))] 5)) wr.heap.size 1 (Zg3 _ _ _ 0);have hb2:=HB.out.alloc HB.out.size (.cells #[.int .u8 (97+(c:Int))] 5);obtain⟨hadd,hnlt⟩:=Zkq [97+c] (txB l) (by simp) (by rw[ZbL];omega);rw[Zeu] at hadd;have hl2:([97+c]++l).length≤k+1:=by simp;omega
    have hpn:p≤1000:=by omega
    have hk9:k+1≤9:=by omega
    replace hb2:=qh hb2;have Hhc:=qh hc;clear hc;have Hhp:=qh hp;clear hp;have Hhl2:=qh hl2;clear hl2;go_wp2;go_roundw
    case rel=>exact⟨p,k+1,[97+c]++l,rfl,by go_num,rfl,hpn,hk9,Hhl2.out,(fun b hb=>by rcases List.mem_append.1 hb with h|h;(· rw[List.mem_singleton.1 h];omega);(· exact Ht.out b h)),hb2.out⟩
    case measure=>simp[intOf];omega
   obtain rfl:n=0:=by omega
   cases r
   ·go_wp2_with (go_at_call 32;refine Hwv.out.mono ?_;rintro e w' ⟨rfl,rfl⟩)
    go_ret2
    exact⟨[],false,(fun b hb=>by cases hb),by decide,rfl,HB.out⟩
   go_wp2_with (go_at_call 32;refine Hwv.out.mono ?_;rintro e w' ⟨rfl,rfl⟩)
   go_ret2
   exact⟨l,true,Ht.out,by omega,rfl,HB.out⟩
  obtain rfl:k=9:=by omega
  by_cases hn0:n=0
  ·subst hn0;cases r
   ·go_wp2_with (go_at_call 32;refine Hwv.out.mono ?_;rintro e w' ⟨rfl,rfl⟩)
    go_ret2
    exact⟨[],false,(fun b hb=>by cases hb),by decide,rfl,HB.out⟩
   go_wp2_with (go_at_call 32;refine Hwv.out.mono ?_;rintro e w' ⟨rfl,rfl⟩)
   go_ret2
   exact⟨l,true,Ht.out,by omega,rfl,HB.out⟩
  obtain⟨q1,q2,q3,q4⟩:=Zaj (show ¬ (n:Int)=0 by omega);go_wp2
  go_ret2
  exact⟨[],false,(fun b hb=>by cases hb),by decide,rfl,HB.out⟩
theorem Zjg (bs:List Nat) (vb:Value) (b p n:Nat) (w0 w:World) (X:Ent) (es:List (Int × Int)) (v:Value) (hel:es.length≤100) (hP:∀ (u:World) (p:Nat),St w0 u [RdE b vb p,X]→Pairs 0 u v es) (hb:Bytes 0 w0 vb bs) (hlen:bs.length≤2000) (hp:p≤1000) (hn1:n≤10000) (hS:St w0 w [RdE b vb p,X]) :
  Calls Tryz.prog 26 #[.pointer (some ⟨b,0,none⟩),v,.int .i64 ((n:Nat):Int)] w fun e w'=>∃ (l:List Nat) (p':Nat),isT l∧l.length≤10∧e = .returned (.string (txB l))∧St w0 w' [RdE b vb p',X]:=by
 have Hb:=qh hb;have HS:=qh hS;have HP:=qh hP;obtain⟨r,hr⟩:=eJ (exOk es);have HV:=qh (fun (u:World) (h:Pairs 0 u v es)=>Zbg es v u (by omega) h r hr);clear hb hS hP hr
 go_enter Tryz.func26, Tryz.ntmps26
 go_wp2_with fail;refine(Zin bs vb b p n w0 _ X Hb.out hlen (by omega) hn1 HS.out).mono ?_;rintro e w1 ⟨l,p1,ht,hl,hp1,rfl,hS1⟩;have HS1:=qh hS1;have Ht:=qh ht;clear hS1 ht;go_wp2_with fail;refine(Zay bs vb b p1 2 w0 _ _ Hb.out hlen (by omega) (by omega) (by omega) HS1.out).mono ?_;rintro e w2 ⟨j,hj,rfl,hS2⟩;have HS2:=qh hS2;clear hS2;obtain rfl|rfl:j=0∨j=1:=by omega
 ·go_wp2_with fail;refine(HV.out _ (HP.out _ _ HS2.out)).mono ?_;rintro e w3 ⟨rfl,hb3⟩;have HS3:=qh (HS2.out.call hb3);clear hb3;cases r with
  | false =>go_wp2;go_ret;exact⟨l,_,Ht.out,hl,rfl,HS3.out⟩
  | true =>
   go_wp2_with fail;refine(Zay bs vb b (p1+1) 30 w0 _ _ Hb.out hlen (by omega) (by omega) (by omega) HS3.out).mono ?_;rintro e w4 ⟨k0,hk0,rfl,hS4⟩;have HS4:=qh hS4;clear hS4;go_wp2
   go_loopw [8] (fun i wr=>∃ k:Nat,i = .int .i64 (k:Int)∧k≤364∧St w0 wr [RdE b vb (p1+1+1),X]) (fun i _=>364-(intOf i).toNat)
   case atStart=>exact⟨k0,rfl,by omega,HS4.out⟩
   case round =>
    obtain⟨k,rfl,hk,hS⟩:=hrel;have HSk:=qh hS;clear hS;by_cases hlt:k<364
    ·have hltI:(k:Int)<364:=by omega
     go_wp2_with fail;refine(Zfz k (by omega) _).mono ?_;rintro e w5 ⟨l5,b5,ht5,hl5,rfl,hb5⟩;have HS5:=qh (HSk.out.call hb5);have Ht5:=qh ht5;obtain⟨x,hx⟩:=Zo3 es l5;have HX:=qh (ZdJ es l5 v w5 x hx (HP.out _ _ HS5.out) ht5 (by omega) (by omega));clear hb5 ht5 hx;go_wp2_with fail;refine HX.out.mono ?_;rintro e w6 ⟨rfl,hb6⟩;have HS6:=qh (HS5.out.call hb6);clear hb6;cases x with
     | true =>go_wp2;go_ret;exact⟨l5,_,Ht5.out,by omega,rfl,HS6.out⟩
     | false =>
      go_wp2;go_roundw
      case rel=>exact⟨k+1,by go_num,by omega,HS6.out⟩
      case measure=>simp[intOf];omega
    obtain rfl:k=364:=by omega
    go_wp2;go_ret;exact⟨l,_,Ht.out,hl,rfl,HSk.out⟩
 go_wp2;go_ret;exact⟨l,_,Ht.out,hl,rfl,HS2.out⟩
theorem Zel (bs:List Nat) (v:Value) (w:World) (hb:Bytes 0 w v bs) (hlen:bs.length≤100000000) :
  Calls Tryz.prog 6 #[v] w fun e w'=>∃ (es:List (Int × Int)) (v:Value) (l:List Nat),es.length≤100∧isT l∧l.length≤10∧e = .returned (.tuple #[v,.string (txB l)])∧Pairs 0 w' v es∧Below w.heap.size w w':=by
 have Hb:=qh hb;clear hb
 go_enter Tryz.func6, Tryz.ntmps6
 go_wp2_with fail;refine(ZlD bs v _ Hb.out hlen).mono ?_;rintro e w1 ⟨vb,bs',hl',hB,rfl,hS'⟩;have hB1:=hB w Hb.out;have HB:=qh hB1;have HS1:=qh (hS'.add (Below.refl _ _) Ent.nil trivial fun k hk=>hk.elim);clear hS' hB hB1;go_wp2_with fail;refine(Znz bs' vb w.heap.size 0 14 w w1 _ HB.out hl' (by omega) (by omega) HS1.out).mono ?_;rintro e w2 ⟨v2,es,E,pn,hel,hpn,hh,rfl,hS2⟩;have HS2:=qh (hS2.pick [0,2] (by decide));have HH:=qh hh;clear hS2 hh;go_wp2_with fail;refine(Zjg bs' vb w.heap.size pn 14 w w2 E es v2 hel (fun u p hS=>HH.out.r hS 1 rfl) HB.out hl' (by omega) (by omega) HS2.out).mono ?_;rintro e w3 ⟨l,p',ht,hl,rfl,hS3⟩;have HS3:=qh hS3;have Ht:=qh ht;clear hS3 ht;go_wp2
 go_ret2
 exact⟨es,v2,l,hel,Ht.out,hl,rfl,HH.out.r HS3.out 1 rfl,HS3.out.bel⟩
def Zbe (x y:Ex):Ex:=if x = .zero∨y = .zero then .zero else if x = .one then y else if y = .one then x else .join x y
def Zcu (x y:Ex):Ex:=if x = .zero∨x=y then y else if y = .zero then x else .alt x y
def ZeO (x y:Ex):Ex:=if x = .zero∨y = .zero then .zero else if x=y then x else .both x y
def negS (x:Ex):Ex:=match x with
 | .neg a=>a
 | x => .neg x
def Zg9 (x:Ex):Ex:=if x = .zero∨x = .one then .one else match x with
 | .star a => .star a
 | x => .star x
def simE:Ex→Ex
 | .join a b=>Zbe (simE a) (simE b)
 | .alt a b=>Zcu (simE a) (simE b)
 | .both a b=>ZeO (simE a) (simE b)
 | .neg a=>negS (simE a)
 | .star a=>Zg9 (simE a)
 | t=>t
def hasE:Ex→Bool
 | .one=>true
 | .star _=>true
 | .join a b=>hasE a&&hasE b
 | .both a b=>hasE a&&hasE b
 | .alt a b=>hasE a||hasE b
 | .neg a => !hasE a
 | _=>false
def drvE (c:Nat):Ex→Ex
 | .ltr d=>if d.val=c then .one else .zero
 | .join a b=>if hasE a=true then Zcu (Zbe (drvE c a) (simE b)) (drvE c b) else Zbe (drvE c a) (simE b)
 | .alt a b=>Zcu (drvE c a) (drvE c b)
 | .both a b=>ZeO (drvE c a) (drvE c b)
 | .neg a=>negS (drvE c a)
 | .star a=>Zbe (drvE c a) (simE (.star a))
 | _ => .zero
theorem Zb7 (x y:Ex) (w:List Nat):memE (.join x y) w↔∃ u v,w=u++v∧memE x u∧memE y v:=Iff.rfl
theorem Zf6 (x y:Ex) (w:List Nat):memE (Zbe x y) w↔memE (.join x y) w:=by
 unfold Zbe;by_cases h1:x = .zero∨y = .zero
 ·rw[if_pos h1,Zb7];refine⟨fun h=>h.elim,?_⟩;rintro⟨u,v,-,hu,hv⟩;rcases h1 with rfl|rfl
  ·exact hu
  exact hv
 rw[if_neg h1];by_cases h2:x = .one
 ·rw[if_pos h2,Zb7];subst h2;constructor
  ·intro h;exact⟨[],w,rfl,rfl,h⟩
  rintro⟨u,v,rfl,hu,hv⟩;have hu:u=[]:=hu;rw[hu];exact hv
 rw[if_neg h2];by_cases h3:y = .one
 ·rw[if_pos h3,Zb7];subst h3;constructor
  ·intro h;exact⟨w,[],(List.append_nil w).symm,h,rfl⟩
  rintro⟨u,v,rfl,hu,hv⟩;have hv:v=[]:=hv;rw[hv,List.append_nil];exact hu
 rw[if_neg h3]
theorem Zge (x y:Ex) (w:List Nat):memE (Zcu x y) w↔memE x w∨memE y w:=by
 unfold Zcu;by_cases h1:x = .zero∨x=y
 ·rw[if_pos h1];refine⟨.inr,?_⟩;rintro(h|h)
  ·rcases h1 with rfl|rfl
   ·exact h.elim
   exact h
  exact h
 rw[if_neg h1];by_cases h2:y = .zero
 ·rw[if_pos h2];subst h2;exact⟨.inl,fun h=>h.elim id fun h=>h.elim⟩
 rw[if_neg h2];exact Iff.rfl
theorem ZiO (x y:Ex) (w:List Nat):memE (ZeO x y) w↔memE x w∧memE y w:=by
 unfold ZeO;by_cases h1:x = .zero∨y = .zero
 ·rw[if_pos h1];refine⟨fun h=>h.elim,?_⟩;rintro⟨hx,hy⟩;rcases h1 with rfl|rfl
  ·exact hx
  exact hy
 rw[if_neg h1];by_cases h2:x=y
 ·rw[if_pos h2];subst h2;exact⟨fun h=>⟨h,h⟩,fun h=>h.1⟩
 rw[if_neg h2];exact Iff.rfl
theorem ZjV (x:Ex) (w:List Nat):memE (negS x) w↔¬ memE x w:=by
 unfold negS
 split
 ·rename_i a;show memE a w↔¬ ¬ memE a w;exact Classical.not_not.symm
 exact Iff.rfl
theorem Zle {w:List Nat} {L:List Nat→Prop} (hL:∀ u,L u→u=[]):StarL L w↔w=[]:=by
 constructor
 ·rintro⟨ws,rfl,hw⟩
  induction ws with
  | nil=>rfl
  | cons u ws ih =>rw[List.flatten_cons,hL u (hw u (List.mem_cons_self ..)),ih fun x hx=>hw x (List.mem_cons_of_mem _ hx)];rfl
 rintro rfl;exact⟨[],rfl,by simp⟩
theorem Zkt {L:List Nat→Prop} {w:List Nat}:StarL (StarL L) w↔StarL L w:=by
 constructor
 ·rintro⟨ws,rfl,hw⟩
  induction ws with
  | nil=>exact⟨[],rfl,by simp⟩
  | cons u ws ih =>
   obtain⟨us,hu,h1⟩:=hw u (List.mem_cons_self ..);obtain⟨vs,hv,h2⟩:=ih fun x hx=>hw x (List.mem_cons_of_mem _ hx)
   refine⟨us++vs,?_,fun x hx => ?_⟩
   ·rw[List.flatten_cons,List.flatten_append,hu,hv]
   rcases List.mem_append.1 hx with h|h
   ·exact h1 x h
   exact h2 x h
 intro h;exact⟨[w],by simp,by simpa using h⟩
theorem Zla (x:Ex) (w:List Nat):memE (Zg9 x) w↔memE (.star x) w:=by
 unfold Zg9;by_cases h1:x = .zero∨x = .one
 ·rw[if_pos h1];refine(Zle (L:=memE x) fun u hu => ?_).symm;rcases h1 with rfl|rfl
  ·exact hu.elim
  exact hu
 rw[if_neg h1]
 split
 ·exact Zkt.symm
 exact Iff.rfl
theorem ZiW {L M:List Nat→Prop} (h:∀ u,L u↔M u) (w:List Nat):StarL L w↔StarL M w:=by
 have:L=M:=funext fun u=>propext (h u)
 rw[this]
theorem ZjI:∀ (t:Ex) (w:List Nat),memE (simE t) w↔memE t w:=by
 intro t
 induction t with
 | zero=>exact fun w=>Iff.rfl
 | one=>exact fun w=>Iff.rfl
 | ltr c=>exact fun w=>Iff.rfl
 | join a b ha hb =>intro w;show memE (Zbe (simE a) (simE b)) w↔_;rw[Zf6,Zb7,Zb7];exact exists_congr fun u=>exists_congr fun v=>and_congr_right fun _=>and_congr (ha u) (hb v)
 | alt a b ha hb =>intro w;show memE (Zcu (simE a) (simE b)) w↔_;rw[Zge];exact or_congr (ha w) (hb w)
 | both a b ha hb =>intro w;show memE (ZeO (simE a) (simE b)) w↔_;rw[ZiO];exact and_congr (ha w) (hb w)
 | neg a ha =>intro w;show memE (negS (simE a)) w↔_;rw[ZjV];exact not_congr (ha w)
 | star a ha =>intro w;show memE (Zg9 (simE a)) w↔_;rw[Zla];exact ZiW ha w
theorem Zj4:∀ t:Ex,hasE t=true↔memE t []:=by
 intro t
 induction t with
 | zero=>exact⟨fun h=>(by cases h),fun h=>h.elim⟩
 | one=>exact⟨fun _=>rfl,fun _=>rfl⟩
 | ltr c=>exact⟨fun h=>(by cases h),fun h=>(by cases (show([]:List Nat)=[c.val] from h))⟩
 | join a b ha hb =>
  show(hasE a&&hasE b)=true↔_;rw[Bool.and_eq_true,ha,hb,Zb7];constructor
  ·rintro⟨h1,h2⟩;exact⟨[],[],rfl,h1,h2⟩
  rintro⟨u,v,h,h1,h2⟩;obtain⟨rfl,rfl⟩:=List.append_eq_nil_iff.1 h.symm;exact⟨h1,h2⟩
 | alt a b ha hb =>show(hasE a||hasE b)=true↔_;rw[Bool.or_eq_true,ha,hb];exact Iff.rfl
 | both a b ha hb =>show(hasE a&&hasE b)=true↔_;rw[Bool.and_eq_true,ha,hb];exact Iff.rfl
 | neg a ha =>show(!hasE a)=true↔¬ memE a [];rw[← ha];simp
 | star a ha=>exact⟨fun _=>⟨[],rfl,by simp⟩,fun _=>rfl⟩
theorem Zku {L:List Nat→Prop} {c:Nat} {w:List Nat}:StarL L (c::w)↔∃ u v,w=u++v∧L (c::u)∧StarL L v:=by
 constructor
 ·rintro⟨ws,hw,h⟩
  induction ws with
  | nil=>cases hw
  | cons x ws ih =>
   cases x with
   | nil=>exact ih (by simpa using hw) fun y hy=>h y (List.mem_cons_of_mem _ hy)
   | cons d u =>rw[List.flatten_cons,List.cons_append] at hw;obtain⟨rfl,rfl⟩:=List.cons.inj hw;exact⟨u,ws.flatten,rfl,h _ (List.mem_cons_self ..),ws,rfl,fun y hy=>h y (List.mem_cons_of_mem _ hy)⟩
 rintro⟨u,v,rfl,h1,ws,rfl,h2⟩
 exact⟨(c::u)::ws,rfl,fun y hy=>by
  rcases List.mem_cons.1 hy with rfl|hy
  ·exact h1
  exact h2 y hy⟩
theorem ZnJ (c:Nat):∀ (t:Ex) (w:List Nat),memE (drvE c t) w↔memE t (c::w):=by
 intro t
 induction t with
 | zero=>exact fun w=>Iff.rfl
 | one=>exact fun w=>⟨fun h=>h.elim,fun h=>(by cases (show c::w=[] from h))⟩
 | ltr d =>
  intro w;show memE (if d.val=c then .one else .zero) w↔c::w=[d.val];by_cases h:d.val=c
  ·rw[if_pos h,h];show w=[]↔c::w=[c];simp
  rw[if_neg h];refine⟨fun h=>h.elim,fun h2 => ?_⟩;exact h (List.cons.inj h2).1.symm
 | join a b ha hb =>
  intro w;have hj:memE (Zbe (drvE c a) (simE b)) w↔∃ u v,w=u++v∧memE a (c::u)∧memE b v:=by rw[Zf6,Zb7];exact exists_congr fun u=>exists_congr fun v=>and_congr_right fun _=>and_congr (ha u) (ZjI b v)
  show memE (if hasE a=true then Zcu (Zbe (drvE c a) (simE b)) (drvE c b) else Zbe (drvE c a) (simE b)) w↔memE (.join a b) (c::w);rw[Zb7]
  have hcut:(∃ u v,c::w=u++v∧memE a u∧memE b v)↔(∃ u v,w=u++v∧memE a (c::u)∧memE b v)∨(memE a []∧memE b (c::w)):=by
   constructor
   ·rintro⟨u,v,h,h1,h2⟩;cases u with
    | nil=>exact .inr ⟨h1,by rw[h];exact h2⟩
    | cons d u =>obtain⟨rfl,rfl⟩:=List.cons.inj h;exact .inl ⟨u,v,rfl,h1,h2⟩
   rintro(⟨u,v,rfl,h1,h2⟩|⟨h1,h2⟩)
   ·exact⟨c::u,v,rfl,h1,h2⟩
   exact⟨[],c::w,rfl,h1,h2⟩
  rw[hcut];by_cases h:hasE a=true
  ·rw[if_pos h,Zge,hj,hb];exact or_congr_right ⟨fun g=>⟨(Zj4 a).1 h,g⟩,fun g=>g.2⟩
  rw[if_neg h,hj];exact⟨.inl,fun g=>g.elim id fun g=>absurd ((Zj4 a).2 g.1) h⟩
 | alt a b ha hb =>intro w;show memE (Zcu (drvE c a) (drvE c b)) w↔_;rw[Zge];exact or_congr (ha w) (hb w)
 | both a b ha hb =>intro w;show memE (ZeO (drvE c a) (drvE c b)) w↔_;rw[ZiO];exact and_congr (ha w) (hb w)
 | neg a ha =>intro w;show memE (negS (drvE c a)) w↔_;rw[ZjV];exact not_congr (ha w)
 | star a ha =>intro w;show memE (Zbe (drvE c a) (simE (.star a))) w↔StarL (memE a) (c::w);rw[Zf6,Zb7,Zku];exact exists_congr fun u=>exists_congr fun v=>and_congr_right fun _=>and_congr (ha u) (ZjI (.star a) v)
def drvW:List Nat→Ex→Option Ex
 | [],t=>some t
 | c::w,t=>if (drvE c t).post.length≤60 then drvW w (drvE c t) else none
theorem Zkb:∀ (u:List Nat) (t d:Ex),drvW u t=some d→∀ w,memE d w↔memE t (u++w)
 | [],t,d,h,w=>by obtain rfl:=Option.some.inj h;exact Iff.rfl
 | c::u,t,d,h,w=>by
  unfold drvW at h
  split at h
  ·rw[Zkb u (drvE c t) d h w,ZnJ];rfl
  cases h
def isK (es:List (Int × Int)) (k:Int):Bool:=decide (es.length=1)&&decide ((es.getD 0 (0,0)).1=k)
theorem Zl2 (t:Ex) (k:Int) (hk:k=1∨k=2):isK t.post k=true↔(k=1∧t = .zero)∨(k=2∧t = .one):=by
 have two:∀ (a b:List (Int × Int)) (p:Int × Int),1≤a.length→1≤b.length→isK (a++b++[p]) k=false:=fun a b p h1 h2=>by unfold isK;rw[decide_eq_false (by rw[List.length_append,List.length_append,List.length_singleton];omega),Bool.false_and]
 have one:∀ (a:List (Int × Int)) (p:Int × Int),1≤a.length→isK (a++[p]) k=false:=fun a p h1=>by unfold isK;rw[decide_eq_false (by rw[List.length_append,List.length_singleton];omega),Bool.false_and]
 have no:∀ t:Ex,t ≠ .zero→t ≠ .one→isK t.post k=false→(isK t.post k=true↔(k=1∧t = .zero)∨(k=2∧t = .one)):=fun t h1 h2 h3=>by rw[h3];exact⟨fun h=>(by cases h),fun h=>h.elim (fun h=>absurd h.2 h1) fun h=>absurd h.2 h2⟩
 cases t with
 | zero =>
  rcases hk with rfl|rfl
  ·exact⟨fun _ => .inl ⟨rfl,rfl⟩,fun _=>rfl⟩
  exact⟨fun h=>absurd h (by decide),fun h=>h.elim (fun h=>absurd h.1 (by decide)) fun h=>(by cases h.2)⟩
 | one =>
  rcases hk with rfl|rfl
  ·exact⟨fun h=>absurd h (by decide),fun h=>h.elim (fun h=>(by cases h.2)) fun h=>absurd h.1 (by decide)⟩
  exact⟨fun _ => .inr ⟨rfl,rfl⟩,fun _=>rfl⟩
 | ltr c =>refine no _ (by simp) (by simp) ?_;unfold isK;rw[decide_eq_false (p:=(((Ex.ltr c).post).getD 0 (0,0)).1=k) (by show ¬ (3:Int)=k;omega),Bool.and_false]
 | join a b=>exact no _ (by simp) (by simp) (two _ _ _ (Zap a) (Zap b))
 | alt a b=>exact no _ (by simp) (by simp) (two _ _ _ (Zap a) (Zap b))
 | both a b=>exact no _ (by simp) (by simp) (two _ _ _ (Zap a) (Zap b))
 | neg a=>exact no _ (by simp) (by simp) (one _ _ (Zap a))
 | star a=>exact no _ (by simp) (by simp) (one _ _ (Zap a))
theorem Zd9 (es:List (Int × Int)) (k:Int) (v:Value) (w:World) (h:Pairs 0 w v es) (r:Bool) (hr:isK es k=r) :
  Calls Tryz.prog 126 #[v,.int .i64 k] w fun e w'=>e = .returned (.bool r)∧w=w':=by
 obtain⟨a,c,rfl,hc1,hc2,hrd⟩:=h.form;clear h;unfold isK at hr;by_cases h1:es.length=1
 ·rw[decide_eq_true h1,Bool.true_and] at hr;obtain⟨b,o,rfl,-,hbl,hcs⟩:=hrd (by omega);have g1:=(hcs 0 (by omega)).1;obtain⟨p,hp⟩:=eI ((es.getD 0 (0,0)).1);rw[← hp] at g1 hr;have g1':w.cell? ⟨b,o,none⟩=some (.int .i64 p):=g1;obtain⟨n,hn⟩:=eI (es.length);rw[← hn] at h1 hc1;rw[← hn];subst h1;replace hn:=qh hn;have Hhp:=qh hp;clear hp;clear hcs hrd g1;by_cases hpk:p=k
  ·rw[decide_eq_true hpk] at hr;subst hr hpk
   go_enter Tryz.func126, Tryz.ntmps126
   go_wp2;go_ret;exact⟨ZaU (by simp),rfl⟩
  rw[decide_eq_false hpk] at hr;subst hr;obtain⟨q1,q2,q3,q4⟩:=Zaj hpk
  go_enter Tryz.func126, Tryz.ntmps126
  go_wp2;go_ret;exact⟨rfl,rfl⟩
 rw[decide_eq_false h1,Bool.false_and] at hr;subst hr;have h1I:¬ (es.length:Int)=1:=by omega
 obtain⟨q1,q2,q3,q4⟩:=Zaj h1I;clear hrd
 go_enter Tryz.func126, Tryz.ntmps126
 go_wp2;go_ret;exact⟨rfl,rfl⟩
theorem ZkL (xs ys:List (Int × Int)) (v1 v2:Value) (w:World) (hl:xs.length≤100000) (h1:Pairs 0 w v1 xs) (h2:Pairs 0 w v2 ys) :
  Calls Tryz.prog 127 #[v1,v2] w fun e w'=>e = .returned (.bool (decide (xs=ys)))∧Below w.heap.size w w':=by
 obtain⟨a1,c1,rfl,hc1,hc2,hr1⟩:=h1.form;obtain⟨a2,c2,rfl,hd1,hd2,hr2⟩:=h2.form;have Hr1:=qh hr1;have Hr2:=qh hr2;clear h1 h2 hr1 hr2;by_cases hln:xs.length=ys.length
 ·obtain⟨n,hn⟩:=eI (xs.length);have hn2:n=ys.length:=hn.trans hln;rw[← hn] at hc1 Hr1 hl ⊢;rw[← hn2] at hd1 Hr2 ⊢;replace hn:=qh hn;have Hhn2:=qh hn2;clear hn2;clear hln
  go_enter Tryz.func127, Tryz.ntmps127
  go_wp2
  go_loopw [5] (fun vi wr=>∃ i:Nat,vi = .int .i64 (i:Int)∧i≤n∧(∀ j,j<i→xs.getD j (0,0)=ys.getD j (0,0))∧Below w.heap.size w wr) (fun vi _=>n-(intOf vi).toNat)
  case atStart=>exact⟨0,rfl,Nat.zero_le _,fun j hj=>by omega,Below.refl _ _⟩
  case round =>
   obtain⟨i,rfl,hi,hsm,hb⟩:=hrel;have Hb:=qh hb;have Hsm:=qh hsm;clear hb hsm;by_cases hlt:i<n
   ·have hi1:(i:Int)<(n:Int):=by omega
    have hw1:IntKind.i64.wrap ((i:Int)+1)=(i:Int)+1:=IntWalk.i64_in _ (by omega);obtain⟨b1,o1,rfl,-,hl1,g1⟩:=Hr1.out (by omega);obtain⟨b2,o2,rfl,-,hl2,g2⟩:=Hr2.out (by omega);have k1:=(bcell Hb.out b1 _ hl1).trans (g1 i hlt).1;have k2:=(bcell Hb.out b1 _ hl1).trans (g1 i hlt).2;have k3:=(bcell Hb.out b2 _ hl2).trans (g2 i hlt).1;have k4:=(bcell Hb.out b2 _ hl2).trans (g2 i hlt).2;by_cases he:xs.getD i (0,0)=ys.getD i (0,0)
    ·rw[← he] at k3 k4;obtain⟨p,hp⟩:=eI (xs.getD i (0,0));rw[← hp] at k1 k2 k3 k4;obtain⟨x,y⟩:=p;simp only at k1 k2 k3 k4;have Hhp:=qh hp;clear hp;replace he:=qh he;clear g1 g2;go_wp2
     go_region
     go_wp2;go_roundw
     case rel =>
      refine⟨i+1,by simp,by omega,fun j hj => ?_,Hb.out.drew⟩;by_cases hji:j<i
      ·exact Hsm.out j hji
      obtain rfl:j=i:=by omega
      exact he.out
     case measure=>simp[intOf];omega
    have hne:decide (xs=ys)=false:=decide_eq_false fun h=>he (by rw[h])
    obtain⟨p,hp⟩:=eI (xs.getD i (0,0));obtain⟨q,hq⟩:=eI (ys.getD i (0,0));rw[← hp] at k1 k2 he;rw[← hq] at k3 k4 he;obtain⟨x,y⟩:=p;obtain⟨x',y'⟩:=q;simp only at k1 k2 k3 k4;have Hhne:=qh hne;clear hne;have Hhp:=qh hp;clear hp;have Hhq:=qh hq;clear hq;clear g1 g2;by_cases hx:x=x'
    ·have hy:y≠y':=fun h=>he (by rw[hx,h])
     subst hx;obtain⟨q1,q2,q3,q4⟩:=Zaj hy;replace he:=qh he;go_wp2
     go_region
     go_wp2;go_ret;exact⟨ZaU Hhne.out.symm,Hb.out.drew⟩
    obtain⟨q1,q2,q3,q4⟩:=Zaj hx;replace he:=qh he;go_wp2
    go_region
    go_wp2;go_ret;exact⟨ZaU Hhne.out.symm,Hb.out.drew⟩
   obtain rfl:i=n:=by omega
   have hi1:¬ (i:Int)<(i:Int):=by omega
   have hy:decide (xs=ys)=true:=decide_eq_true (List.ext_getElem (by rw[← hn.out,← Hhn2.out]) fun j h1 h2=>by
    have:=Hsm.out j (by rw[hn.out];exact h1)
    rwa [List.getD_eq_getElem?_getD,List.getElem?_eq_getElem h1,List.getD_eq_getElem?_getD,List.getElem?_eq_getElem h2] at this)
   have Hhy:=qh hy;clear hy;go_wp2;go_ret;exact⟨ZaU Hhy.out.symm,Hb.out⟩
 have hne:decide (xs=ys)=false:=decide_eq_false fun h=>hln (by rw[h])
 have hnI:¬ (xs.length:Int)=(ys.length:Int):=by omega
 obtain⟨q1,q2,q3,q4⟩:=Zaj hnI;have Hhne:=qh hne;clear hne
 go_enter Tryz.func127, Tryz.ntmps127
 go_wp2;go_ret;exact⟨ZaU Hhne.out.symm,Below.refl _ _⟩
end Go.Proofs.YtehmjmjedopkkaaGreat
