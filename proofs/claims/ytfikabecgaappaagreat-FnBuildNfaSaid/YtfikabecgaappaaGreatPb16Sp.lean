/-
  The smallest automaton, plain: classes of an automaton and of its reachable part agree; both ways of making it small are the same.
  No condition: this text speaks of no program.
-/
import Derived.Test.YtfikabecgaappaaGreatPb15Mi
set_option maxHeartbeats 4000000
set_option maxRecDepth 100000
namespace Go.Proofs.YtfikabecgaappaaGreat
open Go.RowKit
theorem Zkn {n m:Nat} {nx nx':Nat→Nat→Nat} {en en':Nat→Bool} (φ:Nat→Nat) (hφ:∀ i,i<m→φ i<n) (hst:∀ i c,i<m→c<3→nx' i c<m∧φ (nx' i c)=nx (φ i) c) (hen:∀ i,i<m→en' i=en (φ i)) :
  ∀ (r:Nat) {i j:Nat},i<m→j<m→(clAt m nx' en' r i=clAt m nx' en' r j↔clAt n nx en r (φ i)=clAt n nx en r (φ j))
 | 0,i,j,hi,hj=>by rw[ZiW hi hj,ZiW (hφ i hi) (hφ j hj),hen i hi,hen j hj]
 | r+1,i,j,hi,hj=>by
  have ih:=fun {i j:Nat} (hi:i<m) (hj:j<m)=>Zkn φ hφ hst hen r hi hj
  show ZaD m nx' (clAt m nx' en' r) i=ZaD m nx' (clAt m nx' en' r) j↔ZaD n nx (clAt n nx en r) (φ i)=ZaD n nx (clAt n nx en r) (φ j);rw[ZcJ hi hj,ZcJ (hφ i hi) (hφ j hj),ZaH,ZaH,ih hi hj];constructor
  ·rintro⟨h1,h2⟩;refine⟨h1,fun c hc => ?_⟩;have h:=(ih (hst i c hi hc).1 (hst j c hj hc).1).1 (h2 c hc)
   rwa [(hst i c hi hc).2,(hst j c hj hc).2] at h
  rintro⟨h1,h2⟩;refine⟨h1,fun c hc=>(ih (hst i c hi hc).1 (hst j c hj hc).1).2 ?_⟩;rw[(hst i c hi hc).2,(hst j c hj hc).2];exact h2 c hc
theorem ZmS {n m:Nat} {nx nx':Nat→Nat→Nat} {en en':Nat→Bool} (φ:Nat→Nat) (hmn:m≤n) (hφ:∀ i,i<m→φ i<n) (hst:∀ i c,i<m→c<3→nx' i c<m∧φ (nx' i c)=nx (φ i) c) (hen:∀ i,i<m→en' i=en (φ i)) {i j:Nat} (hi:i<m) (hj:j<m) :
  Zel m nx' en' i=Zel m nx' en' j↔Zel n nx en (φ i)=Zel n nx en (φ j):=by
 have hin:∀ s c,s<m→c<3→nx' s c<m:=fun s c hs hc=>(hst s c hs hc).1
 have hs:=Zgu hin en';have e1:=Zdd hin hs n hmn i hi;have e2:=Zdd hin hs n hmn j hj;show clAt m nx' en' m i=clAt m nx' en' m j↔_;rw[← e1,← e2];exact Zkn φ hφ hst hen n hi hj
def clD (d:DfaD) (s:Nat):Nat:=Zel d.next.length (nxD d) (enD d) s
def nxM (d:DfaD) (s:Int) (c:Nat):Int:=(clD d (nxD d s.toNat c):Nat)
def minD (d:DfaD):DfaD:=Zau (nxM d) (den d) (bat (nxM d) ((clD d 0:Nat):Int) d.next.length).met
def ZdO (x:DfaD):DfaD:=⟨(List.range x.next.length).map fun k=>(List.range 3).map fun c=>((clD x (nxD x k c):Nat):Int),x.ends⟩
def ZaK (d:DfaD):DfaD:=Zbi (ZdO (Zbi d))
theorem Zbg {d:DfaD} (s:Nat) (hs:s<d.next.length):clD d s≤s∧clD d (clD d s)=clD d s:=by have h:=Zgv (n:=d.next.length) (nx:=nxD d) (enD d) d.next.length;exact⟨h.le s hs,h.id s hs⟩
def phiD (d:DfaD) (i:Nat):Nat:=((bat (dnx d) 0 d.next.length).met.getD i 0).toNat
theorem ZgR {d:DfaD} (hd:fine d):fine (Zbi d)∧(Zbi d).next.length≤d.next.length∧(∀ i,i<(Zbi d).next.length→phiD d i<d.next.length) ∧
  (∀ i c,i<(Zbi d).next.length→c<3→nxD (Zbi d) i c<(Zbi d).next.length∧phiD d (nxD (Zbi d) i c)=nxD d (phiD d i) c)∧(∀ i,i<(Zbi d).next.length→enD (Zbi d) i=enD d (phiD d i))∧phiD d 0=0:=by
 obtain⟨h1,h2⟩:=ZcN hd d.next.length;have hf:=Zed (nx:=dnx d) (a:=(0:Int)) (en:=den d) h2 (by have:=hd.2.1;omega);have hl:(Zbi d).next.length=(bat (dnx d) 0 d.next.length).met.length:=ZaM _ _ _;have hphi:∀ i,i<(bat (dnx d) 0 d.next.length).met.length→(bat (dnx d) 0 d.next.length).met.getD i 0=((phiD d i:Nat):Int)∧phiD d i<d.next.length:=fun i hi=>by obtain⟨a,b⟩:=h1 _ (memD (d:=0) hi);unfold phiD;omega
 refine⟨hf,by rw[hl];exact h2,fun i hi=>(hphi i (by rw[← hl];exact hi)).2,fun i c hi hc => ?_,fun i hi => ?_,?_⟩
 ·have hi':i<(bat (dnx d) 0 d.next.length).met.length:=by rw[← hl];exact hi
  refine⟨(Zco hf hi hc).1,?_⟩;obtain⟨p1,p2⟩:=hphi i hi';have hn:nxD (Zbi d) i c=Zao (bat (dnx d) 0 d.next.length).met (dnx d ((bat (dnx d) 0 d.next.length).met.getD i 0) c):=by unfold nxD Zbi;rw[ZeB (a:=(0:Int)) hi',ZfW hc,Int.toNat_natCast]
  have hm:=Zdz (nx:=dnx d) (a:=(0:Int)) h2 (memD (d:=0) hi') hc;rw[hn];unfold phiD;rw[Zka hm,p1,(Zco hd p2 hc).2,Int.toNat_natCast];rfl
 ·have hi':i<(bat (dnx d) 0 d.next.length).met.length:=by rw[← hl];exact hi
  unfold enD Zbi phiD;simp[Zau,hi',den]
 unfold phiD;rw[Zgz];rfl
theorem Zg6 {x:DfaD} (hx:fine x):fine (ZdO x)∧(ZdO x).next.length=x.next.length∧∀ k c,k<x.next.length→c<3→dnx (ZdO x) (k:Int) c=((clD x (nxD x k c):Nat):Int):=by
 have hl:(ZdO x).next.length=x.next.length:=by simp[ZdO]
 have hr:∀ k,k<x.next.length→(ZdO x).next.getD k []=(List.range 3).map fun c=>((clD x (nxD x k c):Nat):Int):=fun k hk=>by simp[ZdO,hk]
 have hc:∀ k c,k<x.next.length→c<3→((ZdO x).next.getD k []).getD c 0=((clD x (nxD x k c):Nat):Int):=fun k c hk hc=>by rw[hr k hk];simp[hc]
 refine⟨⟨by rw[hl];exact hx.1,by rw[hl];exact hx.2.1,by rw[hl];exact hx.2.2.1,fun i hi => ?_⟩,hl,fun k c hk h3 => ?_⟩
 ·rw[hl] at hi;refine⟨by rw[hr i hi];simp,fun c h3 => ?_⟩;rw[hc i c hi h3,hl];have h1:=(Zco hx hi h3).1;have h2:=(Zbg (nxD x i c) h1).1;omega
 unfold dnx;rw[Int.toNat_natCast];exact hc k c hk h3
theorem Zcj {d:DfaD} (hd:fine d):ZaK d=minD d:=by
 obtain⟨hx,hmn,hφ,hst,hen,hφ0⟩:=ZgR hd;obtain⟨x,hxe⟩:=eI (Zbi d);unfold ZaK;rw[← hxe] at hx hmn hφ hst hen ⊢;obtain⟨hff,hfl,hfn⟩:=Zg6 hx;have hm0:0<x.next.length:=hx.1;have hsim:=fun {i j:Nat} (hi:i<x.next.length) (hj:j<x.next.length)=>ZmS (n:=d.next.length) (m:=x.next.length) (nx:=nxD d) (nx':=nxD x) (en:=enD d) (en':=enD x) (phiD d) hmn hφ hst hen hi hj
 have hdin:∀ s c,s<d.next.length→c<3→nxD d s c<d.next.length:=fun s c hs hc=>(Zco hd hs hc).1
 have hmet:=(ZcN hff x.next.length).2;rw[hfl] at hmet;have hbat:bat (dnx (ZdO x)) 0 d.next.length=bat (dnx (ZdO x)) 0 x.next.length:=ZcB hmet hmn
 have key:=Zc3 (nx:=dnx (ZdO x)) (nx':=nxM d) (a:=(0:Int)) (f:=fun j:Int=>((clD d (phiD d j.toNat):Nat):Int)) (Q:=fun j=>∃ k:Nat,j=(k:Int)∧k<x.next.length∧clD x k=k) (en:=den (ZdO x)) (en':=den d) (K:=d.next.length)
  ⟨0,rfl,hm0,Nat.le_zero.1 (Zbg 0 hm0).1⟩ ?_ ?_ ?_ ?_
 ·unfold Zbi minD;rw[hfl,← hbat,← key];have e:((clD d (phiD d (0:Int).toNat):Nat):Int)=((clD d 0:Nat):Int):=by show((clD d (phiD d 0):Nat):Int)=_;rw[hφ0]
  simp only[e]
 ·rintro j c hc ⟨k,rfl,hk,-⟩;rw[hfn k c hk hc];have h1:=(Zco hx hk hc).1;obtain⟨h2,h3⟩:=Zbg (nxD x k c) h1;exact⟨_,rfl,by omega,h3⟩
 ·rintro j j' ⟨k,rfl,hk,hr⟩ ⟨k',rfl,hk',hr'⟩ h;simp only[Int.toNat_natCast] at h;have h1:clD d (phiD d k)=clD d (phiD d k'):=by omega
  have h2:clD x k=clD x k':=(hsim hk hk').2 h1;rw[hr,hr'] at h2;rw[h2]
 ·rintro j c hc ⟨k,rfl,hk,-⟩;rw[hfn k c hk hc];obtain⟨h1,-⟩:=Zco hx hk hc;obtain⟨h2,h3⟩:=Zbg (nxD x k c) h1;simp only[Int.toNat_natCast,nxM];have a1:clD d (phiD d (clD x (nxD x k c)))=clD d (phiD d (nxD x k c)):=(hsim (by omega) h1).1 h3;rw[a1,(hst k c hk hc).2];obtain⟨h4,h5⟩:=Zbg (phiD d k) (hφ k hk);have a2:clD d (nxD d (clD d (phiD d k)) c)=clD d (nxD d (phiD d k) c):=Zh1 hdin (en:=enD d) (s:=clD d (phiD d k)) (t:=phiD d k) (by have:=hφ k hk;omega) (hφ k hk) h5 c hc;rw[a2]
 rintro j ⟨k,rfl,hk,-⟩;obtain⟨h4,h5⟩:=Zbg (phiD d k) (hφ k hk);have a:=ZcU (n:=d.next.length) (nx:=nxD d) (en:=enD d) (s:=clD d (phiD d k)) (t:=phiD d k) (by have:=hφ k hk;omega) (hφ k hk) h5;simp only[Int.toNat_natCast];show enD d (((clD d (phiD d k):Nat):Int).toNat)=enD x (((k:Nat):Int).toNat);rw[Int.toNat_natCast,Int.toNat_natCast,a,hen k hk]
def clsL (n:Nat) (cl:Nat→Nat):List Int:=(List.range n).map fun s=>(cl s:Int)
theorem ZcA (n:Nat) (cl:Nat→Nat):(clsL n cl).length=n:=by simp[clsL]
theorem ZjH {n s:Nat} (cl:Nat→Nat) (h:s<n):(clsL n cl).getD s 0=(cl s:Int):=by simp[clsL,h]
def Zho (d:DfaD) (cl:Nat→Nat) (s o:Nat) (k:Nat):Bool:=(List.range k).all fun c=>decide (cl (nxD d s c)=cl (nxD d o c))
theorem Zkv (d:DfaD) (cl:Nat→Nat) (s o k:Nat):Zho d cl s o (k+1)=(Zho d cl s o k&&decide (cl (nxD d s k)=cl (nxD d o k))):=by unfold Zho;rw[List.range_succ,List.all_append];simp
theorem Znl {d:DfaD} {cl:Nat→Nat} {s o k:Nat} (hk:k<3) (h:cl (nxD d s k)≠cl (nxD d o k)):Zho d cl s o 3=false:=by
 cases he:Zho d cl s o 3 with
 | false=>rfl
 | true =>have:=List.all_eq_true.1 he k (List.mem_range.2 hk);exact absurd (by simpa using this) h
theorem Zja (d:DfaD) (cl:Nat→Nat) (s o:Nat) (dv cv:Value) (w:World) (hd:Zak d.next d.ends=true) (hs:s<d.next.length) (ho:o<d.next.length) (hcl:∀ t,t<d.next.length→cl t<d.next.length) (h:DfaR 0 w dv d) (hc:Ints 0 w cv (clsL d.next.length cl)) (r:Bool) (hr:Zho d cl s o 3=r) :
  Calls Tryz.prog 150 #[dv,cv,.int .i64 s,.int .i64 o] w fun e w'=>e = .returned (.bool r)∧Below w.heap.size w w':=by
 obtain⟨v1,v2,rfl,q1,q2⟩:=h;have hf:=ZaP hd;obtain⟨L,hL⟩:=eI (d.next.length);obtain⟨hl1,hl2,-⟩:=Zaj hd;have hrow:=fun (i:Nat) (hi:i<d.next.length)=>(ZaV hd hi).1
 have hnx:=fun (i c:Nat) (hi:i<d.next.length) (h3:c<3)=>(Zco hf hi h3)
 obtain⟨av,cvv,rfl,hc1,hc2,hr1⟩:=q1.formI;obtain⟨b1,o1,rfl,-,hb1,hcs1⟩:=hr1 (by omega);obtain⟨ac,cc,rfl,hc3,hc4,hr2⟩:=hc.form;rw[ZcA] at hc3 hr2;rw[ZcA];obtain⟨b2,o2,rfl,-,hb2,hcs2⟩:=hr2 (by omega);have hcell:∀ t,t<d.next.length→w.cell? ⟨b2,o2+t,none⟩=some (.int .i64 (cl t:Nat)):=fun t ht=>by rw[hcs2 t ht,ZjH cl ht]
 obtain⟨ax,cs,hks,-,-,hIs⟩:=hcs1 s hs;obtain⟨ao,co,hko,-,-,hIo⟩:=hcs1 o ho;rw[hrow s hs] at hks hIs;rw[hrow o ho] at hko hIo;obtain⟨_,_,hform,-,-,hrs⟩:=hIs.form;rw[hrow s hs] at hform hrs;simp only[Value.slice.injEq,true_and] at hform;obtain⟨rfl,rfl⟩:=hform;obtain⟨b3,o3,rfl,-,hb3,hcs3⟩:=hrs (by omega);obtain⟨_,_,hform,-,-,hro⟩:=hIo.form;rw[hrow o ho] at hform hro;simp only[Value.slice.injEq,true_and] at hform;obtain⟨rfl,rfl⟩:=hform;obtain⟨b4,o4,rfl,-,hb4,hcs4⟩:=hro (by omega)
 have hval:∀ i c,i<d.next.length→c<3→(d.next.getD i []).getD c 0=((nxD d i c:Nat):Int):=fun i c hi h3=>by
  have:=(hnx i c hi h3).2;unfold dnx at this
  rwa [Int.toNat_natCast] at this
 have hS0:=(St.start w).alloc _ rfl #[.slice (some ⟨b1,o1,none⟩) d.next.length cvv,v2] 37;have Hnx:=qh hnx;have Hval:=qh hval;have Hcell:=qh hcell;have Hks:=qh hks;have Hko:=qh hko;have Hcs3:=qh hcs3;have Hcs4:=qh hcs4;have Hcl:=qh hcl;rw[← hL] at hs ho hl1 hl2 hS0;rw[← hL];have hsI:(s:Int)<L:=by omega
 have hoI:(o:Int)<L:=by omega
 replace hS0:=qh hS0;have Hhr:=qh hr;clear hr;replace hL:=qh hL;clear hnx hval hcell hks hko hcs3 hcs4 hcl hcs1 hcs2 hr1 hr2 hrs hro hIs hIo q1 q2 hc hd hrow hf
 go_enter Tryz.func150, Tryz.ntmps150
 go_wp2
 go_loopw [10] (fun i wr=>∃ k:Nat,i = .int .i64 k∧k≤3∧Zho d cl s o k=true∧St w wr [Ent.box w.heap.size #[.slice (some ⟨b1,o1,none⟩) L cvv,v2] 37]) (fun i _=>3-(intOf i).toNat)
 case atStart=>exact⟨0,rfl,by omega,rfl,hS0.out⟩
 case round =>
  obtain⟨k,rfl,hk,hsm,hS⟩:=hrel;by_cases hlt:k<3
  ·have hlt2:(k:Int)<3:=by omega
   have hsn:s<d.next.length:=by have:=hL.out;omega
   have hon:o<d.next.length:=by have:=hL.out;omega
   have h1:=(Hnx.out s k hsn hlt).1;have h2:=(Hnx.out o k hon hlt).1;have e0:=hS.cell (v:=.slice (some ⟨b1,o1,none⟩) L cvv) 0 0 rfl rfl;have e1:=(bcell hS.bel b1 _ hb1).trans Hks.out;have e2:=(bcell hS.bel b1 _ hb1).trans Hko.out;have e3:=(bcell hS.bel b3 _ hb3).trans (Hcs3.out k hlt);have e4:=(bcell hS.bel b4 _ hb4).trans (Hcs4.out k hlt);rw[Hval.out s k hsn hlt] at e3;rw[Hval.out o k hon hlt] at e4;have e5:=(bcell hS.bel b2 _ hb2).trans (Hcell.out _ h1);have e6:=(bcell hS.bel b2 _ hb2).trans (Hcell.out _ h2);have hsucc:=Zkv d cl s o k;obtain⟨p,hp⟩:=eI (nxD d s k);obtain⟨q,hq⟩:=eI (nxD d o k);rw[← hp] at h1 e3 e5 hsucc;rw[← hq] at h2 e4 e6 hsucc;rw[hsm,Bool.true_and] at hsucc;rw[← hL.out] at h1 h2;have hpI:(p:Int)<L:=by omega
   have hqI:(q:Int)<L:=by omega
   have Hhp:=qh hp;clear hp;have Hhq:=qh hq;clear hq;have HhS:=qh hS;clear hS;have Hhsm:=qh hsm;clear hsm;have Hhsucc:=qh hsucc;clear hsucc;clear h1 h2 hsn hon;by_cases he:cl p=cl q
   ·have heI:((cl p:Int) != (cl q:Int))=false:=by rw[he];simp
    have heI2:((cl p:Int)=(cl q:Int))=True:=by simp[he]
    have heI3:(!((cl p:Int)==(cl q:Int)))=false:=by rw[he];simp
    have Hhe:=qh he;clear he;go_wp2
    go_quiet (fail)
    go_wp2;go_roundw
    case rel=>exact⟨k+1,by go_num,by omega,by rw[Hhsucc.out];simp[Hhe.out],HhS.out.drewN _⟩
    case measure=>simp[intOf];omega
   have heI:((cl p:Int) != (cl q:Int))=true:=by simp;omega
   have heI2:((cl p:Int)=(cl q:Int))=False:=by simp;omega
   have heI3:(!((cl p:Int)==(cl q:Int)))=true:=by simp;omega
   have Hhe:=qh he;clear he;go_wp2
   go_quiet (fail)
   go_wp2;go_ret;have hrf:false=r:=by rw[← Hhr.out];exact(Znl hlt (by rw[← Hhp.out,← Hhq.out];exact Hhe.out)).symm
   subst hrf;exact⟨rfl,(HhS.out.drewN _).bel⟩
  obtain rfl:k=3:=by omega
  have hrt:true=r:=by rw[← Hhr.out,hsm]
  subst hrt;have HhS:=qh hS;clear hS;have Hhsm:=qh hsm;clear hsm;go_wp2;go_ret;exact⟨rfl,HhS.out.bel⟩
section
variable {n:Nat} {nx:Nat→Nat→Nat}
end
theorem Zg8 {n:Nat} {cl cl':Nat→Nat} (h:∀ s,s<n→cl s=cl' s):clsL n cl=clsL n cl':=List.map_congr_left fun s hs=>by rw[h s (List.mem_range.1 hs)]
theorem ZmJ (k:Nat) (cl:Nat→Nat):clsL (k+1) cl=clsL k cl++[(cl k:Int)]:=by unfold clsL;rw[List.range_succ,List.map_append];rfl
theorem Znm (d:DfaD) (cl:Nat→Nat) (t s:Nat):Zb0 (nxD d) cl t s=(decide (cl t=cl s)&&Zho d cl t s 3):=rfl
theorem Zdk {α β:Type} {f:α→β}:∀ {l:List α},(l.map f).Nodup→l.Nodup
 | [],_=>List.nodup_nil
 | x::l,h=>by rw[List.map_cons,List.nodup_cons] at h;exact List.nodup_cons.2 ⟨fun hx=>h.1 (List.mem_map.2 ⟨x,hx,rfl⟩),Zdk h.2⟩
theorem Ze0 {α β:Type} {f:α→β}:∀ {l:List α},(l.map f).Nodup→∀ {x y:α},x∈l→y∈l→f x=f y→x=y
 | [],_,x,_,hx,_,_=>by simp at hx
 | z::l,h,x,y,hx,hy,e=>by
  rw[List.map_cons,List.nodup_cons] at h;rcases List.mem_cons.1 hx with hx1|hx1
  ·rcases List.mem_cons.1 hy with hy1|hy1
   ·rw[hx1,hy1]
   exact absurd (List.mem_map.2 ⟨y,hy1,by rw[← e,hx1]⟩) h.1
  rcases List.mem_cons.1 hy with hy1|hy1
  ·exact absurd (List.mem_map.2 ⟨x,hx1,by rw[e,hy1]⟩) h.1
  exact Ze0 h.2 hx1 hy1 e
/-! Closing a list of words: a word becomes a start if no start has its key. -/
section
variable {β:Type} [DecidableEq β] (key:List Nat→β)
def kvisit (s:List (List Nat)) (w:List Nat):List (List Nat):=if key w∈s.map key then s else s++[w]
def krow (s:List (List Nat)) (w:List Nat):Nat→List (List Nat)
 | 0=>s
 | n+1=>kvisit key (krow s w n) (w++[n])
def kat (s0:List (List Nat)):Nat→List (List Nat)
 | 0=>s0
 | k+1=>if k<(kat s0 k).length then krow key (kat s0 k) ((kat s0 k).getD k []) 3 else kat s0 k
def kpart (s0:List (List Nat)) (k n:Nat):List (List Nat):=krow key (kat key s0 k) ((kat key s0 k).getD k []) n
variable {key} {s0:List (List Nat)}
theorem Zd7 {k:Nat} (h:k<(kat key s0 k).length):kat key s0 (k+1)=kpart key s0 k 3:=by simp only[kat,if_pos h];rfl
theorem Zd8 {k:Nat} (h:(kat key s0 k).length≤k):kat key s0 (k+1)=kat key s0 k:=by simp only[kat,if_neg (show ¬ k<(kat key s0 k).length by omega)]
theorem Zg5 (k n:Nat):kpart key s0 k (n+1)=kvisit key (kpart key s0 k n) ((kat key s0 k).getD k []++[n]):=rfl
theorem Zg3 (s:List (List Nat)) (w:List Nat):s <+: kvisit key s w:=by
 unfold kvisit
 split
 ·exact List.prefix_rfl
 exact List.prefix_append _ _
theorem ZnI (s:List (List Nat)) (w:List Nat) {n m:Nat} (h:n≤m):krow key s w n <+: krow key s w m:=by
 induction m with
 | zero =>
  obtain rfl:n=0:=by omega
  exact List.prefix_rfl
 | succ m ih =>
  by_cases hn:n=m+1
  ·subst hn;exact List.prefix_rfl
  exact(ih (by omega)).trans (Zg3 _ _)
theorem Ziz {k n m:Nat} (h:n≤m):kpart key s0 k n <+: kpart key s0 k m:=ZnI _ _ h
theorem ZhJ {k m:Nat} (h:k≤m):kat key s0 k <+: kat key s0 m:=by
 induction m with
 | zero =>
  obtain rfl:k=0:=by omega
  exact List.prefix_rfl
 | succ m ih =>
  by_cases hn:k=m+1
  ·subst hn;exact List.prefix_rfl
  refine(ih (by omega)).trans ?_;by_cases hl:m<(kat key s0 m).length
  ·rw[Zd7 hl];exact Ziz (Nat.zero_le 3)
  rw[Zd8 (by omega)];exact List.prefix_rfl
theorem ZnJ {k m:Nat} (h:(kat key s0 k).length≤k) (hm:k≤m):kat key s0 m=kat key s0 k:=by
 induction m with
 | zero =>
  obtain rfl:k=0:=by omega
  rfl
 | succ m ih =>
  by_cases hn:k=m+1
  ·subst hn;rfl
  have e:=ih (by omega);rw[Zd8 (by rw[e];omega),e]
theorem Zg4 (Q:List (List Nat)→Prop) (hv:∀ s w,Q s→Q (kvisit key s w)) {s:List (List Nat)} (hs:Q s) (w:List Nat):∀ n,Q (krow key s w n)
 | 0=>hs
 | n+1=>hv _ _ (Zg4 Q hv hs w n)
theorem Zmj (Q:List (List Nat)→Prop) (h0:Q s0) (hv:∀ s w,Q s→Q (kvisit key s w)):∀ k,Q (kat key s0 k)
 | 0=>h0
 | k+1=>by
  have ih:=Zmj Q h0 hv k;by_cases h:k<(kat key s0 k).length
  ·rw[Zd7 h];exact Zg4 Q hv ih _ 3
  rw[Zd8 (by omega)];exact ih
theorem Ziy {s:List (List Nat)} (w:List Nat) (h:(s.map key).Nodup):((kvisit key s w).map key).Nodup:=by
 unfold kvisit
 split
 ·exact h
 rename_i hn;rw[List.map_append];exact ZcL h hn
theorem Zmi (h:(s0.map key).Nodup) (k:Nat):((kat key s0 k).map key).Nodup:=Zmj (fun s=>(s.map key).Nodup) h (fun _ w hs=>Ziy w hs) k
theorem ZkI (s:List (List Nat)) (w:List Nat):key w∈(kvisit key s w).map key:=by
 unfold kvisit
 split
 ·assumption
 simp
theorem Zmh {k n c:Nat} (hc:c<n):key ((kat key s0 k).getD k []++[c])∈(kpart key s0 k n).map key:=by
 have h1:key ((kat key s0 k).getD k []++[c])∈(kpart key s0 k (c+1)).map key:=by rw[Zg5];exact ZkI _ _
 obtain⟨t,ht⟩:=Ziz (key:=key) (s0:=s0) (k:=k) (show c+1≤n by omega);rw[← ht,List.map_append,List.mem_append];exact Or.inl h1
theorem ZkJ {K:Nat} (hK:(kat key s0 K).length≤K) {i c:Nat} (hi:i<(kat key s0 K).length) (hc:c<3):key ((kat key s0 K).getD i []++[c])∈(kat key s0 K).map key:=by
 have hp:=ZhJ (key:=key) (s0:=s0) (show i≤K by omega);by_cases h:i<(kat key s0 i).length
 ·rw[ZaY hp h];have h1:=Zmh (key:=key) (s0:=s0) (k:=i) hc;rw[← Zd7 h] at h1;obtain⟨t,ht⟩:=ZhJ (key:=key) (s0:=s0) (show i+1≤K by omega);rw[← ht,List.map_append,List.mem_append];exact Or.inl h1
 have:=ZnJ (key:=key) (s0:=s0) (m:=K) (show(kat key s0 i).length≤i by omega) (by omega);rw[this] at hi;omega
end
/-! The table. -/
def runD (d:DfaD) (s:Int) (w:List Nat):Int:=w.foldl (dnx d) s
def accD (d:DfaD) (w:List Nat):Bool:=den d (runD d 0 w)
def rowW (d:DfaD) (rests:List (List Nat)) (w:List Nat):List Bool:=rests.map fun r=>accD d (w++r)
theorem ZfL (d:DfaD) (s:Int) (u v:List Nat):runD d s (u++v)=runD d (runD d s u) v:=by simp[runD]
theorem ZjL (d:DfaD) (u v:List Nat):accD d (u++v)=den d (runD d (runD d 0 u) v):=by rw[accD,ZfL]
theorem Zhu (d:DfaD) (rests:List (List Nat)) (w:List Nat):(rowW d rests w).length=rests.length:=by simp[rowW]
def isW (w:List Nat):Prop:=∀ c∈w,c<3
theorem ZeF {u v:List Nat} (hu:isW u) (hv:isW v):isW (u++v):=fun c hc=>by
 rcases List.mem_append.1 hc with h|h
 ·exact hu c h
 exact hv c h
theorem Zjx {c:Nat} (h:c<3):isW [c]:=fun x hx=>by simp at hx;omega
theorem ZnN {w:List Nat} (h:isW w) (k:Nat):isW (w.take k):=fun c hc=>h c (List.mem_of_mem_take hc)
theorem Zj9 {w:List Nat} (h:isW w) (k:Nat):isW (w.drop k):=fun c hc=>h c (List.mem_of_mem_drop hc)
theorem ZlA {d:DfaD} (hd:Zak d.next d.ends=true):∀ {w:List Nat},isW w→∀ {s:Int},0≤s→s<d.next.length→0≤runD d s w∧runD d s w<d.next.length
 | [],_,s,h0,h1=>⟨h0,h1⟩
 | c::w,hw,s,h0,h1=>by have hc:c<3:=hw c (by simp);have hr:=(ZaV hd (i:=s.toNat) (by omega)).2 c hc;exact ZlA hd (w:=w) (fun x hx=>hw x (by simp[hx])) (s:=dnx d s c) hr.1 hr.2
theorem ZlF {d:DfaD} (hd:Zak d.next d.ends=true) {rests l:List (List Nat)} (hl:∀ w∈l,isW w) (hn:(l.map (rowW d rests)).Nodup):l.length≤d.next.length:=by
 have h0:=(Zaj hd).1
 have hm:(l.map (runD d 0)).Nodup:=by
  have e:l.map (rowW d rests)=(l.map (runD d 0)).map fun s=>rests.map fun r=>den d (runD d s r):=by rw[List.map_map];apply List.map_congr_left;intro w _;simp[rowW,ZjL]
  rw[e] at hn;exact Zdk hn
 have h1:=ZdZ (m:=ZaX d.next.length) hm fun x hx=>by obtain⟨w,hw,rfl⟩:=List.mem_map.1 hx;obtain⟨a,b⟩:=ZlA hd (hl w hw) (s:=0) (by omega) (by omega);obtain⟨n,hn⟩:=Int.eq_ofNat_of_zero_le a;rw[hn] at b ⊢;exact Zcd.2 (by omega)
 simpa [Zb9] using h1
def Zdp (d:DfaD) (starts rests:List (List Nat)):List (List Nat):=kat (rowW d rests) starts (d.next.length+1)
def ZaC (d:DfaD) (starts rests:List (List Nat)):DfaD:=⟨starts.map fun w=>(List.range 3).map fun c=>ZoP (starts.map (rowW d rests)) (rowW d rests (w++[c])),starts.map (accD d)⟩
def mixW (starts:List (List Nat)) (g:DfaD) (s:List Nat) (k:Nat):List Nat:=starts.getD (runD g 0 (s.take k)).toNat []++s.drop k
def cutW (d:DfaD) (starts:List (List Nat)) (g:DfaD) (s:List Nat):Nat:=((List.range s.length).find? fun k=>accD d (mixW starts g s k) != accD d (mixW starts g s (k+1))).getD 0
def tabW (d:DfaD) (hit:DfaD→Option (List Nat)):Nat→List (List Nat) × List (List Nat)
 | 0=>(Zdp d [[]] [[]],[[]])
 | j+1 =>
  let s:=(tabW d hit j).1
  let r:=(tabW d hit j).2
  let g:=ZaC d s r
  let w:=(hit g).getD []
  let r':=r++[w.drop (cutW d s g w+1)]
  (Zdp d s r',r')
def gssW (d:DfaD) (hit:DfaD→Option (List Nat)) (j:Nat):DfaD:=ZaC d (tabW d hit j).1 (tabW d hit j).2
structure LInv (d:DfaD) (s r:List (List Nat)):Prop where
 sw:∀ x∈s,isW x
 rw:∀ x∈r,isW x
 s0:s.head? = some []
 r0:r.head? = some []
 nd:(s.map (rowW d r)).Nodup
 cl:∀ i c,i<s.length→c<3→rowW d r (s.getD i []++[c])∈s.map (rowW d r)
theorem LInv.pos {d:DfaD} {s r:List (List Nat)} (h:LInv d s r):0<s.length:=by
 have:=h.s0;cases s with
 | nil=>simp at this
 | cons=>simp
theorem LInv.first {d:DfaD} {s r:List (List Nat)} (h:LInv d s r):s.getD 0 []=[]:=by
 have:=h.s0;cases s with
 | nil=>rfl
 | cons x l=>simpa using this
theorem LInv.le {d:DfaD} (hd:Zak d.next d.ends=true) {s r:List (List Nat)} (h:LInv d s r):s.length≤d.next.length:=ZlF hd h.sw h.nd
theorem Zg9 {d:DfaD} (hd:Zak d.next d.ends=true) {s r:List (List Nat)} (hs:∀ x∈s,isW x) (hr:∀ x∈r,isW x) (h0:s.head? = some []) (hr0:r.head? = some []) (hn:(s.map (rowW d r)).Nodup):LInv d (Zdp d s r) r∧s <+: Zdp d s r:=by
 have hpre:s <+: Zdp d s r:=ZhJ (key:=rowW d r) (s0:=s) (Nat.zero_le (d.next.length+1))
 have hw:∀ K,∀ x∈kat (rowW d r) s K,isW x:=fun K=>by
  induction K with
  | zero=>exact hs
  | succ K ih =>
   by_cases h:K<(kat (rowW d r) s K).length
   ·rw[Zd7 h]
    have key:∀ n,n≤3→∀ x∈kpart (rowW d r) s K n,isW x:=by
     intro n
     induction n with
     | zero=>intro _;exact ih
     | succ n ihn =>
      intro hn3 x hx;rw[Zg5] at hx;unfold kvisit at hx
      split at hx
      ·exact ihn (by omega) x hx
      rcases List.mem_append.1 hx with hx|hx
      ·exact ihn (by omega) x hx
      simp only[List.mem_singleton] at hx;subst hx;exact ZeF (ih _ (memD h)) (Zjx (by omega))
    exact key 3 (by omega)
   rw[Zd8 (by omega)];exact ih
 have hnd:=Zmi (key:=rowW d r) (s0:=s) hn (d.next.length+1);have hle:=ZlF hd (hw (d.next.length+1)) hnd;refine⟨⟨hw _,hr,?_,hr0,hnd,fun i c hi hc=>ZkJ (by omega) hi hc⟩,hpre⟩;obtain⟨t,ht⟩:=hpre;rw[← ht];cases s with
 | nil=>simp at h0
 | cons x l=>simpa using h0
theorem ZhR {d:DfaD} {s r:List (List Nat)} (h:LInv d s r) {i c:Nat} (hi:i<s.length) (hc:c<3) :
  ∃ q:Nat,q<s.length∧((ZaC d s r).next.getD i []).getD c 0=(q:Int)∧rowW d r (s.getD q [])=rowW d r (s.getD i []++[c]):=by
 have hm:=h.cl i c hi hc;have hl:=Zbu hm;rw[List.length_map] at hl;refine⟨Zao (s.map (rowW d r)) (rowW d r (s.getD i []++[c])),hl,?_,?_⟩
 ·have e1:(ZaC d s r).next.getD i []=(List.range 3).map fun c=>ZoP (s.map (rowW d r)) (rowW d r (s.getD i []++[c])):=by simp[ZaC,hi]
  rw[e1];simp only[List.getD_eq_getElem?_getD,List.getElem?_map,List.getElem?_range hc,Option.map_some,Option.getD_some];unfold ZoP;rw[← List.getD_eq_getElem?_getD,if_pos hm]
 have:=Zka hm (rowW d r []);simpa [hl] using this
theorem Zmq (d:DfaD) (s r:List (List Nat)):(ZaC d s r).next.length=s.length∧(ZaC d s r).ends.length=s.length:=by simp[ZaC]
theorem Zgk {d:DfaD} {s r:List (List Nat)} (h:LInv d s r):∀ {w:List Nat},isW w→∀ {i:Nat},i<s.length→∃ q:Nat,q<s.length∧runD (ZaC d s r) i w=(q:Int)
 | [],_,i,hi=>⟨i,hi,rfl⟩
 | c::w,hw,i,hi=>by obtain⟨q,hq,e,-⟩:=ZhR h hi (hw c (by simp));obtain⟨p,hp,e2⟩:=Zgk h (w:=w) (fun x hx=>hw x (by simp[hx])) hq;refine⟨p,hp,?_⟩;show runD (ZaC d s r) (dnx (ZaC d s r) i c) w=_;unfold dnx;rw[Int.toNat_natCast,e];exact e2
theorem Zmr {d:DfaD} {s r:List (List Nat)} {q:Nat} (hq:q<s.length):den (ZaC d s r) (q:Int)=accD d (s.getD q []):=by unfold den;simp[ZaC,hq]
theorem Zlj {f:Nat→Bool}:∀ {n:Nat},f 0≠f n→∃ k,k<n∧f k≠f (k+1)
 | 0,h=>absurd rfl h
 | n+1,h=>by
  by_cases e:f n=f (n+1)
  ·rw[← e] at h;obtain⟨k,hk,hh⟩:=Zlj h;exact⟨k,by omega,hh⟩
  exact⟨n,by omega,e⟩
theorem Zpj {d:DfaD} {s r:List (List Nat)} (h:LInv d s r) {w:List Nat} (hw:isW w) (hne:accD d w≠accD (ZaC d s r) w) :
  cutW d s (ZaC d s r) w<w.length∧(accD d (mixW s (ZaC d s r) w (cutW d s (ZaC d s r) w)) != accD d (mixW s (ZaC d s r) w (cutW d s (ZaC d s r) w+1)))=true ∧
   ∀ k,k<cutW d s (ZaC d s r) w→(accD d (mixW s (ZaC d s r) w k) != accD d (mixW s (ZaC d s r) w (k+1)))=false:=by
 have f0:accD d (mixW s (ZaC d s r) w 0)=accD d w:=by unfold mixW;rw[List.take_zero,List.drop_zero];show accD d (s.getD 0 []++w)=_;rw[h.first,List.nil_append]
 have fn:accD d (mixW s (ZaC d s r) w w.length)=accD (ZaC d s r) w:=by obtain⟨q,hq,e⟩:=Zgk h hw h.pos;unfold mixW;rw[List.take_length,List.drop_length,List.append_nil];unfold accD at *;have e':runD (ZaC d s r) 0 w=(q:Int):=e;rw[e',Int.toNat_natCast,Zmr hq];rfl
 obtain⟨k,hk,hkne⟩:=Zlj (f:=fun k=>accD d (mixW s (ZaC d s r) w k)) (n:=w.length) (by rw[f0,fn];exact hne);unfold cutW;cases hf:(List.range w.length).find? fun k=>accD d (mixW s (ZaC d s r) w k) != accD d (mixW s (ZaC d s r) w (k+1)) with
 | none =>have:=List.find?_eq_none.1 hf k (List.mem_range.2 hk);simp only[bne_iff_ne,ne_eq,Decidable.not_not] at this;exact absurd this hkne
 | some c =>obtain⟨h1,n,hn,hc,h2⟩:=List.find?_eq_some_iff_getElem.1 hf;simp only[List.getElem_range,List.length_range] at hn hc h2;subst hc;simp only[Option.getD_some];refine⟨hn,h1,fun k hk => ?_⟩;have:=h2 k hk;simpa using this
theorem Zjo {d:DfaD} (hd:Zak d.next d.ends=true) {s r:List (List Nat)} (h:LInv d s r) {w:List Nat} (hw:isW w) (hne:accD d w≠accD (ZaC d s r) w) {r':List (List Nat)} (hr':r'=r++[w.drop (cutW d s (ZaC d s r) w+1)]) :
  LInv d (Zdp d s r') r'∧s <+: Zdp d s r'∧s.length<(Zdp d s r').length:=by
 obtain⟨hk,hcut,-⟩:=Zpj h hw hne;obtain⟨k,hkk⟩:=eI (cutW d s (ZaC d s r) w);rw[← hkk] at hk hcut hr'
 have hrw:∀ x∈r',isW x:=fun x hx=>by
  rw[hr'] at hx;rcases List.mem_append.1 hx with hx|hx
  ·exact h.rw x hx
  simp only[List.mem_singleton] at hx;subst hx;exact Zj9 hw _
 have hrow:∀ u,rowW d r' u=rowW d r u++[accD d (u++w.drop (k+1))]:=fun u=>by rw[hr'];simp[rowW]
 have hr0:r'.head? = some []:=by
  rw[hr'];have:=h.r0;cases hr:r with
  | nil=>rw[hr] at this;simp at this
  | cons x l=>rw[hr] at this;simpa using this
 have hnd:(s.map (rowW d r')).Nodup:=by
  have e:s.map (rowW d r)=(s.map (rowW d r')).map (List.take r.length):=by rw[List.map_map];apply List.map_congr_left;intro u _;simp only[Function.comp_apply];rw[hrow,List.take_left' (Zhu _ _ _)]
  have:=h.nd;rw[e] at this;exact Zdk this
 obtain⟨hI,hp⟩:=Zg9 hd h.sw hrw h.s0 hr0 hnd;refine⟨hI,hp,?_⟩;obtain⟨q,hq,e⟩:=Zgk h (ZnN hw k) h.pos;have hc:w.getD k 0<3:=hw _ (memD hk);obtain⟨q',hq',e2,e3⟩:=ZhR h hq hc;have e:runD (ZaC d s r) 0 (w.take k)=(q:Int):=e;have htk:w.take (k+1)=w.take k++[w.getD k 0]:=by rw[List.take_succ_eq_append_getElem hk];simp[hk]
 have hdk:w.drop k=w.getD k 0::w.drop (k+1):=by rw[List.drop_eq_getElem_cons hk];simp[hk]
 have e':runD (ZaC d s r) 0 (w.take (k+1))=(q':Int):=by rw[htk,ZfL,e];show dnx (ZaC d s r) (q:Int) (w.getD k 0)=_;unfold dnx;rw[Int.toNat_natCast,e2]
 have m1:mixW s (ZaC d s r) w k=(s.getD q []++[w.getD k 0])++w.drop (k+1):=by unfold mixW;rw[e,Int.toNat_natCast,hdk];simp
 have m2:mixW s (ZaC d s r) w (k+1)=s.getD q' []++w.drop (k+1):=by unfold mixW;rw[e',Int.toNat_natCast]
 rw[m1,m2] at hcut
 have hnot:rowW d r' (s.getD q []++[w.getD k 0]) ∉ s.map (rowW d r'):=by
  intro hm;obtain⟨u,hu,eu⟩:=List.mem_map.1 hm;rw[hrow,hrow] at eu;obtain⟨h1,h2⟩:=List.append_inj eu (by rw[Zhu,Zhu]);have hq1:s.getD q' []∈s:=memD hq';have:u=s.getD q' []:=by exact Ze0 h.nd hu hq1 (by rw[h1,e3])
  rw[this] at h2;simp only[List.cons.injEq,and_true] at h2;rw[h2] at hcut;simp at hcut
 rcases Nat.lt_or_ge s.length (Zdp d s r').length with h1|h1
 ·exact h1
 exfalso;have heq:Zdp d s r'=s:=by obtain⟨t,ht⟩:=hp;have:t=[]:=List.eq_nil_of_length_eq_zero (by have:=congrArg List.length ht;simp at this;omega);rw[← ht,this,List.append_nil]
 have hcl:=hI.cl q (w.getD k 0) (by rw[heq];exact hq) hc;rw[heq] at hcl;exact hnot hcl
theorem Zfp {next:List (List Int)} {ends:List Bool} (h1:1≤next.length) (h2:next.length≤40) (h3:ends.length=next.length) (hr:∀ i,i<next.length→(next.getD i []).length=3∧∀ c,c<3→0≤(next.getD i []).getD c 0∧(next.getD i []).getD c 0<next.length):Zak next ends=true:=by
 simp only[Zak,Bool.and_eq_true,List.all_eq_true,decide_eq_true_eq];refine⟨⟨fun x hx => ?_,?_⟩,h3⟩
 ·obtain⟨i,hi,e⟩:=List.getElem_of_mem hx;obtain⟨a,b⟩:=hr i hi;rw[ZbF hi,e] at a b;simp only[Zet,Bool.and_eq_true,decide_eq_true_eq,List.all_eq_true];refine⟨a,fun y hy => ?_⟩;obtain⟨c,hc,e2⟩:=List.getElem_of_mem hy;have:=b c (by omega);rw[ZbF hc,e2] at this;simp[inB];omega
 simp[inB];omega
theorem ZnU {d:DfaD} (hd:Zak d.next d.ends=true) {s r:List (List Nat)} (h:LInv d s r):Zak (ZaC d s r).next (ZaC d s r).ends=true:=by
 have h1:=h.pos;have h2:=h.le hd;have h3:=Zaj hd;obtain⟨l1,l2⟩:=Zmq d s r;refine Zfp (by omega) (by omega) (by omega) fun i hi => ?_
 rw[l1] at hi;refine⟨by simp[ZaC,hi],fun c hc => ?_⟩;obtain⟨q,hq,e,-⟩:=ZhR h hi hc;rw[e,l1];omega
def Zpg (d:DfaD) (hit:DfaD→Option (List Nat)):Prop:=∀ g,Zak g.next g.ends=true→∀ w,hit g=some w→isW w∧accD d w≠accD g w
theorem Zi3 {d:DfaD} (hd:Zak d.next d.ends=true) {hit:DfaD→Option (List Nat)} (hh:Zpg d hit):∀ j,(∀ i,i<j→(hit (gssW d hit i)).isSome=true)→LInv d (tabW d hit j).1 (tabW d hit j).2∧j+1≤(tabW d hit j).1.length
 | 0,_=>by have h:=(Zg9 hd (s:=[[]]) (r:=[[]]) (fun x hx=>by simp at hx;subst hx;intro c hc;simp at hc) (fun x hx=>by simp at hx;subst hx;intro c hc;simp at hc) rfl rfl (by simp)).1;exact⟨h,h.pos⟩
 | j+1,hy=>by
  obtain⟨h,hl⟩:=Zi3 hd hh j fun i hi=>hy i (by omega)
  have h1:=hy j (by omega);obtain⟨w,hw⟩:=Option.isSome_iff_exists.1 h1;obtain⟨hw1,hw2⟩:=hh _ (ZnU hd h) w hw;have hm:=Zjo hd h hw1 hw2 (r':=(tabW d hit (j+1)).2) (by show(tabW d hit j).2++_=_;simp only[show hit (ZaC d (tabW d hit j).1 (tabW d hit j).2)=some w from hw,Option.getD_some]);exact⟨hm.1,by have:=hm.2.2;show _≤(Zdp d (tabW d hit j).1 (tabW d hit (j+1)).2).length;omega⟩
def rowM (d:DfaD) (s:Nat):List (Int × Int × Int):=(List.range 3).map fun (c:Nat)=>((s:Int),(c:Int),(d.next.getD s []).getD c 0)
def mvs (d:DfaD):Nat→List (Int × Int × Int)
 | 0=>[]
 | s+1=>mvs d s++rowM d s
def Za1 (d:DfaD):NfaD:=⟨d.next.length,mvs d d.next.length,[0],eds d d.next.length⟩
theorem Zhv (d:DfaD) (s:Nat):(rowM d s).length=3:=by simp[rowM]
theorem ZlJ (d:DfaD) (s:Nat) {c:Nat} (hc:c<3):(rowM d s).take (c+1)=(rowM d s).take c++[((s:Int),(c:Int),(d.next.getD s []).getD c 0)]:=by rw[List.take_succ_eq_append_getElem (by rw[Zhv];exact hc)];simp[rowM]
theorem ZdK (d:DfaD):∀ s,(mvs d s).length=3*s
 | 0=>rfl
 | s+1=>by show(mvs d s++rowM d s).length=_;rw[List.length_append,ZdK d s,Zhv];omega
theorem Zgn (d:DfaD):∀ s,∀ x∈eds d s,0≤x∧x<(s:Int)
 | 0,x,hx=>by simp[eds] at hx
 | s+1,x,hx=>by
  have ih:=Zgn d s;unfold eds at hx
  split at hx
  ·rcases List.mem_append.1 hx with hx|hx
   ·have:=ih x hx;omega
   simp only[List.mem_singleton] at hx;omega
  have:=ih x hx;omega
theorem Zf0 {d:DfaD} (hd:Zak d.next d.ends=true):∀ s,s≤d.next.length→mvIn d.next.length (mvs d s)
 | 0,_,x,hx=>by simp[mvs] at hx
 | s+1,hs,x,hx=>by
  have hx:x∈mvs d s++rowM d s:=hx;rcases List.mem_append.1 hx with hx|hx
  ·exact Zf0 hd s (by omega) x hx
  obtain⟨c,hc,rfl⟩:=List.mem_map.1 hx;have:=(ZaV hd (show s<d.next.length by omega)).2 c (List.mem_range.1 hc);simp only;omega
def Zpi (K:Nat) (n:NfaD):Option DfaD:=if (metS n K).length≤K then some (Zau (nxS n) (enS n) (metS n K)) else none
theorem Zn1 {K:Nat} (hK:K=40) {n:NfaD} {d:DfaD} (h:Zpi K n=some d):Zak d.next d.ends=true:=by
 unfold Zpi at h
 split at h
 ·rename_i hle;simp only[Option.some.injEq] at h;subst h;obtain⟨h1,h2,h3,h4⟩:=Zed (en:=enS n) (nx:=nxS n) (a:=(((fstV n:Nat):Int),0)) hle (by omega);refine Zfp h1 (by rw[ZaM];omega) h3 fun i hi => ?_
  exact h4 i hi
 cases h
end Go.Proofs.YtfikabecgaappaaGreat
namespace Go.Proofs.YtfikabecgaappaaGreat
open Go.RowKit
theorem ZdM (d:DfaD) (v:Value) (w:World) (hd:Zak d.next d.ends=true) (h:DfaR 0 w v d) :
  Calls Tryz.prog 95 #[v] w fun e w'=>RNfaS (Za1 d) w e w':=by
 obtain⟨v1,v2,rfl,q1,q2⟩:=h;obtain⟨L,hL⟩:=eI (d.next.length);obtain⟨hl1,hl2,hl3⟩:=Zaj hd;have hrow:=fun (i:Nat) (hi:i<d.next.length)=>(ZaV hd hi)
 obtain⟨av,cv,rfl,hc1,hc2,hr1⟩:=q1.formI;obtain⟨b1,o1,rfl,-,hb1,hcs1⟩:=hr1 (by omega);obtain⟨a2,c2,rfl,hc3,hc4,hr2⟩:=q2.form;obtain⟨b2,o2,rfl,-,hb2,hcs2⟩:=hr2 (by omega);rw[hl3] at hcs2 hc3;rw[← hL] at hl1 hl2 hl3 hrow hc1 hcs1 hcs2 hc3;rw[hl3,← hL];obtain⟨i0,hi,hz0,hz1,hz2⟩:=info_parts Tryz.infoMv;obtain⟨j0,hj,hy0,hy1,hy2⟩:=info_parts Tryz.infoInt;have hS0:=(((St.start w).alloc _ rfl #[.slice (some ⟨b1,o1,none⟩) L cv,.slice (some ⟨b2,o2,none⟩) L c2] 37).alloc (w.heap.size+1) (by simp) #[.int .i64 0,.slice none 0 0,.slice none 0 0,.slice none 0 0] 28).alloc (w.heap.size+1+1) (by simp) #[.int .i64 0] 3;have hS1:=(hS0.boxrow 2 1 1 [.int .i64 0] rfl rfl (by unfold maxLen;omega)).alloc (w.heap.size+1+1+1) (by simp) #[.int .i64 L,.slice none 0 0,.slice (some ⟨w.heap.size+1+1,0,none⟩) 1 1,.slice none 0 0] 28;have hS2:=(hS1.nilRow 72 3).nilRow 3 1;have Hrow:=qh hrow;have Hcs1:=qh hcs1;have Hcs2:=qh hcs2;replace hS2:=qh hS2;replace hL:=qh hL;have Hhi:=qh hi;clear hi;have Hhz0:=qh hz0;clear hz0;have Hhz1:=qh hz1;clear hz1;have Hhz2:=qh hz2;clear hz2;have Hhj:=qh hj;clear hj;have Hhy0:=qh hy0;clear hy0;have Hhy1:=qh hy1;clear hy1;have Hhy2:=qh hy2;clear hy2;clear hS0 hS1 hrow hcs1 hcs2 hr1 hr2 q1 q2 hd hl3
 go_enter Tryz.func95, Tryz.ntmps95
 go_wp2
 go_loopw [16] (fun i wr=>∃ (s c1 c3:Nat) (a1 a3:Option Addr),i = .int .i64 s∧s≤L∧St w wr [Ent.box w.heap.size #[.slice (some ⟨b1,o1,none⟩) L cv,.slice (some ⟨b2,o2,none⟩) L c2] 37,Ent.box (w.heap.size+1) #[.int .i64 0,.slice none 0 0,.slice none 0 0,.slice none 0 0] 28,
   Ent.row 3 1 (.slice (some ⟨w.heap.size+1+1,0,none⟩) 1 1) 1 [.int .i64 0],Ent.box (w.heap.size+1+1+1) #[.int .i64 L,.slice a1 (mvs d s).length c1,.slice (some ⟨w.heap.size+1+1,0,none⟩) 1 1,.slice a3 (eds d s).length c3] 28,
   Ent.row 72 3 (.slice a1 (mvs d s).length c1) (mvs d s).length ((mvs d s).flatMap Zaa),Ent.row 3 1 (.slice a3 (eds d s).length c3) (eds d s).length (intCells (eds d s))])
  (fun i _=>L-(intOf i).toNat)
 case atStart=>exact⟨0,0,0,none,none,rfl,Nat.zero_le _,hS2.out⟩
 case round =>
  obtain⟨s,c1,c3,a1,a3,rfl,hs,hS⟩:=hrel;obtain⟨wo,hwo⟩:∃ wo:World,wo=wr:=⟨_,rfl⟩;subst hwo;by_cases hlt:s<L
  ·have hlt2:(s:Int)<L:=by omega
   obtain⟨ar,cr,hcr,-,-,hIr⟩:=Hcs1.out s hlt;obtain⟨hr3,-⟩:=Hrow.out s (by have:=hL.out;omega);rw[hr3] at hcr hIr;obtain⟨_,_,hform,hrc1,hrc2,hrr⟩:=hIr.form;rw[hr3] at hform hrr hrc1;simp only[Value.slice.injEq,true_and] at hform;obtain⟨rfl,rfl⟩:=hform;obtain⟨b3,o3,rfl,-,hb3,hcs3⟩:=hrr (by omega);have k1:=(bcell hS.bel b1 _ hb1).trans hcr;have hml:=ZdK d s;obtain⟨M,hM⟩:=eI (mvs d s);obtain⟨E,hE⟩:=eI (eds d s);have hel:=Zgm d s;rw[← hM] at hS hml;rw[← hE] at hS hel;have hmle:M.length≤120:=by omega
   have hele:E.length≤40:=by omega
   have Hcs3:=qh hcs3;have Hhml:=qh hml;clear hml;clear hel;have HhS:=qh hS;clear hS;have HhM:=qh hM;clear hM;replace hE:=qh hE;clear hcs3 hrr hIr hcr hr3;go_wp2
   go_loopw [23] (fun i wi=>∃ (c c1:Nat) (a1:Option Addr),i = .int .i64 c∧c≤3∧St w wi [Ent.box w.heap.size #[.slice (some ⟨b1,o1,none⟩) L cv,.slice (some ⟨b2,o2,none⟩) L c2] 37,Ent.box (w.heap.size+1) #[.int .i64 0,.slice none 0 0,.slice none 0 0,.slice none 0 0] 28,
     Ent.row 3 1 (.slice (some ⟨w.heap.size+1+1,0,none⟩) 1 1) 1 [.int .i64 0],Ent.box (w.heap.size+1+1+1) #[.int .i64 L,.slice a1 (M.length+c) c1,.slice (some ⟨w.heap.size+1+1,0,none⟩) 1 1,.slice a3 E.length c3] 28,
     Ent.row 72 3 (.slice a1 (M.length+c) c1) (M.length+c) ((M++(rowM d s).take c).flatMap Zaa),Ent.row 3 1 (.slice a3 E.length c3) E.length (intCells E)])
    (fun i _=>3-(intOf i).toNat)
   case atStart=>exact⟨0,c1,a1,rfl,by omega,by rw[List.take_zero,List.append_nil];exact HhS.out⟩
   case round =>
    obtain⟨c,c1,a1,rfl,hc3',hSi⟩:=hrel;by_cases hc:c<3
    ·have hc4:(c:Int)<3:=by omega
     have k2:=(bcell hSi.bel b3 _ hb3).trans (Hcs3.out c hc);have htk:=ZlJ d s hc;obtain⟨x,hx⟩:=eI ((d.next.getD s []).getD c 0);rw[← hx] at k2 htk;have e1:=hSi.cell (v:=.slice a1 (M.length+c) c1) 3 1 rfl rfl;have f1:=hSi.fr 3 1 rfl;have hSa:=hSi.alloc_ (.cells #[.int .i64 s,.int .i64 c,.int .i64 x] 72);have hRw:=hSa.row 4 rfl;have HhSi:=qh hSi;clear hSi;have HhSa:=qh hSa;clear hSa;have HhRw:=qh hRw;clear hRw;have Hhx:=qh hx;clear hx;have Hhtk:=qh htk;clear htk;go_wp2_with (at_builtin;refine wpList_append_lies _ rfl _ _ _ rfl _ 72 i0 (.agg #[.int .i64 0,.int .i64 0,.int .i64 0]) 3 24 Tryz.underlying25 Hhi.out Hhz0.out Hhz1.out Hhz2.out rfl (by omega) _ (M.length+c) _ rfl HhRw.out ⟨wr.heap.size,0,none⟩ 1 1 [.int .i64 s,.int .i64 c,.int .i64 x] rfl rfl (World.news_of_block (heap_alloc_new wr _)) ZdY (by omega) (by unfold maxLen;omega) (by omega) HhSa.out.size _ rfl ?_;intro g6 c6 w6 hown6 hgrow6 hat6 hlt6;have HS6:=qh (HhSa.out.app 4 rfl hown6 hgrow6 hat6);have y1:=HS6.out.cell (v:=.slice a1 (M.length+c) c1) 3 1 rfl rfl;have y2:=HS6.out.fr 3 1 rfl;clear hown6 hgrow6 hat6 hlt6);go_roundw
     case rel =>refine⟨c+1,c6,some ⟨g6,0,none⟩,by go_num,by omega,?_⟩;rw[Hhtk.out,← List.append_assoc,ZkP];exact HS6.out.set 3 rfl 1 (.slice (some ⟨g6,0,none⟩) (M.length+c+1) c6)
     case measure=>simp[intOf];omega
    obtain rfl:c=3:=by omega
    have hta:(rowM d s).take 3=rowM d s:=List.take_of_length_le (by rw[Zhv];exact Nat.le_refl _);have hM1:M++rowM d s=mvs d (s+1):=by rw[HhM.out];rfl
    have hMl:M.length+3=(mvs d (s+1)).length:=by rw[ZdK,Hhml.out];omega
    rw[hta,hM1,hMl] at hSi;have k2:=(bcell hSi.bel b2 _ hb2).trans (Hcs2.out s hlt);have e0:=hSi.cell (v:=.slice (some ⟨b2,o2,none⟩) L c2) 0 1 rfl rfl;have HhSi:=qh hSi;clear hSi;have HhM1:=qh hM1;clear hM1;have HhMl:=qh hMl;clear hMl;clear hta;cases hz:d.ends.getD s false with
    | false =>
     rw[hz] at k2;have hE1:eds d (s+1)=E:=by rw[hE.out];show(if d.ends.getD s false=true then _ else _)=_;rw[hz];rfl
     have HhE1:=qh hE1;clear hE1;have Hhz:=qh hz;clear hz;go_wp2;go_roundw
     case rel =>refine⟨s+1,c1,c3,a1,a3,by go_num,by omega,?_⟩;rw[HhE1.out];exact HhSi.out
     case measure=>simp[intOf];omega
    | true =>
     rw[hz] at k2;have hE1:eds d (s+1)=E++[(s:Int)]:=by rw[hE.out];show(if d.ends.getD s false=true then _ else _)=_;rw[hz];rfl
     have e1:=HhSi.out.cell (v:=.slice a3 E.length c3) 3 3 rfl rfl;have f1:=HhSi.out.fr 3 3 rfl;have hSa:=HhSi.out.alloc_ (.cells #[.int .i64 s] 3);have hRw:=hSa.row 5 rfl;have HhSa:=qh hSa;clear hSa;have HhRw:=qh hRw;clear hRw;have HhE1:=qh hE1;clear hE1;have Hhz:=qh hz;clear hz;go_wp2_with (at_builtin;refine wpList_append_lies _ rfl _ _ _ rfl _ 3 j0 (.int .i64 0) 1 8 Tryz.underlying26 Hhj.out Hhy0.out Hhy1.out Hhy2.out rfl (by omega) _ E.length _ rfl HhRw.out ⟨wr.heap.size,0,none⟩ 1 1 [.int .i64 s] rfl rfl (World.news_of_block (heap_alloc_new wr _)) on_i (by omega) (by unfold maxLen;omega) (by omega) HhSa.out.size _ rfl ?_;intro g6 c6 w6 hown6 hgrow6 hat6 hlt6;have HS6:=qh (HhSa.out.app 5 rfl hown6 hgrow6 hat6);have y1:=HS6.out.cell (v:=.slice a3 E.length c3) 3 3 rfl rfl;have y2:=HS6.out.fr 3 3 rfl;clear hown6 hgrow6 hat6 hlt6);go_roundw
     case rel =>refine⟨s+1,c1,c6,a1,some ⟨g6,0,none⟩,by go_num,by omega,?_⟩;rw[HhE1.out,List.length_append,List.length_singleton,ZoK];exact HS6.out.set 3 rfl 3 (.slice (some ⟨g6,0,none⟩) (E.length+1) c6)
     case measure=>simp[intOf];omega
  obtain rfl:s=L:=by omega
  have hge:(s:Int)≤s:=Int.le_refl _;obtain⟨M,hM⟩:=eI (mvs d s);obtain⟨E,hE⟩:=eI (eds d s);rw[← hM,← hE] at hS;have f0:=hS.fr 1 0 rfl;have f1:=hS.fr 1 1 rfl;have f2:=hS.fr 1 2 rfl;have f3:=hS.fr 1 3 rfl;have k0:=hS.cell (v:=.int .i64 0) 1 0 rfl rfl;have k1:=hS.cell (v:=.slice none 0 0) 1 1 rfl rfl;have k2:=hS.cell (v:=.slice none 0 0) 1 2 rfl rfl;have k3:=hS.cell (v:=.slice none 0 0) 1 3 rfl rfl;have d0:=hS.cell (v:=.int .i64 s) 3 0 rfl rfl;have d1:=hS.cell (v:=.slice a1 M.length c1) 3 1 rfl rfl;have d2:=hS.cell (v:=.slice (some ⟨w.heap.size+1+1,0,none⟩) 1 1) 3 2 rfl rfl;have d3:=hS.cell (v:=.slice a3 E.length c3) 3 3 rfl rfl;have HhS:=qh hS;clear hS;have HhM:=qh hM;clear hM;replace hE:=qh hE;go_wp2;have hq:=(((HhS.out.set 1 rfl 0 (.int .i64 s)).set 1 rfl 1 (.slice a1 M.length c1)).set 1 rfl 2 (.slice (some ⟨w.heap.size+1+1,0,none⟩) 1 1)).set 1 rfl 3 (.slice a3 E.length c3);have q0:=hq.cell (v:=.int .i64 s) 1 0 rfl rfl;have q1:=hq.cell (v:=.slice a1 M.length c1) 1 1 rfl rfl;have q2:=hq.cell (v:=.slice (some ⟨w.heap.size+1+1,0,none⟩) 1 1) 1 2 rfl rfl;have q3:=hq.cell (v:=.slice a3 E.length c3) 1 3 rfl rfl;refine bodyPost_ret (v:=.agg #[.int .i64 s,.slice a1 M.length c1,.slice (some ⟨w.heap.size+1+1,0,none⟩) 1 1,.slice a3 E.length c3]) (by simp[results,Tryz.results95,go_sem,q0,q1,q2,q3]) rfl ?_
  have hr:RNfaS ⟨(s:Int),M,[0],E⟩ w (.returned (.agg #[.int .i64 s,.slice a1 M.length c1,.slice (some ⟨w.heap.size+1+1,0,none⟩) 1 1,.slice a3 E.length c3])) _:=⟨a1,c1,_,1,a3,c3,rfl,hq.pick [4,2,5] (by decide)⟩;have hn:Za1 d=⟨(s:Int),M,[0],E⟩:=by unfold Za1;rw[← hL.out,HhM.out,hE.out]
  rw[hn];exact hr
def padL (n s:Nat) (cl:Nat→Nat):List Int:=clsL s cl++List.replicate (n-s) 0
def padT (n s:Nat) (cl:Nat→Nat) (t:Nat):List Int:=clsL s cl++((t:Nat):Int)::List.replicate (n-s-1) 0
theorem ZlQ (n:Nat) (cl:Nat→Nat):padL n 0 cl=List.replicate n 0:=by simp[padL,clsL]
theorem ZhB (n:Nat) (cl:Nat→Nat):padL n n cl=clsL n cl:=by simp[padL]
theorem Zj2 {n s:Nat} (cl:Nat→Nat) (h:s<n):padL n s cl=padT n s cl 0:=by unfold padL padT;rw[show n-s=(n-s-1)+1 by omega,List.replicate_succ];rfl
theorem Zfl {n s:Nat} (cl:Nat→Nat):padT n s cl (cl s)=padL n (s+1) cl:=by unfold padL padT;rw[ZmJ,List.append_assoc,show n-(s+1)=n-s-1 by omega];rfl
theorem Zfk {n s:Nat} (cl:Nat→Nat) (t t':Nat):(intCells (padT n s cl t)).set s (.int .i64 ((t':Nat):Int))=intCells (padT n s cl t'):=by unfold intCells;rw[← List.map_set (f:=fun x=>Value.int .i64 x)];congr 1;unfold padT;rw[List.set_append_right _ _ (by rw[ZcA];exact Nat.le_refl _),ZcA,Nat.sub_self];rfl
theorem Zc1 {n s:Nat} (cl:Nat→Nat) (t:Nat):(intCells (padT n s cl t))[s]? = some (.int .i64 ((t:Nat):Int)):=by simp[intCells,padT,ZcA]
theorem ZcS {n s:Nat} (cl:Nat→Nat) (h:s<n):(intCells (clsL n cl))[s]? = some (.int .i64 ((cl s:Nat):Int)):=by simp[intCells,clsL,h]
theorem Zf1 {w:World} {B n:Nat} {v:Value} (cl:Nat→Nat) (h:w.ownsRow B 3 1 v n (madeCells (Value.int .i64 0).cells (n*1)).toList):w.ownsRow B 3 1 v n (intCells (padL n 0 cl)):=by
 have e:(madeCells (Value.int .i64 0).cells (n*1)).toList=intCells (padL n 0 cl):=by rw[ZlQ];simp[madeCells,Value.cells,intCells,Nat.mod_one,List.map_const']
 rwa [e] at h
theorem Zn4 {n:Nat} {a b:Nat→Nat}:clsL n a=clsL n b↔∀ s,s<n→a s=b s:=by
 constructor
 ·intro h s hs;have:=congrArg (fun l=>l.getD s 0) h;simp only[ZjH a hs,ZjH b hs] at this;omega
 exact Zg8
theorem St.intsC {w0 w:World} {L:List Ent} (h:St w0 w L) (i:Nat) {v:Value} {n:Nat} {cl:Nat→Nat} (hx:L[i]? = some (Ent.row 3 1 v n (intCells (clsL n cl)))):Ints 0 w v (clsL n cl) :=
 Zah (B:=w0.heap.size) (e:=3) (by rw[ZcA];exact h.row i hx)
end Go.Proofs.YtfikabecgaappaaGreat
