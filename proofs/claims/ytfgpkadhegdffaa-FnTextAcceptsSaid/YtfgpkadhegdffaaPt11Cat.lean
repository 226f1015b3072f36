/-
  A valid automaton's memory, laid open; automata as results.
  No condition.
-/
import Derived.Test.YtfgpkadhegdffaaPt08Spo
import Derived.Test.YtfgpkadhegdffaaPt10Det
set_option maxHeartbeats 4000000
set_option maxRecDepth 100000
namespace Go.Proofs.Ytfgpkadhegdffaa
open Go.RowKit
structure DfaC (w:World) (d:DfaD) (b1 o1 cv b2 o2 cw:Nat):Prop where
 l1:1≤d.next.length
 l2:d.next.length≤40
 le:d.ends.length=d.next.length
 c1:d.next.length≤cv∧cv≤9223372036854775807
 c2:d.next.length≤cw∧cw≤9223372036854775807
 hb1:b1<w.heap.size
 hb2:b2<w.heap.size
 row:∀ i,i<d.next.length→∃ b3 o3 c3,b3<w.heap.size∧3≤c3∧c3≤9223372036854775807∧w.cell? ⟨b1,o1+i,none⟩=some (.slice (some ⟨b3,o3,none⟩) 3 c3)∧∀ c,c<3→w.cell? ⟨b3,o3+c,none⟩=some (.int .i64 (nxD d i c:Nat))
 en:∀ i,i<d.next.length→w.cell? ⟨b2,o2+i,none⟩=some (.bool (enD d i))
 lt:∀ i c,i<d.next.length→c<3→nxD d i c<d.next.length
 dx:∀ i c,i<d.next.length→c<3→dnx d (i:Int) c=(nxD d i c:Nat)
theorem DfaC.below {w w':World} {d:DfaD} {b1 o1 cv b2 o2 cw:Nat} (h:DfaC w d b1 o1 cv b2 o2 cw) (hb:Below w.heap.size w w'):DfaC w' d b1 o1 cv b2 o2 cw where
 l1:=h.l1
 l2:=h.l2
 le:=h.le
 c1:=h.c1
 c2:=h.c2
 hb1:=Nat.lt_of_lt_of_le h.hb1 hb.size
 hb2:=Nat.lt_of_lt_of_le h.hb2 hb.size
 row:=fun i hi=>by obtain⟨b3,o3,c3,p1,p2,p3,p4,p5⟩:=h.row i hi;exact⟨b3,o3,c3,Nat.lt_of_lt_of_le p1 hb.size,p2,p3,(bcell hb b1 _ h.hb1).trans p4,fun c hc=>(bcell hb b3 _ p1).trans (p5 c hc)⟩
 en:=fun i hi=>(bcell hb b2 _ h.hb2).trans (h.en i hi)
 lt:=h.lt
 dx:=h.dx
/-! Closing a list of words: a word becomes a start if no start has its key. -/
section
variable {β:Type} [DecidableEq β] (key:List Nat→β)
variable {key} {s0:List (List Nat)}
end
/-! The table. -/
def runD (d:DfaD) (s:Int) (w:List Nat):Int:=w.foldl (dnx d) s
def accD (d:DfaD) (w:List Nat):Bool:=den d (runD d 0 w)
def rowW (d:DfaD) (rests:List (List Nat)) (w:List Nat):List Bool:=rests.map fun r=>accD d (w++r)
def isW (w:List Nat):Prop:=∀ c∈w,c<3
structure LInv (d:DfaD) (s r:List (List Nat)):Prop where
 sw:∀ x∈s,isW x
 rw:∀ x∈r,isW x
 s0:s.head? = some []
 r0:r.head? = some []
 nd:(s.map (rowW d r)).Nodup
 cl:∀ i c,i<s.length→c<3→rowW d r (s.getD i []++[c])∈s.map (rowW d r)
theorem LInv.first {d:DfaD} {s r:List (List Nat)} (h:LInv d s r):s.getD 0 []=[]:=by
 have:=h.s0;cases s with
 | nil=>rfl
 | cons x l=>simpa using this
def padL (n s:Nat) (cl:Nat→Nat):List Int:=clsL s cl++List.replicate (n-s) 0
def padT (n s:Nat) (cl:Nat→Nat) (t:Nat):List Int:=clsL s cl++((t:Nat):Int)::List.replicate (n-s-1) 0
theorem Zfv (n:Nat) (cl:Nat→Nat):padL n 0 cl=List.replicate n 0:=by simp[padL,clsL]
theorem Zgg (n:Nat) (cl:Nat→Nat):padL n n cl=clsL n cl:=by simp[padL]
theorem Zgs {n s:Nat} (cl:Nat→Nat) (h:s<n):padL n s cl=padT n s cl 0:=by unfold padL padT;rw[show n-s=(n-s-1)+1 by omega,List.replicate_succ];rfl
theorem Zev {n s:Nat} (cl:Nat→Nat):padT n s cl (cl s)=padL n (s+1) cl:=by unfold padL padT;rw[ZfP,List.append_assoc,show n-(s+1)=n-s-1 by omega];rfl
theorem Zeu {n s:Nat} (cl:Nat→Nat) (t t':Nat):(intCells (padT n s cl t)).set s (.int .i64 ((t':Nat):Int))=intCells (padT n s cl t'):=by unfold intCells;rw[← List.map_set (f:=fun x=>Value.int .i64 x)];congr 1;unfold padT;rw[List.set_append_right _ _ (by rw[Zdj];exact Nat.le_refl _),Zdj,Nat.sub_self];rfl
theorem Zdf {n s:Nat} (cl:Nat→Nat) (t:Nat):(intCells (padT n s cl t))[s]? = some (.int .i64 ((t:Nat):Int)):=by simp[intCells,padT,Zdj]
theorem ZfQ {n s:Nat} (cl:Nat→Nat) (h:s<n):(intCells (clsL n cl))[s]? = some (.int .i64 ((cl s:Nat):Int)):=by simp[intCells,clsL,h]
theorem ZfD {w:World} {B n:Nat} {v:Value} (cl:Nat→Nat) (h:w.ownsRow B 3 1 v n (madeCells (Value.int .i64 0).cells (n*1)).toList):w.ownsRow B 3 1 v n (intCells (padL n 0 cl)):=by
 have e:(madeCells (Value.int .i64 0).cells (n*1)).toList=intCells (padL n 0 cl):=by rw[Zfv];simp[madeCells,Value.cells,intCells,Nat.mod_one,List.map_const']
 rwa [e] at h
def stkB (es:List (Int × Int)):Nat→List Nat
 | 0=>[]
 | k+1=>(stkB es k).take ((stkB es k).length-(Zab (es.getD k (0,0))).toNat)++[if (Zab (es.getD k (0,0))).toNat=0 then k else(stkB es k).getD ((stkB es k).length-(Zab (es.getD k (0,0))).toNat) 0]
def begB (es:List (Int × Int)) (k:Nat):Nat:=if (Zab (es.getD k (0,0))).toNat=0 then k else(stkB es k).getD ((stkB es k).length-(Zab (es.getD k (0,0))).toNat) 0
theorem Zbb (es:List (Int × Int)) (k:Nat):stkB es (k+1)=(stkB es k).take ((stkB es k).length-(Zab (es.getD k (0,0))).toNat)++[begB es k]:=rfl
theorem ZeB {es:List (Int × Int)} {k:Nat}:exAt es k=true↔0≤Zab (es.getD k (0,0))∧Zab (es.getD k (0,0))≤dep es k:=by simp only[exAt,Bool.and_eq_true,decide_eq_true_eq]
theorem Zeo {es:List (Int × Int)}:∀ k:Nat,(∀ j,j<k→exAt es j=true)→((stkB es k).length:Int)=dep es k
 | 0,_=>rfl
 | k+1,h=>by
  have ih:=Zeo k fun j hj=>h j (by omega)
  have h1:=ZeB.1 (h k (by omega));rw[Zbb,List.length_append,List.length_take,List.length_singleton];show _=dep es k-Zab (es.getD k (0,0))+1;omega
def natC (l:List Nat):List Value:=intCells (l.map fun (x:Nat)=>((x:Nat):Int))
theorem ZgE {l:List Nat} {k:Nat} (hk:k<l.length):(natC l)[k]? = some (.int .i64 ((l.getD k 0:Nat):Int)):=by simp[natC,intCells,hk]
theorem ZfA (l:List Nat) (m:Nat):(natC l).take (m*1)=natC (l.take m):=by simp[natC,intCells,List.map_take]
theorem ZdE (l:List Nat) (x:Nat):natC l++[.int .i64 ((x:Nat):Int)]=natC (l++[x]):=by simp[natC,intCells]
def RSt (es:List (Int × Int)) (n:Nat) (w:World) (e:Ending) (w':World):Prop :=
 ((∀ k,k<n→exAt es k=true)∧∃ g b,e = .returned (.tuple #[.slice (some ⟨g,0,none⟩) n n,.bool b])∧(b=true↔dep es n=1)∧St w w' [Ent.row 3 1 (.slice (some ⟨g,0,none⟩) n n) n (intCells (clsL n (begB es)))]) ∨
 ((¬ ∀ k,k<n→exAt es k=true)∧e = .returned (.tuple #[.slice none 0 0,.bool false])∧Below w.heap.size w w')
theorem Za7 (es:List (Int × Int)) (v:Value) (w:World) (hlen:es.length≤1000) (h:Pairs 0 w v es) :
  Calls Try.prog 55 #[v] w fun e w'=>RSt es es.length w e w':=by
 obtain⟨av,cv,rfl,hc1,hc2,hrd⟩:=h.form;obtain⟨i0,hi,hz0,hz1,hz2⟩:=info_parts Try.infoInt;obtain⟨n,hn⟩:=eI (es.length);rw[← hn] at hc1 hlen hrd;rw[← hn];have Hrd:=qh hrd;have Hhi:=qh hi;clear hi;replace hz0:=qh hz0;have Hhz1:=qh hz1;clear hz1;have Hhz2:=qh hz2;clear hz2;replace hn:=qh hn;clear h hrd
 go_enter Try.func55, Try.ntmps55
 go_wp2_with (at_make;refine wpList_make_full _ rfl _ _ 60 rfl _ 3 i0 (.int .i64 0) 1 Try.underlying60 Hhi.out hz0.out Hhz1.out .i64 .i64 _ _ n rfl rfl rfl rfl (by rw[Hhz2.out];omega) (by unfold maxLen;omega) (Nat.le_refl _) ?_;intro w1 hown hgrow;have HS1:=qh ((St.start w).made ((Below.refl _ _).grown hgrow (Nat.le_refl _) (fun _ h=>by cases h)) (ZfD (begB es) hown));clear hown hgrow)
 go_loopw [5,13] (fun st i wr=>∃ (k m c:Nat) (a:Option Addr),i = .int .i64 (k:Int)∧st = .slice a m c∧k≤n∧(∀ j,j<k→exAt es j=true)∧(stkB es k).length=m∧St w wr [Ent.row 3 1 (.slice (some ⟨w.heap.size,0,none⟩) n n) n (intCells (padL n k (begB es))),Ent.row 3 1 (.slice a m c) m (natC (stkB es k))])
  (fun _ i _=>n-(intOf i).toNat)
 case atStart=>exact⟨0,0,0,none,rfl,rfl,Nat.zero_le _,fun j hj=>absurd hj (by omega),rfl,HS1.out.nilRow 3 1⟩
 case round =>
  obtain⟨k,m,c,a,rfl,rfl,hk,hall,hm,hS⟩:=hrel;have hdl:=Zeo k hall;have hdi:=ZcI es k;by_cases hlt:k<n
  ·have hlt2:(k:Int)<n:=by omega
   obtain⟨b,o,rfl,-,hbl,hcs⟩:=Hrd.out (by omega);obtain⟨g1,g2⟩:=hcs k hlt;have k1:=(bcell hS.bel b _ hbl).trans g1;have k2:=(bcell hS.bel b _ hbl).trans g2;obtain⟨p,hp⟩:=eI (es.getD k (0,0));have hex:=ZeB (es:=es) (k:=k);have hbg:begB es k=if (Zab (es.getD k (0,0))).toNat=0 then k else(stkB es k).getD ((stkB es k).length-(Zab (es.getD k (0,0))).toNat) 0:=rfl;have hsn:=Zbb es k;rw[← hp] at k1 k2 hex hbg hsn;obtain⟨p1,p2⟩:=p;simp only at k1 k2;have hpi:=Zbe (p1,p2);obtain⟨r,hr⟩:=eJ (Zab (p1,p2));rw[hr] at hex hpi hbg hsn;rw[hm] at hdl hbg hsn;have hmk:m≤2*k:=by omega
   have hmr:m<r∨r≤m:=by omega
   have HS:=qh hS;have Hall:=qh hall;have HSp:=qh (hS.alloc _ rfl #[.int .i64 p1,.int .i64 p2] 39);replace hex:=qh hex;replace hbg:=qh hbg;have Hhsn:=qh hsn;clear hsn;have Hhp:=qh hp;clear hp;have Hhdl:=qh hdl;clear hdl;have Hhdi:=qh hdi;clear hdi;have Hhm:=qh hm;clear hm;clear hS hall hcs g1 g2;cases hpo:pOk (p1,p2)
   ·have hno:r = -1:=by rw[← hr];unfold Zab;rw[if_neg (by rw[hpo];simp)]
    have Hhr:=qh hr;clear hr;have Hhpo:=qh hpo;clear hpo;have hbad:¬ ∀ k,k<n→exAt es k=true:=fun h=>by have:=(hex.out.1 (h k hlt)).1;omega
    replace hbad:=qh hbad;have e0:=HSp.out.cell (v:=.int .i64 p1) 2 0 rfl rfl;have e1:=HSp.out.cell (v:=.int .i64 p2) 2 1 rfl rfl;go_wp2_with fail;refine(Zbh p1 p2 _ _ Hhpo.out).mono ?_;rintro e w2 ⟨rfl,hb2⟩;have HS2:=qh (HSp.out.call hb2);clear hb2;go_wp2
    go_ret2
    exact .inr ⟨hbad.out,rfl,HS2.out.bel⟩
   have hno:0≤r:=by
    rw[← hr];unfold Zab;rw[if_pos hpo]
    split<;>(try split)<;>omega
   have Hhr:=qh hr;clear hr;have Hhpo:=qh hpo;clear hpo;have e0:=HSp.out.cell (v:=.int .i64 p1) 2 0 rfl rfl;have e1:=HSp.out.cell (v:=.int .i64 p2) 2 1 rfl rfl;go_wp2_with fail;refine(Zbh p1 p2 _ _ Hhpo.out).mono ?_;rintro e w2 ⟨rfl,hb2⟩;have HS2:=qh (HSp.out.call hb2);clear hb2 e0 e1;have e0:=HS2.out.cell (v:=.int .i64 p1) 2 0 rfl rfl;have e1:=HS2.out.cell (v:=.int .i64 p2) 2 1 rfl rfl;go_wp2_with fail;refine(Zaq p1 p2 _ _ Hhr.out hno).mono ?_;rintro e w3 ⟨rfl,hb3⟩;have HS3:=qh (HS2.out.call hb3);clear hb3 e0 e1;rcases hmr with hmr|hmr
   ·have hbad:¬ ∀ k,k<n→exAt es k=true:=fun h=>by have:=(hex.out.1 (h k hlt)).2;have:=Hhdl.out;omega
    replace hbad:=qh hbad;have q1:((m:Int)<r)=True:=by simp[hmr]
    go_wp2
    go_ret2
    exact .inr ⟨hbad.out,rfl,HS3.out.bel⟩
   have q1:((m:Int)<r)=False:=by simp;omega
   have hexk:exAt es k=true:=hex.out.2 ⟨hno,by have:=Hhdl.out;omega⟩;have Hhexk:=qh hexk;clear hexk;have hS4:=HS3.out.store 0 rfl k (.int .i64 ((k:Nat):Int));rw[Zgs (begB es) hlt,Zeu] at hS4;have HS4:=qh hS4;have f0:=HS3.out.rfr 0 k rfl;have k0:=HS3.out.rcell (v:=.int .i64 ((0:Nat):Int)) 0 k rfl (by omega) (by rw[Zgs (begB es) hlt];exact Zdf _ _);have e0:=HS4.out.cell (v:=.int .i64 p1) 2 0 rfl rfl;have e1:=HS4.out.cell (v:=.int .i64 p2) 2 1 rfl rfl;clear hS4;go_wp2_with fail;refine(Zaq p1 p2 _ _ Hhr.out hno).mono ?_;rintro e w5 ⟨rfl,hb5⟩;have HS5:=qh (HS4.out.call hb5);clear hb5 e0 e1 f0 k0;by_cases hr0:r=0
   ·subst hr0;have hbk:begB es k=k:=by rw[hbg.out];rfl
    have hsk:stkB es (k+1)=stkB es k++[k]:=by rw[Hhsn.out,hbk];congr 1;have:=Hhm.out;show(stkB es k).take (m-0)=_;rw[← this];exact List.take_length
    have Hhbk:=qh hbk;clear hbk;have Hhsk:=qh hsk;clear hsk;have HSa:=qh (HS5.out.alloc_ (.cells #[.int .i64 ((k:Nat):Int)] 3));have HRw:=qh (HSa.out.row 1 rfl);have x1:=HS5.out.rcell (v:=.int .i64 ((k:Nat):Int)) 0 k rfl (by omega) (Zdf _ _);go_wp2_with (at_builtin;refine wpList_append_lies _ rfl _ _ _ rfl _ 3 i0 (.int .i64 0) 1 8 Try.underlying60 Hhi.out hz0.out Hhz1.out Hhz2.out rfl (by omega) _ m _ rfl HRw.out ⟨w5.heap.size,0,none⟩ 1 1 [.int .i64 ((k:Nat):Int)] rfl rfl (World.news_of_block (heap_alloc_new w5 _)) Zfx (by omega) (by unfold maxLen;omega) (by omega) HSa.out.size _ rfl ?_;intro g6 c6 w6 hown6 hgrow6 hat6 hlt6;have HS6:=qh (HSa.out.app 1 rfl hown6 hgrow6 hat6);clear hown6 hgrow6 hat6 hlt6);go_roundw
    case rel =>
     refine⟨k+1,m+1,c6,some ⟨g6,0,none⟩,by go_num,rfl,by omega,fun j hj => ?_,?_,?_⟩
     ·by_cases e:j=k
      ·rw[e];exact Hhexk.out
      exact Hall.out j (by omega)
     ·rw[Hhsk.out,List.length_append,List.length_singleton,Hhm.out]
     rw[Hhsk.out,← ZdE,← Zev,Hhbk.out];exact HS6.out.pick [0,1] (by decide)
    case measure=>simp[intOf];omega
   have hrp:0<r:=by omega
   clear hr0;obtain⟨q,rfl⟩:∃ q:Nat,r=((q:Nat):Int):=⟨r.toNat,by omega⟩;have hq0:0<q:=by omega
   obtain⟨t,hmt⟩:∃ t:Nat,(m:Int)-(q:Int)=((t:Nat):Int):=⟨m-q,by omega⟩;obtain⟨g,c2,he⟩:=HS5.out.rowform 1 rfl (by omega);simp only[Value.slice.injEq,true_and] at he;obtain⟨rfl,rfl⟩:=he;obtain⟨hcc,hcm⟩:=HS5.out.rowcap 1 rfl;have ht0:(0:Int)≤(t:Int):=by omega
   have htc:(t:Int)≤(c:Int):=by omega
   have htm:(t:Int)<(m:Int):=by omega
   have hwt:IntKind.i64.wrap (t:Int)=(t:Int):=IntWalk.i64_in _ (by omega);obtain⟨B,hBd⟩:=eI ((stkB es k).getD t 0);have hB:(natC (stkB es k))[t]? = some (.int .i64 ((B:Nat):Int)):=by rw[hBd];exact ZgE (by rw[Hhm.out];omega)
   have htq:m-q=t:=by omega
   have hbk:begB es k=B:=by rw[hbg.out,Int.toNat_natCast,if_neg (by omega),htq,hBd]
   have hsk:stkB es (k+1)=(stkB es k).take t++[B]:=by rw[Hhsn.out,Int.toNat_natCast,htq,hbk]
   have htl:((stkB es k).take t).length=t:=by rw[List.length_take,Hhm.out];omega
   have Hhbk:=qh hbk;clear hbk;have Hhsk:=qh hsk;clear hsk;have Hhtl:=qh htl;clear htl;replace hB:=qh hB;have HhBd:=qh hBd;clear hBd;go_wp2;refine wp_region_any (by kernel_rfl) ?_
   refine Za9 (fun A listed a w'=>∃ (l0 l1 l2 l3 l4 l5 l6 l7 l8 l9 l10 l11 l12 l13 l14 l15 l16 l17 l18 l19:Bool) ,listed=#[l0,l1,l2,l3,l4,l5,l6,l7,l8,l9,l10,l11,l12,l13,l14,l15,l16,l17,l18,l19]∧(l17=true→l2=true∧l3=true∧l9=true∧l10=true) ∧
     a=⟨(((((((((((((((((((A.tmps.setIfInBounds 35 (if l0=true then .slice (some ⟨w.heap.size,0,none⟩) n n else A.tmps.getD 35 undef)).setIfInBounds 36 (if l1=true then .int .i64 ((k:Nat):Int) else A.tmps.getD 36 undef)).setIfInBounds 37 (if l2=true then .slice (some ⟨g,0,none⟩) m c else A.tmps.getD 37 undef)).setIfInBounds 38 (if l3=true then .slice (some ⟨g,0,none⟩) m c else A.tmps.getD 38 undef)).setIfInBounds 39 (if l4=true then .int .i64 (m:Int) else A.tmps.getD 39 undef)).setIfInBounds 40 (if l5=true then .agg #[.int .i64 p1,.int .i64 p2] else A.tmps.getD 40 undef)).setIfInBounds 41 (if l6=true then .int .i64 ((q:Nat):Int) else A.tmps.getD 41 undef)).setIfInBounds 42 (if l7=true then .int .i64 ((t:Nat):Int) else A.tmps.getD 42 undef)).setIfInBounds 43 (if l8=true then .slice (some ⟨g,0,none⟩) t c else A.tmps.getD 43 undef)).setIfInBounds 44 (if l9=true then .slice (some ⟨g,0,none⟩) m c else A.tmps.getD 44 undef)).setIfInBounds 45 (if l10=true then .slice (some ⟨g,0,none⟩) m c else A.tmps.getD 45 undef)).setIfInBounds 46 (if l11=true then .int .i64 (m:Int) else A.tmps.getD 46 undef)).setIfInBounds 47 (if l12=true then .agg #[.int .i64 p1,.int .i64 p2] else A.tmps.getD 47 undef)).setIfInBounds 48 (if l13=true then .int .i64 ((q:Nat):Int) else A.tmps.getD 48 undef)).setIfInBounds 49 (if l14=true then .int .i64 ((t:Nat):Int) else A.tmps.getD 49 undef)).setIfInBounds 50 (if l15=true then .pointer (some ⟨g,t,none⟩) else A.tmps.getD 50 undef)).setIfInBounds 51 (if l16=true then .int .i64 ((B:Nat):Int) else A.tmps.getD 51 undef)).setIfInBounds 5 (if l17=true then .slice (some ⟨g,0,none⟩) t c else A.tmps.getD 5 undef)).setIfInBounds 52 (if l18=true then .pointer (some ⟨w.heap.size,k,none⟩) else A.tmps.getD 52 undef)),A.defers⟩ ∧
     St w w' [(if l19=true then Ent.row 3 1 (.slice (some ⟨w.heap.size,0,none⟩) n n) n ((intCells (padT n k (begB es) k)).set (k) (.int .i64 ((B:Nat):Int))) else Ent.row 3 1 (.slice (some ⟨w.heap.size,0,none⟩) n n) n (intCells (padT n k (begB es) k))),Ent.row 3 1 (.slice (some ⟨g,0,none⟩) m c) m (natC (stkB es k)),Ent.box wr.heap.size #[.int .i64 p1,.int .i64 p2] 39]) ?_ ?_ ?_
   ·rintro listed a w' ⟨l0,l1,l2,l3,l4,l5,l6,l7,l8,l9,l10,l11,l12,l13,l14,l15,l16,l17,l18,l19,rfl,hd17,rfl,hS⟩ i hi;obtain⟨hun,o,ho,hall⟩:=mem_ready.1 hi;have hlt:=(Array.getElem?_eq_some_iff.1 ho).1;refine wpOp_step ho (fun K hK => ?_);clear hi;have HS:=qh hS;clear hS;simp only[List.setIfInBounds_toArray,List.set_cons_zero,List.set_cons_succ,Array.getD_eq_getD_getElem?,List.getElem?_toArray,List.getElem?_cons_zero,List.getElem?_cons_succ,Option.getD_some];obtain h|h|h|h|h|h|h|h|h|h|h|h|h|h|h|h|h|h|h|h:i=0∨i=1∨i=2∨i=3∨i=4∨i=5∨i=6∨i=7∨i=8∨i=9∨i=10∨i=11∨i=12∨i=13∨i=14∨i=15∨i=16∨i=17∨i=18∨i=19:=by simp at hlt;omega
    all_goals subst h
    all_goals simp only[List.getElem?_toArray,List.getElem?_cons_zero,List.getElem?_cons_succ,Option.some.injEq] at ho
    all_goals subst ho
    all_goals simp[Region.binds] at hun hall
    ·subst hun;go_simp;exact hK _ _ ⟨true,l1,l2,l3,l4,l5,l6,l7,l8,l9,l10,l11,l12,l13,l14,l15,l16,l17,l18,l19,rfl,hd17,(by simp),HS.out⟩
    ·subst hun;go_simp;exact hK _ _ ⟨l0,true,l2,l3,l4,l5,l6,l7,l8,l9,l10,l11,l12,l13,l14,l15,l16,l17,l18,l19,rfl,hd17,(by simp),HS.out⟩
    ·subst hun;obtain rfl:l17=false:=by cases l17 with|false=>rfl|true=>simpa using hd17 rfl
     go_simp;exact hK _ _ ⟨l0,l1,true,l3,l4,l5,l6,l7,l8,l9,l10,l11,l12,l13,l14,l15,l16,false,l18,l19,rfl,by simp,(by simp),HS.out⟩
    ·subst hun;obtain rfl:l17=false:=by cases l17 with|false=>rfl|true=>simpa using hd17 rfl
     go_simp;exact hK _ _ ⟨l0,l1,l2,true,l4,l5,l6,l7,l8,l9,l10,l11,l12,l13,l14,l15,l16,false,l18,l19,rfl,by simp,(by simp),HS.out⟩
    ·obtain rfl:=hall;subst hun;go_simp;exact hK _ _ ⟨l0,l1,l2,true,true,l5,l6,l7,l8,l9,l10,l11,l12,l13,l14,l15,l16,l17,l18,l19,rfl,hd17,(by simp),HS.out⟩
    ·subst hun;have e0:=HS.out.cell (v:=.int .i64 p1) 2 0 rfl rfl;have e1:=HS.out.cell (v:=.int .i64 p2) 2 1 rfl rfl;go_simp;exact hK _ _ ⟨l0,l1,l2,l3,l4,true,l6,l7,l8,l9,l10,l11,l12,l13,l14,l15,l16,l17,l18,l19,rfl,hd17,(by simp),HS.out⟩
    ·obtain rfl:=hall;subst hun;go_simp
     go_at_call 68
     refine(Zaq p1 p2 _ _ Hhr.out (by omega)).mono ?_;rintro e u1 ⟨rfl,hb⟩;have hS2:=HS.out.call hb;have HhS2:=qh hS2;clear hS2;go_simp;exact hK _ _ ⟨l0,l1,l2,l3,l4,true,true,l7,l8,l9,l10,l11,l12,l13,l14,l15,l16,l17,l18,l19,rfl,hd17,(by simp),HhS2.out⟩
    ·obtain⟨rfl,rfl⟩:=hall;subst hun;go_simp;exact hK _ _ ⟨l0,l1,l2,l3,true,l5,true,true,l8,l9,l10,l11,l12,l13,l14,l15,l16,l17,l18,l19,rfl,hd17,(by simp),HS.out⟩
    ·obtain⟨rfl,rfl⟩:=hall;subst hun;go_simp;exact hK _ _ ⟨l0,l1,true,l3,l4,l5,l6,true,true,l9,l10,l11,l12,l13,l14,l15,l16,l17,l18,l19,rfl,hd17,(by simp),HS.out⟩
    ·subst hun;obtain rfl:l17=false:=by cases l17 with|false=>rfl|true=>simpa using hd17 rfl
     go_simp;exact hK _ _ ⟨l0,l1,l2,l3,l4,l5,l6,l7,l8,true,l10,l11,l12,l13,l14,l15,l16,false,l18,l19,rfl,by simp,(by simp),HS.out⟩
    ·subst hun;obtain rfl:l17=false:=by cases l17 with|false=>rfl|true=>simpa using hd17 rfl
     go_simp;exact hK _ _ ⟨l0,l1,l2,l3,l4,l5,l6,l7,l8,l9,true,l11,l12,l13,l14,l15,l16,false,l18,l19,rfl,by simp,(by simp),HS.out⟩
    ·obtain rfl:=hall;subst hun;go_simp;exact hK _ _ ⟨l0,l1,l2,l3,l4,l5,l6,l7,l8,l9,true,true,l12,l13,l14,l15,l16,l17,l18,l19,rfl,hd17,(by simp),HS.out⟩
    ·subst hun;have e0:=HS.out.cell (v:=.int .i64 p1) 2 0 rfl rfl;have e1:=HS.out.cell (v:=.int .i64 p2) 2 1 rfl rfl;go_simp;exact hK _ _ ⟨l0,l1,l2,l3,l4,l5,l6,l7,l8,l9,l10,l11,true,l13,l14,l15,l16,l17,l18,l19,rfl,hd17,(by simp),HS.out⟩
    ·obtain⟨rfl,rfl⟩:=hall;subst hun;go_simp
     go_at_call 68
     refine(Zaq p1 p2 _ _ Hhr.out (by omega)).mono ?_;rintro e u1 ⟨rfl,hb⟩;have hS2:=HS.out.call hb;have HhS2:=qh hS2;clear hS2;go_simp;exact hK _ _ ⟨l0,l1,l2,l3,l4,l5,true,l7,l8,l9,l10,l11,true,true,l14,l15,l16,l17,l18,l19,rfl,hd17,(by simp),HhS2.out⟩
    ·obtain⟨rfl,rfl⟩:=hall;subst hun;go_simp;exact hK _ _ ⟨l0,l1,l2,l3,l4,l5,l6,l7,l8,l9,l10,true,l12,true,true,l15,l16,l17,l18,l19,rfl,hd17,(by simp),HS.out⟩
    ·obtain⟨rfl,rfl⟩:=hall;subst hun;go_simp;exact hK _ _ ⟨l0,l1,l2,l3,l4,l5,l6,l7,l8,true,l10,l11,l12,l13,true,true,l16,l17,l18,l19,rfl,hd17,(by simp),HS.out⟩
    ·obtain rfl:=hall;subst hun;have e0:=HS.out.rcell (v:=.int .i64 ((B:Nat):Int)) 1 (t) rfl (by omega) hB.out;go_simp;exact hK _ _ ⟨l0,l1,l2,l3,l4,l5,l6,l7,l8,l9,l10,l11,l12,l13,l14,true,true,l17,l18,l19,rfl,hd17,(by simp),HS.out⟩
    ·obtain⟨rfl,rfl,rfl,rfl,rfl,rfl,rfl,rfl,-,rfl,rfl⟩:=hall;subst hun;go_simp;exact hK _ _ ⟨l0,l1,true,true,true,true,true,true,true,true,true,l11,l12,true,l14,l15,l16,true,l18,l19,rfl,by simp,(by simp),HS.out⟩
    ·obtain⟨rfl,rfl,-,-,rfl,rfl,rfl,rfl,rfl,rfl,rfl,rfl,rfl,rfl,rfl,rfl,rfl,rfl,rfl,rfl⟩:=hall;subst hun;go_simp;exact hK _ _ ⟨true,true,true,true,true,true,true,true,true,true,true,true,true,true,true,true,true,true,true,l19,rfl,by simp,(by simp),HS.out⟩
    obtain⟨rfl,rfl,rfl,rfl,rfl,rfl,rfl,rfl,rfl,rfl,rfl,rfl,rfl,rfl,rfl,rfl,rfl,rfl,rfl,-⟩:=hall;subst hun;have f0:=HS.out.rfr 0 (k) rfl;have k0:=HS.out.rcell (v:=.int .i64 ((k:Nat):Int)) 0 (k) rfl (by omega) (Zdf _ _);go_simp;exact hK _ _ ⟨true,true,true,true,true,true,true,true,true,true,true,true,true,true,true,true,true,true,true,true,rfl,by simp,(by simp),(HS.out.store 0 rfl (k) (.int .i64 ((B:Nat):Int)))⟩
   ·rintro listed a w' ⟨l0,l1,l2,l3,l4,l5,l6,l7,l8,l9,l10,l11,l12,l13,l14,l15,l16,l17,l18,l19,rfl,hd17,rfl,hS⟩ hr;have hall:=Zbd (by kernel_rfl) rfl hr;obtain rfl:l0=true:=by simpa using hall 0 (by simp)
    obtain rfl:l1=true:=by simpa using hall 1 (by simp)
    obtain rfl:l2=true:=by simpa using hall 2 (by simp)
    obtain rfl:l3=true:=by simpa using hall 3 (by simp)
    obtain rfl:l4=true:=by simpa using hall 4 (by simp)
    obtain rfl:l5=true:=by simpa using hall 5 (by simp)
    obtain rfl:l6=true:=by simpa using hall 6 (by simp)
    obtain rfl:l7=true:=by simpa using hall 7 (by simp)
    obtain rfl:l8=true:=by simpa using hall 8 (by simp)
    obtain rfl:l9=true:=by simpa using hall 9 (by simp)
    obtain rfl:l10=true:=by simpa using hall 10 (by simp)
    obtain rfl:l11=true:=by simpa using hall 11 (by simp)
    obtain rfl:l12=true:=by simpa using hall 12 (by simp)
    obtain rfl:l13=true:=by simpa using hall 13 (by simp)
    obtain rfl:l14=true:=by simpa using hall 14 (by simp)
    obtain rfl:l15=true:=by simpa using hall 15 (by simp)
    obtain rfl:l16=true:=by simpa using hall 16 (by simp)
    obtain rfl:l17=true:=by simpa using hall 17 (by simp)
    obtain rfl:l18=true:=by simpa using hall 18 (by simp)
    obtain rfl:l19=true:=by simpa using hall 19 (by simp)
    clear hall hr hd17;simp only[↓reduceIte] at hS ⊢;simp only[List.setIfInBounds_toArray,List.set_cons_zero,List.set_cons_succ];have hS7:=hS.cut 1 rfl t (by omega);rw[Zeu,ZfA] at hS7;have HS7:=qh hS7;clear hS hS7;have HSa:=qh (HS7.out.alloc_ (.cells #[.int .i64 ((B:Nat):Int)] 3));have HRw:=qh (HSa.out.row 1 rfl);have x1:=HS7.out.rcell (v:=.int .i64 ((B:Nat):Int)) 0 k rfl (by omega) (Zdf _ _);go_wp2_with (at_builtin;refine wpList_append_lies _ rfl _ _ _ rfl _ 3 i0 (.int .i64 0) 1 8 Try.underlying60 Hhi.out hz0.out Hhz1.out Hhz2.out rfl (by omega) _ t _ rfl HRw.out ⟨w'.heap.size,0,none⟩ 1 1 [.int .i64 ((B:Nat):Int)] rfl rfl (World.news_of_block (heap_alloc_new w' _)) Zfx (by omega) (by unfold maxLen;omega) (by omega) HSa.out.size _ rfl ?_;intro g6 c6 w6 hown6 hgrow6 hat6 hlt6;have HS6:=qh (HSa.out.app 1 rfl hown6 hgrow6 hat6);clear hown6 hgrow6 hat6 hlt6);go_roundw
    case rel =>
     refine⟨k+1,t+1,c6,some ⟨g6,0,none⟩,by go_num,rfl,by omega,fun j hj => ?_,?_,?_⟩
     ·by_cases e:j=k
      ·rw[e];exact Hhexk.out
      exact Hall.out j (by omega)
     ·rw[Hhsk.out,List.length_append,List.length_singleton,Hhtl.out]
     rw[Hhsk.out,← ZdE,← Zev,Hhbk.out];exact HS6.out.pick [0,1] (by decide)
    case measure=>simp[intOf];omega
   refine⟨false,false,false,false,false,false,false,false,false,false,false,false,false,false,false,false,false,false,false,false,rfl,by simp,(by simp),?_⟩;exact HS5.out.drew.pick [0,1,2] (by decide)
  obtain rfl:k=n:=by omega
  rw[Zgg] at hS;have HS:=qh hS;have hgd:∀ j,j<k→exAt es j=true:=hall;have Hhgd:=qh hgd;clear hgd;have Hhdl:=qh hdl;clear hdl;have hdm:(m:Int)=dep es k:=by rw[← Hhdl.out,hm]
  have Hhdm:=qh hdm;clear hdm;clear hS hall hm hdi hlt;by_cases h1:m=1
  ·have hd1:dep es k=1:=by have:=Hhdm.out;omega
   subst h1;have Hhd1:=qh hd1;clear hd1;go_wp2
   go_ret2
   exact .inl ⟨Hhgd.out,_,true,rfl,⟨fun _=>Hhd1.out,fun _=>rfl⟩,HS.out.pick [0] (by decide)⟩
  have hd1:¬ dep es k=1:=by have:=Hhdm.out;omega
  obtain⟨q1,q2,q3,q4⟩:=Zal (show ¬ (m:Int)=1 by omega);have Hhd1:=qh hd1;clear hd1;clear h1;go_wp2
  go_ret2
  exact .inl ⟨Hhgd.out,_,false,rfl,⟨fun h=>(by cases h),fun h=>absurd h Hhd1.out⟩,HS.out.pick [0] (by decide)⟩
theorem Zcm {es:List (Int × Int)}:exOk es=true↔(∀ k,k<es.length→exAt es k=true)∧dep es es.length=1∧es.length≤60:=by simp only[exOk,Bool.and_eq_true,List.all_eq_true,List.mem_range,decide_eq_true_eq,and_assoc]
theorem ZaO (es:List (Int × Int)) (v:Value) (w:World) (h:Pairs 0 w v es) (r:Bool) (hr:exOk es=r) :
  Calls Try.prog 25 #[v] w fun e w'=>e = .returned (.bool r)∧Below w.heap.size w w':=by
 have Hh:=qh h;have Hr:=qh hr;obtain⟨av,cv,rfl,hc1,hc2,-⟩:=h.form;obtain⟨n,hn⟩:=eI (es.length);have hst:=fun (hl:es.length≤1000)=>Za7 es (.slice av es.length cv) w hl Hh.out
 rw[← hn] at hc1 hst;rw[← hn];have Hst:=qh hst;replace hn:=qh hn;clear hst hr Hh;by_cases h60:n≤60
 ·have q1:(60:Int)<n↔False:=by simp;omega
  go_enter Try.func25, Try.ntmps25
  go_wp2_with fail;refine(Hst.out (by omega)).mono ?_;rintro e w1 hst;rcases hst with⟨hall,g,b,rfl,hb,hS⟩|⟨hbad,rfl,hb1⟩
  ·have hrb:r=b:=by have h2:=Zcm (es:=es);rw[Hr.out,← hn.out] at h2;rw[Bool.eq_iff_iff,h2,hb];exact⟨fun h=>h.2.1,fun h=>⟨hall,h,h60⟩⟩
   subst hrb;have HS:=qh hS;clear hS hall hb;go_wp2;go_ret;exact⟨rfl,HS.out.bel⟩
  have hrb:r=false:=by
   have h2:=Zcm (es:=es);rw[Hr.out,← hn.out] at h2;cases r with
   | false=>rfl
   | true=>exact absurd (h2.1 rfl).1 hbad
  subst hrb;have Hb1:=qh hb1;clear hbad hb1;go_wp2;go_ret;exact⟨rfl,Hb1.out⟩
 have q1:(60:Int)<n:=by omega
 have hrb:r=false:=by
  have h2:=Zcm (es:=es);rw[Hr.out,← hn.out] at h2;cases r with
  | false=>rfl
  | true=>exact absurd (h2.1 rfl).2.2 h60
 subst hrb;clear h60
 go_enter Try.func25, Try.ntmps25
 go_wp2;go_ret;exact⟨rfl,Below.refl _ _⟩
theorem ZcM {P:Program} (t e:TypeId) (n:Nat) (cs:Array Value) (i:Nat) (d:TypeDesc) (sz:Nat) (h:P.underlying t=some (.array n e)) (hi:i<n) (hu:P.underlying e=some d) (hd:d.isRow=true) (hs:(P.info? e).map (·.size)=some sz) (w:World) :
  (Instr.index t (.agg cs) (.int .i64 (i:Int))).run P w = .ok (.agg (cs.extract (i*sz) (i*sz+sz))) w:=by
 cases hq:P.info? e with
 | none=>simp[hq] at hs
 | some ie =>
  have hz:ie.size=sz:=by simpa [hq] using hs
  have hagg:(isAgg e).run P w = .ok true w:=by unfold isAgg;rw[Sem.run_bind,run_underlying hu w];cases d<;>simp_all
  have h0:(0:Int)≤(i:Int)∧(i:Int)<(n:Int):=by omega
  simp[Instr.index,run_underlying h,asIntOf,h0,go_sem,part,hagg,sizeOf,typeInfo,hq,hz];exact fun hle=>absurd hle (by omega)
theorem Zdb {P:Program} (t e:TypeId) (n:Nat) (cs:Array Value) (i:Nat) (d:TypeDesc) (v:Value) (h:P.underlying t=some (.array n e)) (hi:i<n) (hu:P.underlying e=some d) (hd:d.isRow=false) (hs:(P.info? e).map (·.size)=some 1) (hv:cs[i]? = some v) (w:World) :
  (Instr.index t (.agg cs) (.int .i64 (i:Int))).run P w = .ok v w:=by
 cases hq:P.info? e with
 | none=>simp[hq] at hs
 | some ie =>
  have hz:ie.size=1:=by simpa [hq] using hs
  have hagg:(isAgg e).run P w = .ok false w:=by unfold isAgg;rw[Sem.run_bind,run_underlying hu w];cases d<;>simp_all
  have h0:(0:Int)≤(i:Int)∧(i:Int)<(n:Int):=by omega
  simp[Instr.index,run_underlying h,asIntOf,h0,go_sem,part,hagg,sizeOf,typeInfo,hq,hz,hv];exact fun hle=>absurd hle (by omega)
def accX (l:List Nat) (t:Ex):Bool:=tabE l.length (lsT l) t 0 l.length
def AccO (es:List (Int × Int)) (l:List Nat) (r:Bool):Prop:=(exOk es=true∧wdOk l=true∧∃ t:Ex,t.post=es∧accX l t=r)∨((exOk es=false∨wdOk l=false)∧r=false)
theorem ZgM (es:List (Int × Int)) (l:List Nat):∃ r,AccO es l r:=by
 cases h:exOk es with
 | false=>exact⟨false,.inr ⟨.inl h,rfl⟩⟩
 | true =>
  cases g:wdOk l with
  | false=>exact⟨false,.inr ⟨.inr g,rfl⟩⟩
  | true =>obtain⟨t,ht⟩:=parse h;exact⟨_,.inl ⟨h,g,t,ht,rfl⟩⟩
theorem ZcQ (t:Ex) (es:List (Int × Int)) (l:List Nat) (v:Value) (w:World) (r:Bool) (hr:accX l t=r) (hes:t.post=es) (hok:exOk es=true) (h:Pairs 0 w v es) (ht:isT l) (hwd:wdOk l=true) :
  Calls Try.prog 54 #[v,.string (txB l)] w fun e w'=>e = .returned (.bool r)∧Below w.heap.size w w':=by
 obtain⟨n,hln⟩:=eJ (l.length);obtain⟨hn8,-⟩:=Zba hwd;have hsz:=Zah l;rw[hln] at hsz hn8;have hI:(Try.prog.info? 109).map (·.size)=some 9:=by kernel_rfl
 have hJ:(Try.prog.info? 4).map (·.size)=some 1:=by kernel_rfl
 have hx1:∀ (X:Array Value) (u:World),(Instr.index 111 (.agg X) (.int .i64 0)).run Try.prog u = .ok (.agg (X.extract (0*9) (0*9+9))) u:=fun X u=>ZcM _ 109 9 X 0 _ 9 (by kernel_rfl) (by omega) Try.underlying109 rfl hI u
 obtain⟨Y,hY⟩:=eI ((spC (Zad n (tabE n (lsT l) t))).extract (0*9) (0*9+9));have hY1:Y[n]? = some (.bool r):=by rw[hY,Array.getElem?_extract,if_pos (by rw[Zac];omega)];have:=Zfg (Zad n (tabE n (lsT l) t)) (i:=0) (j:=n) (by omega) (by omega);rw[show 0*9+n=0*9+n from rfl] at this;rw[this,ZaF _ (Nat.zero_le _) (Nat.le_refl _),← hr,← hln];rfl
 have hx2:∀ u:World,(Instr.index 109 (.agg Y) (.int .i64 (n:Int))).run Try.prog u = .ok (.bool r) u:=fun u=>Zdb _ 4 9 Y n _ (.bool r) (by kernel_rfl) (by omega) Try.underlying4 rfl hJ hY1 u
 have hx1':=fun u=>hx1 (spC (Zad n (tabE n (lsT l) t))) u
 rw[← hY] at hx1';have Hx1:=qh hx1';have Hx2:=qh hx2;have Hc:=qh (fun u (hp:Pairs 0 u v es)=>Zd0 t es l n v u hes hok hp ht hwd hln);have Hh:=qh h;clear hx1 hx1' hx2 hY hY1 hI hJ hes hok h ht hwd hr
 go_enter Try.func54, Try.ntmps54
 go_wp2_with fail;refine(Hc.out _ Hh.out).mono ?_;rintro e w1 ⟨rfl,hb1⟩;have hrun1:=Hx1.out w1;have hrun2:=Hx2.out w1;go_wp2;go_ret;exact⟨rfl,hb1⟩
theorem Za2 (es:List (Int × Int)) (l:List Nat) (v:Value) (w:World) (r:Bool) (hr:AccO es l r) (h:Pairs 0 w v es) (ht:isT l) (hlen:l.length≤2000000) :
  Calls Try.prog 24 #[v,.string (txB l)] w fun e w'=>e = .returned (.bool r)∧Below w.heap.size w w':=by
 obtain⟨x,hx⟩:=eJ (exOk es);obtain⟨y,hy⟩:=eJ (wdOk l);have Hc1:=qh (fun u (hp:Pairs 0 u v es)=>ZaO es v u hp x hx);have Hc2:=qh (fun u=>Zbg l u ht hlen y hy);have Hh:=qh h;have Ht:=qh ht;have Hr:=qh hr;replace hx:=qh hx;have Hhy:=qh hy;clear hy;clear h ht hr;cases x with
 | false =>
  have hrf:r=false:=by
   rcases Hr.out with⟨h1,-,-⟩|⟨-,h2⟩
   ·rw[hx.out] at h1;cases h1
   exact h2
  subst hrf
  go_enter Try.func24, Try.ntmps24
  go_wp2_with fail;refine(Hc1.out _ Hh.out).mono ?_;rintro e w1 ⟨rfl,hb1⟩;go_wp2;go_ret;exact⟨rfl,hb1⟩
 | true =>
  cases y with
  | false =>
   have hrf:r=false:=by
    rcases Hr.out with⟨-,h1,-⟩|⟨-,h2⟩
    ·rw[Hhy.out] at h1;cases h1
    exact h2
   subst hrf
   go_enter Try.func24, Try.ntmps24
   go_wp2_with fail;refine(Hc1.out _ Hh.out).mono ?_;rintro e w1 ⟨rfl,hb1⟩;go_wp2_with (go_at_call 41;refine(Hc2.out _).mono ?_;rintro e w' ⟨rfl,rfl⟩);go_ret;exact⟨rfl,hb1⟩
  | true =>
   obtain⟨t,ht1,ht2⟩:∃ t:Ex,t.post=es∧accX l t=r:=by
    rcases Hr.out with⟨-,-,h1⟩|⟨h1|h1,-⟩
    ·exact h1
    ·rw[hx.out] at h1;cases h1
    rw[Hhy.out] at h1;cases h1
   have Hc3:=qh (fun u (hp:Pairs 0 u v es)=>ZcQ t es l v u r ht2 ht1 hx.out hp Ht.out Hhy.out);clear ht1 ht2
   go_enter Try.func24, Try.ntmps24
   go_wp2_with fail;refine(Hc1.out _ Hh.out).mono ?_;rintro e w1 ⟨rfl,hb1⟩;go_wp2_with (first|(go_at_call 41;refine(Hc2.out _).mono ?_;rintro e w' ⟨rfl,rfl⟩)|(go_at_call 54;refine(Hc3.out _ (Hh.out.below hb1)).mono ?_;rintro e w2 ⟨rfl,hb2⟩));go_ret;exact⟨rfl,hb1.trans (hb2.mono hb1.size)⟩
theorem Try.infoPart:(Try.prog.info? 39).map (fun i=>(i.zero,i.size,i.bytes))=some (some (.agg #[.int .i64 0,.int .i64 0]),2,16):=by kernel_rfl
abbrev PZ:Value:=.agg #[.int .i64 0,.int .i64 0]
theorem ZfH (n:Nat) (w:World) (hn:n≤100000) :
  Calls Try.prog 98 #[.slice none 0 0,.int .i64 (n:Int)] w fun e w'=>∃ a c,e = .returned (.slice a 0 c)∧St w w' [Ent.row 39 2 (.slice a 0 c) 0 []]:=by
 obtain⟨j0,hj,hy0,hy1,hy2⟩:=info_parts Try.infoPart;have h1:¬ ((n:Int)<0):=by omega
 by_cases h0:n=0
 ·subst h0;have hS0:=(St.start w).nilRow 39 2;have HhS0:=qh hS0;clear hS0
  go_enter Try.func98, Try.ntmps98
  go_wp2;go_ret;exact⟨none,0,rfl,HhS0.out⟩
 have hrz:∀ ty,(Builtin.append_ #[23,3] ty #[.slice none 0 0,.int .i64 (n:Int)]).run Try.prog w =
   .ok (.slice (some ⟨w.heap.size,0,none⟩) n (grownCap w n 0 39)) (w.drew.alloc (.cells (Builtin.zeroCells PZ.cells n++Builtin.zeroCells PZ.cells (grownCap w n 0 39 - n)) 39)):=fun ty=>by
  have h:=Lib.run_append_grow_zeros w 23 3 ty 39 j0 PZ .i64 .i64 Try.underlying23 Try.underlying3 hj hy0 none 0 0 [] (run_firstCells_none w.drew j0.size 0 0 0) n (by omega) (by omega) (by omega) (by omega) (by rw[hy2];omega) (by rw[hy2];exact growslice_fits (by omega) (by omega));simpa using h
 have hGn:n≤grownCap w n 0 39:=grownCap_ge w _ _ _;have hG63:grownCap w n 0 39 ≤ maxLen:=grownCap_le_maxLen w n 0 39 (by unfold maxLen;omega);obtain⟨G,hG⟩:=eI (grownCap w n 0 39);obtain⟨cur,hcur⟩:=eI (Builtin.zeroCells PZ.cells n++Builtin.zeroCells PZ.cells (G-n));have hcs:cur.size=G*2:=by rw[hcur,Array.size_append,size_zeroCells,size_zeroCells];show n*2+(G-n)*2=G*2;rw[← hG] at hGn;omega
 rw[← hG] at hrz hGn hG63;rw[← hcur] at hrz
 have hown:(w.drew.alloc (.cells cur 39)).ownsRow w.heap.size 39 2 (.slice (some ⟨w.heap.size,0,none⟩) 0 G) 0 [] :=
  ⟨rfl,.inr ⟨w.heap.size,G,cur,rfl,Nat.le_refl _,heap_alloc_new w.drew _,Nat.zero_le _,hG63,hcs,by simp⟩⟩
 have hS0:=(St.start w).made ((Below.refl _ _).drew.alloc (Nat.le_refl _) (.cells cur 39)) hown;have hG63':G≤9223372036854775807:=by unfold maxLen at hG63;omega
 replace hG:=qh hG;have Hhcur:=qh hcur;clear hcur;have Hhcs:=qh hcs;clear hcs;have Hhown:=qh hown;clear hown;have HhS0:=qh hS0;clear hS0
 go_enter Try.func98, Try.ntmps98
 go_wp2_with (at_builtin;refine Lib.wpList_append_run _ rfl _ _ _ _ rfl _ _ rfl rfl _ _ (hrz _) ?_);go_ret;exact⟨_,G,rfl,HhS0.out⟩
def sumL (ess:List (List (Int × Int))) (k:Nat):Nat:=(ess.take k).flatten.length
theorem ZbM (ess:List (List (Int × Int))):sumL ess 0=0:=by simp[sumL]
theorem Zdt {ess:List (List (Int × Int))} {k:Nat} (h:k<ess.length):sumL ess (k+1)=sumL ess k+(ess.getD k []).length∧(ess.take (k+1)).flatten=(ess.take k).flatten++ess.getD k []:=by
 have e:ess.take (k+1)=ess.take k++[ess.getD k []]:=by rw[List.take_succ_eq_append_getElem h];simp[h]
 have e2:(ess.take (k+1)).flatten=(ess.take k).flatten++ess.getD k []:=by rw[e];simp
 exact⟨by unfold sumL;rw[e2,List.length_append],e2⟩
theorem ZdV {ess:List (List (Int × Int))} (hl:∀ es∈ess,es.length≤1000):∀ k,k≤ess.length→sumL ess k≤1000*k
 | 0,_=>by rw[ZbM];omega
 | k+1,h=>by have ih:=ZdV hl k (by omega);have h1:=(Zdt (ess:=ess) (k:=k) (by omega)).1;have h2:=hl (ess.getD k []) (by simp[List.getElem?_eq_getElem (show k<ess.length by omega)]);omega
theorem Zei (ess:List (List (Int × Int))) (vas:List Value) (ao:Option Addr) (b cap:Nat) (w:World) (hao:0<ess.length→ao=some ⟨b,0,none⟩) (hm:ess.length≤100) (hl:∀ es∈ess,es.length≤1000) (hb:0<ess.length→b<w.heap.size)
  (hc:∀ i,i<ess.length→w.cell? ⟨b,i,none⟩=some (vas.getD i undef)) (hp:∀ i,i<ess.length→Pairs 0 w (vas.getD i undef) (ess.getD i [])) :
  Calls Try.prog 65 #[.slice ao ess.length cap] w fun e w'=>∃ a c,e = .returned (.slice a ess.flatten.length c)∧St w w' [Ent.row 39 2 (.slice a ess.flatten.length c) ess.flatten.length (ess.flatten.flatMap Zaa)]:=by
 obtain⟨j0,hj,hy0,hy1,hy2⟩:=info_parts Try.infoPart;obtain⟨m,hmm⟩:=eI (ess.length);have hsum:=fun k (h:k<ess.length)=>Zdt h
 have hle:=ZdV hl;have hfin:sumL ess m=ess.flatten.length∧(ess.take m).flatten=ess.flatten:=by rw[hmm];unfold sumL;rw[List.take_length];exact⟨rfl,rfl⟩
 have hl':∀ k,k<m→(ess.getD k []).length≤1000:=fun k hk=>hl _ (by simp[List.getElem?_eq_getElem (show k<ess.length by omega)])
 rw[← hmm] at hm hc hp hsum hle hao hb ⊢;have Hao:=qh hao;have Hb:=qh hb;have Hc:=qh hc;have Hp:=qh hp;have Hsum:=qh hsum;have Hle:=qh hle;have Hfin:=qh hfin;have Hl:=qh hl';replace hmm:=qh hmm;clear hc hp hsum hle hfin hl hl' hao hb
 go_enter Try.func65, Try.ntmps65
 go_wp2
 go_loopw [3,11] (fun n i wr=>∃ k:Nat,i = .int .i64 (k:Int)∧n = .int .i64 ((sumL ess k:Nat):Int)∧k≤m∧w=wr) (fun _ i _=>m-(intOf i).toNat)
 case atStart=>exact⟨0,rfl,by rw[ZbM];rfl,Nat.zero_le _,rfl⟩
 case round =>
  obtain⟨k,rfl,rfl,hk,rfl⟩:=hrel;by_cases hlt:k<m
  ·have hlt2:(k:Int)<m:=by omega
   have hao:=Hao.out (by omega);subst hao;obtain⟨q1,q2⟩:=Hsum.out k hlt;have q3:=Hle.out k hk;have q4:=Hl.out k hlt;have c0:=Hc.out k hlt;obtain⟨ax,cx,hv,hv1,hv2,-⟩:=(Hp.out k hlt).form;rw[hv] at c0;obtain⟨L,hL⟩:=eI ((ess.getD k []).length);obtain⟨s,hs⟩:=eI (sumL ess k);rw[← hL] at q1 q4 c0;rw[← hs] at q1 q3;rw[← hs];have hw:IntKind.i64.wrap ((s:Int)+(L:Int))=(s:Int)+(L:Int):=IntWalk.i64_in _ (by omega);have hng:¬ (s:Int)+(L:Int)<0:=by omega
   have Hq1:=qh q1;clear q1;replace hL:=qh hL;have Hhs:=qh hs;clear hs;clear q2 hv hv1 hv2;go_wp2;go_roundw
   case rel=>exact⟨k+1,by go_num,by rw[Hq1.out];congr 1,by omega,trivial⟩
   case measure=>simp[intOf];omega
  obtain rfl:k=m:=by omega
  obtain⟨s,hs⟩:=eI (sumL ess k);have q3:=Hle.out k hk;rw[← hs] at q3 ⊢;have Hhs:=qh hs;clear hs;clear hlt;go_wp2_with fail;refine(ZfH s _ (by omega)).mono ?_;rintro e w1 ⟨a6,c6,rfl,hS'⟩;have HS1:=qh hS';clear hS';go_wp2
  go_loopw [6,27] (fun vo i wr=>∃ (j:Nat) (a:Option Addr) (c:Nat),i = .int .i64 (j:Int)∧vo = .slice a (sumL ess j) c∧j≤k∧St w wr [Ent.row 39 2 (.slice a (sumL ess j) c) (sumL ess j) ((ess.take j).flatten.flatMap Zaa)]) (fun _ i _=>k-(intOf i).toNat)
  case atStart=>exact⟨0,a6,c6,rfl,by rw[ZbM],by omega,by rw[ZbM];exact HS1.out⟩
  case round =>
   obtain⟨j,a,c,rfl,rfl,hj2,hS⟩:=hrel;by_cases hlt:j<k
   ·have hlt2:(j:Int)<k:=by omega
    have hao:=Hao.out (by omega);subst hao;have hb:=Hb.out (by omega);obtain⟨q1,q2⟩:=Hsum.out j hlt;have q3:=Hle.out j (by omega);have q4:=Hl.out j hlt;have m0:=(bcell hS.bel b j hb).trans (Hc.out j hlt);have hPr:=(Hp.out j hlt).below hS.bel;obtain⟨ax,cx,hv,hv1,hv2,-⟩:=hPr.form;rw[hv] at m0 hPr;obtain⟨E,hE⟩:=eI (ess.getD j []);obtain⟨Z,hZ⟩:=eI ((ess.take j).flatten);rw[← hE] at q1 q2 q4 m0 hPr hv1;rw[← hZ] at q2 hS;obtain⟨L,hL⟩:=eI (E.length);obtain⟨s2,hs2⟩:=eI (sumL ess j);have hPr2:Sl 0 wr (.slice ax L cx) L 2 (E.flatMap Zaa):=by rw[hL];exact hPr
    rw[← hL] at q1 q4 m0;rw[← hs2] at q1 q3 hS;rw[← hs2];have HS:=qh hS;have HR:=qh (hS.row 0 rfl);have HXw:=qh hPr2;have Hq1:=qh q1;clear q1;have Hq2:=qh q2;clear q2;replace hL:=qh hL;have Hhs2:=qh hs2;clear hs2;replace hE:=qh hE;have HhZ:=qh hZ;clear hZ;clear hS hv hv1 hv2 hPr hPr2 hlt;go_wp2_with (at_builtin;refine Zae _ rfl _ _ _ rfl _ 39 j0 PZ 2 16 Try.underlying23 hj hy0 hy1 hy2 rfl (by omega) _ s2 _ rfl HR.out _ L (E.flatMap Zaa) rfl HXw.out Zcc (by unfold maxLen;omega) (by omega) HS.out.size ?_;intro a6 c6 w6 hown6 hgrow6 hat6;have HS6:=qh (HS.out.appS 0 rfl hown6 hgrow6 hat6);clear hown6 hgrow6 hat6);go_roundw
    case rel=>exact⟨j+1,a6,c6,by go_num,by rw[Hq1.out],by omega,by rw[Hq1.out,Hq2.out,List.flatMap_append];exact HS6.out⟩
    case measure=>simp[intOf];omega
   obtain rfl:j=k:=by omega
   rw[Hfin.out.1,Hfin.out.2] at hS;rw[Hfin.out.1];have HS:=qh hS;clear hS hlt;go_wp2;go_ret;exact⟨a,c,rfl,HS.out⟩
def RPo (es:List (Int × Int)) (w:World) (e:Ending) (w':World):Prop:=∃ a c,e = .returned (.slice a es.length c)∧St w w' [Ent.row 39 2 (.slice a es.length c) es.length (es.flatMap Zaa)]
theorem ZbV (k:Int) (ess:List (List (Int × Int))) (vas:List Value) (b cap:Nat) (w:World) (hm:ess.length≤100) (hl:∀ es∈ess,es.length≤1000) (hb:b<w.heap.size)
  (hc:∀ i,i<ess.length→w.cell? ⟨b,i,none⟩=some (vas.getD i undef)) (hp:∀ i,i<ess.length→Pairs 0 w (vas.getD i undef) (ess.getD i [])) :
  Calls Try.prog 53 #[.int .i64 k,.slice (some ⟨b,0,none⟩) ess.length cap] w fun e w'=>RPo (ess.flatten++[(k,0)]) w e w':=by
 obtain⟨j0,hj,hy0,hy1,hy2⟩:=info_parts Try.infoPart;have hcon:=qh (Zei ess vas (some ⟨b,0,none⟩) b cap w (fun _=>rfl) hm hl (fun _=>hb) hc hp);have hle:=ZdV hl ess.length (Nat.le_refl _);have hfl:sumL ess ess.length=ess.flatten.length:=by unfold sumL;rw[List.take_length]
 rw[hfl] at hle;clear hc hp hl hfl;obtain⟨m,hmm⟩:=eI (ess.length);rw[← hmm] at hcon hm hle ⊢;obtain⟨E,hE⟩:=eI (ess.flatten);rw[← hE] at hcon hle ⊢;obtain⟨L,hL⟩:=eI (E.length);rw[← hL] at hcon hle;have hL2:(E++[(k,0)]).length=L+1:=by rw[hL];simp
 unfold RPo;rw[hL2];replace hmm:=qh hmm;replace hE:=qh hE;have HhL:=qh hL;clear hL;have HhL2:=qh hL2;clear hL2
 go_enter Try.func53, Try.ntmps53
 go_wp2_with (first
  | (go_at_call 65;refine(hcon.out).mono ?_;rintro e w1 ⟨a6,c6,rfl,hS'⟩;have hS2:=hS'.alloc w1.heap.size rfl #[.int .i64 k,.int .i64 0] 39;have hS3:=hS2.boxrow 1 1 2 [.int .i64 k,.int .i64 0] rfl rfl (by unfold maxLen;omega);have HS:=qh hS3;have HR:=qh (hS3.row 0 rfl);have HX:=qh ((Zaf (hS3.row 1 rfl)).sl (by omega));clear hS' hS2 hS3)
  | (at_builtin;refine Zae _ rfl _ _ _ rfl _ 39 j0 PZ 2 16 Try.underlying23 hj hy0 hy1 hy2 rfl (by omega) _ L _ rfl HR.out _ 1 [.int .i64 k,.int .i64 0] rfl (HX.out.mono (Nat.zero_le _)) (by intro u hu;simp at hu;rcases hu with rfl|rfl<;>rfl) (by unfold maxLen;omega) (by omega) HS.out.size ?_;intro a6 c6 w6 hown6 hgrow6 hat6;have HS6:=qh (HS.out.appS 0 rfl hown6 hgrow6 hat6);clear hown6 hgrow6 hat6))
 go_ret;exact⟨_,_,rfl,by rw[List.flatMap_append];exact HS6.out.pick [0] (by decide)⟩
theorem Zez (k:Int) (w:World):Calls Try.prog 52 #[.int .i64 k] w fun e w'=>RPo [(k,0)] w e w':=by
 have hS:=((St.start w).alloc w.heap.size rfl #[.int .i64 k,.int .i64 0] 39).boxrow 0 1 2 [.int .i64 k,.int .i64 0] rfl rfl (by unfold maxLen;omega);replace hS:=qh hS
 go_enter Try.func52, Try.ntmps52
 go_wp2;go_ret;exact⟨_,_,rfl,hS.out⟩
def bnK (k:Int):Int:=if k=5 then 1 else if k=6 then 2 else if k=4 then 3 else if k=7 then 4 else if k=8 then 5 else 6
theorem Zaj (k:Int) (w:World) (r:Int) (hr:bnK k=r):Calls Try.prog 93 #[.int .i64 k] w fun e w'=>e = .returned (.int .i64 r)∧w=w':=by
 unfold bnK at hr
 go_enter Try.func93, Try.ntmps93
 by_cases h5:k=5
 ·rw[if_pos h5] at hr;subst hr;go_wp2;go_ret;exact⟨rfl,rfl⟩
 rw[if_neg h5] at hr;by_cases h6:k=6
 ·rw[if_pos h6] at hr;subst hr;go_wp2;go_ret;exact⟨rfl,rfl⟩
 rw[if_neg h6] at hr;by_cases h4:k=4
 ·rw[if_pos h4] at hr;subst hr;go_wp2;go_ret;exact⟨rfl,rfl⟩
 rw[if_neg h4] at hr;by_cases h7:k=7
 ·rw[if_pos h7] at hr;subst hr;go_wp2;go_ret;exact⟨rfl,rfl⟩
 rw[if_neg h7] at hr;by_cases h8:k=8
 ·rw[if_pos h8] at hr;subst hr;go_wp2;go_ret;exact⟨rfl,rfl⟩
 rw[if_neg h8] at hr;subst hr;go_wp2;go_ret;exact⟨rfl,rfl⟩
theorem Zfw (k:Int) (xs:List (Int × Int)) (v:Value) (b cap:Nat) (w:World) (hl:xs.length≤1000) (hb:b<w.heap.size) (h0:w.cell? ⟨b,0,none⟩=some v) (hp:Pairs 0 w v xs) :
  Calls Try.prog 53 #[.int .i64 k,.slice (some ⟨b,0,none⟩) 1 cap] w fun e w'=>RPo (xs++[(k,0)]) w e w':=by
 have h:=ZbV k [xs] [v] b cap w (by simp) (by simpa using hl) hb (fun i hi=>by
  obtain rfl:i=0:=by simpa using hi
  exact h0) (fun i hi=>by
  obtain rfl:i=0:=by simpa using hi
  exact hp)
 simpa using h
theorem Zd6 (k:Int) (xs ys:List (Int × Int)) (v u:Value) (b cap:Nat) (w:World) (hl:xs.length≤1000) (hl2:ys.length≤1000) (hb:b<w.heap.size) (h0:w.cell? ⟨b,0,none⟩=some v) (h1:w.cell? ⟨b,1,none⟩=some u) (hp:Pairs 0 w v xs) (hq:Pairs 0 w u ys) :
  Calls Try.prog 53 #[.int .i64 k,.slice (some ⟨b,0,none⟩) 2 cap] w fun e w'=>RPo (xs++ys++[(k,0)]) w e w':=by
 have h:=ZbV k [xs,ys] [v,u] b cap w (by simp) (by intro es he;simp at he;rcases he with rfl|rfl<;>assumption) hb (fun i hi=>by
  obtain rfl|rfl:i=0∨i=1:=by simp at hi;omega
  ·exact h0
  ·exact h1) (fun i hi=>by
  obtain rfl|rfl:i=0∨i=1:=by simp at hi;omega
  ·exact hp
  exact hq)
 have e:[xs,ys].flatten++[(k,0)]=xs++ys++[(k,0)]:=by simp
 rw[e] at h;exact h
end Go.Proofs.Ytfgpkadhegdffaa
