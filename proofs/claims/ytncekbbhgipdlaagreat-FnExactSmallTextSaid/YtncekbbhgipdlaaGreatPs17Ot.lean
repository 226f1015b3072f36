/-
  The walk over the program's starts and ExprValid.
  Condition: the list of parts reads as such, and is not long.
-/
import Derived.Test.YtncekbbhgipdlaaGreatPs16Arr
set_option maxHeartbeats 4000000
set_option maxRecDepth 100000
namespace Go.Proofs.YtncekbbhgipdlaaGreat
open Go.RowKit
def stkB (es:List (Int × Int)):Nat→List Nat
 | 0=>[]
 | k+1=>(stkB es k).take ((stkB es k).length-(Zae (es.getD k (0,0))).toNat)++[if (Zae (es.getD k (0,0))).toNat=0 then k else(stkB es k).getD ((stkB es k).length-(Zae (es.getD k (0,0))).toNat) 0]
def begB (es:List (Int × Int)) (k:Nat):Nat:=if (Zae (es.getD k (0,0))).toNat=0 then k else(stkB es k).getD ((stkB es k).length-(Zae (es.getD k (0,0))).toNat) 0
theorem ZcP (es:List (Int × Int)) (k:Nat):stkB es (k+1)=(stkB es k).take ((stkB es k).length-(Zae (es.getD k (0,0))).toNat)++[begB es k]:=rfl
theorem ZkU {es:List (Int × Int)} {k:Nat}:exAt es k=true↔0≤Zae (es.getD k (0,0))∧Zae (es.getD k (0,0))≤dep es k:=by simp only[exAt,Bool.and_eq_true,decide_eq_true_eq]
theorem Zkr {es:List (Int × Int)}:∀ k:Nat,(∀ j,j<k→exAt es j=true)→((stkB es k).length:Int)=dep es k
 | 0,_=>rfl
 | k+1,h=>by
  have ih:=Zkr k fun j hj=>h j (by omega)
  have h1:=ZkU.1 (h k (by omega));rw[ZcP,List.length_append,List.length_take,List.length_singleton];show _=dep es k-Zae (es.getD k (0,0))+1;omega
def natC (l:List Nat):List Value:=intCells (l.map fun (x:Nat)=>((x:Nat):Int))
theorem Zpl {l:List Nat} {k:Nat} (hk:k<l.length):(natC l)[k]? = some (.int .i64 ((l.getD k 0:Nat):Int)):=by simp[natC,intCells,hk]
theorem ZmM (l:List Nat) (m:Nat):(natC l).take (m*1)=natC (l.take m):=by simp[natC,intCells,List.map_take]
theorem Zi1 (l:List Nat) (x:Nat):natC l++[.int .i64 ((x:Nat):Int)]=natC (l++[x]):=by simp[natC,intCells]
def RSt (es:List (Int × Int)) (n:Nat) (w:World) (e:Ending) (w':World):Prop :=
 ((∀ k,k<n→exAt es k=true)∧∃ g b,e = .returned (.tuple #[.slice (some ⟨g,0,none⟩) n n,.bool b])∧(b=true↔dep es n=1)∧St w w' [Ent.row 3 1 (.slice (some ⟨g,0,none⟩) n n) n (intCells (clsL n (begB es)))]) ∨
 ((¬ ∀ k,k<n→exAt es k=true)∧e = .returned (.tuple #[.slice none 0 0,.bool false])∧Below w.heap.size w w')
theorem Zb5 (es:List (Int × Int)) (v:Value) (w:World) (hlen:es.length≤1000) (h:Pairs 0 w v es) :
  Calls Tryz.prog 90 #[v] w fun e w'=>RSt es es.length w e w':=by
 obtain⟨av,cv,rfl,hc1,hc2,hrd⟩:=h.form;obtain⟨i0,hi,hz0,hz1,hz2⟩:=info_parts Tryz.infoInt;obtain⟨n,hn⟩:=eI (es.length);rw[← hn] at hc1 hlen hrd;rw[← hn];have Hrd:=qh hrd;have Hhi:=qh hi;clear hi;replace hz0:=qh hz0;have Hhz1:=qh hz1;clear hz1;have Hhz2:=qh hz2;clear hz2;replace hn:=qh hn;clear h hrd
 go_enter Tryz.func90, Tryz.ntmps90
 go_wp2_with (at_make;refine wpList_make_full _ rfl _ _ 38 rfl _ 3 i0 (.int .i64 0) 1 Tryz.underlying38 Hhi.out hz0.out Hhz1.out .i64 .i64 _ _ n rfl rfl rfl rfl (by rw[Hhz2.out];omega) (by unfold maxLen;omega) (Nat.le_refl _) ?_;intro w1 hown hgrow;have HS1:=qh ((St.start w).made ((Below.refl _ _).grown hgrow (Nat.le_refl _) (fun _ h=>by cases h)) (Zgn (begB es) hown));clear hown hgrow)
 go_loopw [5,13] (fun st i wr=>∃ (k m c:Nat) (a:Option Addr),i = .int .i64 (k:Int)∧st = .slice a m c∧k≤n∧(∀ j,j<k→exAt es j=true)∧(stkB es k).length=m∧St w wr [Ent.row 3 1 (.slice (some ⟨w.heap.size,0,none⟩) n n) n (intCells (padL n k (begB es))),Ent.row 3 1 (.slice a m c) m (natC (stkB es k))])
  (fun _ i _=>n-(intOf i).toNat)
 case atStart=>exact⟨0,0,0,none,rfl,rfl,Nat.zero_le _,fun j hj=>absurd hj (by omega),rfl,HS1.out.nilRow 3 1⟩
 case round =>
  obtain⟨k,m,c,a,rfl,rfl,hk,hall,hm,hS⟩:=hrel;have hdl:=Zkr k hall;have hdi:=ZgO es k;by_cases hlt:k<n
  ·have hlt2:(k:Int)<n:=by omega
   obtain⟨b,o,rfl,-,hbl,hcs⟩:=Hrd.out (by omega);obtain⟨g1,g2⟩:=hcs k hlt;have k1:=(bcell hS.bel b _ hbl).trans g1;have k2:=(bcell hS.bel b _ hbl).trans g2;obtain⟨p,hp⟩:=eI (es.getD k (0,0));have hex:=ZkU (es:=es) (k:=k);have hbg:begB es k=if (Zae (es.getD k (0,0))).toNat=0 then k else(stkB es k).getD ((stkB es k).length-(Zae (es.getD k (0,0))).toNat) 0:=rfl;have hsn:=ZcP es k;rw[← hp] at k1 k2 hex hbg hsn;obtain⟨p1,p2⟩:=p;simp only at k1 k2;have hpi:=Zcv (p1,p2);obtain⟨r,hr⟩:=eJ (Zae (p1,p2));rw[hr] at hex hpi hbg hsn;rw[hm] at hdl hbg hsn;have hmk:m≤2*k:=by omega
   have hmr:m<r∨r≤m:=by omega
   have HS:=qh hS;have Hall:=qh hall;have HSp:=qh (hS.alloc _ rfl #[.int .i64 p1,.int .i64 p2] 62);replace hex:=qh hex;replace hbg:=qh hbg;have Hhsn:=qh hsn;clear hsn;have Hhp:=qh hp;clear hp;have Hhdl:=qh hdl;clear hdl;have Hhdi:=qh hdi;clear hdi;have Hhm:=qh hm;clear hm;clear hS hall hcs g1 g2;cases hpo:pOk (p1,p2)
   ·have hno:r = -1:=by rw[← hr];unfold Zae;rw[if_neg (by rw[hpo];simp)]
    have Hhr:=qh hr;clear hr;have Hhpo:=qh hpo;clear hpo;have hbad:¬ ∀ k,k<n→exAt es k=true:=fun h=>by have:=(hex.out.1 (h k hlt)).1;omega
    replace hbad:=qh hbad;have e0:=HSp.out.cell (v:=.int .i64 p1) 2 0 rfl rfl;have e1:=HSp.out.cell (v:=.int .i64 p2) 2 1 rfl rfl;go_wp2_with fail;refine(ZcU p1 p2 _ _ Hhpo.out).mono ?_;rintro e w2 ⟨rfl,hb2⟩;have HS2:=qh (HSp.out.call hb2);clear hb2;go_wp2
    go_ret2
    exact .inr ⟨hbad.out,rfl,HS2.out.bel⟩
   have hno:0≤r:=by
    rw[← hr];unfold Zae;rw[if_pos hpo]
    split<;>(try split)<;>omega
   have Hhr:=qh hr;clear hr;have Hhpo:=qh hpo;clear hpo;have e0:=HSp.out.cell (v:=.int .i64 p1) 2 0 rfl rfl;have e1:=HSp.out.cell (v:=.int .i64 p2) 2 1 rfl rfl;go_wp2_with fail;refine(ZcU p1 p2 _ _ Hhpo.out).mono ?_;rintro e w2 ⟨rfl,hb2⟩;have HS2:=qh (HSp.out.call hb2);clear hb2 e0 e1;have e0:=HS2.out.cell (v:=.int .i64 p1) 2 0 rfl rfl;have e1:=HS2.out.cell (v:=.int .i64 p2) 2 1 rfl rfl;go_wp2_with fail;refine(ZaL p1 p2 _ _ Hhr.out hno).mono ?_;rintro e w3 ⟨rfl,hb3⟩;have HS3:=qh (HS2.out.call hb3);clear hb3 e0 e1;rcases hmr with hmr|hmr
   ·have hbad:¬ ∀ k,k<n→exAt es k=true:=fun h=>by have:=(hex.out.1 (h k hlt)).2;have:=Hhdl.out;omega
    replace hbad:=qh hbad;have q1:((m:Int)<r)=True:=by simp[hmr]
    go_wp2
    go_ret2
    exact .inr ⟨hbad.out,rfl,HS3.out.bel⟩
   have q1:((m:Int)<r)=False:=by simp;omega
   have hexk:exAt es k=true:=hex.out.2 ⟨hno,by have:=Hhdl.out;omega⟩;have Hhexk:=qh hexk;clear hexk;have hS4:=HS3.out.store 0 rfl k (.int .i64 ((k:Nat):Int));rw[ZkC (begB es) hlt,ZfH] at hS4;have HS4:=qh hS4;have f0:=HS3.out.rfr 0 k rfl;have k0:=HS3.out.rcell (v:=.int .i64 ((0:Nat):Int)) 0 k rfl (by omega) (by rw[ZkC (begB es) hlt];exact Zc5 _ _);have e0:=HS4.out.cell (v:=.int .i64 p1) 2 0 rfl rfl;have e1:=HS4.out.cell (v:=.int .i64 p2) 2 1 rfl rfl;clear hS4;go_wp2_with fail;refine(ZaL p1 p2 _ _ Hhr.out hno).mono ?_;rintro e w5 ⟨rfl,hb5⟩;have HS5:=qh (HS4.out.call hb5);clear hb5 e0 e1 f0 k0;by_cases hr0:r=0
   ·subst hr0;have hbk:begB es k=k:=by rw[hbg.out];rfl
    have hsk:stkB es (k+1)=stkB es k++[k]:=by rw[Hhsn.out,hbk];congr 1;have:=Hhm.out;show(stkB es k).take (m-0)=_;rw[← this];exact List.take_length
    have Hhbk:=qh hbk;clear hbk;have Hhsk:=qh hsk;clear hsk;have HSa:=qh (HS5.out.alloc_ (.cells #[.int .i64 ((k:Nat):Int)] 3));have HRw:=qh (HSa.out.row 1 rfl);have x1:=HS5.out.rcell (v:=.int .i64 ((k:Nat):Int)) 0 k rfl (by omega) (Zc5 _ _);go_wp2_with (at_builtin;refine wpList_append_lies _ rfl _ _ _ rfl _ 3 i0 (.int .i64 0) 1 8 Tryz.underlying38 Hhi.out hz0.out Hhz1.out Hhz2.out rfl (by omega) _ m _ rfl HRw.out ⟨w5.heap.size,0,none⟩ 1 1 [.int .i64 ((k:Nat):Int)] rfl rfl (World.news_of_block (heap_alloc_new w5 _)) ZbB (by omega) (by unfold maxLen;omega) (by omega) HSa.out.size _ rfl ?_;intro g6 c6 w6 hown6 hgrow6 hat6 hlt6;have HS6:=qh (HSa.out.app 1 rfl hown6 hgrow6 hat6);clear hown6 hgrow6 hat6 hlt6);go_roundw
    case rel =>
     refine⟨k+1,m+1,c6,some ⟨g6,0,none⟩,by go_num,rfl,by omega,fun j hj => ?_,?_,?_⟩
     ·by_cases e:j=k
      ·rw[e];exact Hhexk.out
      exact Hall.out j (by omega)
     ·rw[Hhsk.out,List.length_append,List.length_singleton,Hhm.out]
     rw[Hhsk.out,← Zi1,← ZfI,Hhbk.out];exact HS6.out.pick [0,1] (by decide)
    case measure=>simp[intOf];omega
   have hrp:0<r:=by omega
   clear hr0;obtain⟨q,rfl⟩:∃ q:Nat,r=((q:Nat):Int):=⟨r.toNat,by omega⟩;have hq0:0<q:=by omega
   obtain⟨t,hmt⟩:∃ t:Nat,(m:Int)-(q:Int)=((t:Nat):Int):=⟨m-q,by omega⟩;obtain⟨g,c2,he⟩:=HS5.out.rowform 1 rfl (by omega);simp only[Value.slice.injEq,true_and] at he;obtain⟨rfl,rfl⟩:=he;obtain⟨hcc,hcm⟩:=HS5.out.rowcap 1 rfl;have ht0:(0:Int)≤(t:Int):=by omega
   have htc:(t:Int)≤(c:Int):=by omega
   have htm:(t:Int)<(m:Int):=by omega
   have hwt:IntKind.i64.wrap (t:Int)=(t:Int):=IntWalk.i64_in _ (by omega);obtain⟨B,hBd⟩:=eI ((stkB es k).getD t 0);have hB:(natC (stkB es k))[t]? = some (.int .i64 ((B:Nat):Int)):=by rw[hBd];exact Zpl (by rw[Hhm.out];omega)
   have htq:m-q=t:=by omega
   have hbk:begB es k=B:=by rw[hbg.out,Int.toNat_natCast,if_neg (by omega),htq,hBd]
   have hsk:stkB es (k+1)=(stkB es k).take t++[B]:=by rw[Hhsn.out,Int.toNat_natCast,htq,hbk]
   have htl:((stkB es k).take t).length=t:=by rw[List.length_take,Hhm.out];omega
   have Hhbk:=qh hbk;clear hbk;have Hhsk:=qh hsk;clear hsk;have Hhtl:=qh htl;clear htl;replace hB:=qh hB;have HhBd:=qh hBd;clear hBd;go_wp2;refine wp_region_any (by kernel_rfl) ?_
   refine Zar (fun A listed a w'=>∃ (l0 l1 l2 l3 l4 l5 l6 l7 l8 l9 l10 l11 l12 l13 l14 l15 l16 l17 l18 l19:Bool) ,listed=#[l0,l1,l2,l3,l4,l5,l6,l7,l8,l9,l10,l11,l12,l13,l14,l15,l16,l17,l18,l19]∧(l17=true→l2=true∧l3=true∧l9=true∧l10=true) ∧
     a=⟨(((((((((((((((((((A.tmps.setIfInBounds 35 (if l0=true then .slice (some ⟨w.heap.size,0,none⟩) n n else A.tmps.getD 35 undef)).setIfInBounds 36 (if l1=true then .int .i64 ((k:Nat):Int) else A.tmps.getD 36 undef)).setIfInBounds 37 (if l2=true then .slice (some ⟨g,0,none⟩) m c else A.tmps.getD 37 undef)).setIfInBounds 38 (if l3=true then .slice (some ⟨g,0,none⟩) m c else A.tmps.getD 38 undef)).setIfInBounds 39 (if l4=true then .int .i64 (m:Int) else A.tmps.getD 39 undef)).setIfInBounds 40 (if l5=true then .agg #[.int .i64 p1,.int .i64 p2] else A.tmps.getD 40 undef)).setIfInBounds 41 (if l6=true then .int .i64 ((q:Nat):Int) else A.tmps.getD 41 undef)).setIfInBounds 42 (if l7=true then .int .i64 ((t:Nat):Int) else A.tmps.getD 42 undef)).setIfInBounds 43 (if l8=true then .slice (some ⟨g,0,none⟩) t c else A.tmps.getD 43 undef)).setIfInBounds 44 (if l9=true then .slice (some ⟨g,0,none⟩) m c else A.tmps.getD 44 undef)).setIfInBounds 45 (if l10=true then .slice (some ⟨g,0,none⟩) m c else A.tmps.getD 45 undef)).setIfInBounds 46 (if l11=true then .int .i64 (m:Int) else A.tmps.getD 46 undef)).setIfInBounds 47 (if l12=true then .agg #[.int .i64 p1,.int .i64 p2] else A.tmps.getD 47 undef)).setIfInBounds 48 (if l13=true then .int .i64 ((q:Nat):Int) else A.tmps.getD 48 undef)).setIfInBounds 49 (if l14=true then .int .i64 ((t:Nat):Int) else A.tmps.getD 49 undef)).setIfInBounds 50 (if l15=true then .pointer (some ⟨g,t,none⟩) else A.tmps.getD 50 undef)).setIfInBounds 51 (if l16=true then .int .i64 ((B:Nat):Int) else A.tmps.getD 51 undef)).setIfInBounds 5 (if l17=true then .slice (some ⟨g,0,none⟩) t c else A.tmps.getD 5 undef)).setIfInBounds 52 (if l18=true then .pointer (some ⟨w.heap.size,k,none⟩) else A.tmps.getD 52 undef)),A.defers⟩ ∧
     St w w' [(if l19=true then Ent.row 3 1 (.slice (some ⟨w.heap.size,0,none⟩) n n) n ((intCells (padT n k (begB es) k)).set (k) (.int .i64 ((B:Nat):Int))) else Ent.row 3 1 (.slice (some ⟨w.heap.size,0,none⟩) n n) n (intCells (padT n k (begB es) k))),Ent.row 3 1 (.slice (some ⟨g,0,none⟩) m c) m (natC (stkB es k)),Ent.box wr.heap.size #[.int .i64 p1,.int .i64 p2] 62]) ?_ ?_ ?_
   ·rintro listed a w' ⟨l0,l1,l2,l3,l4,l5,l6,l7,l8,l9,l10,l11,l12,l13,l14,l15,l16,l17,l18,l19,rfl,hd17,rfl,hS⟩ i hi;obtain⟨hun,o,ho,hall⟩:=mem_ready.1 hi;have hlt:=(Array.getElem?_eq_some_iff.1 ho).1;refine wpOp_step ho (fun K hK => ?_);clear hi;have HS:=qh hS;clear hS;simp only[w_1,w_2,w_3,w_4,w_5,w_6,w_7,w_8];obtain h|h|h|h|h|h|h|h|h|h|h|h|h|h|h|h|h|h|h|h:i=0∨i=1∨i=2∨i=3∨i=4∨i=5∨i=6∨i=7∨i=8∨i=9∨i=10∨i=11∨i=12∨i=13∨i=14∨i=15∨i=16∨i=17∨i=18∨i=19:=by simp at hlt;omega
    all_goals subst h
    all_goals simp only[w_5,w_6,w_7,w_9] at ho
    all_goals subst ho
    all_goals simp[Region.binds] at hun hall
    ·subst hun;go_simp;exact hK _ _ ⟨_,_,_,_,_,_,_,_,_,_,_,_,_,_,_,_,_,_,_,_,rfl,hd17,(by simp),HS.out⟩
    ·subst hun;go_simp;exact hK _ _ ⟨_,_,_,_,_,_,_,_,_,_,_,_,_,_,_,_,_,_,_,_,rfl,hd17,(by simp),HS.out⟩
    ·subst hun;obtain rfl:l17=false:=by cases l17 with|false=>rfl|true=>simpa using hd17 rfl
     go_simp;exact hK _ _ ⟨_,_,_,_,_,_,_,_,_,_,_,_,_,_,_,_,_,_,_,_,rfl,by simp,(by simp),HS.out⟩
    ·subst hun;obtain rfl:l17=false:=by cases l17 with|false=>rfl|true=>simpa using hd17 rfl
     go_simp;exact hK _ _ ⟨_,_,_,_,_,_,_,_,_,_,_,_,_,_,_,_,_,_,_,_,rfl,by simp,(by simp),HS.out⟩
    ·obtain rfl:=hall;subst hun;go_simp;exact hK _ _ ⟨_,_,_,_,_,_,_,_,_,_,_,_,_,_,_,_,_,_,_,_,rfl,hd17,(by simp),HS.out⟩
    ·subst hun;have e0:=HS.out.cell (v:=.int .i64 p1) 2 0 rfl rfl;have e1:=HS.out.cell (v:=.int .i64 p2) 2 1 rfl rfl;go_simp;exact hK _ _ ⟨_,_,_,_,_,_,_,_,_,_,_,_,_,_,_,_,_,_,_,_,rfl,hd17,(by simp),HS.out⟩
    ·obtain rfl:=hall;subst hun;go_simp
     go_at_call 56
     refine(ZaL p1 p2 _ _ Hhr.out (by omega)).mono ?_;rintro e u1 ⟨rfl,hb⟩;have hS2:=HS.out.call hb;have HhS2:=qh hS2;clear hS2;go_simp;exact hK _ _ ⟨_,_,_,_,_,_,_,_,_,_,_,_,_,_,_,_,_,_,_,_,rfl,hd17,(by simp),HhS2.out⟩
    ·obtain⟨rfl,rfl⟩:=hall;subst hun;go_simp;exact hK _ _ ⟨_,_,_,_,_,_,_,_,_,_,_,_,_,_,_,_,_,_,_,_,rfl,hd17,(by simp),HS.out⟩
    ·obtain⟨rfl,rfl⟩:=hall;subst hun;go_simp;exact hK _ _ ⟨_,_,_,_,_,_,_,_,_,_,_,_,_,_,_,_,_,_,_,_,rfl,hd17,(by simp),HS.out⟩
    ·subst hun;obtain rfl:l17=false:=by cases l17 with|false=>rfl|true=>simpa using hd17 rfl
     go_simp;exact hK _ _ ⟨_,_,_,_,_,_,_,_,_,_,_,_,_,_,_,_,_,_,_,_,rfl,by simp,(by simp),HS.out⟩
    ·subst hun;obtain rfl:l17=false:=by cases l17 with|false=>rfl|true=>simpa using hd17 rfl
     go_simp;exact hK _ _ ⟨_,_,_,_,_,_,_,_,_,_,_,_,_,_,_,_,_,_,_,_,rfl,by simp,(by simp),HS.out⟩
    ·obtain rfl:=hall;subst hun;go_simp;exact hK _ _ ⟨_,_,_,_,_,_,_,_,_,_,_,_,_,_,_,_,_,_,_,_,rfl,hd17,(by simp),HS.out⟩
    ·subst hun;have e0:=HS.out.cell (v:=.int .i64 p1) 2 0 rfl rfl;have e1:=HS.out.cell (v:=.int .i64 p2) 2 1 rfl rfl;go_simp;exact hK _ _ ⟨_,_,_,_,_,_,_,_,_,_,_,_,_,_,_,_,_,_,_,_,rfl,hd17,(by simp),HS.out⟩
    ·obtain⟨rfl,rfl⟩:=hall;subst hun;go_simp
     go_at_call 56
     refine(ZaL p1 p2 _ _ Hhr.out (by omega)).mono ?_;rintro e u1 ⟨rfl,hb⟩;have hS2:=HS.out.call hb;have HhS2:=qh hS2;clear hS2;go_simp;exact hK _ _ ⟨_,_,_,_,_,_,_,_,_,_,_,_,_,_,_,_,_,_,_,_,rfl,hd17,(by simp),HhS2.out⟩
    ·obtain⟨rfl,rfl⟩:=hall;subst hun;go_simp;exact hK _ _ ⟨_,_,_,_,_,_,_,_,_,_,_,_,_,_,_,_,_,_,_,_,rfl,hd17,(by simp),HS.out⟩
    ·obtain⟨rfl,rfl⟩:=hall;subst hun;go_simp;exact hK _ _ ⟨_,_,_,_,_,_,_,_,_,_,_,_,_,_,_,_,_,_,_,_,rfl,hd17,(by simp),HS.out⟩
    ·obtain rfl:=hall;subst hun;have e0:=HS.out.rcell (v:=.int .i64 ((B:Nat):Int)) 1 (t) rfl (by omega) hB.out;go_simp;exact hK _ _ ⟨_,_,_,_,_,_,_,_,_,_,_,_,_,_,_,_,_,_,_,_,rfl,hd17,(by simp),HS.out⟩
    ·obtain⟨rfl,rfl,rfl,rfl,rfl,rfl,rfl,rfl,-,rfl,rfl⟩:=hall;subst hun;go_simp;exact hK _ _ ⟨_,_,_,_,_,_,_,_,_,_,_,_,_,_,_,_,_,_,_,_,rfl,by simp,(by simp),HS.out⟩
    ·obtain⟨rfl,rfl,-,-,rfl,rfl,rfl,rfl,rfl,rfl,rfl,rfl,rfl,rfl,rfl,rfl,rfl,rfl,rfl,rfl⟩:=hall;subst hun;go_simp;exact hK _ _ ⟨_,_,_,_,_,_,_,_,_,_,_,_,_,_,_,_,_,_,_,_,rfl,by simp,(by simp),HS.out⟩
    obtain⟨rfl,rfl,rfl,rfl,rfl,rfl,rfl,rfl,rfl,rfl,rfl,rfl,rfl,rfl,rfl,rfl,rfl,rfl,rfl,-⟩:=hall;subst hun;have f0:=HS.out.rfr 0 (k) rfl;have k0:=HS.out.rcell (v:=.int .i64 ((k:Nat):Int)) 0 (k) rfl (by omega) (Zc5 _ _);go_simp;exact hK _ _ ⟨_,_,_,_,_,_,_,_,_,_,_,_,_,_,_,_,_,_,_,_,rfl,by simp,(by simp),(HS.out.store 0 rfl (k) (.int .i64 ((B:Nat):Int)))⟩
   ·rintro listed a w' ⟨l0,l1,l2,l3,l4,l5,l6,l7,l8,l9,l10,l11,l12,l13,l14,l15,l16,l17,l18,l19,rfl,hd17,rfl,hS⟩ hr;obtain⟨rfl,rfl,rfl,rfl,rfl,rfl,rfl,rfl,rfl,rfl,rfl,rfl,rfl,rfl,rfl,rfl,rfl,rfl,rfl,rfl,-⟩:=zA (ZaK (by kernel_rfl) rfl hr) rfl;clear hr hd17;simp only[↓reduceIte] at hS ⊢;simp only[w_1,w_2,w_3];have hS7:=hS.cut 1 rfl t (by omega);rw[ZfH,ZmM] at hS7;have HS7:=qh hS7;clear hS hS7;have HSa:=qh (HS7.out.alloc_ (.cells #[.int .i64 ((B:Nat):Int)] 3));have HRw:=qh (HSa.out.row 1 rfl);have x1:=HS7.out.rcell (v:=.int .i64 ((B:Nat):Int)) 0 k rfl (by omega) (Zc5 _ _);go_wp2_with (at_builtin;refine wpList_append_lies _ rfl _ _ _ rfl _ 3 i0 (.int .i64 0) 1 8 Tryz.underlying38 Hhi.out hz0.out Hhz1.out Hhz2.out rfl (by omega) _ t _ rfl HRw.out ⟨w'.heap.size,0,none⟩ 1 1 [.int .i64 ((B:Nat):Int)] rfl rfl (World.news_of_block (heap_alloc_new w' _)) ZbB (by omega) (by unfold maxLen;omega) (by omega) HSa.out.size _ rfl ?_;intro g6 c6 w6 hown6 hgrow6 hat6 hlt6;have HS6:=qh (HSa.out.app 1 rfl hown6 hgrow6 hat6);clear hown6 hgrow6 hat6 hlt6);go_roundw
    case rel =>
     refine⟨k+1,t+1,c6,some ⟨g6,0,none⟩,by go_num,rfl,by omega,fun j hj => ?_,?_,?_⟩
     ·by_cases e:j=k
      ·rw[e];exact Hhexk.out
      exact Hall.out j (by omega)
     ·rw[Hhsk.out,List.length_append,List.length_singleton,Hhtl.out]
     rw[Hhsk.out,← Zi1,← ZfI,Hhbk.out];exact HS6.out.pick [0,1] (by decide)
    case measure=>simp[intOf];omega
   refine⟨false,false,false,false,false,false,false,false,false,false,false,false,false,false,false,false,false,false,false,false,rfl,by simp,(by simp),?_⟩;exact HS5.out.drew.pick [0,1,2] (by decide)
  obtain rfl:k=n:=by omega
  rw[Zh2] at hS;have HS:=qh hS;have hgd:∀ j,j<k→exAt es j=true:=hall;have Hhgd:=qh hgd;clear hgd;have Hhdl:=qh hdl;clear hdl;have hdm:(m:Int)=dep es k:=by rw[← Hhdl.out,hm]
  have Hhdm:=qh hdm;clear hdm;clear hS hall hm hdi hlt;by_cases h1:m=1
  ·have hd1:dep es k=1:=by have:=Hhdm.out;omega
   subst h1;have Hhd1:=qh hd1;clear hd1;go_wp2
   go_ret2
   exact .inl ⟨Hhgd.out,_,true,rfl,⟨fun _=>Hhd1.out,fun _=>rfl⟩,HS.out.pick [0] (by decide)⟩
  have hd1:¬ dep es k=1:=by have:=Hhdm.out;omega
  obtain⟨q1,q2,q3,q4⟩:=ZaH (show ¬ (m:Int)=1 by omega);have Hhd1:=qh hd1;clear hd1;clear h1;go_wp2
  go_ret2
  exact .inl ⟨Hhgd.out,_,false,rfl,⟨fun h=>(by cases h),fun h=>absurd h Hhd1.out⟩,HS.out.pick [0] (by decide)⟩
theorem ZfT {es:List (Int × Int)}:exOk es=true↔(∀ k,k<es.length→exAt es k=true)∧dep es es.length=1∧es.length≤60:=by simp only[exOk,Bool.and_eq_true,List.all_eq_true,List.mem_range,decide_eq_true_eq,and_assoc]
theorem ZcV (es:List (Int × Int)) (v:Value) (w:World) (h:Pairs 0 w v es) (r:Bool) (hr:exOk es=r) :
  Calls Tryz.prog 74 #[v] w fun e w'=>e = .returned (.bool r)∧Below w.heap.size w w':=by
 have Hh:=qh h;have Hr:=qh hr;obtain⟨av,cv,rfl,hc1,hc2,-⟩:=h.form;obtain⟨n,hn⟩:=eI (es.length);have hst:=fun (hl:es.length≤1000)=>Zb5 es (.slice av es.length cv) w hl Hh.out
 rw[← hn] at hc1 hst;rw[← hn];have Hst:=qh hst;replace hn:=qh hn;clear hst hr Hh;by_cases h60:n≤60
 ·have q1:(60:Int)<n↔False:=by simp;omega
  go_enter Tryz.func74, Tryz.ntmps74
  go_wp2_with fail;refine(Hst.out (by omega)).mono ?_;rintro e w1 hst;rcases hst with⟨hall,g,b,rfl,hb,hS⟩|⟨hbad,rfl,hb1⟩
  ·have hrb:r=b:=by have h2:=ZfT (es:=es);rw[Hr.out,← hn.out] at h2;rw[Bool.eq_iff_iff,h2,hb];exact⟨fun h=>h.2.1,fun h=>⟨hall,h,h60⟩⟩
   subst hrb;have HS:=qh hS;clear hS hall hb;go_wp2;go_ret;exact⟨rfl,HS.out.bel⟩
  have hrb:r=false:=by
   have h2:=ZfT (es:=es);rw[Hr.out,← hn.out] at h2;cases r with
   | false=>rfl
   | true=>exact absurd (h2.1 rfl).1 hbad
  subst hrb;have Hb1:=qh hb1;clear hbad hb1;go_wp2;go_ret;exact⟨rfl,Hb1.out⟩
 have q1:(60:Int)<n:=by omega
 have hrb:r=false:=by
  have h2:=ZfT (es:=es);rw[Hr.out,← hn.out] at h2;cases r with
  | false=>rfl
  | true=>exact absurd (h2.1 rfl).2.2 h60
 subst hrb;clear h60
 go_enter Tryz.func74, Tryz.ntmps74
 go_wp2;go_ret;exact⟨rfl,Below.refl _ _⟩
theorem ZmL {l:List Bool} {k:Nat} (hk:k<l.length) {y:Bool} (hy:(!l.getD k false)=y):boolCells ((l.take (k+1)).map (!·))=boolCells ((l.take k).map (!·))++[.bool y]:=by
 have e:l.getD k false=l[k]:=by simp[hk]
 rw[e] at hy;rw[List.take_succ_eq_append_getElem hk,List.map_append];show boolCells ((l.take k).map (!·)++[!l[k]])=_;rw[ZoR,hy]
theorem ZoI (d:DfaD):flB true d=⟨d.next,d.ends.map (!·)⟩:=by unfold flB;congr 1;exact List.map_congr_left fun x _=>by cases x<;>rfl
theorem Zg8 (d:DfaD) (v1 v2:Value) (w:World) (hd:Zah d.next d.ends=true) (h:DfaR 0 w (.agg #[v1,v2]) d) :
  Calls Tryz.prog 58 #[.agg #[v1,v2]] w fun e w'=>∃ u2,e = .returned (.agg #[v1,u2])∧Bools w.heap.size w' u2 (flB true d).ends∧Below w.heap.size w w':=by
 rw[ZoI];obtain⟨L,hL⟩:=eI (d.ends.length);have hl:=Zaj hd;have hL40:L≤40:=by omega
 obtain⟨_,_,hv,q1,q2⟩:=h;simp only[Value.agg.injEq,Array.mk.injEq,List.cons.injEq,and_true] at hv;obtain⟨rfl,rfl⟩:=hv;obtain⟨a1,c1,rfl,hca,hcb,-⟩:=q1.formI;have hS0:=(((St.start w).alloc w.heap.size rfl #[.slice a1 d.next.length c1,v2] 44).alloc (w.heap.size+1) (by simp) #[.slice none 0 0,.slice none 0 0] 44).alloc (w.heap.size+1+1) (by simp) #[.slice a1 d.next.length c1,.slice none 0 0] 44;have HS0:=qh (hS0.nilRow 4 1);obtain⟨a2,c2,rfl,hc1,hc2,hr2⟩:=q2.form;rw[← hL] at hc1 hr2;rw[← hL] at HS0;obtain⟨i0,hi,hz0,hz1,hz2⟩:=info_parts Tryz.infoBool;have Hr:=qh hr2;have e0:=hS0.cell (v:=.slice a1 d.next.length c1) 0 0 rfl rfl;have e1:=hS0.cell (v:=.slice a2 d.ends.length c2) 0 1 rfl rfl;rw[← hL] at e1;rw[← hL];replace hi:=qh hi;have Hhz0:=qh hz0;clear hz0;have Hhz1:=qh hz1;clear hz1;have Hhz2:=qh hz2;clear hz2;replace hL:=qh hL;clear hr2 q1 q2 hl hS0
 go_enter Tryz.func58, Tryz.ntmps58
 go_wp2;clear e0 e1
 go_loopw [5,12] (fun _ i wr=>∃ (k c:Nat) (a:Option Addr),i = .int .i64 (k:Int)∧k≤L∧St w wr [Ent.box w.heap.size #[.slice a1 d.next.length c1,.slice a2 L c2] 44,Ent.box (w.heap.size+1) #[.slice none 0 0,.slice none 0 0] 44,Ent.box (w.heap.size+1+1) #[.slice a1 d.next.length c1,.slice a k c] 44,Ent.row 4 1 (.slice a k c) k (boolCells ((d.ends.take k).map (!·)))])
  (fun _ i _=>L-(intOf i).toNat)
 case atStart=>exact⟨0,0,none,rfl,Nat.zero_le _,HS0.out⟩
 case round =>
  obtain⟨k,c,a,rfl,hk,hS⟩:=hrel;by_cases hlt:k<L
  ·have hlt2:(k:Int)<L:=by omega
   obtain⟨b2,o2,rfl,-,hb2,hcs⟩:=Hr.out (by omega);have k2:=(bcell hS.bel b2 _ hb2).trans (hcs k hlt);obtain⟨x,hx⟩:=eJ (d.ends.getD k false);rw[hx] at k2;obtain⟨y,hy⟩:=eJ ((!x));have hsn:=ZmL (l:=d.ends) (k:=k) (by rw[← hL.out];exact hlt) (by rw[hx,hy]);have HS:=qh hS;have HSa:=qh (hS.alloc_ (.cells #[.bool y] 4));have HRw:=qh (HSa.out.row 3 rfl);have x1:=hS.cell (v:=.slice a k c) 2 1 rfl rfl;have Hhx:=qh hx;clear hx;have Hhsn:=qh hsn;clear hsn;clear hcs hS;go_wp2_with (at_builtin;refine wpList_append_lies _ rfl _ _ _ rfl _ 4 i0 (.bool false) 1 1 Tryz.underlying42 hi.out Hhz0.out Hhz1.out Hhz2.out rfl (by omega) _ k _ rfl HRw.out ⟨wr.heap.size,0,none⟩ 1 1 [.bool y] rfl rfl (World.news_of_block (heap_alloc_new wr _)) Zbb (by omega) (by unfold maxLen;omega) (by omega) HSa.out.size _ rfl ?_;intro g6 c6 w6 hown6 hgrow6 hat6 hlt6;have HS6:=qh (HSa.out.app 3 rfl hown6 hgrow6 hat6);have y1:=HS6.out.cell (v:=.slice a k c) 2 1 rfl rfl;have y2:=HS6.out.fr 2 1 rfl;clear hown6 hgrow6 hat6 hlt6);go_roundw
   case rel =>refine⟨k+1,c6,some ⟨g6,0,none⟩,by go_num,by omega,?_⟩;rw[Hhsn.out];exact HS6.out.set 2 rfl 1 (.slice (some ⟨g6,0,none⟩) (k+1) c6)
   case measure=>simp[intOf];omega
  obtain rfl:k=L:=by omega
  have HSe:=qh hS;have t0:=hS.cell (v:=.slice a1 d.next.length c1) 2 0 rfl rfl;have t1:=hS.cell (v:=.slice a k c) 2 1 rfl rfl;have f0:=hS.fr 1 0 rfl;have f1:=hS.fr 1 1 rfl;have k0:=hS.cell (v:=.slice none 0 0) 1 0 rfl rfl;have k1:=hS.cell (v:=.slice none 0 0) 1 1 rfl rfl;clear hS;go_wp2;have hq:=(HSe.out.set 1 rfl 0 (.slice a1 d.next.length c1)).set 1 rfl 1 (.slice a k c);have q0:=hq.cell (v:=.slice a1 d.next.length c1) 1 0 rfl rfl;have q1:=hq.cell (v:=.slice a k c) 1 1 rfl rfl;refine bodyPost_ret (v:=.agg #[.slice a1 d.next.length c1,.slice a k c]) (by simp[results,Tryz.results58,go_sem,q0,q1]) rfl ?_;refine⟨.slice a k c,rfl,?_,hq.bel⟩;have hrow:=hq.row 3 rfl;have e:d.ends.take k=d.ends:=by rw[hL.out];exact List.take_length
  rw[e] at hrow;have e2:k=(d.ends.map (!·)).length:=by rw[List.length_map];exact hL.out
  exact(Zab hrow).sl (by omega) |> fun z=>by rw[e2] at z;exact e2 ▸ z
end Go.Proofs.YtncekbbhgipdlaaGreat
