/-
  The walks over the laws' functions on lists of parts: sizes, copies, comparisons, marks.
  Conditions: the lists read as such; the numbers stay below ten thousand million.
-/
import Derived.Test.YtncekbbhgipdlaaGreatPs16Arr
set_option maxHeartbeats 4000000
set_option maxRecDepth 100000
namespace Go.Proofs.YtncekbbhgipdlaaGreat
open Go.RowKit
theorem Tryz.infoPart:(Tryz.prog.info? 62).map (fun i=>(i.zero,i.size,i.bytes))=some (some (.agg #[.int .i64 0,.int .i64 0]),2,16):=by kernel_rfl
abbrev PZ:Value:=.agg #[.int .i64 0,.int .i64 0]
theorem Zng (n:Nat) (w:World) (hn:n≤2000000) :
  Calls Tryz.prog 142 #[.slice none 0 0,.int .i64 (n:Int)] w fun e w'=>∃ a c,e = .returned (.slice a 0 c)∧St w w' [Ent.row 62 2 (.slice a 0 c) 0 []]:=by
 obtain⟨j0,hj,hy0,hy1,hy2⟩:=info_parts Tryz.infoPart;have h1:¬ ((n:Int)<0):=by omega
 by_cases h0:n=0
 ·subst h0;have hS0:=(St.start w).nilRow 62 2;have HhS0:=qh hS0;clear hS0
  go_enter Tryz.func142, Tryz.ntmps142
  go_wp2;go_ret;exact⟨none,0,rfl,HhS0.out⟩
 have hrz:∀ ty,(Builtin.append_ #[28,3] ty #[.slice none 0 0,.int .i64 (n:Int)]).run Tryz.prog w =
   .ok (.slice (some ⟨w.heap.size,0,none⟩) n (grownCap w n 0 62)) (w.drew.alloc (.cells (Builtin.zeroCells PZ.cells n++Builtin.zeroCells PZ.cells (grownCap w n 0 62 - n)) 62)):=fun ty=>by
  have h:=Lib.run_append_grow_zeros w 28 3 ty 62 j0 PZ .i64 .i64 Tryz.underlying28 Tryz.underlying3 hj hy0 none 0 0 [] (run_firstCells_none w.drew j0.size 0 0 0) n (by omega) (by omega) (by omega) (by omega) (by rw[hy2];omega) (by rw[hy2];exact growslice_fits (by omega) (by omega));simpa using h
 have hGn:n≤grownCap w n 0 62:=grownCap_ge w _ _ _;have hG63:grownCap w n 0 62 ≤ maxLen:=grownCap_le_maxLen w n 0 62 (by unfold maxLen;omega);obtain⟨G,hG⟩:=eI (grownCap w n 0 62);obtain⟨cur,hcur⟩:=eI (Builtin.zeroCells PZ.cells n++Builtin.zeroCells PZ.cells (G-n));have hcs:cur.size=G*2:=by rw[hcur,Array.size_append,size_zeroCells,size_zeroCells];show n*2+(G-n)*2=G*2;rw[← hG] at hGn;omega
 rw[← hG] at hrz hGn hG63;rw[← hcur] at hrz
 have hown:(w.drew.alloc (.cells cur 62)).ownsRow w.heap.size 62 2 (.slice (some ⟨w.heap.size,0,none⟩) 0 G) 0 [] :=
  ⟨rfl,.inr ⟨w.heap.size,G,cur,rfl,Nat.le_refl _,heap_alloc_new w.drew _,Nat.zero_le _,hG63,hcs,by simp⟩⟩
 have hS0:=(St.start w).made ((Below.refl _ _).drew.alloc (Nat.le_refl _) (.cells cur 62)) hown;have hG63':G≤9223372036854775807:=by unfold maxLen at hG63;omega
 replace hG:=qh hG;have Hhcur:=qh hcur;clear hcur;have Hhcs:=qh hcs;clear hcs;have Hhown:=qh hown;clear hown;have HhS0:=qh hS0;clear hS0
 go_enter Tryz.func142, Tryz.ntmps142
 go_wp2_with (at_builtin;refine Lib.wpList_append_run _ rfl _ _ _ _ rfl _ _ rfl rfl _ _ (hrz _) ?_);go_ret;exact⟨_,G,rfl,HhS0.out⟩
def sumL (ess:List (List (Int × Int))) (k:Nat):Nat:=(ess.take k).flatten.length
theorem Zec (ess:List (List (Int × Int))):sumL ess 0=0:=by simp[sumL]
theorem ZiH {ess:List (List (Int × Int))} {k:Nat} (h:k<ess.length):sumL ess (k+1)=sumL ess k+(ess.getD k []).length∧(ess.take (k+1)).flatten=(ess.take k).flatten++ess.getD k []:=by
 have e:ess.take (k+1)=ess.take k++[ess.getD k []]:=by rw[List.take_succ_eq_append_getElem h];simp[h]
 have e2:(ess.take (k+1)).flatten=(ess.take k).flatten++ess.getD k []:=by rw[e];simp
 exact⟨by unfold sumL;rw[e2,List.length_append],e2⟩
theorem ZjK {ess:List (List (Int × Int))} (hl:∀ es∈ess,es.length≤10000):∀ k,k≤ess.length→sumL ess k≤10000*k
 | 0,_=>by rw[Zec];omega
 | k+1,h=>by have ih:=ZjK hl k (by omega);have h1:=(ZiH (ess:=ess) (k:=k) (by omega)).1;have h2:=hl (ess.getD k []) (by simp[List.getElem?_eq_getElem (show k<ess.length by omega)]);omega
theorem Zkf (ess:List (List (Int × Int))) (vas:List Value) (ao:Option Addr) (b cap:Nat) (w:World) (hao:0<ess.length→ao=some ⟨b,0,none⟩) (hm:ess.length≤100) (hl:∀ es∈ess,es.length≤10000) (hb:0<ess.length→b<w.heap.size)
  (hc:∀ i,i<ess.length→w.cell? ⟨b,i,none⟩=some (vas.getD i undef)) (hp:∀ i,i<ess.length→Pairs 0 w (vas.getD i undef) (ess.getD i [])) :
  Calls Tryz.prog 116 #[.slice ao ess.length cap] w fun e w'=>∃ a c,e = .returned (.slice a ess.flatten.length c)∧St w w' [Ent.row 62 2 (.slice a ess.flatten.length c) ess.flatten.length (ess.flatten.flatMap Zaa)]:=by
 obtain⟨j0,hj,hy0,hy1,hy2⟩:=info_parts Tryz.infoPart;obtain⟨m,hmm⟩:=eI (ess.length);have hsum:=fun k (h:k<ess.length)=>ZiH h
 have hle:=ZjK hl;have hfin:sumL ess m=ess.flatten.length∧(ess.take m).flatten=ess.flatten:=by rw[hmm];unfold sumL;rw[List.take_length];exact⟨rfl,rfl⟩
 have hl':∀ k,k<m→(ess.getD k []).length≤10000:=fun k hk=>hl _ (by simp[List.getElem?_eq_getElem (show k<ess.length by omega)])
 rw[← hmm] at hm hc hp hsum hle hao hb ⊢;have Hao:=qh hao;have Hb:=qh hb;have Hc:=qh hc;have Hp:=qh hp;have Hsum:=qh hsum;have Hle:=qh hle;have Hfin:=qh hfin;have Hl:=qh hl';replace hmm:=qh hmm;clear hc hp hsum hle hfin hl hl' hao hb
 go_enter Tryz.func116, Tryz.ntmps116
 go_wp2
 go_loopw [3,11] (fun n i wr=>∃ k:Nat,i = .int .i64 (k:Int)∧n = .int .i64 ((sumL ess k:Nat):Int)∧k≤m∧w=wr) (fun _ i _=>m-(intOf i).toNat)
 case atStart=>exact⟨0,rfl,by rw[Zec];rfl,Nat.zero_le _,rfl⟩
 case round =>
  obtain⟨k,rfl,rfl,hk,rfl⟩:=hrel;by_cases hlt:k<m
  ·have hlt2:(k:Int)<m:=by omega
   have hao:=Hao.out (by omega);subst hao;obtain⟨q1,q2⟩:=Hsum.out k hlt;have q3:=Hle.out k hk;have q4:=Hl.out k hlt;have c0:=Hc.out k hlt;obtain⟨ax,cx,hv,hv1,hv2,-⟩:=(Hp.out k hlt).form;rw[hv] at c0;obtain⟨L,hL⟩:=eI ((ess.getD k []).length);obtain⟨s,hs⟩:=eI (sumL ess k);rw[← hL] at q1 q4 c0;rw[← hs] at q1 q3;rw[← hs];have hw:IntKind.i64.wrap ((s:Int)+(L:Int))=(s:Int)+(L:Int):=IntWalk.i64_in _ (by omega);have hng:¬ (s:Int)+(L:Int)<0:=by omega
   have Hq1:=qh q1;clear q1;replace hL:=qh hL;have Hhs:=qh hs;clear hs;clear q2 hv hv1 hv2;go_wp2;go_roundw
   case rel=>exact⟨k+1,by go_num,by rw[Hq1.out];congr 1,by omega,trivial⟩
   case measure=>simp[intOf];omega
  obtain rfl:k=m:=by omega
  obtain⟨s,hs⟩:=eI (sumL ess k);have q3:=Hle.out k hk;rw[← hs] at q3 ⊢;have Hhs:=qh hs;clear hs;clear hlt;go_wp2_with fail;refine(Zng s _ (by omega)).mono ?_;rintro e w1 ⟨a6,c6,rfl,hS'⟩;have HS1:=qh hS';clear hS';go_wp2
  go_loopw [6,27] (fun vo i wr=>∃ (j:Nat) (a:Option Addr) (c:Nat),i = .int .i64 (j:Int)∧vo = .slice a (sumL ess j) c∧j≤k∧St w wr [Ent.row 62 2 (.slice a (sumL ess j) c) (sumL ess j) ((ess.take j).flatten.flatMap Zaa)]) (fun _ i _=>k-(intOf i).toNat)
  case atStart=>exact⟨0,a6,c6,rfl,by rw[Zec],by omega,by rw[Zec];exact HS1.out⟩
  case round =>
   obtain⟨j,a,c,rfl,rfl,hj2,hS⟩:=hrel;by_cases hlt:j<k
   ·have hlt2:(j:Int)<k:=by omega
    have hao:=Hao.out (by omega);subst hao;have hb:=Hb.out (by omega);obtain⟨q1,q2⟩:=Hsum.out j hlt;have q3:=Hle.out j (by omega);have q4:=Hl.out j hlt;have m0:=(bcell hS.bel b j hb).trans (Hc.out j hlt);have hPr:=(Hp.out j hlt).below hS.bel;obtain⟨ax,cx,hv,hv1,hv2,-⟩:=hPr.form;rw[hv] at m0 hPr;obtain⟨E,hE⟩:=eI (ess.getD j []);obtain⟨Z,hZ⟩:=eI ((ess.take j).flatten);rw[← hE] at q1 q2 q4 m0 hPr hv1;rw[← hZ] at q2 hS;obtain⟨L,hL⟩:=eI (E.length);obtain⟨s2,hs2⟩:=eI (sumL ess j);have hPr2:Sl 0 wr (.slice ax L cx) L 2 (E.flatMap Zaa):=by rw[hL];exact hPr
    rw[← hL] at q1 q4 m0;rw[← hs2] at q1 q3 hS;rw[← hs2];have HS:=qh hS;have HR:=qh (hS.row 0 rfl);have HXw:=qh hPr2;have Hq1:=qh q1;clear q1;have Hq2:=qh q2;clear q2;replace hL:=qh hL;have Hhs2:=qh hs2;clear hs2;replace hE:=qh hE;have HhZ:=qh hZ;clear hZ;clear hS hv hv1 hv2 hPr hPr2 hlt;go_wp2_with (at_builtin;refine Zal _ rfl _ _ _ rfl _ 62 j0 PZ 2 16 Tryz.underlying28 hj hy0 hy1 hy2 rfl (by omega) _ s2 _ rfl HR.out _ L (E.flatMap Zaa) rfl HXw.out Zds (by unfold maxLen;omega) (by omega) HS.out.size ?_;intro a6 c6 w6 hown6 hgrow6 hat6;have HS6:=qh (HS.out.appS 0 rfl hown6 hgrow6 hat6);clear hown6 hgrow6 hat6);go_roundw
    case rel=>exact⟨j+1,a6,c6,by go_num,by rw[Hq1.out],by omega,by rw[Hq1.out,Hq2.out,List.flatMap_append];exact HS6.out⟩
    case measure=>simp[intOf];omega
   obtain rfl:j=k:=by omega
   rw[Hfin.out.1,Hfin.out.2] at hS;rw[Hfin.out.1];have HS:=qh hS;clear hS hlt;go_wp2;go_ret;exact⟨a,c,rfl,HS.out⟩
def RPo (es:List (Int × Int)) (w:World) (e:Ending) (w':World):Prop:=∃ a c,e = .returned (.slice a es.length c)∧St w w' [Ent.row 62 2 (.slice a es.length c) es.length (es.flatMap Zaa)]
theorem Zej (k:Int) (ess:List (List (Int × Int))) (vas:List Value) (b cap:Nat) (w:World) (hm:ess.length≤100) (hl:∀ es∈ess,es.length≤10000) (hb:b<w.heap.size)
  (hc:∀ i,i<ess.length→w.cell? ⟨b,i,none⟩=some (vas.getD i undef)) (hp:∀ i,i<ess.length→Pairs 0 w (vas.getD i undef) (ess.getD i [])) :
  Calls Tryz.prog 72 #[.int .i64 k,.slice (some ⟨b,0,none⟩) ess.length cap] w fun e w'=>RPo (ess.flatten++[(k,0)]) w e w':=by
 obtain⟨j0,hj,hy0,hy1,hy2⟩:=info_parts Tryz.infoPart;have hcon:=qh (Zkf ess vas (some ⟨b,0,none⟩) b cap w (fun _=>rfl) hm hl (fun _=>hb) hc hp);have hle:=ZjK hl ess.length (Nat.le_refl _);have hfl:sumL ess ess.length=ess.flatten.length:=by unfold sumL;rw[List.take_length]
 rw[hfl] at hle;clear hc hp hl hfl;obtain⟨m,hmm⟩:=eI (ess.length);rw[← hmm] at hcon hm hle ⊢;obtain⟨E,hE⟩:=eI (ess.flatten);rw[← hE] at hcon hle ⊢;obtain⟨L,hL⟩:=eI (E.length);rw[← hL] at hcon hle;have hL2:(E++[(k,0)]).length=L+1:=by rw[hL];simp
 unfold RPo;rw[hL2];replace hmm:=qh hmm;replace hE:=qh hE;have HhL:=qh hL;clear hL;have HhL2:=qh hL2;clear hL2
 go_enter Tryz.func72, Tryz.ntmps72
 go_wp2_with (first
  | (go_at_call 116;refine(hcon.out).mono ?_;rintro e w1 ⟨a6,c6,rfl,hS'⟩;have hS2:=hS'.alloc w1.heap.size rfl #[.int .i64 k,.int .i64 0] 62;have hS3:=hS2.boxrow 1 1 2 [.int .i64 k,.int .i64 0] rfl rfl (by unfold maxLen;omega);have HS:=qh hS3;have HR:=qh (hS3.row 0 rfl);have HX:=qh ((Zab (hS3.row 1 rfl)).sl (by omega));clear hS' hS2 hS3)
  | (at_builtin;refine Zal _ rfl _ _ _ rfl _ 62 j0 PZ 2 16 Tryz.underlying28 hj hy0 hy1 hy2 rfl (by omega) _ L _ rfl HR.out _ 1 [.int .i64 k,.int .i64 0] rfl (HX.out.mono (Nat.zero_le _)) (by intro u hu;simp at hu;rcases hu with rfl|rfl<;>rfl) (by unfold maxLen;omega) (by omega) HS.out.size ?_;intro a6 c6 w6 hown6 hgrow6 hat6;have HS6:=qh (HS.out.appS 0 rfl hown6 hgrow6 hat6);clear hown6 hgrow6 hat6))
 go_ret;exact⟨_,_,rfl,by rw[List.flatMap_append];exact HS6.out.pick [0] (by decide)⟩
theorem ZbL (k:Int) (w:World):Calls Tryz.prog 93 #[.int .i64 k] w fun e w'=>RPo [(k,0)] w e w':=by
 have hS:=((St.start w).alloc w.heap.size rfl #[.int .i64 k,.int .i64 0] 62).boxrow 0 1 2 [.int .i64 k,.int .i64 0] rfl rfl (by unfold maxLen;omega);replace hS:=qh hS
 go_enter Tryz.func93, Tryz.ntmps93
 go_wp2;go_ret;exact⟨_,_,rfl,hS.out⟩
def bnK (k:Int):Int:=if k=5 then 1 else if k=6 then 2 else if k=4 then 3 else if k=7 then 4 else if k=8 then 5 else 6
theorem ZaD (k:Int) (w:World) (r:Int) (hr:bnK k=r):Calls Tryz.prog 49 #[.int .i64 k] w fun e w'=>e = .returned (.int .i64 r)∧w=w':=by
 unfold bnK at hr
 go_enter Tryz.func49, Tryz.ntmps49
 by_cases h5:k=5
 ·rw[if_pos h5] at hr;subst hr;go_wp2;go_ret;exact⟨rfl,rfl⟩
 rw[if_neg h5] at hr;by_cases h6:k=6
 ·rw[if_pos h6] at hr;subst hr;go_wp2;go_ret;exact⟨rfl,rfl⟩
 rw[if_neg h6] at hr;by_cases h4:k=4
 ·rw[if_pos h4] at hr;subst hr;go_wp2;go_ret;exact⟨rfl,rfl⟩
 rw[if_neg h4] at hr;by_cases h7:k=7
 ·rw[if_pos h7] at hr;subst hr;go_wp2;go_ret;exact⟨rfl,rfl⟩
 rw[if_neg h7] at hr;by_cases h8:k=8
 ·rw[if_pos h8] at hr;subst hr;go_wp2;go_ret;exact⟨rfl,rfl⟩
 rw[if_neg h8] at hr;subst hr;go_wp2;go_ret;exact⟨rfl,rfl⟩
theorem Zh4 (k:Int) (xs:List (Int × Int)) (v:Value) (b cap:Nat) (w:World) (hl:xs.length≤10000) (hb:b<w.heap.size) (h0:w.cell? ⟨b,0,none⟩=some v) (hp:Pairs 0 w v xs) :
  Calls Tryz.prog 72 #[.int .i64 k,.slice (some ⟨b,0,none⟩) 1 cap] w fun e w'=>RPo (xs++[(k,0)]) w e w':=by
 have h:=Zej k [xs] [v] b cap w (by simp) (by simpa using hl) hb (fun i hi=>by
  obtain rfl:i=0:=by simpa using hi
  exact h0) (fun i hi=>by
  obtain rfl:i=0:=by simpa using hi
  exact hp)
 simpa using h
theorem ZeP (k:Int) (xs ys:List (Int × Int)) (v u:Value) (b cap:Nat) (w:World) (hl:xs.length≤10000) (hl2:ys.length≤10000) (hb:b<w.heap.size) (h0:w.cell? ⟨b,0,none⟩=some v) (h1:w.cell? ⟨b,1,none⟩=some u) (hp:Pairs 0 w v xs) (hq:Pairs 0 w u ys) :
  Calls Tryz.prog 72 #[.int .i64 k,.slice (some ⟨b,0,none⟩) 2 cap] w fun e w'=>RPo (xs++ys++[(k,0)]) w e w':=by
 have h:=Zej k [xs,ys] [v,u] b cap w (by simp) (by intro es he;simp at he;rcases he with rfl|rfl<;>assumption) hb (fun i hi=>by
  obtain rfl|rfl:i=0∨i=1:=by simp at hi;omega
  ·exact h0
  ·exact h1) (fun i hi=>by
  obtain rfl|rfl:i=0∨i=1:=by simp at hi;omega
  ·exact hp
  exact hq)
 have e:[xs,ys].flatten++[(k,0)]=xs++ys++[(k,0)]:=by simp
 rw[e] at h;exact h
end Go.Proofs.YtncekbbhgipdlaaGreat
namespace Go.Proofs.YtncekbbhgipdlaaGreat
def bnd:Ex→Nat
 | .alt _ _=>1
 | .both _ _=>2
 | .join _ _=>3
 | .neg _=>4
 | .star _=>5
 | _=>6
def brk (l:Nat) (a:Ex) (x:List Nat):List Nat:=if bnd a<l then 40::(x++[41]) else x
def prE:Ex→List Nat
 | .zero=>[48]
 | .one=>[49]
 | .ltr c=>[97+c.val]
 | .join a b=>brk 3 a (prE a)++brk 4 b (prE b)
 | .alt a b=>brk 1 a (prE a)++124::brk 2 b (prE b)
 | .both a b=>brk 2 a (prE a)++38::brk 3 b (prE b)
 | .neg a=>33::brk 4 a (prE a)
 | .star a=>brk 5 a (prE a)++[42]
def prB (l:Nat) (t:Ex):List Nat:=brk l t (prE t)
theorem Zkh (t:Ex):1≤bnd t∧bnd t≤6:=by cases t<;>simp[bnd]
theorem Zdq {l:Nat} {t:Ex} (h:l≤bnd t):prB l t=prE t:=by unfold prB brk;rw[if_neg (by omega)]
theorem ZeM {l:Nat} {t:Ex} (h:bnd t<l):prB l t=40::(prE t++[41]):=by unfold prB brk;rw[if_pos h]
theorem Zgc (t:Ex):prB 1 t=prE t:=Zdq (Zkh t).1
theorem ZmC {l:Nat} {t:Ex} (h:bnd t≠l):prB l t=prB (l+1) t:=by
 by_cases hl:bnd t<l
 ·rw[ZeM hl,ZeM (by omega)]
 rw[Zdq (by omega),Zdq (by omega)]
def isSt (c:Nat):Prop:=c=48∨c=49∨c=97∨c=98∨c=99∨c=40∨c=33
theorem Zjz {l:Nat} {a:Ex} {x:List Nat} (h:∃ c r,x=c::r∧isSt c):∃ c r,brk l a x=c::r∧isSt c:=by
 unfold brk
 split
 ·exact⟨40,_,rfl,by simp[isSt]⟩
 exact h
theorem ZpQ:∀ t:Ex,∃ c r,prE t=c::r∧isSt c:=by
 intro t
 induction t with
 | zero=>exact⟨48,[],rfl,by simp[isSt]⟩
 | one=>exact⟨49,[],rfl,by simp[isSt]⟩
 | ltr c =>refine⟨97+c.val,[],rfl,?_⟩;have:c.val<3:=c.isLt;unfold isSt;omega
 | neg a=>exact⟨33,_,rfl,by simp[isSt]⟩
 | join a b ha hb =>obtain⟨c,r,h,hc⟩:=Zjz (l:=3) (a:=a) ha;exact⟨c,r++brk 4 b (prE b),by simp[prE,h],hc⟩
 | alt a b ha hb =>obtain⟨c,r,h,hc⟩:=Zjz (l:=1) (a:=a) ha;exact⟨c,r++124::brk 2 b (prE b),by simp[prE,h],hc⟩
 | both a b ha hb =>obtain⟨c,r,h,hc⟩:=Zjz (l:=2) (a:=a) ha;exact⟨c,r++38::brk 3 b (prE b),by simp[prE,h],hc⟩
 | star a ha =>obtain⟨c,r,h,hc⟩:=Zjz (l:=5) (a:=a) ha;exact⟨c,r++[42],by simp[prE,h],hc⟩
theorem Zkz (l:Nat) (t:Ex):∃ c r,prB l t=c::r∧isSt c:=Zjz (ZpQ t)
def isTb (c:Nat):Prop:=isSt c∨c=41∨c=42∨c=38∨c=124
theorem Zfk {l:Nat} {a:Ex} {x:List Nat} (h:∀ c∈x,isTb c):∀ c∈brk l a x,isTb c:=by
 unfold brk
 split
 ·intro c hc;rcases List.mem_cons.1 hc with rfl|hc
  ·simp[isTb,isSt]
  rcases List.mem_append.1 hc with hc|hc
  ·exact h c hc
  rw[List.mem_singleton.1 hc];simp[isTb]
 exact h
theorem ZpP:∀ t:Ex,∀ c∈prE t,isTb c:=by
 intro t
 induction t with
 | zero=>intro c hc;rw[List.mem_singleton.1 hc];simp[isTb,isSt]
 | one=>intro c hc;rw[List.mem_singleton.1 hc];simp[isTb,isSt]
 | ltr k =>intro c hc;have:k.val<3:=k.isLt;rw[List.mem_singleton.1 hc];unfold isTb isSt;omega
 | neg a ha =>
  intro c hc;rcases List.mem_cons.1 hc with rfl|hc
  ·simp[isTb,isSt]
  exact Zfk ha c hc
 | star a ha =>
  intro c hc;rcases List.mem_append.1 hc with hc|hc
  ·exact Zfk ha c hc
  rw[List.mem_singleton.1 hc];simp[isTb]
 | join a b ha hb =>
  intro c hc;rcases List.mem_append.1 hc with hc|hc
  ·exact Zfk ha c hc
  exact Zfk hb c hc
 | alt a b ha hb =>
  intro c hc;rcases List.mem_append.1 hc with hc|hc
  ·exact Zfk ha c hc
  rcases List.mem_cons.1 hc with rfl|hc
  ·simp[isTb]
  exact Zfk hb c hc
 | both a b ha hb =>
  intro c hc;rcases List.mem_append.1 hc with hc|hc
  ·exact Zfk ha c hc
  rcases List.mem_cons.1 hc with rfl|hc
  ·simp[isTb]
  exact Zfk hb c hc
theorem Zpv {c:Nat} (h:isTb c):c<256:=by unfold isTb isSt at h;omega
theorem ZaM (l:Nat) (a:Ex) (x:List Nat):(brk l a x).length≤x.length+2:=by
 unfold brk
 split
 ·simp
 omega
theorem ZaY:∀ t:Ex,(prE t).length+1≤4*t.post.length:=by
 intro t
 induction t with
 | zero=>simp[prE,Ex.post]
 | one=>simp[prE,Ex.post]
 | ltr c=>simp[prE,Ex.post]
 | neg a ha=>have:=ZaM 4 a (prE a);simp[prE,Ex.post];omega
 | star a ha=>have:=ZaM 5 a (prE a);simp[prE,Ex.post];omega
 | join a b ha hb=>have:=ZaM 3 a (prE a);have:=ZaM 4 b (prE b);simp[prE,Ex.post];omega
 | alt a b ha hb=>have:=ZaM 1 a (prE a);have:=ZaM 2 b (prE b);simp[prE,Ex.post];omega
 | both a b ha hb=>have:=ZaM 2 a (prE a);have:=ZaM 3 b (prE b);simp[prE,Ex.post];omega
/-! The reader. -/
abbrev PS:Type:=List (Int × Int) × List Nat × Bool
def Ze7 (c:Nat):Option (Int × Int):=if c=48 then some (1,0) else if c=49 then some (2,0) else if 97≤c∧c≤99 then some (3,(c:Int)-97) else none
def Za6:List (Int × Int)→List Nat→List (Int × Int) × List Nat
 | e,[]=>(e,[])
 | e,c::r=>if c=42 then Za6 (e++[(8,0)]) r else(e,c::r)
def opK (l:Nat):Int:=if l=1 then 5 else if l=2 then 6 else 4
def ZeB (jx:Nat→Bool) (l:Nat):List Nat→Option (List Nat)
 | []=>none
 | c::r=>if l=1∧c=124∨l=2∧c=38 then some r else if l=3∧jx c=true then some (c::r) else none
def ZaO (rd:List Nat→PS) (jx:Nat→Bool) (l:Nat):Nat→List (Int × Int)→List Nat→Bool→PS
 | 0,e,r,_=>(e,r,true)
 | n+1,e,r,f=>if f=true then(e,r,true) else match ZeB jx l r with
  | none=>(e,r,false)
  | some r1=>ZaO rd jx l n (e++(rd r1).1++[(opK l,0)]) (rd r1).2.1 (rd r1).2.2
def brkP (x:PS):PS:=match x with
 | (e,c::r,false)=>if c=41 then(e,r,false) else([],c::r,true)
 | (_,r,_)=>([],r,true)
def Zg0 (x:PS):PS:=if x.2.2=true then(x.1,x.2.1,true) else((Za6 x.1 x.2.1).1,(Za6 x.1 x.2.1).2,false)
def rdP (jx:Nat→Bool):Nat→Nat→List Nat→PS
 | 0,_,r=>([],r,true)
 | n+1,l,r =>
  if l=6 then match r with
   | []=>([],[],true)
   | c::r1=>match Ze7 c with
    | some p=>([p],r1,false)
    | none=>if c=40 then brkP (rdP jx n 1 r1) else([],r1,true)
  else if l=5 then Zg0 (rdP jx n 6 r)
  else if l=4 then match r with
   | []=>rdP jx n 5 []
   | c::r1=>if c=33 then((rdP jx n 4 r1).1++[(7,0)],(rdP jx n 4 r1).2) else rdP jx n 5 (c::r1)
  else ZaO (rdP jx n (l+1)) jx l n (rdP jx n (l+1) r).1 (rdP jx n (l+1) r).2.1 (rdP jx n (l+1) r).2.2
def stopz (l:Nat) (z:List Nat):Prop:=∀ c r,z=c::r→(l≤5→c≠42)∧(l≤3→c=124∨c=38∨c=41)∧(l≤2→c≠38)∧(l≤1→c≠124)
theorem Zma (l:Nat):stopz l []:=fun _ _ h=>by cases h
theorem Zkq {l m:Nat} {z:List Nat} (h:stopz l z) (hm:l≤m):stopz m z:=fun c r e=>by obtain⟨h1,h2,h3,h4⟩:=h c r e;exact⟨fun x=>h1 (by omega),fun x=>h2 (by omega),fun x=>h3 (by omega),fun x=>h4 (by omega)⟩
theorem ZjL (l:Nat) (z:List Nat):stopz l (41::z):=fun c r e=>by cases e;exact⟨fun _=>by omega,fun _=>by omega,fun _=>by omega,fun _=>by omega⟩
def fuP (l:Nat) (r:List Nat):Nat:=8*r.length+8-l
theorem Zhj:∀ (k:Nat) (e:List (Int × Int)) (z:List Nat),stopz 5 z→Za6 e (List.replicate k 42++z)=(e++List.replicate k (8,0),z)
 | 0,e,[],_=>by simp[Za6]
 | 0,e,c::z,h=>by have:=(h c z rfl).1 (by omega);simp[Za6,this]
 | k+1,e,z,h=>by have ih:=Zhj k (e++[(8,0)]) z h;show Za6 e (42::(List.replicate k 42++z))=_;unfold Za6;rw[if_pos rfl,ih,List.append_assoc];rfl
def Zee (t:Ex):Nat→Ex
 | 0=>t
 | k+1 => .star (Zee t k)
theorem Zhk:∀ t:Ex,∃ t0 k,t=Zee t0 k∧bnd t0≠5:=by
 intro t
 induction t with
 | star a ha =>obtain⟨t0,k,h,h0⟩:=ha;exact⟨t0,k+1,by rw[h];rfl,h0⟩
 | _=>exact⟨_,0,rfl,by simp[bnd]⟩
theorem ZhT (t0:Ex) (h:bnd t0≠5):∀ k,prB 5 (Zee t0 k)=prB 6 t0++List.replicate k 42
 | 0=>by simp[Zee,ZmC h]
 | k+1=>by have ih:=ZhT t0 h k;show prB 5 (.star (Zee t0 k))=_;rw[Zdq (Nat.le_refl 5)];show prB 5 (Zee t0 k)++[42]=_;rw[ih,List.append_assoc,← List.replicate_succ']
theorem ZiL (t0:Ex):∀ k,(Zee t0 k).post=t0.post++List.replicate k (8,0)
 | 0=>by simp[Zee]
 | k+1=>by have ih:=ZiL t0 k;show(Zee t0 k).post++[(8,0)]=_;rw[ih,List.append_assoc,← List.replicate_succ']
def sepP (l:Nat):List Nat:=if l=1 then [124] else if l=2 then [38] else []
def Zbn (l:Nat) (bs:List Ex):List Nat:=bs.flatMap fun b=>sepP l++prB (l+1) b
def Zjo (l:Nat):List (Int × Int)→List Ex→List (Int × Int)
 | e,[]=>e
 | e,b::bs=>Zjo l (e++b.post++[(opK l,0)]) bs
theorem ZhC (l:Nat) (b:Ex):∀ (bs:List Ex) (e:List (Int × Int)),Zjo l e (bs++[b])=Zjo l e bs++b.post++[(opK l,0)]
 | [],_=>rfl
 | _::bs,_=>ZhC l b bs _
theorem spine (l:Nat) (h1:1≤l) (h3:l≤3):∀ t:Ex,∃ t0 bs,prB l t=prB (l+1) t0++Zbn l bs∧t.post=Zjo l t0.post bs:=by
 have base:∀ t:Ex,bnd t≠l→∃ t0 bs,prB l t=prB (l+1) t0++Zbn l bs∧t.post=Zjo l t0.post bs:=fun t h=>⟨t,[],by simp[Zbn,ZmC h],rfl⟩
 have step:∀ (t a b:Ex),prB l t=prB l a++(sepP l++prB (l+1) b)→t.post=a.post++b.post++[(opK l,0)]→(∃ t0 bs,prB l a=prB (l+1) t0++Zbn l bs∧a.post=Zjo l t0.post bs)→∃ t0 bs,prB l t=prB (l+1) t0++Zbn l bs∧t.post=Zjo l t0.post bs:=fun t a b e1 e2 ⟨t0,bs,q1,q2⟩=>by
  refine⟨t0,bs++[b],?_,?_⟩
  ·rw[e1,q1];simp[Zbn,List.flatMap_append]
  rw[e2,q2,ZhC]
 intro t
 induction t with
 | join a b ha hb =>
  by_cases h:l=3
  ·subst h;exact step _ a b (by rw[Zdq (Nat.le_refl 3)];rfl) rfl ha
  exact base _ (by show 3≠l;omega)
 | alt a b ha hb =>
  by_cases h:l=1
  ·subst h;exact step _ a b (by rw[Zdq (Nat.le_refl 1)];rfl) rfl ha
  exact base _ (by show 1≠l;omega)
 | both a b ha hb =>
  by_cases h:l=2
  ·subst h;exact step _ a b (by rw[Zdq (Nat.le_refl 2)];rfl) rfl ha
  exact base _ (by show 2≠l;omega)
 | zero=>exact base _ (by show 6≠l;omega)
 | one=>exact base _ (by show 6≠l;omega)
 | ltr=>exact base _ (by show 6≠l;omega)
 | neg=>exact base _ (by show 4≠l;omega)
 | star=>exact base _ (by show 5≠l;omega)
theorem Zpw {c:Nat} (h:isSt c):c≠42∧c≠124∧c≠38∧c≠41:=by unfold isSt at h;omega
theorem ZiI {l:Nat} (h1:1≤l) (h3:l≤3) (bs:List Ex) {z:List Nat} (h:stopz l z):stopz (l+1) (Zbn l bs++z):=by
 cases bs with
 | nil=>exact Zkq h (by omega)
 | cons b bs =>
  intro c r e;obtain⟨c0,r0,hb,hc0⟩:=Zkz (l+1) b;obtain rfl|rfl|rfl:l=1∨l=2∨l=3:=by omega
  ·simp[Zbn,sepP] at e;obtain⟨rfl,-⟩:=e;exact⟨fun _=>by omega,fun _=>by omega,fun _=>by omega,fun _=>by omega⟩
  ·simp[Zbn,sepP] at e;obtain⟨rfl,-⟩:=e;exact⟨fun _=>by omega,fun _=>by omega,fun _=>by omega,fun _=>by omega⟩
  simp[Zbn,sepP,hb] at e;obtain⟨rfl,-⟩:=e;exact⟨fun _=>(Zpw hc0).1,fun _=>by omega,fun _=>by omega,fun _=>by omega⟩
theorem ZkG {rd:List Nat→PS} {jx:Nat→Bool} (hj1:∀ c,isSt c→jx c=true) (hj2:∀ c,c=124∨c=38∨c=41→jx c=false) {l:Nat} (h1:1≤l) (h3:l≤3) {M:Nat} {z:List Nat} (hz:stopz l z)
  (hrd:∀ (b:Ex) (z':List Nat),stopz (l+1) z'→(prB (l+1) b++z').length≤M→rd (prB (l+1) b++z')=(b.post,z',false)):∀ (bs:List Ex) (e:List (Int × Int)) (k:Nat),(Zbn l bs++z).length≤M→(Zbn l bs++z).length+1≤k→ZaO rd jx l k e (Zbn l bs++z) false=(Zjo l e bs,z,false)
 | _,_,0,_,hk=>absurd hk (by omega)
 | [],e,k+1,_,_=>by
  show ZaO rd jx l (k+1) e z false=_
  have hc:ZeB jx l z=none:=by
   cases z with
   | nil=>rfl
   | cons c r =>
    obtain⟨q1,q2,q3,q4⟩:=hz c r rfl
    have n1:¬ (l=1∧c=124∨l=2∧c=38):=by
     rintro(⟨rfl,rfl⟩|⟨rfl,rfl⟩)
     ·exact q4 (by omega) rfl
     exact q3 (by omega) rfl
    show(if l=1∧c=124∨l=2∧c=38 then some r else if l=3∧jx c=true then some (c::r) else none)=none;rw[if_neg n1,if_neg];rintro⟨rfl,h⟩;rw[hj2 c (q2 (by omega))] at h;cases h
  unfold ZaO;rw[if_neg (by simp),hc];rfl
 | b::bs,e,k+1,hM,hk=>by
  have hst:=ZiI h1 h3 bs hz;have hlen:(Zbn l (b::bs)++z).length=(sepP l).length+(prB (l+1) b++(Zbn l bs++z)).length:=by simp[Zbn]
  obtain⟨c0,r0,hb,hc0⟩:=Zkz (l+1) b;have hpos:(prB (l+1) b++(Zbn l bs++z)).length=1+r0.length+(Zbn l bs++z).length:=by rw[hb];simp;omega
  have hc:ZeB jx l (Zbn l (b::bs)++z)=some (prB (l+1) b++(Zbn l bs++z)):=by
   have e1:Zbn l (b::bs)++z=sepP l++(prB (l+1) b++(Zbn l bs++z)):=by simp[Zbn]
   rw[e1];obtain rfl|rfl|rfl:l=1∨l=2∨l=3:=by omega
   ·rfl
   ·rfl
   rw[hb];show ZeB jx 3 (c0::(r0++(Zbn 3 bs++z)))=_;show(if 3=1∧c0=124∨3=2∧c0=38 then some (r0++(Zbn 3 bs++z)) else if 3=3∧jx c0=true then some (c0::(r0++(Zbn 3 bs++z))) else none)=_;rw[if_neg (by omega),if_pos ⟨rfl,hj1 c0 hc0⟩];rfl
  unfold ZaO;rw[if_neg (by simp),hc];have hr:=hrd b (Zbn l bs++z) hst (by omega);simp only[hr];exact ZkG hj1 hj2 h1 h3 hz hrd bs _ k (by omega) (by omega)
theorem ZoW {jx:Nat→Bool} (hj1:∀ c,isSt c→jx c=true) (hj2:∀ c,c=124∨c=38∨c=41→jx c=false):∀ (n l:Nat) (t:Ex) (z:List Nat),1≤l→l≤6→fuP l (prB l t++z)≤n→stopz l z→rdP jx n l (prB l t++z)=(t.post,z,false)
 | 0,l,t,z,_,h6,hn,_=>by unfold fuP at hn;omega
 | n+1,l,t,z,h1,h6,hn,hz=>by
  obtain⟨c0,r0,hb,hc0⟩:=Zkz l t;have ih:=ZoW hj1 hj2 n;obtain rfl|rfl|rfl|hl:l=6∨l=5∨l=4∨l≤3:=by omega
  ·have inner:bnd t<6→rdP jx (n+1) 6 (prB 6 t++z)=(t.post,z,false):=fun h=>by rw[ZeM h] at hn ⊢;have h2:=ih 1 t (41::z) (by omega) (by omega) (by unfold fuP at hn ⊢;rw[Zgc];simp at hn ⊢;omega) (ZjL 1 z);rw[Zgc] at h2;show rdP jx (n+1) 6 (40::(prE t++[41]++z))=_;unfold rdP;rw[if_pos rfl];simp only[List.append_assoc,List.cons_append,List.nil_append];rw[h2];rfl
   cases t with
   | zero=>rfl
   | one=>rfl
   | ltr c =>
    obtain⟨c,hc⟩:=c;obtain rfl|rfl|rfl:c=0∨c=1∨c=2:=by omega
    all_goals rfl
   | join a b=>exact inner (by simp[bnd])
   | alt a b=>exact inner (by simp[bnd])
   | both a b=>exact inner (by simp[bnd])
   | neg a=>exact inner (by simp[bnd])
   | star a=>exact inner (by simp[bnd])
  ·obtain⟨t0,k,ht,h0⟩:=Zhk t;have hp:=ZhT t0 h0 k;rw[← ht] at hp;have hq:prB 5 t++z=prB 6 t0++(List.replicate k 42++z):=by rw[hp,List.append_assoc]
   have h2:=ih 6 t0 (List.replicate k 42++z) (by omega) (by omega) (by rw[← hq];unfold fuP at hn ⊢;omega) (fun c r _=>⟨fun h=>by omega,fun h=>by omega,fun h=>by omega,fun h=>by omega⟩);rw[hq];unfold rdP;rw[if_neg (by omega),if_pos rfl,h2];show((Za6 t0.post (List.replicate k 42++z)).1,(Za6 t0.post (List.replicate k 42++z)).2,false)=_;rw[Zhj k t0.post z hz,ht,ZiL]
  ·by_cases h4:bnd t=4
   ·cases t with
    | neg a =>
     have e1:prB 4 (.neg a)++z=33::(prB 4 a++z):=by rw[Zdq (Nat.le_refl 4)];rfl
     rw[e1] at hn ⊢;have h2:=ih 4 a z (by omega) (by omega) (by unfold fuP at hn ⊢;simp at hn ⊢;omega) hz;unfold rdP;rw[if_neg (by omega),if_neg (by omega),if_pos rfl];simp only[↓reduceIte,h2];rfl
    | _=>simp[bnd] at h4
   have e1:prB 4 t=prB 5 t:=ZmC h4
   have hne:c0≠33:=fun e=>by
    subst e;by_cases hlt:bnd t<4
    ·rw[ZeM hlt] at hb;cases hb
    rw[Zdq (by omega)] at hb;cases t with
    | zero=>cases hb
    | one=>cases hb
    | ltr c =>simp[prE] at hb;omega
    | neg a=>exact h4 rfl
    | join a b=>simp[bnd] at hlt
    | alt a b=>simp[bnd] at hlt
    | both a b=>simp[bnd] at hlt
    | star a =>
     obtain⟨t0,k,ht,h0⟩:=Zhk (.star a);have hp:=ZhT t0 h0 k;rw[← ht,Zdq (Nat.le_refl 5),hb] at hp
     have h5:bnd t0≠4∨prB 6 t0=40::(prE t0++[41]):=by
      by_cases h:bnd t0=4
      ·exact .inr (ZeM (by omega))
      exact .inl h
     rcases h5 with h5|h5
     ·by_cases h6':bnd t0<6
      ·rw[ZeM h6'] at hp;cases hp
      rw[Zdq (by omega)] at hp;cases t0 with
      | zero=>cases hp
      | one=>cases hp
      | ltr c =>simp[prE] at hp;omega
      | _=>simp[bnd] at h6'
     rw[h5] at hp;cases hp
   have h2:=ih 5 t z (by omega) (by omega) (by unfold fuP at hn ⊢;rw[e1] at hn;omega) (Zkq hz (by omega));rw[← e1] at h2;rw[hb] at h2 ⊢;show rdP jx (n+1) 4 (c0::(r0++z))=_;unfold rdP;rw[if_neg (by omega),if_neg (by omega),if_pos rfl];simp only[hne,↓reduceIte];exact h2
  obtain⟨t0,bs,q1,q2⟩:=spine l h1 hl t;have hq:prB l t++z=prB (l+1) t0++(Zbn l bs++z):=by rw[q1,List.append_assoc]
  have hst:=ZiI h1 hl bs hz;have h2:=ih (l+1) t0 (Zbn l bs++z) (by omega) (by omega) (by rw[← hq];unfold fuP at hn ⊢;omega) hst;rw[hq] at hn ⊢;unfold rdP;rw[if_neg (by omega),if_neg (by omega),if_neg (by omega),h2];obtain⟨c1,r1,hb1,-⟩:=Zkz (l+1) t0;have hlt:(Zbn l bs++z).length+1≤(prB (l+1) t0++(Zbn l bs++z)).length:=by rw[hb1];simp
  rw[q2];refine ZkG hj1 hj2 h1 hl (M:=(prB (l+1) t0++(Zbn l bs++z)).length) hz (fun b z' hz' hM=>ih (l+1) b z' (by omega) (by omega) ?_ hz') bs t0.post n (by omega) ?_
  ·unfold fuP at hn ⊢;omega
  unfold fuP at hn;omega
theorem Zf0:∀ (r:List Nat) (e:List (Int × Int)),(Za6 e r).2.length≤r.length
 | [],_=>Nat.le_refl _
 | c::r,e=>by
  unfold Za6
  split
  ·have:=Zf0 r (e++[(8,0)]);simp;omega
  exact Nat.le_refl _
def Zp3 (p:Int × Int) (st:List Ex):Option (List Ex) :=
 if p.1=1 then some (.zero::st) else if p.1=2 then some (.one::st) else if p.1=3 then some (.ltr (Fin.ofNat 3 p.2.toNat)::st)
 else if p.1=7 then(match st with|a::st=>some (.neg a::st)|[]=>none)
 else if p.1=8 then(match st with|a::st=>some (.star a::st)|[]=>none)
 else match st with
  | b::a::st=>if p.1=4 then some (.join a b::st) else if p.1=5 then some (.alt a b::st) else some (.both a b::st)
  | _=>none
def ZeF:List (Int × Int)→List Ex→Option (List Ex)
 | [],st=>some st
 | p::r,st=>(Zp3 p st).bind (ZeF r)
theorem ZlU:∀ (t:Ex) (r:List (Int × Int)) (st:List Ex),ZeF (t.post++r) st=ZeF r (t::st):=by
 intro t
 induction t with
 | zero=>intro r st;rfl
 | one=>intro r st;rfl
 | ltr c =>
  intro r st;obtain⟨c,hc⟩:=c;obtain rfl|rfl|rfl:c=0∨c=1∨c=2:=by omega
  all_goals rfl
 | neg a ha=>intro r st;show ZeF (a.post++[(7,0)]++r) st=_;rw[List.append_assoc,ha];rfl
 | star a ha=>intro r st;show ZeF (a.post++[(8,0)]++r) st=_;rw[List.append_assoc,ha];rfl
 | join a b ha hb=>intro r st;show ZeF (a.post++b.post++[(4,0)]++r) st=_;rw[List.append_assoc,List.append_assoc,ha,hb];rfl
 | alt a b ha hb=>intro r st;show ZeF (a.post++b.post++[(5,0)]++r) st=_;rw[List.append_assoc,List.append_assoc,ha,hb];rfl
 | both a b ha hb=>intro r st;show ZeF (a.post++b.post++[(6,0)]++r) st=_;rw[List.append_assoc,List.append_assoc,ha,hb];rfl
def Zl5 (e:List (Int × Int)):Option Ex:=match ZeF e [] with
 | some [t]=>some t
 | _=>none
theorem ZdY (t:Ex):Zl5 t.post=some t:=by have:=ZlU t [] [];rw[List.append_nil] at this;unfold Zl5;rw[this];rfl
theorem ZkA {t u:Ex} (h:t.post=u.post):t=u:=by have h1:=ZdY t;rw[h,ZdY u] at h1;exact(Option.some.inj h1).symm
def ZdQ (e:List (Int × Int)):List Nat:=if exOk e=true then(match Zl5 e with|some t=>prE t|none=>[]) else []
theorem ZfD {e:List (Int × Int)} (h:exOk e=false):ZdQ e=[]:=by unfold ZdQ;rw[if_neg (by rw[h];simp)]
theorem ZcO {t:Ex} (h:t.post.length≤60):ZdQ t.post=prE t:=by unfold ZdQ;rw[if_pos (Zau t h),ZdY]
theorem ZfC {e:List (Int × Int)} (h:exOk e=true):∃ t:Ex,t.post=e∧e.length≤60∧ZdQ e=prE t:=by obtain⟨t,rfl⟩:=parse h;have hl:=(Zbk h).2.2.2;exact⟨t,rfl,by omega,ZcO (by omega)⟩
theorem ZhN (e:List (Int × Int)):(∀ c∈ZdQ e,isTb c)∧(ZdQ e).length≤240:=by
 cases h:exOk e
 ·rw[ZfD h];simp
 obtain⟨t,rfl,hl,ht⟩:=ZfC h;rw[ht];have:=ZaY t;exact⟨ZpP t,by omega⟩
def jI (c:Nat):Bool:=decide (c=48)||decide (c=49)||decide (c=97)||decide (c=98)||decide (c=99)||decide (c=40)||decide (c=33)
def jS (c:Nat):Bool:=!(decide (c=124)||decide (c=38)||decide (c=41)||decide (c=42))
theorem ZoZ:(∀ c,isSt c→jI c=true)∧∀ c,c=124∨c=38∨c=41→jI c=false:=by
 constructor
 ·rintro c (rfl|rfl|rfl|rfl|rfl|rfl|rfl)<;>decide
 rintro c (rfl|rfl|rfl)<;>decide
theorem ZpW:(∀ c,isSt c→jS c=true)∧∀ c,c=124∨c=38∨c=41→jS c=false:=by
 constructor
 ·rintro c (rfl|rfl|rfl|rfl|rfl|rfl|rfl)<;>decide
 rintro c (rfl|rfl|rfl)<;>decide
def yesR (x:PS) (s:List Nat):Prop:=x.2.2=false∧x.2.1=[]∧ZdQ x.1=s
instance (x:PS) (s:List Nat):Decidable (yesR x s):=by unfold yesR;infer_instance
def Zch (s:List Nat):Option (List (Int × Int)):=if s.length≤120∧yesR (rdP jI (fuP 1 s) 1 s) s then some (rdP jI (fuP 1 s) 1 s).1 else none
theorem Zmw (jx:Nat→Bool):∀ (n l:Nat),1≤l→l≤6→(rdP jx n l []).2.2=true
 | 0,_,_,_=>rfl
 | n+1,l,h1,h6=>by
  have ih:=Zmw jx n;unfold rdP
  split
  ·rfl
  split
  ·show(Zg0 (rdP jx n 6 [])).2.2=true;unfold Zg0;rw[if_pos (ih 6 (by omega) (by omega))]
  split
  ·exact ih 5 (by omega) (by omega)
  have:=ih (l+1) (by omega) (by omega);rw[this];cases n with
  | zero=>rfl
  | succ n=>rfl
theorem ZiF {jx:Nat→Bool} {n:Nat} {s:List Nat} (h:yesR (rdP jx n 1 s) s):∃ t:Ex,(rdP jx n 1 s).1=t.post∧prE t=s∧t.post.length≤60:=by
 obtain⟨h1,-,h3⟩:=h;cases he:exOk (rdP jx n 1 s).1
 ·rw[ZfD he] at h3;subst h3;rw[Zmw jx n 1 (by omega) (by omega)] at h1;cases h1
 obtain⟨t,e1,e2,e3⟩:=ZfC he;exact⟨t,e1.symm,by rw[← e3];exact h3,by rw[e1];exact e2⟩
theorem Zmv {jx:Nat→Bool} (hj:(∀ c,isSt c→jx c=true)∧∀ c,c=124∨c=38∨c=41→jx c=false) {n:Nat} {t:Ex} (hn:fuP 1 (prE t)≤n):rdP jx n 1 (prE t)=(t.post,[],false):=by
 have h:=ZoW hj.1 hj.2 n 1 t [] (by omega) (by omega) (by rw[List.append_nil,Zgc];exact hn) (Zma 1)
 rwa [List.append_nil,Zgc] at h
theorem Zn9 {t:Ex} (h:t.post.length≤60) (hl:(prE t).length≤120):Zch (prE t)=some t.post:=by have h1:=Zmv ZoZ (Nat.le_refl (fuP 1 (prE t)));unfold Zch;rw[h1,if_pos ⟨hl,rfl,rfl,ZcO h⟩]
theorem Zho {s:List Nat} {e:List (Int × Int)} (h:Zch s=some e):∃ t:Ex,e=t.post∧prE t=s∧t.post.length≤60∧s.length≤120:=by
 unfold Zch at h
 split at h
 ·rename_i hc;obtain⟨t,e1,e2,e3⟩:=ZiF hc.2;exact⟨t,by rw[← Option.some.inj h,e1],e2,e3,hc.1⟩
 cases h
theorem Zkx {jx:Nat→Bool} (hj:(∀ c,isSt c→jx c=true)∧∀ c,c=124∨c=38∨c=41→jx c=false) {n:Nat} {s:List Nat} (hn:fuP 1 s≤n) (hl:s.length≤120):Zch s=if yesR (rdP jx n 1 s) s then some (rdP jx n 1 s).1 else none:=by
 split
 ·rename_i h;obtain⟨t,e1,e2,e3⟩:=ZiF h;rw[e1,← e2];exact Zn9 e3 (by rw[e2];exact hl)
 rename_i h;cases hr:Zch s with
 | none=>rfl
 | some e =>obtain⟨t,e1,e2,e3,-⟩:=Zho hr;subst e2;exact absurd (by rw[Zmv hj hn];exact⟨rfl,rfl,ZcO e3⟩) h
theorem Zhp {s:List Nat} (h:120<s.length):Zch s=none:=by unfold Zch;rw[if_neg (by omega)]
/-! How much is read. -/
def meas (R:Nat) (x:PS):Prop:=x.2.1.length≤R∧x.1.length≤2*R∧(x.2.2=false→x.2.1.length<R∧x.1.length+1≤2*(R-x.2.1.length))
theorem ZeJ:∀ (r:List Nat) (e:List (Int × Int)),(Za6 e r).1.length+(Za6 e r).2.length=e.length+r.length
 | [],_=>rfl
 | c::r,e=>by
  unfold Za6
  split
  ·have:=ZeJ r (e++[(8,0)]);simp at this ⊢;omega
  rfl
theorem ZoN {jx:Nat→Bool} {l:Nat} {r r1:List Nat} (h:ZeB jx l r=some r1):r1.length≤r.length:=by
 cases r with
 | nil=>cases h
 | cons c r =>
  have h2:(if l=1∧c=124∨l=2∧c=38 then some r else if l=3∧jx c=true then some (c::r) else none)=some r1:=h
  split at h2
  ·rw[← Option.some.inj h2];simp
  split at h2
  ·rw[← Option.some.inj h2];exact Nat.le_refl _
  cases h2
theorem ZmW {rd:List Nat→PS} {jx:Nat→Bool} {l R:Nat} (hrd:∀ r:List Nat,r.length≤R→meas r.length (rd r)):∀ (n:Nat) (e:List (Int × Int)) (r:List Nat) (f:Bool),meas R (e,r,f)→meas R (ZaO rd jx l n e r f)
 | 0,e,r,f,h=>⟨h.1,h.2.1,fun h2=>by cases h2⟩
 | n+1,e,r,f,h=>by
  unfold ZaO
  split
  ·exact⟨h.1,h.2.1,fun h2=>by cases h2⟩
  rename_i hf;have hf:f=false:=by simpa using hf
  subst hf
  split
  ·exact h
  rename_i r1 hc;have h1:=ZoN hc;obtain⟨a1,a2,a3⟩:=h;obtain⟨a4,a5⟩:=a3 rfl;simp only at a1 a2 a4 a5;obtain⟨b1,b2,b3⟩:=hrd r1 (by omega);refine ZmW hrd n _ _ _ ⟨by simp only;omega,by simp only[List.length_append,List.length_singleton];omega,fun h2 => ?_⟩;obtain⟨b4,b5⟩:=b3 h2;simp only[List.length_append,List.length_singleton];omega
theorem Zc4 (jx:Nat→Bool):∀ (n l:Nat) (r:List Nat),meas r.length (rdP jx n l r)
 | 0,l,r=>⟨Nat.le_refl _,Nat.zero_le _,fun h=>by cases h⟩
 | n+1,l,r=>by
  have ih:=Zc4 jx n;unfold rdP
  split
  ·cases r with
   | nil=>exact⟨Nat.le_refl _,Nat.zero_le _,fun h=>by cases h⟩
   | cons c r1 =>
    simp only;cases ha:Ze7 c with
    | some p=>exact⟨by simp,by simp;omega,fun _=>by simp⟩
    | none =>
     simp only
     split
     ·obtain⟨b1,b2,b3⟩:=ih 1 r1;obtain⟨x,hx⟩:=eJ (rdP jx n 1 r1);rw[hx] at b1 b2 b3 ⊢;obtain⟨e,r2,f⟩:=x;cases f with
      | true =>
       cases r2 with
       | nil=>exact⟨by simp[brkP],by simp[brkP],fun h=>by cases h⟩
       | cons c2 r2=>exact⟨by simp[brkP] at b1 ⊢;omega,by simp[brkP],fun h=>by cases h⟩
      | false =>
       cases r2 with
       | nil=>exact⟨by simp[brkP],by simp[brkP],fun h=>by cases h⟩
       | cons c2 r2 =>
        obtain⟨b4,b5⟩:=b3 rfl;simp only[List.length_cons] at b1 b2 b4 b5;show meas _ (if c2=41 then(e,r2,false) else([],c2::r2,true))
        split
        ·exact⟨by simp only[List.length_cons];omega,by simp only[List.length_cons];omega,fun _=>by simp only[List.length_cons];omega⟩
        exact⟨by simp only[List.length_cons];omega,by simp,fun h=>by cases h⟩
     exact⟨by simp,by simp,fun h=>by cases h⟩
  split
  ·obtain⟨b1,b2,b3⟩:=ih 6 r;obtain⟨x,hx⟩:=eJ (rdP jx n 6 r);rw[hx] at b1 b2 b3 ⊢;obtain⟨e,r2,f⟩:=x;unfold Zg0;cases f with
   | true=>exact⟨b1,b2,fun h=>by cases h⟩
   | false =>obtain⟨b4,b5⟩:=b3 rfl;have h1:=ZeJ r2 e;have h2:=Zf0 r2 e;simp only at b1 b2 b4 b5;exact⟨by simp;omega,by simp;omega,fun _=>by simp;omega⟩
  split
  ·cases r with
   | nil=>exact ih 5 []
   | cons c r1 =>
    simp only
    split
    ·obtain⟨b1,b2,b3⟩:=ih 4 r1;refine⟨by simp;omega,by simp;omega,fun h => ?_⟩;obtain⟨b4,b5⟩:=b3 h;simp;omega
    exact ih 5 (c::r1)
  exact ZmW (fun r1 _=>ih (l+1) r1) n _ _ _ (ih (l+1) r)
/-! What is left is an end of what was there. -/
theorem Zhi:∀ (r:List Nat) (e:List (Int × Int)),(Za6 e r).2 <:+ r
 | [],_=>List.suffix_refl _
 | c::r,e=>by
  unfold Za6
  split
  ·exact(Zhi r _).trans (List.suffix_cons c r)
  exact List.suffix_refl _
theorem Znv {jx:Nat→Bool} {l:Nat} {r r1:List Nat} (h:ZeB jx l r=some r1):r1 <:+ r:=by
 cases r with
 | nil=>cases h
 | cons c r =>
  have h2:(if l=1∧c=124∨l=2∧c=38 then some r else if l=3∧jx c=true then some (c::r) else none)=some r1:=h
  split at h2
  ·rw[← Option.some.inj h2];exact List.suffix_cons c r
  split at h2
  ·rw[← Option.some.inj h2];exact List.suffix_refl _
  cases h2
theorem ZkF {rd:List Nat→PS} {jx:Nat→Bool} {l:Nat} (hrd:∀ r:List Nat,(rd r).2.1 <:+ r):∀ (n:Nat) (e:List (Int × Int)) (r:List Nat) (f:Bool),(ZaO rd jx l n e r f).2.1 <:+ r
 | 0,_,_,_=>List.suffix_refl _
 | n+1,e,r,f=>by
  unfold ZaO
  split
  ·exact List.suffix_refl _
  split
  ·exact List.suffix_refl _
  rename_i r1 hc;exact(ZkF hrd n _ _ _).trans ((hrd r1).trans (Znv hc))
theorem ZoP (x:PS):(brkP x).2.1 <:+ x.2.1:=by
 obtain⟨e,r,f⟩:=x;cases f with
 | true=>cases r<;>exact List.suffix_refl _
 | false =>
  cases r with
  | nil=>exact List.suffix_refl _
  | cons c r =>
   show(if c=41 then((e,r,false):PS) else([],c::r,true)).2.1 <:+ c::r
   split
   ·exact List.suffix_cons c r
   exact List.suffix_refl _
theorem ZdT (jx:Nat→Bool):∀ (n l:Nat) (r:List Nat),(rdP jx n l r).2.1 <:+ r
 | 0,_,_=>List.suffix_refl _
 | n+1,l,r=>by
  have ih:=ZdT jx n;unfold rdP
  split
  ·cases r with
   | nil=>exact List.suffix_refl _
   | cons c r1 =>
    simp only;cases ha:Ze7 c with
    | some p=>exact List.suffix_cons c r1
    | none =>
     simp only
     split
     ·exact((ZoP _).trans (ih 1 r1)).trans (List.suffix_cons c r1)
     exact List.suffix_cons c r1
  split
  ·show(Zg0 (rdP jx n 6 r)).2.1 <:+ r;unfold Zg0
   split
   ·exact ih 6 r
   exact(Zhi _ _).trans (ih 6 r)
  split
  ·cases r with
   | nil=>exact ih 5 []
   | cons c r1 =>
    simp only
    split
    ·exact(ih 4 r1).trans (List.suffix_cons c r1)
    exact ih 5 (c::r1)
  exact(ZkF (ih (l+1)) n _ _ _).trans (ih (l+1) r)
theorem ZnU {r s:List Nat} (h:r <:+ s):r=s.drop (s.length-r.length):=by obtain⟨t,rfl⟩:=h;rw[List.length_append,Nat.add_sub_cancel,List.drop_left]
end Go.Proofs.YtncekbbhgipdlaaGreat
namespace Go.Proofs.YtncekbbhgipdlaaGreat
open Go.RowKit
theorem Zl3 (l:List Nat) (k:Nat):(txB l).extract k (txB l).size=txB (l.drop k):=by apply ByteArray.ext;rw[ZaG];simp only[txB,ByteArray.data_extract,List.map_drop,List.extract_toArray,List.extract_eq_take_drop];rw[List.take_of_length_le (by simp)]
theorem Znu (s:List Nat) (k:Nat) (j:Int) (hj:j=(k:Int)) (hk:k≤s.length):∀ w':World,(Instr.slice 9 (.string (txB s)) (some (.int .i64 j)) none none).run Tryz.prog w' = .ok (.string (txB (s.drop k))) w':=fun w'=>by subst hj;rw[run_slice_string_l w' 9 (txB s) Tryz.underlying9 .i64 k (by omega) (by rw[ZaG];omega),Int.toNat_natCast,Zl3]
theorem ZdF (l:List Nat):(txB l).toList.isEmpty=l.isEmpty:=by rw[ByteArray.toList_eq];cases l<;>rfl
theorem Zf4 (s:ByteArray) (c:Int) (w:World) :
  Calls Tryz.prog 117 #[.string s,.int .u8 c] w fun e w'=>e = .returned (.int .i64 (Lib.indexByte s.data.toList c.toNat.toUInt8))∧w=w':=by
 go_enter Tryz.func117, Tryz.ntmps117
 go_wp2;rw[run_callFunc_extern Tryz.func143 (by kernel_rfl) (by kernel_rfl) (by kernel_rfl) (e:=Extern.BytealgIndexByte.indexByte) (by kernel_rfl),Lib.run_indexByteString];simp only[Result.andThen];rw[Oper.upon_value];go_wp2;go_ret;exact⟨rfl,rfl⟩
theorem Zes (s:ByteArray) (c:Int) (w:World) (r:Int) (hr:Lib.indexByte s.data.toList c.toNat.toUInt8=r) :
  Calls Tryz.prog 73 #[.string s,.int .u8 c] w fun e w'=>e = .returned (.int .i64 r)∧w=w':=by
 subst hr
 go_enter Tryz.func73, Tryz.ntmps73
 go_wp2_with (go_at_call 117;refine(Zf4 _ _ _).mono ?_;rintro e w' ⟨rfl,rfl⟩);go_ret;exact⟨rfl,rfl⟩
theorem Zpu {c:Nat} (hc:c<256):(0≤Lib.indexByte [48,49,97,98,99,40,33] ((c:Int).toNat.toUInt8))↔jI c=true:=by
 have h:∀ k:Fin 256,(0≤Lib.indexByte [48,49,97,98,99,40,33] (k.val.toUInt8))↔jI k.val=true:=by decide
 simpa using h ⟨c,hc⟩
def ZpS (r:List Nat) (f:Bool):Nat:=if f=true then 0 else r.headD 0
theorem Zay (r:List Nat) (f:Bool) (b:Nat) (w:World) (ht:isT r) (h0:w.cell? ⟨b,0,none⟩=some (.string (txB r))) (h1:w.cell? ⟨b,1,none⟩=some (.bool f)) (c:Nat) (hc:ZpS r f=c) :
  Calls Tryz.prog 70 #[.pointer (some ⟨b,0,none⟩)] w fun e w'=>e = .returned (.int .u8 (c:Int))∧w=w':=by
 subst hc;cases f with
 | true =>
  go_enter Tryz.func70, Tryz.ntmps70
  go_wp2;go_ret;exact⟨rfl,rfl⟩
 | false =>
  have he:=ZdF r;cases r with
  | nil =>
   simp only[List.isEmpty_nil] at he
   go_enter Tryz.func70, Tryz.ntmps70
   go_wp2;go_ret;exact⟨rfl,rfl⟩
  | cons x r =>
   simp only[List.isEmpty_cons] at he;have hix:=fun u=>ZbE (l:=x::r) (i:=0) (by simp) ht u
   simp only[List.getD_cons_zero,Int.ofNat_zero] at hix;obtain⟨s,hs⟩:=eJ (txB (x::r));rw[hs] at he hix h0;replace hs:=qh hs
   go_enter Tryz.func70, Tryz.ntmps70
   go_wp2;go_ret;exact⟨rfl,rfl⟩
end Go.Proofs.YtncekbbhgipdlaaGreat
namespace Go.Proofs.YtncekbbhgipdlaaGreat
open Go.RowKit Go.Deep Go.ChangeShapes Go.ChangeAt
section
variable {H:Type} {enc:TypeId × Value→H} {P:Program} {w:World} {held:Bool}
end
end Go.Proofs.YtncekbbhgipdlaaGreat
namespace Go.Proofs.YtncekbbhgipdlaaGreat
open Go.RowKit Go.Deep Go.ChangeShapes Go.ChangeAt
def Bytes (B:Nat) (w:World) (v:Value) (bs:List Nat):Prop:=(∀ b∈bs,b<256)∧Sl B w v bs.length 1 (bs.map fun (b:Nat)=>Value.int .u8 (b:Int))
theorem Bytes.below {B:Nat} {w w':World} {v:Value} {bs:List Nat} (h:Bytes B w v bs) (he:Below w.heap.size w w'):Bytes B w' v bs:=⟨h.1,Sl.below h.2 he⟩
theorem Bytes.form {B:Nat} {w:World} {v:Value} {bs:List Nat} (h:Bytes B w v bs):∃ a cap,v = .slice a bs.length cap∧bs.length≤cap∧cap≤9223372036854775807 ∧
  (0<bs.length→∃ b off,a=some ⟨b,off,none⟩∧B≤b∧b<w.heap.size∧∀ j,j<bs.length→w.cell? ⟨b,off+j,none⟩=some (.int .u8 (bs.getD j 0:Nat))∧bs.getD j 0<256):=by
 obtain⟨h0,hl,a,cap,hv,h1,h2,h3⟩:=h;refine⟨a,cap,hv,h1,h2,fun hn => ?_⟩;obtain⟨b,off,ha,hb,hlt,hc⟩:=h3 hn;refine⟨b,off,ha,hb,hlt,fun j hj=>⟨?_,h0 _ (by rw[show bs.getD j 0=bs[j] by simp[hj]];exact List.getElem_mem hj)⟩⟩;rw[hc j (by omega)];simp[hj]
section
variable {H:Type} {enc:TypeId × Value→H} {P:Program} {w:World} {held:Bool}
end
end Go.Proofs.YtncekbbhgipdlaaGreat
namespace Go.Proofs.YtncekbbhgipdlaaGreat
open Go.RowKit
theorem Bytes.take {w:World} {a:Option Addr} {len cap:Nat} {bs:List Nat} (h:Bytes 0 w (.slice a len cap) bs) {n:Nat} (hn:n≤bs.length):Bytes 0 w (.slice a n cap) (bs.take n):=by
 obtain⟨h0,hl,a',cap',hv,h1,h2,h3⟩:=h;simp only[Value.slice.injEq] at hv;obtain⟨rfl,rfl,rfl⟩:=hv;have e:(bs.take n).length=n:=by rw[List.length_take];omega
 refine⟨fun b hb=>h0 b (List.mem_of_mem_take hb),?_⟩;rw[e];refine⟨by rw[List.length_map,e];omega,a,cap,rfl,by omega,h2,fun hn0 => ?_⟩;obtain⟨b,off,ha,hb,hlt,hc⟩:=h3 (by omega);refine⟨b,off,ha,hb,hlt,fun j hj => ?_⟩;rw[hc j (by omega),List.map_take,List.getElem?_take_of_lt (by omega)]
theorem Zpi {x y:Int}:∀ u∈[Value.int .i64 x,Value.int .i64 y],u.oneCell'=true:=by intro u hu;simp at hu;rcases hu with rfl|rfl<;>rfl
theorem Zad {w:World} {B e:Nat} {v:Value} {xs:List (Int × Int)} (hr:w.ownsRow B e 2 v xs.length (xs.flatMap Zaa)):Pairs 0 w v xs :=
 ((Zab hr).sl (by omega)).mono (Nat.zero_le _)
theorem Tryz.infoPt:(Tryz.prog.info? 62).map (fun i=>(i.zero,i.size,i.bytes))=some (some (.agg #[.int .i64 0,.int .i64 0]),2,16):=by kernel_rfl
end Go.Proofs.YtncekbbhgipdlaaGreat
