/-
  The walks over slices.Grow of nothing and slices.Concat of slices of parts, and the program's operation.
  Conditions: the slices are readable.
-/
import Derived.Test.YtehmjmjedopkkaaGreatPo13Pq
set_option maxHeartbeats 16000000
set_option maxRecDepth 100000
namespace Go.Proofs.YtehmjmjedopkkaaGreat
open Go.RowKit
abbrev PZ:Value:=.agg #[.int .i64 0,.int .i64 0]
theorem Zn2 (n:Nat) (w:World) (hn:n≤2000000) :
  Calls Tryz.prog 161 #[.slice none 0 0,.int .i64 (n:Int)] w fun e w'=>∃ a c,e = .returned (.slice a 0 c)∧St w w' [Ent.row 55 2 (.slice a 0 c) 0 []]:=by
 obtain⟨j0,hj,hy0,hy1,hy2⟩:=info_parts Tryz.infoPart;have h1:¬ ((n:Int)<0):=by omega
 by_cases h0:n=0
 ·subst h0;have hS0:=(St.start w).nilRow 55 2;have HhS0:=qh hS0;clear hS0
  go_enter Tryz.func161, Tryz.ntmps161
  go_wp2;go_ret;exact⟨none,0,rfl,HhS0.out⟩
 have hrz:∀ ty,(Builtin.append_ #[23,3] ty #[.slice none 0 0,.int .i64 (n:Int)]).run Tryz.prog w =
   .ok (.slice (some ⟨w.heap.size,0,none⟩) n (grownCap w n 0 55)) (w.drew.alloc (.cells (Builtin.zeroCells PZ.cells n++Builtin.zeroCells PZ.cells (grownCap w n 0 55 - n)) 55)):=fun ty=>by
  have h:=Lib.run_append_grow_zeros w 23 3 ty 55 j0 PZ .i64 .i64 Tryz.underlying23 Tryz.underlying3 hj hy0 none 0 0 [] (run_firstCells_none w.drew j0.size 0 0 0) n (by omega) (by omega) (by omega) (by omega) (by rw[hy2];omega) (by rw[hy2];exact growslice_fits (by omega) (by omega));simpa using h
 have hGn:n≤grownCap w n 0 55:=grownCap_ge w _ _ _;have hG63:grownCap w n 0 55 ≤ maxLen:=grownCap_le_maxLen w n 0 55 (by unfold maxLen;omega);obtain⟨G,hG⟩:=eI (grownCap w n 0 55);obtain⟨cur,hcur⟩:=eI (Builtin.zeroCells PZ.cells n++Builtin.zeroCells PZ.cells (G-n));have hcs:cur.size=G*2:=by rw[hcur,Array.size_append,size_zeroCells,size_zeroCells];show n*2+(G-n)*2=G*2;rw[← hG] at hGn;omega
 rw[← hG] at hrz hGn hG63;rw[← hcur] at hrz
 have hown:(w.drew.alloc (.cells cur 55)).ownsRow w.heap.size 55 2 (.slice (some ⟨w.heap.size,0,none⟩) 0 G) 0 [] :=
  ⟨rfl,.inr ⟨w.heap.size,G,cur,rfl,Nat.le_refl _,heap_alloc_new w.drew _,Nat.zero_le _,hG63,hcs,by simp⟩⟩
 have hS0:=(St.start w).made ((Below.refl _ _).drew.alloc (Nat.le_refl _) (.cells cur 55)) hown;have hG63':G≤9223372036854775807:=by unfold maxLen at hG63;omega
 replace hG:=qh hG;have Hhcur:=qh hcur;clear hcur;have Hhcs:=qh hcs;clear hcs;have Hhown:=qh hown;clear hown;have HhS0:=qh hS0;clear hS0
 go_enter Tryz.func161, Tryz.ntmps161
 go_wp2_with (at_builtin;refine Lib.wpList_append_run _ rfl _ _ _ _ rfl _ _ rfl rfl _ _ (hrz _) ?_);go_ret;exact⟨_,G,rfl,HhS0.out⟩
def sumL (ess:List (List (Int × Int))) (k:Nat):Nat:=(ess.take k).flatten.length
theorem Zed (ess:List (List (Int × Int))):sumL ess 0=0:=by simp[sumL]
theorem ZiT {ess:List (List (Int × Int))} {k:Nat} (h:k<ess.length):sumL ess (k+1)=sumL ess k+(ess.getD k []).length∧(ess.take (k+1)).flatten=(ess.take k).flatten++ess.getD k []:=by
 have e:ess.take (k+1)=ess.take k++[ess.getD k []]:=by rw[List.take_succ_eq_append_getElem h];simp[h]
 have e2:(ess.take (k+1)).flatten=(ess.take k).flatten++ess.getD k []:=by rw[e];simp
 exact⟨by unfold sumL;rw[e2,List.length_append],e2⟩
theorem ZjZ {ess:List (List (Int × Int))} (hl:∀ es∈ess,es.length≤10000):∀ k,k≤ess.length→sumL ess k≤10000*k
 | 0,_=>by rw[Zed];omega
 | k+1,h=>by have ih:=ZjZ hl k (by omega);have h1:=(ZiT (ess:=ess) (k:=k) (by omega)).1;have h2:=hl (ess.getD k []) (by simp[List.getElem?_eq_getElem (show k<ess.length by omega)]);omega
theorem ZkI (ess:List (List (Int × Int))) (vas:List Value) (ao:Option Addr) (b cap:Nat) (w:World) (hao:0<ess.length→ao=some ⟨b,0,none⟩) (hm:ess.length≤100) (hl:∀ es∈ess,es.length≤10000) (hb:0<ess.length→b<w.heap.size)
  (hc:∀ i,i<ess.length→w.cell? ⟨b,i,none⟩=some (vas.getD i undef)) (hp:∀ i,i<ess.length→Pairs 0 w (vas.getD i undef) (ess.getD i [])) :
  Calls Tryz.prog 148 #[.slice ao ess.length cap] w fun e w'=>∃ a c,e = .returned (.slice a ess.flatten.length c)∧St w w' [Ent.row 55 2 (.slice a ess.flatten.length c) ess.flatten.length (ess.flatten.flatMap Zab)]:=by
 obtain⟨j0,hj,hy0,hy1,hy2⟩:=info_parts Tryz.infoPart;obtain⟨m,hmm⟩:=eI (ess.length);have hsum:=fun k (h:k<ess.length)=>ZiT h
 have hle:=ZjZ hl;have hfin:sumL ess m=ess.flatten.length∧(ess.take m).flatten=ess.flatten:=by rw[hmm];unfold sumL;rw[List.take_length];exact⟨rfl,rfl⟩
 have hl':∀ k,k<m→(ess.getD k []).length≤10000:=fun k hk=>hl _ (by simp[List.getElem?_eq_getElem (show k<ess.length by omega)])
 rw[← hmm] at hm hc hp hsum hle hao hb ⊢;have Hao:=qh hao;have Hb:=qh hb;have Hc:=qh hc;have Hp:=qh hp;have Hsum:=qh hsum;have Hle:=qh hle;have Hfin:=qh hfin;have Hl:=qh hl';replace hmm:=qh hmm;clear hc hp hsum hle hfin hl hl' hao hb
 go_enter Tryz.func148, Tryz.ntmps148
 go_wp2
 go_loopw [3,11] (fun n i wr=>∃ k:Nat,i = .int .i64 (k:Int)∧n = .int .i64 ((sumL ess k:Nat):Int)∧k≤m∧w=wr) (fun _ i _=>m-(intOf i).toNat)
 case atStart=>exact⟨0,rfl,by rw[Zed];rfl,Nat.zero_le _,rfl⟩
 case round =>
  obtain⟨k,rfl,rfl,hk,rfl⟩:=hrel;by_cases hlt:k<m
  ·have hlt2:(k:Int)<m:=by omega
   have hao:=Hao.out (by omega);subst hao;obtain⟨q1,q2⟩:=Hsum.out k hlt;have q3:=Hle.out k hk;have q4:=Hl.out k hlt;have c0:=Hc.out k hlt;obtain⟨ax,cx,hv,hv1,hv2,-⟩:=(Hp.out k hlt).form;rw[hv] at c0;obtain⟨L,hL⟩:=eI ((ess.getD k []).length);obtain⟨s,hs⟩:=eI (sumL ess k);rw[← hL] at q1 q4 c0;rw[← hs] at q1 q3;rw[← hs];have hw:IntKind.i64.wrap ((s:Int)+(L:Int))=(s:Int)+(L:Int):=IntWalk.i64_in _ (by omega);have hng:¬ (s:Int)+(L:Int)<0:=by omega
   have Hq1:=qh q1;clear q1;replace hL:=qh hL;have Hhs:=qh hs;clear hs;clear q2 hv hv1 hv2;go_wp2;go_roundw
   case rel=>exact⟨k+1,by go_num,by rw[Hq1.out];congr 1,by omega,trivial⟩
   case measure=>simp[intOf];omega
  obtain rfl:k=m:=by omega
  obtain⟨s,hs⟩:=eI (sumL ess k);have q3:=Hle.out k hk;rw[← hs] at q3 ⊢;have Hhs:=qh hs;clear hs;clear hlt;go_wp2_with fail;refine(Zn2 s _ (by omega)).mono ?_;rintro e w1 ⟨a6,c6,rfl,hS'⟩;have HS1:=qh hS';clear hS';go_wp2
  go_loopw [6,27] (fun vo i wr=>∃ (j:Nat) (a:Option Addr) (c:Nat),i = .int .i64 (j:Int)∧vo = .slice a (sumL ess j) c∧j≤k∧St w wr [Ent.row 55 2 (.slice a (sumL ess j) c) (sumL ess j) ((ess.take j).flatten.flatMap Zab)]) (fun _ i _=>k-(intOf i).toNat)
  case atStart=>exact⟨0,a6,c6,rfl,by rw[Zed],by omega,by rw[Zed];exact HS1.out⟩
  case round =>
   obtain⟨j,a,c,rfl,rfl,hj2,hS⟩:=hrel;by_cases hlt:j<k
   ·have hlt2:(j:Int)<k:=by omega
    have hao:=Hao.out (by omega);subst hao;have hb:=Hb.out (by omega);obtain⟨q1,q2⟩:=Hsum.out j hlt;have q3:=Hle.out j (by omega);have q4:=Hl.out j hlt;have m0:=(bcell hS.bel b j hb).trans (Hc.out j hlt);have hPr:=(Hp.out j hlt).below hS.bel;obtain⟨ax,cx,hv,hv1,hv2,-⟩:=hPr.form;rw[hv] at m0 hPr;obtain⟨E,hE⟩:=eI (ess.getD j []);obtain⟨Z,hZ⟩:=eI ((ess.take j).flatten);rw[← hE] at q1 q2 q4 m0 hPr hv1;rw[← hZ] at q2 hS;obtain⟨L,hL⟩:=eI (E.length);obtain⟨s2,hs2⟩:=eI (sumL ess j);have hPr2:Sl 0 wr (.slice ax L cx) L 2 (E.flatMap Zab):=by rw[hL];exact hPr
    rw[← hL] at q1 q4 m0;rw[← hs2] at q1 q3 hS;rw[← hs2];have HS:=qh hS;have HR:=qh (hS.row 0 rfl);have HXw:=qh hPr2;have Hq1:=qh q1;clear q1;have Hq2:=qh q2;clear q2;replace hL:=qh hL;have Hhs2:=qh hs2;clear hs2;replace hE:=qh hE;have HhZ:=qh hZ;clear hZ;clear hS hv hv1 hv2 hPr hPr2 hlt;go_wp2_with (at_builtin;refine Zal _ rfl _ _ _ rfl _ 55 j0 PZ 2 16 Tryz.underlying23 hj hy0 hy1 hy2 rfl (by omega) _ s2 _ rfl HR.out _ L (E.flatMap Zab) rfl HXw.out Zdu (by unfold maxLen;omega) (by omega) HS.out.size ?_;intro a6 c6 w6 hown6 hgrow6 hat6;have HS6:=qh (HS.out.appS 0 rfl hown6 hgrow6 hat6);clear hown6 hgrow6 hat6);go_roundw
    case rel=>exact⟨j+1,a6,c6,by go_num,by rw[Hq1.out],by omega,by rw[Hq1.out,Hq2.out,List.flatMap_append];exact HS6.out⟩
    case measure=>simp[intOf];omega
   obtain rfl:j=k:=by omega
   rw[Hfin.out.1,Hfin.out.2] at hS;rw[Hfin.out.1];have HS:=qh hS;clear hS hlt;go_wp2;go_ret;exact⟨a,c,rfl,HS.out⟩
def RPo (es:List (Int × Int)) (w:World) (e:Ending) (w':World):Prop:=∃ a c,e = .returned (.slice a es.length c)∧St w w' [Ent.row 55 2 (.slice a es.length c) es.length (es.flatMap Zab)]
theorem Zej (k:Int) (ess:List (List (Int × Int))) (vas:List Value) (b cap:Nat) (w:World) (hm:ess.length≤100) (hl:∀ es∈ess,es.length≤10000) (hb:b<w.heap.size)
  (hc:∀ i,i<ess.length→w.cell? ⟨b,i,none⟩=some (vas.getD i undef)) (hp:∀ i,i<ess.length→Pairs 0 w (vas.getD i undef) (ess.getD i [])) :
  Calls Tryz.prog 121 #[.int .i64 k,.slice (some ⟨b,0,none⟩) ess.length cap] w fun e w'=>RPo (ess.flatten++[(k,0)]) w e w':=by
 obtain⟨j0,hj,hy0,hy1,hy2⟩:=info_parts Tryz.infoPart;have hcon:=qh (ZkI ess vas (some ⟨b,0,none⟩) b cap w (fun _=>rfl) hm hl (fun _=>hb) hc hp);have hle:=ZjZ hl ess.length (Nat.le_refl _);have hfl:sumL ess ess.length=ess.flatten.length:=by unfold sumL;rw[List.take_length]
 rw[hfl] at hle;clear hc hp hl hfl;obtain⟨m,hmm⟩:=eI (ess.length);rw[← hmm] at hcon hm hle ⊢;obtain⟨E,hE⟩:=eI (ess.flatten);rw[← hE] at hcon hle ⊢;obtain⟨L,hL⟩:=eI (E.length);rw[← hL] at hcon hle;have hL2:(E++[(k,0)]).length=L+1:=by rw[hL];simp
 unfold RPo;rw[hL2];replace hmm:=qh hmm;replace hE:=qh hE;have HhL:=qh hL;clear hL;have HhL2:=qh hL2;clear hL2
 go_enter Tryz.func121, Tryz.ntmps121
 go_wp2_with (first
  | (go_at_call 148;refine(hcon.out).mono ?_;rintro e w1 ⟨a6,c6,rfl,hS'⟩;have hS2:=hS'.alloc w1.heap.size rfl #[.int .i64 k,.int .i64 0] 55;have hS3:=hS2.boxrow 1 1 2 [.int .i64 k,.int .i64 0] rfl rfl (by unfold maxLen;omega);have HS:=qh hS3;have HR:=qh (hS3.row 0 rfl);have HX:=qh ((Zaa (hS3.row 1 rfl)).sl (by omega));clear hS' hS2 hS3)
  | (at_builtin;refine Zal _ rfl _ _ _ rfl _ 55 j0 PZ 2 16 Tryz.underlying23 hj hy0 hy1 hy2 rfl (by omega) _ L _ rfl HR.out _ 1 [.int .i64 k,.int .i64 0] rfl (HX.out.mono (Nat.zero_le _)) (by intro u hu;simp at hu;rcases hu with rfl|rfl<;>rfl) (by unfold maxLen;omega) (by omega) HS.out.size ?_;intro a6 c6 w6 hown6 hgrow6 hat6;have HS6:=qh (HS.out.appS 0 rfl hown6 hgrow6 hat6);clear hown6 hgrow6 hat6))
 go_ret;exact⟨_,_,rfl,by rw[List.flatMap_append];exact HS6.out.pick [0] (by decide)⟩
theorem Zdh (k:Int) (w:World):Calls Tryz.prog 88 #[.int .i64 k] w fun e w'=>RPo [(k,0)] w e w':=by
 have hS:=((St.start w).alloc w.heap.size rfl #[.int .i64 k,.int .i64 0] 55).boxrow 0 1 2 [.int .i64 k,.int .i64 0] rfl rfl (by unfold maxLen;omega);replace hS:=qh hS
 go_enter Tryz.func88, Tryz.ntmps88
 go_wp2;go_ret;exact⟨_,_,rfl,hS.out⟩
theorem Zqk (k:Int) (xs:List (Int × Int)) (v:Value) (b cap:Nat) (w:World) (hl:xs.length≤10000) (hb:b<w.heap.size) (h0:w.cell? ⟨b,0,none⟩=some v) (hp:Pairs 0 w v xs) :
  Calls Tryz.prog 121 #[.int .i64 k,.slice (some ⟨b,0,none⟩) 1 cap] w fun e w'=>RPo (xs++[(k,0)]) w e w':=by
 have h:=Zej k [xs] [v] b cap w (by simp) (by simpa using hl) hb (fun i hi=>by
  obtain rfl:i=0:=by simpa using hi
  exact h0) (fun i hi=>by
  obtain rfl:i=0:=by simpa using hi
  exact hp)
 simpa using h
theorem Znn (k:Int) (xs ys:List (Int × Int)) (v u:Value) (b cap:Nat) (w:World) (hl:xs.length≤10000) (hl2:ys.length≤10000) (hb:b<w.heap.size) (h0:w.cell? ⟨b,0,none⟩=some v) (h1:w.cell? ⟨b,1,none⟩=some u) (hp:Pairs 0 w v xs) (hq:Pairs 0 w u ys) :
  Calls Tryz.prog 121 #[.int .i64 k,.slice (some ⟨b,0,none⟩) 2 cap] w fun e w'=>RPo (xs++ys++[(k,0)]) w e w':=by
 have h:=Zej k [xs,ys] [v,u] b cap w (by simp) (by intro es he;simp at he;rcases he with rfl|rfl<;>assumption) hb (fun i hi=>by
  obtain rfl|rfl:i=0∨i=1:=by simp at hi;omega
  ·exact h0
  ·exact h1) (fun i hi=>by
  obtain rfl|rfl:i=0∨i=1:=by simp at hi;omega
  ·exact hp
  exact hq)
 have e:[xs,ys].flatten++[(k,0)]=xs++ys++[(k,0)]:=by simp
 rw[e] at h;exact h
end Go.Proofs.YtehmjmjedopkkaaGreat
namespace Go.Proofs.YtehmjmjedopkkaaGreat
def bnd:Ex→Nat
 | .alt _ _=>1
 | .both _ _=>2
 | .join _ _=>3
 | .neg _=>4
 | .star _=>5
 | _=>6
def brk (l:Nat) (a:Ex) (x:List Nat):List Nat:=if bnd a<l then 40::(x++[41]) else x
def prE:Ex→List Nat
 | .zero=>[48]
 | .one=>[49]
 | .ltr c=>[97+c.val]
 | .join a b=>brk 3 a (prE a)++brk 4 b (prE b)
 | .alt a b=>brk 1 a (prE a)++124::brk 2 b (prE b)
 | .both a b=>brk 2 a (prE a)++38::brk 3 b (prE b)
 | .neg a=>33::brk 4 a (prE a)
 | .star a=>brk 5 a (prE a)++[42]
/-! The reader. -/
abbrev PS:Type:=List (Int × Int) × List Nat × Bool
def Zra (p:Int × Int) (st:List Ex):Option (List Ex) :=
 if p.1=1 then some (.zero::st) else if p.1=2 then some (.one::st) else if p.1=3 then some (.ltr (Fin.ofNat 3 p.2.toNat)::st)
 else if p.1=7 then(match st with|a::st=>some (.neg a::st)|[]=>none)
 else if p.1=8 then(match st with|a::st=>some (.star a::st)|[]=>none)
 else match st with
  | b::a::st=>if p.1=4 then some (.join a b::st) else if p.1=5 then some (.alt a b::st) else some (.both a b::st)
  | _=>none
def ZeL:List (Int × Int)→List Ex→Option (List Ex)
 | [],st=>some st
 | p::r,st=>(Zra p st).bind (ZeL r)
theorem ZmA:∀ (t:Ex) (r:List (Int × Int)) (st:List Ex),ZeL (t.post++r) st=ZeL r (t::st):=by
 intro t
 induction t with
 | zero=>intro r st;rfl
 | one=>intro r st;rfl
 | ltr c =>
  intro r st;obtain⟨c,hc⟩:=c;obtain rfl|rfl|rfl:c=0∨c=1∨c=2:=by omega
  all_goals rfl
 | neg a ha=>intro r st;show ZeL (a.post++[(7,0)]++r) st=_;rw[List.append_assoc,ha];rfl
 | star a ha=>intro r st;show ZeL (a.post++[(8,0)]++r) st=_;rw[List.append_assoc,ha];rfl
 | join a b ha hb=>intro r st;show ZeL (a.post++b.post++[(4,0)]++r) st=_;rw[List.append_assoc,List.append_assoc,ha,hb];rfl
 | alt a b ha hb=>intro r st;show ZeL (a.post++b.post++[(5,0)]++r) st=_;rw[List.append_assoc,List.append_assoc,ha,hb];rfl
 | both a b ha hb=>intro r st;show ZeL (a.post++b.post++[(6,0)]++r) st=_;rw[List.append_assoc,List.append_assoc,ha,hb];rfl
def ZmK (e:List (Int × Int)):Option Ex:=match ZeL e [] with
 | some [t]=>some t
 | _=>none
theorem ZfZ (t:Ex):ZmK t.post=some t:=by have:=ZmA t [] [];rw[List.append_nil] at this;unfold ZmK;rw[this];rfl
theorem Zia {t u:Ex} (h:t.post=u.post):t=u:=by have h1:=ZfZ t;rw[h,ZfZ u] at h1;exact(Option.some.inj h1).symm
def Zq6 (e:List (Int × Int)):List Nat:=if exOk e=true then(match ZmK e with|some t=>prE t|none=>[]) else []
def yesR (x:PS) (s:List Nat):Prop:=x.2.2=false∧x.2.1=[]∧Zq6 x.1=s
instance (x:PS) (s:List Nat):Decidable (yesR x s):=by unfold yesR;infer_instance
/-! How much is read. -/
/-! What is left is an end of what was there. -/
end Go.Proofs.YtehmjmjedopkkaaGreat
namespace Go.Proofs.YtehmjmjedopkkaaGreat
open Go.RowKit
def Qs (lo:Nat) (w:World) (e:TypeId) (v:Value) (xs:List Value):Prop :=
 ∃ g off cap cur,v = .slice (some ⟨g,off,none⟩) xs.length cap∧lo≤g∧w.heap[g]? = some (.cells cur e (0,0))∧xs.length≤cap∧cap≤maxLen∧off+cap≤cur.size∧∀ j,j<xs.length→cur[off+j]? = xs[j]?
theorem Qs.obj {lo:Nat} {w:World} {e:TypeId} {v:Value} {xs:List Value} (h:Qs lo w e v xs) {k:Nat} (hk:v.ownBlock=some k):∃ cur,w.heap[k]? = some (.cells cur e (0,0)):=by
 obtain⟨g,off,cap,cur,rfl,_,hg,_⟩:=h;have:g=k:=by simpa [Value.ownBlock] using hk
 subst this;exact⟨cur,hg⟩
theorem Qs.kept {lo:Nat} {w w':World} {e:TypeId} {v:Value} {xs:List Value} (h:Qs lo w e v xs) (hk:∀ k,v.ownBlock=some k→w'.heap[k]? = w.heap[k]?):Qs lo w' e v xs:=by obtain⟨g,off,cap,cur,rfl,h1,hg,h2⟩:=h;exact⟨g,off,cap,cur,rfl,h1,(hk g rfl).trans hg,h2⟩
theorem Qs.grown {lo:Nat} {w w':World} {e:TypeId} {v:Value} {xs:List Value} {row:Option Nat} (h:Qs lo w e v xs) (hg:w.grownBy w' row) (ha:Zcd w row e):Qs lo w' e v xs :=
 h.kept fun k hk=>by obtain⟨cur,hc⟩:=h.obj hk;exact hg.block k (Array.getElem?_eq_some_iff.1 hc).1 fun hr=>ha k hr.symm _ _ hc
theorem Qs.below {lo:Nat} {w w':World} {e:TypeId} {v:Value} {xs:List Value} (h:Qs lo w e v xs) (hb:Below w.heap.size w w'):Qs lo w' e v xs :=
 h.kept fun k hk=>by obtain⟨cur,hc⟩:=h.obj hk;exact hb.block k (Array.getElem?_eq_some_iff.1 hc).1
theorem Qs.form {lo:Nat} {w:World} {e:TypeId} {v:Value} {xs:List Value} (h:Qs lo w e v xs):∃ g off cap,v = .slice (some ⟨g,off,none⟩) xs.length cap∧lo≤g∧g<w.heap.size∧xs.length≤cap∧cap≤9223372036854775807∧∀ j,j<xs.length→w.cell? ⟨g,off+j,none⟩=xs[j]?:=by obtain⟨g,off,cap,cur,rfl,h1,hg,h2,h3,h4,h5⟩:=h;exact⟨g,off,cap,rfl,h1,(Array.getElem?_eq_some_iff.1 hg).1,h2,h3,fun j hj=>(cell_of_row w g _ cur e (0,0) hg).trans (h5 j hj)⟩
theorem Qs.lo {lo:Nat} {w:World} {e:TypeId} {v:Value} {xs:List Value} (h:Qs lo w e v xs) {k:Nat} (hk:v.ownBlock=some k):lo≤k:=by
 obtain⟨g,off,cap,cur,rfl,h1,_⟩:=h;have:g=k:=by simpa [Value.ownBlock] using hk
 omega
theorem Qs.append {P:Program} {lo:Nat} {w:World} {e:TypeId} {v:Value} {xs:List Value} (h:Qs lo w e v xs) (t ty:TypeId) (i:TypeInfo) (z:Value) (bytes:Nat) (ht:P.underlying t=some (.slice e)) (hi:P.info? e=some i) (hz:i.zero=some z) (hsize:i.size=1) (hby:i.bytes=bytes) (hzs:z.cells.size=1)
  (ad:Addr) (c:Nat) (x:Value) (hx:w.cell? ad=some x) (had:ad.add 0=ad) (h1:x.oneCell'=true) (h63:xs.length+1≤1000000) (hb:bytes≤100) (hlo:lo≤w.heap.size) :
  ∃ v' w',(Builtin.append_ #[t,t] ty #[v,.slice (some ad) 1 c]).run P w = .ok v' w'∧Qs lo w' e v' (xs++[x])∧w.grownBy w' v.ownBlock:=by
 obtain⟨g,off,cap,cur,rfl,hg0,hg,h2,h3,h4,h5⟩:=h
 have hnews:∀ j u,[x][j]? = some u→w.cell? (ad.add j)=some u:=fun j u hu=>by
  cases j with
  | zero=>simp at hu;subst hu;rw[had];exact hx
  | succ j=>simp at hu
 by_cases hroom:xs.length+1≤cap
 ·have hf:=run_firstCells_some (P:=P) w i.size 1 ad 1 c [x] (by simp[hsize]) hnews;have hst:=run_storeCells_at P g (off+xs.length) e [x] 0 cur w hg (by simp;omega) (by simpa using h1);have hadd:(⟨g,off,none⟩:Addr).add xs.length=⟨g,off+xs.length,none⟩:=by unfold Addr.add;split<;>simp_all
  simp only[Nat.add_zero,List.length_singleton] at hst;rw[hsize] at hf;have hcl:off+xs.length<cur.toList.length:=by simp;omega
  have ht1:(List.take (off+xs.length) cur.toList).length=off+xs.length:=by rw[List.length_take];omega
  obtain⟨cs,hcs⟩:∃ cs:Array Value,cs=(List.take (off+xs.length) cur.toList++[x]++List.drop (off+xs.length+1) cur.toList).toArray:=⟨_,rfl⟩;rw[← hcs] at hst;have hrow:=setRow_heap w g cur cs e (0,0) hg;refine⟨.slice (some ⟨g,off,none⟩) (xs.length+1) cap,w.setRow g cs,by simp[Builtin.append_,run_underlying ht,sizeOf,typeInfo,hi,hsize,Builtin.lenOf,hroom,hf,hadd,hst],?_,?_⟩
  ·refine⟨g,off,cap,cs,by simp,hg0,hrow,by simpa using hroom,h3,?_,fun j hj => ?_⟩
   ·rw[hcs];simp only[List.size_toArray,List.length_append,List.length_singleton,List.length_drop,ht1,Array.length_toList];omega
   simp only[List.length_append,List.length_singleton] at hj;rw[hcs];simp only[w_5];by_cases hjn:j<xs.length
   ·rw[List.append_assoc,List.getElem?_append_left (by omega),List.getElem?_append_left hjn,List.getElem?_take,if_pos (by omega),Array.getElem?_toList];exact h5 j hjn
   obtain rfl:j=xs.length:=by omega
   rw[List.append_assoc,List.getElem?_append_right (by omega),ht1];simp
  exact⟨rfl,rfl,rfl,by simp,fun k _ hk=>setRow_other w g k cs (fun e=>hk (by rw[e];rfl))⟩
 have hgr:=run_append_grow (P:=P) w t ty e i z ht hi hz ⟨g,off,none⟩ xs.length cap xs (by rw[hsize];omega)
  (fun j u hu=>by
   have hj:j<xs.length:=(List.getElem?_eq_some_iff.1 hu).1;have hadd:(⟨g,off,none⟩:Addr).add j=⟨g,off+j,none⟩:=by unfold Addr.add;split<;>simp_all
   rw[hadd,cell_of_row w g _ cur e (0,0) hg,h5 j hj,hu]) ad 1 c [x] (by simp[hsize]) hnews (by omega) (by omega)
  (by have:=nextslicecap_le_wide (need:=xs.length+1) (old:=cap) (by omega);have hm:=Nat.mul_le_mul this (show i.bytes≤100 by omega);omega)
 have hcm:=grownCap_le_maxLen w (xs.length+1) cap e (by unfold maxLen;omega);have hge:=grownCap_ge w (xs.length+1) cap e;have hnew:=heap_alloc_new w.drew (.cells (xs.toArray++[x].toArray++Builtin.zeroCells z.cells (grownCap w (xs.length+1) cap e-(xs.length+1))) e);refine⟨_,_,hgr,⟨w.heap.size,0,_,_,by simp,hlo,hnew,by simpa using hge,hcm,?_,fun j hj => ?_⟩,?_⟩
 ·simp[size_zeroCells,hzs];omega
 ·simp only[Nat.zero_add];rw[← w_5];have:(xs++[x]).toArray=xs.toArray++[x].toArray:=by simp
  rw[this,Array.getElem?_append_left (by simpa using hj)]
 exact⟨rfl,rfl,rfl,by simp[World.alloc],fun k hk _=>Below.heap_alloc w.drew _ k hk⟩
def wdB (l:List Nat):ByteArray:=⟨(l.map fun c=>UInt8.ofNat (97+c)).toArray⟩
abbrev wdCells (ws:List (List Nat)):List Value:=ws.map fun l=>Value.string (wdB l)
theorem ZkS (l:List Nat):(wdB l).size=l.length:=by simp[wdB,ByteArray.size]
def knows (n:Nat) (s:Bs Int) (cs:List Value):Prop:=cs.length=n∧∀ j,j<s.met.length→cs[(s.met.getD j 0).toNat]? = some (.string (wdB (s.words.getD j [])))
def marks (n:Nat) (s:Bs Int) (bs:List Value):Prop:=bs.length=n∧∀ x:Nat,x<n→bs[x]? = some (.bool (decide ((x:Int)∈s.met)))
structure FwW (d:DfaD) (W0 bw bs:Nat) (bx:Array Value) (w:World) (s:Bs Int) (k:Nat) (vq:Value):Prop where
 wo:∃ cs,w.ownsRow W0 9 1 (.slice (some ⟨bw,0,none⟩) d.next.length d.next.length) d.next.length cs∧knows d.next.length s cs
 se:∃ ms,w.ownsRow W0 4 1 (.slice (some ⟨bs,0,none⟩) d.next.length d.next.length) d.next.length ms∧marks d.next.length s ms
 qu:Qs W0 w 3 vq ((s.met.drop k).map (Value.int .i64))
 bx:Bx w W0 bx 32
theorem FwW.below {d:DfaD} {W0 bw bs k:Nat} {bx:Array Value} {w w':World} {s:Bs Int} {vq:Value} (h:FwW d W0 bw bs bx w s k vq) (hb:Below w.heap.size w w'):FwW d W0 bw bs bx w' s k vq:=by obtain⟨⟨cs,h1,h2⟩,⟨ms,h3,h4⟩,h5,h6⟩:=h;exact⟨⟨cs,(Own.below (Zaa h1) hb).1,h2⟩,⟨ms,(Own.below (Zaa h3) hb).1,h4⟩,h5.below hb,h6.below hb h6.lt⟩
theorem FwW.cells {d:DfaD} {W0 bw bs k:Nat} {bx:Array Value} {w:World} {s:Bs Int} {vq:Value} (h:FwW d W0 bw bs bx w s k vq) {x:Nat} (hxn:x<d.next.length):(∃ u,w.cell? ⟨bw,x,none⟩=some u)∧w.frozen? ⟨bw,x,none⟩=false∧w.frozen? ⟨bs,x,none⟩=false:=by obtain⟨⟨cs,h1,h2⟩,⟨ms,h3,h4⟩,_⟩:=h;exact⟨Zda h1 x (by omega),h1.frozenAt x,h3.frozenAt x⟩
theorem FwW.lt {d:DfaD} {W0 bw bs k:Nat} {bx:Array Value} {w:World} {s:Bs Int} {vq:Value} (h:FwW d W0 bw bs bx w s k vq):W0≤bw∧W0≤bs∧bw<w.heap.size∧bs<w.heap.size∧bw≠bs∧W0≠bw∧W0≠bs:=by
 obtain⟨⟨cs,h1,h2⟩,⟨ms,h3,h4⟩,_,h6⟩:=h;refine⟨(h1.lt bw rfl).1,(h3.lt bs rfl).1,(h1.lt bw rfl).2,(h3.lt bs rfl).2,?_,?_,?_⟩
 ·intro e;obtain⟨cu,hcu⟩:=ZaW (k:=bs) h3 rfl;exact Zam (e':=4) h1 (by decide) bs (by rw[e];rfl) _ _ hcu
 ·intro e;exact Zam (e':=32) h1 (by decide) bw rfl _ _ (by rw[← e];exact h6)
 intro e;exact Zam (e':=32) h3 (by decide) bs rfl _ _ (by rw[← e];exact h6)
theorem FwW.q2 {d:DfaD} {W0 bw bs k:Nat} {bx:Array Value} {w w4 w5:World} {s:Bs Int} {vq:Value} (h:FwW d W0 bw bs bx w s k vq) (x:Nat) {u v:Value} (_:bw≠bs)
  (h5:w5=(w4.setCell ⟨bw,x,none⟩ u).drew) (h4:w4=w.setCell ⟨bs,x,none⟩ v):Qs W0 w5 3 vq ((s.met.drop k).map (Value.int .i64)):=by
 obtain⟨⟨cs,h1,h2⟩,⟨ms,h3,h4'⟩,hq,h6⟩:=h;subst h4;subst h5;have a1:(w.setCell ⟨bs,x,none⟩ v).ownsRow W0 9 1 (.slice (some ⟨bw,0,none⟩) d.next.length d.next.length) d.next.length cs:=Zah h1 (ZaJ w bs x _) (fun k hk=>by cases hk;exact Zam (e':=9) h3 (by decide) bs rfl);exact((hq.grown (ZaJ w bs x v) (fun k hk=>by cases hk;exact Zam (e':=3) h3 (by decide) bs rfl)).grown (ZaJ (w.setCell ⟨bs,x,none⟩ v) bw x u) (fun k hk=>by cases hk;exact Zam (e':=3) a1 (by decide) bw rfl)).below (Below.refl _ _).drew
end Go.Proofs.YtehmjmjedopkkaaGreat
namespace Go.Proofs.YtehmjmjedopkkaaGreat
open Go.RowKit Go.Deep Go.ChangeShapes Go.ChangeAt
section
variable {H:Type} {enc:TypeId × Value→H} {P:Program} {w:World} {held:Bool}
theorem ZmC {a:Addr} {v:Value} (h:w.cell? (a.add 0)=some v):∃ b off,a=⟨b,off,none⟩:=by
 obtain⟨b,off,spot⟩:=a;have hspot:spot=none:=by simpa [Addr.add] using World.cell?_spot h
 subst hspot;exact⟨b,off,rfl⟩
theorem Zj4 {a:Addr} {len cap:Nat} {cs:List Value} (hl:cs.length=len) (hle:len≤cap) (hm:cap≤maxLen) (hc:∀ i,i<len→w.cell? (a.add i)=cs[i]?):Sl 0 w (.slice (some a) len cap) len 1 cs:=by refine⟨by omega,_,cap,rfl,hle,hm,fun h0 => ?_⟩;obtain⟨u,hu⟩:∃ u,cs[0]? = some u:=⟨cs[0]'(by omega),by simp[show 0<cs.length by omega]⟩;obtain⟨b,off,rfl⟩:=ZmC ((hc 0 h0).trans hu);refine⟨b,off,rfl,Nat.zero_le _,World.block_lt_of_cell? w _ ((hc 0 h0).trans hu),fun j hj => ?_⟩;rw[← hc j (by omega),← Go.WideShapes.add_plain]
end
end Go.Proofs.YtehmjmjedopkkaaGreat
namespace Go.Proofs.YtehmjmjedopkkaaGreat
open Go.RowKit Go.Deep Go.ChangeShapes Go.ChangeAt
def Bytes (B:Nat) (w:World) (v:Value) (bs:List Nat):Prop:=(∀ b∈bs,b<256)∧Sl B w v bs.length 1 (bs.map fun (b:Nat)=>Value.int .u8 (b:Int))
theorem Bytes.below {B:Nat} {w w':World} {v:Value} {bs:List Nat} (h:Bytes B w v bs) (he:Below w.heap.size w w'):Bytes B w' v bs:=⟨h.1,Sl.below h.2 he⟩
theorem Bytes.form {B:Nat} {w:World} {v:Value} {bs:List Nat} (h:Bytes B w v bs):∃ a cap,v = .slice a bs.length cap∧bs.length≤cap∧cap≤9223372036854775807 ∧
  (0<bs.length→∃ b off,a=some ⟨b,off,none⟩∧B≤b∧b<w.heap.size∧∀ j,j<bs.length→w.cell? ⟨b,off+j,none⟩=some (.int .u8 (bs.getD j 0:Nat))∧bs.getD j 0<256):=by
 obtain⟨h0,hl,a,cap,hv,h1,h2,h3⟩:=h;refine⟨a,cap,hv,h1,h2,fun hn => ?_⟩;obtain⟨b,off,ha,hb,hlt,hc⟩:=h3 hn;refine⟨b,off,ha,hb,hlt,fun j hj=>⟨?_,h0 _ (by rw[show bs.getD j 0=bs[j] by simp[hj]];exact List.getElem_mem hj)⟩⟩;rw[hc j (by omega)];simp[hj]
section
variable {H:Type} {enc:TypeId × Value→H} {P:Program} {w:World} {held:Bool}
theorem ZqN {n:Int} (h:(Lit.int .u8 n).wf=true):0≤n∧n≤255:=by have e1:IntKind.u8.min=0:=rfl;have e2:IntKind.u8.max=255:=rfl;simp only[Lit.wf,Bool.and_eq_true,decide_eq_true_eq,e1,e2] at h;exact h
theorem Zi5 {t e:TypeId} {fuel:Nat} {cs:List Value} {x:DataW H × List MemPlace} (ht:P.underlying t=some (.slice e)) (he:P.underlying e=some (.int .u8)) (hc:P.cellsOf e=1)
  (h:DataW.trod enc P w 0 (fun _=>true) held fuel t cs=some x):∃ v bs,cs=[v]∧Bytes 0 w v bs:=by
 rcases open_ints ht he hc h with⟨hcs,-⟩|⟨a,len,cap,zs,hcs,-,hl,hm,hz,-,hcell,hwf⟩
 ·exact⟨_,[],hcs,fun b hb=>by simp at hb,by simp,none,0,rfl,Nat.le_refl _,Nat.zero_le _,fun h=>by simp at h⟩
 simp only[if_true] at hz;refine⟨_,(zs.take len).map Int.toNat,hcs,fun b hb => ?_,?_⟩
 ·obtain⟨z,hz1,rfl⟩:=List.mem_map.1 hb;have:=ZqN (hwf z (List.mem_of_mem_take hz1));omega
 have hlen:((zs.take len).map Int.toNat).length=len:=by simp;omega
 rw[hlen];refine Zj4 (by simp;omega) hl hm fun i hi => ?_
 rw[hcell i (by omega)];have hzi:i<zs.length:=by omega
 have:=ZqN (hwf _ (List.getElem_mem hzi));simp[hi,hzi];omega
end
theorem Zi6 (a:Nat) (ha:a<1099511627776):(BitVec.ofInt 64 (a:Int)).toNat=a:=by rw[BitVec.ofInt_natCast,BitVec.toNat_ofNat];exact Nat.mod_eq_of_lt (by omega)
theorem ZkC (a b:Nat) (ha:a<1099511627776) (hb:b<1099511627776):bits .xor .i64 (a:Int) (b:Int)=((a ^^^ b:Nat):Int):=by have hx:a ^^^ b<2 ^ 40:=Nat.xor_lt_two_pow (by omega) (by omega);show IntKind.i64.wrap ((BitVec.ofInt 64 (a:Int) ^^^ BitVec.ofInt 64 (b:Int)).toNat:Int)=_;rw[BitVec.toNat_xor,Zi6 a ha,Zi6 b hb];exact IntWalk.i64_in _ (by omega)
end Go.Proofs.YtehmjmjedopkkaaGreat
namespace Go.Proofs.YtehmjmjedopkkaaGreat
open Go.RowKit
def RdE (b:Nat) (vb:Value) (p:Nat):Ent:=Ent.box b #[vb,.int .i64 ((p:Nat):Int)] 77
theorem Bytes.take {w:World} {a:Option Addr} {len cap:Nat} {bs:List Nat} (h:Bytes 0 w (.slice a len cap) bs) {n:Nat} (hn:n≤bs.length):Bytes 0 w (.slice a n cap) (bs.take n):=by
 obtain⟨h0,hl,a',cap',hv,h1,h2,h3⟩:=h;simp only[Value.slice.injEq] at hv;obtain⟨rfl,rfl,rfl⟩:=hv;have e:(bs.take n).length=n:=by rw[List.length_take];omega
 refine⟨fun b hb=>h0 b (List.mem_of_mem_take hb),?_⟩;rw[e];refine⟨by rw[List.length_map,e];omega,a,cap,rfl,by omega,h2,fun hn0 => ?_⟩;obtain⟨b,off,ha,hb,hlt,hc⟩:=h3 (by omega);refine⟨b,off,ha,hb,hlt,fun j hj => ?_⟩;rw[hc j (by omega),List.map_take,List.getElem?_take_of_lt (by omega)]
theorem Zo6 (bs:List Nat) (v:Value) (w:World) (hb:Bytes 0 w v bs) (hlen:bs.length≤100000000) :
  Calls Tryz.prog 24 #[v] w fun e w'=>∃ vb bs',bs'.length≤2000∧Bytes 0 w vb bs'∧e = .returned (.pointer (some ⟨w.heap.size,0,none⟩))∧St w w' [RdE w.heap.size vb 0]:=by
 obtain⟨a,c,rfl,hc1,hc2,-⟩:=hb.form;have Hb:=qh hb;clear hb;by_cases h2:2000<bs.length
 ·have q1:(2000:Int)<bs.length:=by omega
  have q2:(2000:Int)≤c:=by omega
  have hS:=(St.start w).alloc _ rfl #[.slice a 2000 c,.int .i64 0] 77;have HS:=qh hS;clear hS
  go_enter Tryz.func24, Tryz.ntmps24
  go_wp2;go_ret;exact⟨_,bs.take 2000,by rw[List.length_take];omega,Hb.out.take (by omega),rfl,HS.out⟩
 have q1:(2000<(bs.length:Int))=False:=by simp;omega
 have hS:=(St.start w).alloc _ rfl #[.slice a bs.length c,.int .i64 0] 77;have HS:=qh hS;have h2:bs.length≤2000:=by omega
 clear hS
 go_enter Tryz.func24, Tryz.ntmps24
 go_wp2;go_ret;exact⟨_,bs,h2,Hb.out,rfl,HS.out⟩
theorem ZaB (bs:List Nat) (vb:Value) (b p n:Nat) (w0 w:World) (X:Ent) (hb:Bytes 0 w0 vb bs) (hlen:bs.length≤2000) (hp:p≤1000000) (hn0:1≤n) (hn1:n≤10000) (hS:St w0 w [RdE b vb p,X]) :
  Calls Tryz.prog 42 #[.pointer (some ⟨b,0,none⟩),.int .i64 ((n:Nat):Int)] w fun e w'=>∃ k:Nat,k<n∧e = .returned (.int .i64 ((k:Nat):Int))∧St w0 w' [RdE b vb (p+1),X]:=by
 obtain⟨a,c,rfl,hc1,hc2,hr⟩:=hb.form;have e0:=hS.cell (v:=.slice a bs.length c) 0 0 rfl rfl;have e1:=hS.cell (v:=.int .i64 ((p:Nat):Int)) 0 1 rfl rfl;have f1:=hS.fr 0 1 rfl;have hS1:=hS.set 0 rfl 1 (.int .i64 ((p:Int)+1));have HS1:=qh hS1;have Hr:=qh hr;have hnI:(1:Int)≤n:=by omega
 have hn2:((n:Int)<1)=False:=by simp;omega
 have hp1:(p:Int)+1-1=p:=by omega
 clear hb hS hr hS1;by_cases h0:bs.length=0
 ·have q1:((bs.length:Int)==0)=true:=by rw[h0];rfl
  have q2:((bs.length:Int)=0)=True:=by simp[h0]
  go_enter Tryz.func42, Tryz.ntmps42
  go_wp2;go_ret;exact⟨0,by omega,rfl,HS1.out⟩
 have q0:(bs.length:Int)≠0:=by omega
 have q1:((bs.length:Int)==0)=false:=by rw[beq_eq_false_iff_ne];exact q0
 have q2:((bs.length:Int)=0)=False:=eq_false q0;clear q0;obtain⟨b1,o1,rfl,-,hb1,hcs⟩:=Hr.out (by omega);by_cases hlt:p<bs.length
 ·have hlt2:(p:Int)<bs.length:=by omega
  have e3:=(bcell HS1.out.bel b1 _ hb1).trans (hcs p hlt).1;obtain⟨v,hv⟩:=eI (bs.getD p 0);have hv2:=(hcs p hlt).2;rw[← hv] at e3 hv2;replace hv:=qh hv;clear hcs h0
  go_enter Tryz.func42, Tryz.ntmps42
  go_wp2;go_ret;have hvn:((v:Int) % (n:Int))=((v % n:Nat):Int):=by omega
  exact⟨v % n,Nat.mod_lt _ (by omega),by rw[← hvn];rfl,HS1.out⟩
 have hlt2:((p:Int)<bs.length)=False:=by simp;omega
 have hm1:p % bs.length<bs.length:=Nat.mod_lt _ (by omega);have hm2:(p*7+3) % bs.length<bs.length:=Nat.mod_lt _ (by omega);have e3:=(bcell HS1.out.bel b1 _ hb1).trans (hcs _ hm1).1;have e4:=(bcell HS1.out.bel b1 _ hb1).trans (hcs _ hm2).1;have hv1:=(hcs _ hm1).2;have hv2:=(hcs _ hm2).2;have i1:(p:Int) % (bs.length:Int)=((p % bs.length:Nat):Int):=by omega
 have i2:((p:Int)*7+3) % (bs.length:Int)=(((p*7+3) % bs.length:Nat):Int):=by rw[Int.natCast_emod];congr 1
 have i3:(p:Int) / (bs.length:Int)=((p / bs.length:Nat):Int):=by rw[Int.natCast_ediv]
 have hdv:p / bs.length≤1000000:=Nat.le_trans (Nat.div_le_self _ _) hp;obtain⟨u1,hu1⟩:∃ u,u=bs.getD (p % bs.length) 0:=⟨_,rfl⟩;obtain⟨u2,hu2⟩:∃ u,u=bs.getD ((p*7+3) % bs.length) 0:=⟨_,rfl⟩;obtain⟨m1,hmm1⟩:∃ m,m=p % bs.length:=⟨_,rfl⟩;obtain⟨m2,hmm2⟩:∃ m,m=(p*7+3) % bs.length:=⟨_,rfl⟩;obtain⟨m3,hmm3⟩:∃ m,m=p / bs.length:=⟨_,rfl⟩;rw[← hu1] at e3 hv1;rw[← hu2] at e4 hv2;rw[← hmm1] at e3 i1 hm1;rw[← hmm2] at e4 i2 hm2;rw[← hmm3] at i3 hdv;have j1:(m1:Int)<bs.length:=by omega
 have j2:(m2:Int)<bs.length:=by omega
 replace hu1:=qh hu1;have Hhu2:=qh hu2;clear hu2;replace hmm1:=qh hmm1;have Hhmm2:=qh hmm2;clear hmm2;have Hhmm3:=qh hmm3;clear hmm3;clear hcs h0 hlt
 go_enter Tryz.func42, Tryz.ntmps42
 go_wp2
 go_quiet (fail)
 go_wp2;have ea:((u1:Int)*131+(u2:Int)*1117+(p:Int)*29+(m3:Int)*53)=((u1*131+u2*1117+p*29+m3*53:Nat):Int):=by omega
 obtain⟨A,hA⟩:=eI (u1*131+u2*1117+p*29+m3*53);have hAl:A<1099511627776:=by omega
 rw[← hA] at ea;have hx:(bits BinOp.xor IntKind.i64 ((u1:Int)*131+(u2:Int)*1117+(p:Int)*29+(m3:Int)*53) (((u1:Int)*131+(u2:Int)*1117+(p:Int)*29+(m3:Int)*53) / 64)).tmod (n:Int)=(((A ^^^ (A / 64)) % n:Nat):Int):=by rw[ea,show((A:Nat):Int) / 64=((A / 64:Nat):Int) by omega,ZkC A (A / 64) hAl (by omega)];exact(Int.ofNat_tmod _ _).symm
 go_ret;exact⟨(A ^^^ (A / 64)) % n,Nat.mod_lt _ (by omega),by rw[← hx];rfl,HS1.out.drewN _⟩
theorem Zkn (bs:List Nat) (vb:Value) (b p n:Nat) (w0 w:World) (X:Ent) (hb:Bytes 0 w0 vb bs) (hlen:bs.length≤2000) (hp:p≤1000000) (hn1:n≤10000) (hS:St w0 w [RdE b vb p,X]) :
  Calls Tryz.prog 55 #[.pointer (some ⟨b,0,none⟩),.int .i64 ((n:Nat):Int)] w fun e w'=>∃ (q:Bool) (p':Nat),p'≤p+1∧e = .returned (.bool q)∧St w0 w' [RdE b vb p',X]:=by
 have HS:=qh hS;have Hb:=qh hb;clear hS hb;by_cases h0:n=0
 ·subst h0
  go_enter Tryz.func55, Tryz.ntmps55
  go_wp2;go_ret;exact⟨_,p,by omega,rfl,HS.out⟩
 have hnI:(0:Int)<n:=by omega
 go_enter Tryz.func55, Tryz.ntmps55
 go_wp2_with fail;refine(ZaB bs vb b p n w0 _ X Hb.out hlen hp (by omega) hn1 HS.out).mono ?_;rintro e w1 ⟨k,hk,rfl,hS1⟩;have HS1:=qh hS1;clear hS1;by_cases hkn:(k:Int)=(n:Int)-1
 ·have g1:((k:Int)==(n:Int)-1)=true:=by rw[hkn];simp
  have g2:((k:Int)=(n:Int)-1)=True:=eq_true hkn;clear hkn;go_wp2;go_ret;exact⟨_,p+1,Nat.le_refl _,rfl,HS1.out⟩
 have g1:((k:Int)==(n:Int)-1)=false:=by rw[beq_eq_false_iff_ne];exact hkn
 have g2:((k:Int)=(n:Int)-1)=False:=eq_false hkn;clear hkn;go_wp2;go_ret;exact⟨_,p+1,Nat.le_refl _,rfl,HS1.out⟩
def FL:Nat→Nat
 | 0=>1
 | d+1=>2*FL d+1
def FG:Nat→Nat
 | 0=>2
 | d+1=>2*FG d+3
theorem ZhL:∀ d,1≤FL d
 | 0=>Nat.le_refl _
 | d+1=>by unfold FL;omega
theorem Zp8:∀ d,2≤FG d
 | 0=>Nat.le_refl _
 | d+1=>by unfold FG;have:=Zp8 d;omega
theorem ZpT {d:Nat} (h:d≤3):FL d≤15∧FG d≤37:=by
 obtain rfl|rfl|rfl|rfl:d=0∨d=1∨d=2∨d=3:=by omega
 all_goals decide
theorem Zce {a b:Int} (h:a=b):(a==b)=true∧(a=b)=True∧(a != b)=false:=by simp[h]
theorem ZeX {x y:Int}:∀ u∈[Value.int .i64 x,Value.int .i64 y],u.oneCell'=true:=by intro u hu;simp at hu;rcases hu with rfl|rfl<;>rfl
theorem Zar {w:World} {B e:Nat} {v:Value} {xs:List (Int × Int)} (hr:w.ownsRow B e 2 v xs.length (xs.flatMap Zab)):Pairs 0 w v xs :=
 ((Zaa hr).sl (by omega)).mono (Nat.zero_le _)
theorem Tryz.infoPt:(Tryz.prog.info? 55).map (fun i=>(i.zero,i.size,i.bytes))=some (some (.agg #[.int .i64 0,.int .i64 0]),2,16):=by kernel_rfl
def ZdL (a:Option Addr) (c:Nat) (es:List (Int × Int)):Ent:=Ent.row 55 2 (.slice a es.length c) es.length (es.flatMap Zab)
theorem Zla (bs:List Nat) (vb:Value) (b:Nat) (w0:World) (hb:Bytes 0 w0 vb bs) (hlen:bs.length≤2000):∀ (d:Nat),d≤3→∀ (plain:Bool) (p:Nat) (w:World) (X:Ent),p+FG d≤1000000→St w0 w [RdE b vb p,X] →
  Calls Tryz.prog 44 #[.pointer (some ⟨b,0,none⟩),.int .i64 ((d:Nat):Int),.bool plain] w fun e w'=>∃ (a:Option Addr) (c:Nat) (es:List (Int × Int)) (p':Nat),1≤es.length∧es.length≤FL d∧p'≤p+FG d∧e = .returned (.slice a es.length c)∧St w0 w' [RdE b vb p',X,ZdL a c es]:=by
 have Hb:=qh hb;obtain⟨i0,hi,hz0,hz1,hz2⟩:=info_parts Tryz.infoPt;replace hi:=qh hi;have Hhz0:=qh hz0;clear hz0;have Hhz1:=qh hz1;clear hz1;have Hhz2:=qh hz2;clear hz2;clear hb;intro d
 induction d with
 | zero =>
  intro hd plain p w X hp hS;have hp:p+2≤1000000:=hp;have HS:=qh hS;clear hS
  go_enter Tryz.func44, Tryz.ntmps44
  go_wp2_with fail;refine(ZaB bs vb b (p) 9 w0 _ X Hb.out hlen (by omega) (by omega) (by omega) HS.out).mono ?_;rintro e w2 ⟨k,hk,rfl,hS2⟩;by_cases hk0:(k:Int)=0
  ·obtain⟨q1,q2,q3⟩:=Zce hk0;have HS3:=qh ((hS2.alloc _ rfl #[.int .i64 2,.int .i64 0] 55).boxrow 2 1 2 [.int .i64 2,.int .i64 0] rfl rfl (by unfold maxLen;omega));clear hS2 HS hk0;go_wp2;go_ret;exact⟨_,_,[(2,0)],p+1,(by simp),ZhL _,by unfold FG;omega,rfl,HS3.out⟩
  obtain⟨q1,q2,q3,-⟩:=Zap hk0;by_cases hk1:(k:Int)=1
  ·obtain⟨z1,z2,z3⟩:=Zce hk1;have hS3:=hS2.alloc _ rfl #[.int .i64 1,.int .i64 2,.int .i64 3] 3;have hS4:=St.pack (A:=[RdE b vb (p+1)]) (R:=[X,Ent.box w2.heap.size #[.int .i64 1,.int .i64 2,.int .i64 3] 3]) hS3;have HS3:=qh hS3;have HS4:=qh hS4;clear hS2 hS3 hS4 HS hk0 hk1;go_wp2_with fail;refine(ZaB bs vb b (p+1) 3 w0 _ _ Hb.out hlen (by omega) (by omega) (by omega) HS4.out).mono ?_;rintro e w3 ⟨k2,hk2,rfl,hS5⟩;have hS6:=St.unpack (A:=[RdE b vb (p+1)]) (A':=[RdE b vb (p+1+1)]) (R:=[X,Ent.box w2.heap.size #[.int .i64 1,.int .i64 2,.int .i64 3] 3]) HS3.out hS5
   obtain⟨kv,hkv⟩:∃ kv:Int,(#[.int .i64 1,.int .i64 2,.int .i64 3]:Array Value)[k2]? = some (.int .i64 kv):=by
    obtain rfl|rfl|rfl:k2=0∨k2=1∨k2=2:=by omega
    all_goals exact⟨_,rfl⟩
   have e5:=hS6.cell (v:=.int .i64 kv) 2 k2 rfl hkv;have hk2I:(k2:Int)<3:=by omega
   have HS7:=qh (((hS6.alloc _ rfl #[.int .i64 kv,.int .i64 0] 55).boxrow 3 1 2 [.int .i64 kv,.int .i64 0] rfl rfl (by unfold maxLen;omega)).pick [0,1,3] (by decide));clear hS5 hS6 hkv;go_wp2;go_ret;exact⟨_,_,[(kv,0)],p+1+1,(by simp),ZhL _,by unfold FG;omega,rfl,HS7.out⟩
  obtain⟨z1,z2,z3,-⟩:=Zap hk1;have HS3:=qh hS2;clear hS2 HS hk0 hk1;go_wp2_with fail;refine(ZaB bs vb b (p+1) 3 w0 _ X Hb.out hlen (by omega) (by omega) (by omega) HS3.out).mono ?_;rintro e w3 ⟨k2,hk2,rfl,hS5⟩;have HS7:=qh ((hS5.alloc _ rfl #[.int .i64 3,.int .i64 ((k2:Nat):Int)] 55).boxrow 2 1 2 [.int .i64 3,.int .i64 ((k2:Nat):Int)] rfl rfl (by unfold maxLen;omega));clear hS5;go_wp2;go_ret;exact⟨_,_,[(3,((k2:Nat):Int))],p+1+1,(by simp),ZhL _,by unfold FG;omega,rfl,HS7.out⟩
 | succ d ih =>
  intro hd plain p w X hp hS;have HS0:=qh hS;clear hS;have hsm:=ZpT (d:=d) (by omega);have hp:p+(2*FG d+3)≤1000000:=hp;have hF2:=Zp8 d;obtain⟨D,hD⟩:=eI (d+1);rw[← hD];have hD0:(D:Int)≠0:=by omega
  obtain⟨y1,y2,y3,y4⟩:=Zap hD0;have hD1:(D:Int)-1=(d:Int):=by omega
  have hfl:FL D=FL (d+1):=by rw[hD]
  have hfg:FG D=FG (d+1):=by rw[hD]
  rw[hfl,hfg];replace hD:=qh hD;clear hD0 hfl hfg
  go_enter Tryz.func44, Tryz.ntmps44
  go_wp2_with fail;refine(ZaB bs vb b p 4 w0 _ X Hb.out hlen (by omega) (by omega) (by omega) HS0.out).mono ?_;rintro e w1 ⟨k0,hk0',rfl,hS1⟩;have HS:=qh hS1;clear hS1 HS0;by_cases hkz:(k0:Int)=0
  ·obtain⟨x1,x2,x3⟩:=Zce hkz;clear hkz;go_wp2_with fail;refine(ZaB bs vb b (p+1) 9 w0 _ X Hb.out hlen (by omega) (by omega) (by omega) HS.out).mono ?_;rintro e w2 ⟨k,hk,rfl,hS2⟩;by_cases hk0:(k:Int)=0
   ·obtain⟨q1,q2,q3⟩:=Zce hk0;have HS3:=qh ((hS2.alloc _ rfl #[.int .i64 2,.int .i64 0] 55).boxrow 2 1 2 [.int .i64 2,.int .i64 0] rfl rfl (by unfold maxLen;omega));clear hS2 HS hk0;go_wp2;go_ret;exact⟨_,_,[(2,0)],p+1+1,(by simp),ZhL _,by unfold FG;omega,rfl,HS3.out⟩
   obtain⟨q1,q2,q3,-⟩:=Zap hk0;by_cases hk1:(k:Int)=1
   ·obtain⟨z1,z2,z3⟩:=Zce hk1;have hS3:=hS2.alloc _ rfl #[.int .i64 1,.int .i64 2,.int .i64 3] 3;have hS4:=St.pack (A:=[RdE b vb (p+1+1)]) (R:=[X,Ent.box w2.heap.size #[.int .i64 1,.int .i64 2,.int .i64 3] 3]) hS3;have HS3:=qh hS3;have HS4:=qh hS4;clear hS2 hS3 hS4 HS hk0 hk1;go_wp2_with fail;refine(ZaB bs vb b (p+1+1) 3 w0 _ _ Hb.out hlen (by omega) (by omega) (by omega) HS4.out).mono ?_;rintro e w3 ⟨k2,hk2,rfl,hS5⟩;have hS6:=St.unpack (A:=[RdE b vb (p+1+1)]) (A':=[RdE b vb (p+1+1+1)]) (R:=[X,Ent.box w2.heap.size #[.int .i64 1,.int .i64 2,.int .i64 3] 3]) HS3.out hS5
    obtain⟨kv,hkv⟩:∃ kv:Int,(#[.int .i64 1,.int .i64 2,.int .i64 3]:Array Value)[k2]? = some (.int .i64 kv):=by
     obtain rfl|rfl|rfl:k2=0∨k2=1∨k2=2:=by omega
     all_goals exact⟨_,rfl⟩
    have e5:=hS6.cell (v:=.int .i64 kv) 2 k2 rfl hkv;have hk2I:(k2:Int)<3:=by omega
    have HS7:=qh (((hS6.alloc _ rfl #[.int .i64 kv,.int .i64 0] 55).boxrow 3 1 2 [.int .i64 kv,.int .i64 0] rfl rfl (by unfold maxLen;omega)).pick [0,1,3] (by decide));clear hS5 hS6 hkv;go_wp2;go_ret;exact⟨_,_,[(kv,0)],p+1+1+1,(by simp),ZhL _,by unfold FG;omega,rfl,HS7.out⟩
   obtain⟨z1,z2,z3,-⟩:=Zap hk1;have HS3:=qh hS2;clear hS2 HS hk0 hk1;go_wp2_with fail;refine(ZaB bs vb b (p+1+1) 3 w0 _ X Hb.out hlen (by omega) (by omega) (by omega) HS3.out).mono ?_;rintro e w3 ⟨k2,hk2,rfl,hS5⟩;have HS7:=qh ((hS5.alloc _ rfl #[.int .i64 3,.int .i64 ((k2:Nat):Int)] 55).boxrow 2 1 2 [.int .i64 3,.int .i64 ((k2:Nat):Int)] rfl rfl (by unfold maxLen;omega));clear hS5;go_wp2;go_ret;exact⟨_,_,[(3,((k2:Nat):Int))],p+1+1+1,(by simp),ZhL _,by unfold FG;omega,rfl,HS7.out⟩
  obtain⟨x1,x2,x3,-⟩:=Zap hkz;clear hkz;have hS3:=HS.out.alloc _ rfl #[.int .i64 4,.int .i64 4,.int .i64 4,.int .i64 5,.int .i64 5,.int .i64 8,.int .i64 8,.int .i64 6,.int .i64 7] 3;have hS4:=St.pack (A:=[RdE b vb (p+1)]) (R:=[X,Ent.box w1.heap.size #[.int .i64 4,.int .i64 4,.int .i64 4,.int .i64 5,.int .i64 5,.int .i64 8,.int .i64 8,.int .i64 6,.int .i64 7] 3]) hS3;have HS3:=qh hS3;have HS4:=qh hS4;clear hS3 hS4 HS;go_wp2_with fail;refine(ZaB bs vb b (p+1) 9 w0 _ _ Hb.out hlen (by omega) (by omega) (by omega) HS4.out).mono ?_;rintro e w3 ⟨k2,hk2,rfl,hS5⟩;have hS6:=St.unpack (A:=[RdE b vb (p+1)]) (A':=[RdE b vb (p+1+1)]) (R:=[X,Ent.box w1.heap.size #[.int .i64 4,.int .i64 4,.int .i64 4,.int .i64 5,.int .i64 5,.int .i64 8,.int .i64 8,.int .i64 6,.int .i64 7] 3]) HS3.out hS5
  obtain⟨kv,hkv,hkk⟩:∃ kv:Int,(#[.int .i64 4,.int .i64 4,.int .i64 4,.int .i64 5,.int .i64 5,.int .i64 8,.int .i64 8,.int .i64 6,.int .i64 7]:Array Value)[k2]? = some (.int .i64 kv)∧(kv=4∨kv=5∨kv=6∨kv=7∨kv=8):=by
   obtain rfl|rfl|rfl|rfl|rfl|rfl|rfl|rfl|rfl:k2=0∨k2=1∨k2=2∨k2=3∨k2=4∨k2=5∨k2=6∨k2=7∨k2=8:=by omega
   all_goals exact⟨_,rfl,by decide⟩
  have e5:=hS6.cell (v:=.int .i64 kv) 2 k2 rfl hkv;have hk2I:(k2:Int)<9:=by omega
  have HSn:=qh (hS6.pick [0,1] (by decide));clear hS5 hS6 hkv HS3 HS4;by_cases hC:plain=true∧(kv=6∨kv=7)
  ·obtain⟨rfl,hC⟩:=hC;rcases hC with rfl|rfl
   all_goals
    go_wp2_with fail;refine(ih (by omega) true (p+1+1) _ X (by omega) HSn.out).mono ?_;rintro e w4 ⟨a,c,es,p4,-,hel,hp4,rfl,hS4⟩;have hS5:=St.pack (A:=[RdE b vb p4]) (R:=[X,ZdL a c es]) hS4;have HS4:=qh hS4;have HS5:=qh hS5;clear hS4 hS5;go_wp2_with fail;refine(ZaB bs vb b p4 9 w0 _ _ Hb.out hlen (by omega) (by omega) (by omega) HS5.out).mono ?_;rintro e w5 ⟨k3,hk3,rfl,hS6⟩;have hS7:=St.unpack (A:=[RdE b vb p4]) (A':=[RdE b vb (p4+1)]) (R:=[X,ZdL a c es]) HS4.out hS6;by_cases hk0:(k3:Int)=0
    ·obtain⟨q1,q2,q3⟩:=Zce hk0;have hR:=hS7.row 2 rfl;have HR:=qh hR;have HSl:=qh (Zar hR);have HS7:=qh hS7;clear hS6 hS7 hR hk0 HS4 HS5
     go_wp2_with (first|(at_builtin;refine Zal _ rfl _ _ _ rfl _ 55 i0 (.agg #[.int .i64 0,.int .i64 0]) 2 16 Tryz.underlying23 hi.out Hhz0.out Hhz1.out Hhz2.out rfl (by omega) (.slice a es.length c) es.length (es.flatMap Zab) rfl HR.out (.slice a es.length c) es.length (es.flatMap Zab) rfl HSl.out Zdu (by unfold maxLen;omega) (by omega) HS7.out.size ?_;intro a6 c6 w6 hown6 hgrow6 hat6;have hSz:=HS7.out.appS 2 rfl hown6 hgrow6 hat6;rw[← List.flatMap_append,← List.length_append] at hSz;have HSz:=qh hSz;rw[← List.length_append];clear hown6 hgrow6 hat6 hSz;obtain⟨E,hEE⟩:=eI (es++es);obtain⟨pz,hpp⟩:=eI (p4+1);obtain⟨wz,hwz⟩:∃ wz:World,wz=w6:=⟨_,rfl⟩;have hEl:E.length+1≤FL (d+1):=(by rw[hEE,List.length_append];unfold FL;omega);have hpz:pz≤p+FG (d+1):=(by rw[hpp];unfold FG;omega);have hEs:E.length≤100:=(by rw[hEE,List.length_append];omega);rw[← hEE,← hwz,← hpp] at HSz;rw[← hEE,← hwz];have hSa:=HSz.out.alloc_ (.cells #[.int .i64 4,.int .i64 0] 55);have HRz:=qh (hSa.row 2 rfl);have HSa:=qh hSa;have HhEE:=qh hEE;clear hEE;have Hhpp:=qh hpp;clear hpp;have Hhwz:=qh hwz;clear hwz;clear hSa HSz)|(at_builtin;refine wpList_append_lies _ rfl _ _ _ rfl _ 55 i0 (.agg #[.int .i64 0,.int .i64 0]) 2 16 Tryz.underlying23 hi.out Hhz0.out Hhz1.out Hhz2.out rfl (by omega) _ E.length _ rfl HRz.out ⟨wz.heap.size,0,none⟩ 1 1 [.int .i64 4,.int .i64 0] rfl rfl (World.news_of_block (heap_alloc_new wz _)) ZeX (by omega) (by unfold maxLen;omega) (by omega) HSa.out.size _ rfl ?_;intro g7 c7 w7 hown7 hgrow7 hat7 hlt7;have HSf:=qh (HSa.out.app 2 rfl hown7 hgrow7 hat7);clear hown7 hgrow7 hat7 hlt7))
     go_ret;refine⟨some ⟨g7,0,none⟩,c7,E++[(4,0)],pz,(by simp),by rw[List.length_append];exact hEl,hpz,by rw[List.length_append];rfl,?_⟩;unfold ZdL;rw[List.length_append,List.flatMap_append];exact HSf.out
    obtain⟨q1,q2,q3,-⟩:=Zap hk0;have hS8:=St.pack (A:=[RdE b vb (p4+1)]) (R:=[X,ZdL a c es]) hS7;have HS7:=qh hS7;have HS8:=qh hS8;clear hS6 hS7 hS8 hk0 HS4 HS5;go_wp2_with fail;refine(ih (by omega) true (p4+1) _ _ (by omega) HS8.out).mono ?_;rintro e w8 ⟨a2,c2,es2,p8,-,hel2,hp8,rfl,hS9⟩;have hSA:=(St.unpack (A:=[RdE b vb (p4+1)]) (A':=[RdE b vb p8,ZdL a2 c2 es2]) (R:=[X,ZdL a c es]) HS7.out (hS9.pick [0,2,1] (by decide))).pick [0,2,3,1] (by decide);have hR:=hSA.row 2 rfl;have HR:=qh hR;have HSl:=qh (Zar (hSA.row 3 rfl));have HSA:=qh hSA;clear hS9 hSA hR HS7 HS8
    go_wp2_with (first|(at_builtin;refine Zal _ rfl _ _ _ rfl _ 55 i0 (.agg #[.int .i64 0,.int .i64 0]) 2 16 Tryz.underlying23 hi.out Hhz0.out Hhz1.out Hhz2.out rfl (by omega) (.slice a es.length c) es.length (es.flatMap Zab) rfl HR.out (.slice a2 es2.length c2) es2.length (es2.flatMap Zab) rfl HSl.out Zdu (by unfold maxLen;omega) (by omega) HSA.out.size ?_;intro a6 c6 w6 hown6 hgrow6 hat6;have hSz:=(HSA.out.appS 2 rfl hown6 hgrow6 hat6).pick [0,1,2] (by decide);rw[← List.flatMap_append,← List.length_append] at hSz;have HSz:=qh hSz;rw[← List.length_append];clear hown6 hgrow6 hat6 hSz;obtain⟨E,hEE⟩:=eI (es++es2);obtain⟨pz,hpp⟩:=eI p8;obtain⟨wz,hwz⟩:∃ wz:World,wz=w6:=⟨_,rfl⟩;have hEl:E.length+1≤FL (d+1):=(by rw[hEE,List.length_append];unfold FL;omega);have hpz:pz≤p+FG (d+1):=(by rw[hpp];unfold FG;omega);have hEs:E.length≤100:=(by rw[hEE,List.length_append];omega);rw[← hEE,← hwz,← hpp] at HSz;rw[← hEE,← hwz];have hSa:=HSz.out.alloc_ (.cells #[.int .i64 4,.int .i64 0] 55);have HRz:=qh (hSa.row 2 rfl);have HSa:=qh hSa;have HhEE:=qh hEE;clear hEE;have Hhpp:=qh hpp;clear hpp;have Hhwz:=qh hwz;clear hwz;clear hSa HSz)|(at_builtin;refine wpList_append_lies _ rfl _ _ _ rfl _ 55 i0 (.agg #[.int .i64 0,.int .i64 0]) 2 16 Tryz.underlying23 hi.out Hhz0.out Hhz1.out Hhz2.out rfl (by omega) _ E.length _ rfl HRz.out ⟨wz.heap.size,0,none⟩ 1 1 [.int .i64 4,.int .i64 0] rfl rfl (World.news_of_block (heap_alloc_new wz _)) ZeX (by omega) (by unfold maxLen;omega) (by omega) HSa.out.size _ rfl ?_;intro g7 c7 w7 hown7 hgrow7 hat7 hlt7;have HSf:=qh (HSa.out.app 2 rfl hown7 hgrow7 hat7);clear hown7 hgrow7 hat7 hlt7))
    go_ret;refine⟨some ⟨g7,0,none⟩,c7,E++[(4,0)],pz,(by simp),by rw[List.length_append];exact hEl,hpz,by rw[List.length_append];rfl,?_⟩;unfold ZdL;rw[List.length_append,List.flatMap_append];exact HSf.out
  by_cases h8:kv=7∨kv=8
  ·obtain⟨z1,z2,z3,z4⟩:=Zap (show kv≠6 by omega);by_cases h7:kv=7
   rotate_left
   obtain⟨u1,u2,u3⟩:=Zce (show kv=8 by omega);obtain⟨t1,t2,t3,t4⟩:=Zap h7;cases plain
   rotate_left 2
   obtain⟨u1,u2,u3⟩:=Zce h7;obtain⟨t1,t2,t3,t4⟩:=Zap (show kv≠8 by omega)
   obtain rfl:plain=false:=by
    cases plain with
    | false=>rfl
    | true=>exact absurd ⟨rfl,.inr h7⟩ hC
   all_goals
    clear hkk hC h8 h7;go_wp2_with fail;refine(ih (by omega) _ (p+1+1) _ X (by omega) HSn.out).mono ?_;rintro e w4 ⟨a,c,es,p4,-,hel,hp4,rfl,hS4⟩;obtain⟨E,hEE⟩:=eI es;obtain⟨pz,hpp⟩:=eI p4;obtain⟨wz,hwz⟩:∃ wz:World,wz=w4:=⟨_,rfl⟩;subst hEE;subst hpp;subst hwz;have hEl:E.length+1≤FL (d+1):=by unfold FL;omega
    have hpz:pz≤p+FG (d+1):=by unfold FG;omega
    have HSz:=qh hS4;clear hS4;have hSa:=HSz.out.alloc_ (.cells #[.int .i64 kv,.int .i64 0] 55);have HRz:=qh (hSa.row 2 rfl);have HSa:=qh hSa;clear hSa HSz;go_wp2_with (at_builtin;refine wpList_append_lies _ rfl _ _ _ rfl _ 55 i0 (.agg #[.int .i64 0,.int .i64 0]) 2 16 Tryz.underlying23 hi.out Hhz0.out Hhz1.out Hhz2.out rfl (by omega) _ E.length _ rfl HRz.out ⟨wz.heap.size,0,none⟩ 1 1 [.int .i64 kv,.int .i64 0] rfl rfl (World.news_of_block (heap_alloc_new wz _)) ZeX (by omega) (by unfold maxLen;omega) (by omega) HSa.out.size _ rfl ?_;intro g7 c7 w7 hown7 hgrow7 hat7 hlt7;have HSf:=qh (HSa.out.app 2 rfl hown7 hgrow7 hat7);clear hown7 hgrow7 hat7 hlt7);go_ret;refine⟨some ⟨g7,0,none⟩,c7,E++[(kv,0)],pz,(by simp),by rw[List.length_append];exact hEl,hpz,by rw[List.length_append];rfl,?_⟩;unfold ZdL;rw[List.length_append,List.flatMap_append];exact HSf.out
  obtain⟨u1,u2,u3,u4⟩:=Zap (show kv≠8 from fun h=>h8 (.inr h));obtain⟨t1,t2,t3,t4⟩:=Zap (show kv≠7 from fun h=>h8 (.inl h))
  have h6:plain=false∨kv≠6:=by
   cases plain with
   | false=>exact .inl rfl
   | true=>exact .inr fun h=>hC ⟨rfl,.inl h⟩
  rcases h6 with rfl|n6
  rotate_left
  obtain⟨z1,z2,z3,z4⟩:=Zap n6;cases plain
  all_goals
   clear hkk hC h8;go_wp2_with fail;refine(ih (by omega) _ (p+1+1) _ X (by omega) HSn.out).mono ?_;rintro e w4 ⟨a,c,es,p4,-,hel,hp4,rfl,hS4⟩;have hS5:=St.pack (A:=[RdE b vb p4]) (R:=[X,ZdL a c es]) hS4;have HS4:=qh hS4;have HS5:=qh hS5;clear hS4 hS5;go_wp2_with fail;refine(ZaB bs vb b p4 9 w0 _ _ Hb.out hlen (by omega) (by omega) (by omega) HS5.out).mono ?_;rintro e w5 ⟨k3,hk3,rfl,hS6⟩;have hS7:=St.unpack (A:=[RdE b vb p4]) (A':=[RdE b vb (p4+1)]) (R:=[X,ZdL a c es]) HS4.out hS6;by_cases hk0:(k3:Int)=0
   ·obtain⟨q1,q2,q3⟩:=Zce hk0;have hR:=hS7.row 2 rfl;have HR:=qh hR;have HSl:=qh (Zar hR);have HS7:=qh hS7;clear hS6 hS7 hR hk0 HS4 HS5
    go_wp2_with (first|(at_builtin;refine Zal _ rfl _ _ _ rfl _ 55 i0 (.agg #[.int .i64 0,.int .i64 0]) 2 16 Tryz.underlying23 hi.out Hhz0.out Hhz1.out Hhz2.out rfl (by omega) (.slice a es.length c) es.length (es.flatMap Zab) rfl HR.out (.slice a es.length c) es.length (es.flatMap Zab) rfl HSl.out Zdu (by unfold maxLen;omega) (by omega) HS7.out.size ?_;intro a6 c6 w6 hown6 hgrow6 hat6;have hSz:=HS7.out.appS 2 rfl hown6 hgrow6 hat6;rw[← List.flatMap_append,← List.length_append] at hSz;have HSz:=qh hSz;rw[← List.length_append];clear hown6 hgrow6 hat6 hSz;obtain⟨E,hEE⟩:=eI (es++es);obtain⟨pz,hpp⟩:=eI (p4+1);obtain⟨wz,hwz⟩:∃ wz:World,wz=w6:=⟨_,rfl⟩;have hEl:E.length+1≤FL (d+1):=(by rw[hEE,List.length_append];unfold FL;omega);have hpz:pz≤p+FG (d+1):=(by rw[hpp];unfold FG;omega);have hEs:E.length≤100:=(by rw[hEE,List.length_append];omega);rw[← hEE,← hwz,← hpp] at HSz;rw[← hEE,← hwz];have hSa:=HSz.out.alloc_ (.cells #[.int .i64 kv,.int .i64 0] 55);have HRz:=qh (hSa.row 2 rfl);have HSa:=qh hSa;have HhEE:=qh hEE;clear hEE;have Hhpp:=qh hpp;clear hpp;have Hhwz:=qh hwz;clear hwz;clear hSa HSz)|(at_builtin;refine wpList_append_lies _ rfl _ _ _ rfl _ 55 i0 (.agg #[.int .i64 0,.int .i64 0]) 2 16 Tryz.underlying23 hi.out Hhz0.out Hhz1.out Hhz2.out rfl (by omega) _ E.length _ rfl HRz.out ⟨wz.heap.size,0,none⟩ 1 1 [.int .i64 kv,.int .i64 0] rfl rfl (World.news_of_block (heap_alloc_new wz _)) ZeX (by omega) (by unfold maxLen;omega) (by omega) HSa.out.size _ rfl ?_;intro g7 c7 w7 hown7 hgrow7 hat7 hlt7;have HSf:=qh (HSa.out.app 2 rfl hown7 hgrow7 hat7);clear hown7 hgrow7 hat7 hlt7))
    go_ret;refine⟨some ⟨g7,0,none⟩,c7,E++[(kv,0)],pz,(by simp),by rw[List.length_append];exact hEl,hpz,by rw[List.length_append];rfl,?_⟩;unfold ZdL;rw[List.length_append,List.flatMap_append];exact HSf.out
   obtain⟨q1,q2,q3,-⟩:=Zap hk0;have hS8:=St.pack (A:=[RdE b vb (p4+1)]) (R:=[X,ZdL a c es]) hS7;have HS7:=qh hS7;have HS8:=qh hS8;clear hS6 hS7 hS8 hk0 HS4 HS5;go_wp2_with fail;refine(ih (by omega) _ (p4+1) _ _ (by omega) HS8.out).mono ?_;rintro e w8 ⟨a2,c2,es2,p8,-,hel2,hp8,rfl,hS9⟩;have hSA:=(St.unpack (A:=[RdE b vb (p4+1)]) (A':=[RdE b vb p8,ZdL a2 c2 es2]) (R:=[X,ZdL a c es]) HS7.out (hS9.pick [0,2,1] (by decide))).pick [0,2,3,1] (by decide);have hR:=hSA.row 2 rfl;have HR:=qh hR;have HSl:=qh (Zar (hSA.row 3 rfl));have HSA:=qh hSA;clear hS9 hSA hR HS7 HS8
   go_wp2_with (first|(at_builtin;refine Zal _ rfl _ _ _ rfl _ 55 i0 (.agg #[.int .i64 0,.int .i64 0]) 2 16 Tryz.underlying23 hi.out Hhz0.out Hhz1.out Hhz2.out rfl (by omega) (.slice a es.length c) es.length (es.flatMap Zab) rfl HR.out (.slice a2 es2.length c2) es2.length (es2.flatMap Zab) rfl HSl.out Zdu (by unfold maxLen;omega) (by omega) HSA.out.size ?_;intro a6 c6 w6 hown6 hgrow6 hat6;have hSz:=(HSA.out.appS 2 rfl hown6 hgrow6 hat6).pick [0,1,2] (by decide);rw[← List.flatMap_append,← List.length_append] at hSz;have HSz:=qh hSz;rw[← List.length_append];clear hown6 hgrow6 hat6 hSz;obtain⟨E,hEE⟩:=eI (es++es2);obtain⟨pz,hpp⟩:=eI p8;obtain⟨wz,hwz⟩:∃ wz:World,wz=w6:=⟨_,rfl⟩;have hEl:E.length+1≤FL (d+1):=(by rw[hEE,List.length_append];unfold FL;omega);have hpz:pz≤p+FG (d+1):=(by rw[hpp];unfold FG;omega);have hEs:E.length≤100:=(by rw[hEE,List.length_append];omega);rw[← hEE,← hwz,← hpp] at HSz;rw[← hEE,← hwz];have hSa:=HSz.out.alloc_ (.cells #[.int .i64 kv,.int .i64 0] 55);have HRz:=qh (hSa.row 2 rfl);have HSa:=qh hSa;have HhEE:=qh hEE;clear hEE;have Hhpp:=qh hpp;clear hpp;have Hhwz:=qh hwz;clear hwz;clear hSa HSz)|(at_builtin;refine wpList_append_lies _ rfl _ _ _ rfl _ 55 i0 (.agg #[.int .i64 0,.int .i64 0]) 2 16 Tryz.underlying23 hi.out Hhz0.out Hhz1.out Hhz2.out rfl (by omega) _ E.length _ rfl HRz.out ⟨wz.heap.size,0,none⟩ 1 1 [.int .i64 kv,.int .i64 0] rfl rfl (World.news_of_block (heap_alloc_new wz _)) ZeX (by omega) (by unfold maxLen;omega) (by omega) HSa.out.size _ rfl ?_;intro g7 c7 w7 hown7 hgrow7 hat7 hlt7;have HSf:=qh (HSa.out.app 2 rfl hown7 hgrow7 hat7);clear hown7 hgrow7 hat7 hlt7))
   go_ret;refine⟨some ⟨g7,0,none⟩,c7,E++[(kv,0)],pz,(by simp),by rw[List.length_append];exact hEl,hpz,by rw[List.length_append];rfl,?_⟩;unfold ZdL;rw[List.length_append,List.flatMap_append];exact HSf.out
end Go.Proofs.YtehmjmjedopkkaaGreat
