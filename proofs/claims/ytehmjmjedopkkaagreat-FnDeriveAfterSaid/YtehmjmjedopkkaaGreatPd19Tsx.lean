/-
  The walks over the program's accepts and ExprAccepts.
  Conditions: the list of parts reads as such; the text is one of bytes.
-/
import Derived.Test.YtehmjmjedopkkaaGreatPd16Tbs
import Derived.Test.YtehmjmjedopkkaaGreatPd18Ivs
set_option maxHeartbeats 8000000
set_option maxRecDepth 100000
namespace Go.Proofs.YtehmjmjedopkkaaGreat
open Go.RowKit
def accX (l:List Nat) (t:Ex):Bool:=tabE l.length (lsT l) t 0 l.length
def AccO (es:List (Int × Int)) (l:List Nat) (r:Bool):Prop:=(exOk es=true∧wdOk l=true∧∃ t:Ex,t.post=es∧accX l t=r)∨((exOk es=false∨wdOk l=false)∧r=false)
theorem Zo3 (es:List (Int × Int)) (l:List Nat):∃ r,AccO es l r:=by
 cases h:exOk es with
 | false=>exact⟨false,.inr ⟨.inl h,rfl⟩⟩
 | true =>
  cases g:wdOk l with
  | false=>exact⟨false,.inr ⟨.inr g,rfl⟩⟩
  | true =>obtain⟨t,ht⟩:=parse h;exact⟨_,.inl ⟨h,g,t,ht,rfl⟩⟩
theorem Tryz.infoPart:(Tryz.prog.info? 55).map (fun i=>(i.zero,i.size,i.bytes))=some (some (.agg #[.int .i64 0,.int .i64 0]),2,16):=by kernel_rfl
abbrev PZ:Value:=.agg #[.int .i64 0,.int .i64 0]
theorem Zma (n:Nat) (w:World) (hn:n≤2000000) :
  Calls Tryz.prog 161 #[.slice none 0 0,.int .i64 (n:Int)] w fun e w'=>∃ a c,e = .returned (.slice a 0 c)∧St w w' [Ent.row 55 2 (.slice a 0 c) 0 []]:=by
 obtain⟨j0,hj,hy0,hy1,hy2⟩:=info_parts Tryz.infoPart;have h1:¬ ((n:Int)<0):=by omega
 by_cases h0:n=0
 ·subst h0;have hS0:=(St.start w).nilRow 55 2;have HhS0:=qh hS0;clear hS0
  go_enter Tryz.func161, Tryz.ntmps161
  go_wp2;go_ret;exact⟨none,0,rfl,HhS0.out⟩
 have hrz:∀ ty,(Builtin.append_ #[23,3] ty #[.slice none 0 0,.int .i64 (n:Int)]).run Tryz.prog w =
   .ok (.slice (some ⟨w.heap.size,0,none⟩) n (grownCap w n 0 55)) (w.drew.alloc (.cells (Builtin.zeroCells PZ.cells n++Builtin.zeroCells PZ.cells (grownCap w n 0 55 - n)) 55)):=fun ty=>by
  have h:=Lib.run_append_grow_zeros w 23 3 ty 55 j0 PZ .i64 .i64 Tryz.underlying23 Tryz.underlying3 hj hy0 none 0 0 [] (run_firstCells_none w.drew j0.size 0 0 0) n (by omega) (by omega) (by omega) (by omega) (by rw[hy2];omega) (by rw[hy2];exact growslice_fits (by omega) (by omega));simpa using h
 have hGn:n≤grownCap w n 0 55:=grownCap_ge w _ _ _;have hG63:grownCap w n 0 55 ≤ maxLen:=grownCap_le_maxLen w n 0 55 (by unfold maxLen;omega);obtain⟨G,hG⟩:=eI (grownCap w n 0 55);obtain⟨cur,hcur⟩:=eI (Builtin.zeroCells PZ.cells n++Builtin.zeroCells PZ.cells (G-n));have hcs:cur.size=G*2:=by rw[hcur,Array.size_append,size_zeroCells,size_zeroCells];show n*2+(G-n)*2=G*2;rw[← hG] at hGn;omega
 rw[← hG] at hrz hGn hG63;rw[← hcur] at hrz
 have hown:(w.drew.alloc (.cells cur 55)).ownsRow w.heap.size 55 2 (.slice (some ⟨w.heap.size,0,none⟩) 0 G) 0 [] :=
  ⟨rfl,.inr ⟨w.heap.size,G,cur,rfl,Nat.le_refl _,heap_alloc_new w.drew _,Nat.zero_le _,hG63,hcs,by simp⟩⟩
 have hS0:=(St.start w).made ((Below.refl _ _).drew.alloc (Nat.le_refl _) (.cells cur 55)) hown;have hG63':G≤9223372036854775807:=by unfold maxLen at hG63;omega
 replace hG:=qh hG;have Hhcur:=qh hcur;clear hcur;have Hhcs:=qh hcs;clear hcs;have Hhown:=qh hown;clear hown;have HhS0:=qh hS0;clear hS0
 go_enter Tryz.func161, Tryz.ntmps161
 go_wp2_with (at_builtin;refine Lib.wpList_append_run _ rfl _ _ _ _ rfl _ _ rfl rfl _ _ (hrz _) ?_);go_ret;exact⟨_,G,rfl,HhS0.out⟩
def sumL (ess:List (List (Int × Int))) (k:Nat):Nat:=(ess.take k).flatten.length
theorem ZdT (ess:List (List (Int × Int))):sumL ess 0=0:=by simp[sumL]
theorem Zh2 {ess:List (List (Int × Int))} {k:Nat} (h:k<ess.length):sumL ess (k+1)=sumL ess k+(ess.getD k []).length∧(ess.take (k+1)).flatten=(ess.take k).flatten++ess.getD k []:=by
 have e:ess.take (k+1)=ess.take k++[ess.getD k []]:=by rw[List.take_succ_eq_append_getElem h];simp[h]
 have e2:(ess.take (k+1)).flatten=(ess.take k).flatten++ess.getD k []:=by rw[e];simp
 exact⟨by unfold sumL;rw[e2,List.length_append],e2⟩
theorem ZiT {ess:List (List (Int × Int))} (hl:∀ es∈ess,es.length≤10000):∀ k,k≤ess.length→sumL ess k≤10000*k
 | 0,_=>by rw[ZdT];omega
 | k+1,h=>by have ih:=ZiT hl k (by omega);have h1:=(Zh2 (ess:=ess) (k:=k) (by omega)).1;have h2:=hl (ess.getD k []) (by simp[List.getElem?_eq_getElem (show k<ess.length by omega)]);omega
theorem Zjs (ess:List (List (Int × Int))) (vas:List Value) (ao:Option Addr) (b cap:Nat) (w:World) (hao:0<ess.length→ao=some ⟨b,0,none⟩) (hm:ess.length≤100) (hl:∀ es∈ess,es.length≤10000) (hb:0<ess.length→b<w.heap.size)
  (hc:∀ i,i<ess.length→w.cell? ⟨b,i,none⟩=some (vas.getD i undef)) (hp:∀ i,i<ess.length→Pairs 0 w (vas.getD i undef) (ess.getD i [])) :
  Calls Tryz.prog 148 #[.slice ao ess.length cap] w fun e w'=>∃ a c,e = .returned (.slice a ess.flatten.length c)∧St w w' [Ent.row 55 2 (.slice a ess.flatten.length c) ess.flatten.length (ess.flatten.flatMap Zaa)]:=by
 obtain⟨j0,hj,hy0,hy1,hy2⟩:=info_parts Tryz.infoPart;obtain⟨m,hmm⟩:=eI (ess.length);have hsum:=fun k (h:k<ess.length)=>Zh2 h
 have hle:=ZiT hl;have hfin:sumL ess m=ess.flatten.length∧(ess.take m).flatten=ess.flatten:=by rw[hmm];unfold sumL;rw[List.take_length];exact⟨rfl,rfl⟩
 have hl':∀ k,k<m→(ess.getD k []).length≤10000:=fun k hk=>hl _ (by simp[List.getElem?_eq_getElem (show k<ess.length by omega)])
 rw[← hmm] at hm hc hp hsum hle hao hb ⊢;have Hao:=qh hao;have Hb:=qh hb;have Hc:=qh hc;have Hp:=qh hp;have Hsum:=qh hsum;have Hle:=qh hle;have Hfin:=qh hfin;have Hl:=qh hl';replace hmm:=qh hmm;clear hc hp hsum hle hfin hl hl' hao hb
 go_enter Tryz.func148, Tryz.ntmps148
 go_wp2
 go_loopw [3,11] (fun n i wr=>∃ k:Nat,i = .int .i64 (k:Int)∧n = .int .i64 ((sumL ess k:Nat):Int)∧k≤m∧w=wr) (fun _ i _=>m-(intOf i).toNat)
 case atStart=>exact⟨0,rfl,by rw[ZdT];rfl,Nat.zero_le _,rfl⟩
 case round =>
  obtain⟨k,rfl,rfl,hk,rfl⟩:=hrel;by_cases hlt:k<m
  ·have hlt2:(k:Int)<m:=by omega
   have hao:=Hao.out (by omega);subst hao;obtain⟨q1,q2⟩:=Hsum.out k hlt;have q3:=Hle.out k hk;have q4:=Hl.out k hlt;have c0:=Hc.out k hlt;obtain⟨ax,cx,hv,hv1,hv2,-⟩:=(Hp.out k hlt).form;rw[hv] at c0;obtain⟨L,hL⟩:=eI ((ess.getD k []).length);obtain⟨s,hs⟩:=eI (sumL ess k);rw[← hL] at q1 q4 c0;rw[← hs] at q1 q3;rw[← hs];have hw:IntKind.i64.wrap ((s:Int)+(L:Int))=(s:Int)+(L:Int):=IntWalk.i64_in _ (by omega);have hng:¬ (s:Int)+(L:Int)<0:=by omega
   have Hq1:=qh q1;clear q1;replace hL:=qh hL;have Hhs:=qh hs;clear hs;clear q2 hv hv1 hv2;go_wp2;go_roundw
   case rel=>exact⟨k+1,by go_num,by rw[Hq1.out];congr 1,by omega,trivial⟩
   case measure=>simp[intOf];omega
  obtain rfl:k=m:=by omega
  obtain⟨s,hs⟩:=eI (sumL ess k);have q3:=Hle.out k hk;rw[← hs] at q3 ⊢;have Hhs:=qh hs;clear hs;clear hlt;go_wp2_with fail;refine(Zma s _ (by omega)).mono ?_;rintro e w1 ⟨a6,c6,rfl,hS'⟩;have HS1:=qh hS';clear hS';go_wp2
  go_loopw [6,27] (fun vo i wr=>∃ (j:Nat) (a:Option Addr) (c:Nat),i = .int .i64 (j:Int)∧vo = .slice a (sumL ess j) c∧j≤k∧St w wr [Ent.row 55 2 (.slice a (sumL ess j) c) (sumL ess j) ((ess.take j).flatten.flatMap Zaa)]) (fun _ i _=>k-(intOf i).toNat)
  case atStart=>exact⟨0,a6,c6,rfl,by rw[ZdT],by omega,by rw[ZdT];exact HS1.out⟩
  case round =>
   obtain⟨j,a,c,rfl,rfl,hj2,hS⟩:=hrel;by_cases hlt:j<k
   ·have hlt2:(j:Int)<k:=by omega
    have hao:=Hao.out (by omega);subst hao;have hb:=Hb.out (by omega);obtain⟨q1,q2⟩:=Hsum.out j hlt;have q3:=Hle.out j (by omega);have q4:=Hl.out j hlt;have m0:=(bcell hS.bel b j hb).trans (Hc.out j hlt);have hPr:=(Hp.out j hlt).below hS.bel;obtain⟨ax,cx,hv,hv1,hv2,-⟩:=hPr.form;rw[hv] at m0 hPr;obtain⟨E,hE⟩:=eI (ess.getD j []);obtain⟨Z,hZ⟩:=eI ((ess.take j).flatten);rw[← hE] at q1 q2 q4 m0 hPr hv1;rw[← hZ] at q2 hS;obtain⟨L,hL⟩:=eI (E.length);obtain⟨s2,hs2⟩:=eI (sumL ess j);have hPr2:Sl 0 wr (.slice ax L cx) L 2 (E.flatMap Zaa):=by rw[hL];exact hPr
    rw[← hL] at q1 q4 m0;rw[← hs2] at q1 q3 hS;rw[← hs2];have HS:=qh hS;have HR:=qh (hS.row 0 rfl);have HXw:=qh hPr2;have Hq1:=qh q1;clear q1;have Hq2:=qh q2;clear q2;replace hL:=qh hL;have Hhs2:=qh hs2;clear hs2;replace hE:=qh hE;have HhZ:=qh hZ;clear hZ;clear hS hv hv1 hv2 hPr hPr2 hlt;go_wp2_with (at_builtin;refine Zal _ rfl _ _ _ rfl _ 55 j0 PZ 2 16 Tryz.underlying23 hj hy0 hy1 hy2 rfl (by omega) _ s2 _ rfl HR.out _ L (E.flatMap Zaa) rfl HXw.out ZbB (by unfold maxLen;omega) (by omega) HS.out.size ?_;intro a6 c6 w6 hown6 hgrow6 hat6;have HS6:=qh (HS.out.appS 0 rfl hown6 hgrow6 hat6);clear hown6 hgrow6 hat6);go_roundw
    case rel=>exact⟨j+1,a6,c6,by go_num,by rw[Hq1.out],by omega,by rw[Hq1.out,Hq2.out,List.flatMap_append];exact HS6.out⟩
    case measure=>simp[intOf];omega
   obtain rfl:j=k:=by omega
   rw[Hfin.out.1,Hfin.out.2] at hS;rw[Hfin.out.1];have HS:=qh hS;clear hS hlt;go_wp2;go_ret;exact⟨a,c,rfl,HS.out⟩
def RPo (es:List (Int × Int)) (w:World) (e:Ending) (w':World):Prop:=∃ a c,e = .returned (.slice a es.length c)∧St w w' [Ent.row 55 2 (.slice a es.length c) es.length (es.flatMap Zaa)]
theorem Zd2 (k:Int) (ess:List (List (Int × Int))) (vas:List Value) (b cap:Nat) (w:World) (hm:ess.length≤100) (hl:∀ es∈ess,es.length≤10000) (hb:b<w.heap.size)
  (hc:∀ i,i<ess.length→w.cell? ⟨b,i,none⟩=some (vas.getD i undef)) (hp:∀ i,i<ess.length→Pairs 0 w (vas.getD i undef) (ess.getD i [])) :
  Calls Tryz.prog 121 #[.int .i64 k,.slice (some ⟨b,0,none⟩) ess.length cap] w fun e w'=>RPo (ess.flatten++[(k,0)]) w e w':=by
 obtain⟨j0,hj,hy0,hy1,hy2⟩:=info_parts Tryz.infoPart;have hcon:=qh (Zjs ess vas (some ⟨b,0,none⟩) b cap w (fun _=>rfl) hm hl (fun _=>hb) hc hp);have hle:=ZiT hl ess.length (Nat.le_refl _);have hfl:sumL ess ess.length=ess.flatten.length:=by unfold sumL;rw[List.take_length]
 rw[hfl] at hle;clear hc hp hl hfl;obtain⟨m,hmm⟩:=eI (ess.length);rw[← hmm] at hcon hm hle ⊢;obtain⟨E,hE⟩:=eI (ess.flatten);rw[← hE] at hcon hle ⊢;obtain⟨L,hL⟩:=eI (E.length);rw[← hL] at hcon hle;have hL2:(E++[(k,0)]).length=L+1:=by rw[hL];simp
 unfold RPo;rw[hL2];replace hmm:=qh hmm;replace hE:=qh hE;have HhL:=qh hL;clear hL;have HhL2:=qh hL2;clear hL2
 go_enter Tryz.func121, Tryz.ntmps121
 go_wp2_with (first
  | (go_at_call 148;refine(hcon.out).mono ?_;rintro e w1 ⟨a6,c6,rfl,hS'⟩;have hS2:=hS'.alloc w1.heap.size rfl #[.int .i64 k,.int .i64 0] 55;have hS3:=hS2.boxrow 1 1 2 [.int .i64 k,.int .i64 0] rfl rfl (by unfold maxLen;omega);have HS:=qh hS3;have HR:=qh (hS3.row 0 rfl);have HX:=qh ((Zac (hS3.row 1 rfl)).sl (by omega));clear hS' hS2 hS3)
  | (at_builtin;refine Zal _ rfl _ _ _ rfl _ 55 j0 PZ 2 16 Tryz.underlying23 hj hy0 hy1 hy2 rfl (by omega) _ L _ rfl HR.out _ 1 [.int .i64 k,.int .i64 0] rfl (HX.out.mono (Nat.zero_le _)) (by intro u hu;simp at hu;rcases hu with rfl|rfl<;>rfl) (by unfold maxLen;omega) (by omega) HS.out.size ?_;intro a6 c6 w6 hown6 hgrow6 hat6;have HS6:=qh (HS.out.appS 0 rfl hown6 hgrow6 hat6);clear hown6 hgrow6 hat6))
 go_ret;exact⟨_,_,rfl,by rw[List.flatMap_append];exact HS6.out.pick [0] (by decide)⟩
theorem ZbR (k:Int) (w:World):Calls Tryz.prog 88 #[.int .i64 k] w fun e w'=>RPo [(k,0)] w e w':=by
 have hS:=((St.start w).alloc w.heap.size rfl #[.int .i64 k,.int .i64 0] 55).boxrow 0 1 2 [.int .i64 k,.int .i64 0] rfl rfl (by unfold maxLen;omega);replace hS:=qh hS
 go_enter Tryz.func88, Tryz.ntmps88
 go_wp2;go_ret;exact⟨_,_,rfl,hS.out⟩
theorem ZlE (k:Int) (xs:List (Int × Int)) (v:Value) (b cap:Nat) (w:World) (hl:xs.length≤10000) (hb:b<w.heap.size) (h0:w.cell? ⟨b,0,none⟩=some v) (hp:Pairs 0 w v xs) :
  Calls Tryz.prog 121 #[.int .i64 k,.slice (some ⟨b,0,none⟩) 1 cap] w fun e w'=>RPo (xs++[(k,0)]) w e w':=by
 have h:=Zd2 k [xs] [v] b cap w (by simp) (by simpa using hl) hb (fun i hi=>by
  obtain rfl:i=0:=by simpa using hi
  exact h0) (fun i hi=>by
  obtain rfl:i=0:=by simpa using hi
  exact hp)
 simpa using h
theorem Zja (k:Int) (xs ys:List (Int × Int)) (v u:Value) (b cap:Nat) (w:World) (hl:xs.length≤10000) (hl2:ys.length≤10000) (hb:b<w.heap.size) (h0:w.cell? ⟨b,0,none⟩=some v) (h1:w.cell? ⟨b,1,none⟩=some u) (hp:Pairs 0 w v xs) (hq:Pairs 0 w u ys) :
  Calls Tryz.prog 121 #[.int .i64 k,.slice (some ⟨b,0,none⟩) 2 cap] w fun e w'=>RPo (xs++ys++[(k,0)]) w e w':=by
 have h:=Zd2 k [xs,ys] [v,u] b cap w (by simp) (by intro es he;simp at he;rcases he with rfl|rfl<;>assumption) hb (fun i hi=>by
  obtain rfl|rfl:i=0∨i=1:=by simp at hi;omega
  ·exact h0
  ·exact h1) (fun i hi=>by
  obtain rfl|rfl:i=0∨i=1:=by simp at hi;omega
  ·exact hp
  exact hq)
 have e:[xs,ys].flatten++[(k,0)]=xs++ys++[(k,0)]:=by simp
 rw[e] at h;exact h
end Go.Proofs.YtehmjmjedopkkaaGreat
namespace Go.Proofs.YtehmjmjedopkkaaGreat
def bnd:Ex→Nat
 | .alt _ _=>1
 | .both _ _=>2
 | .join _ _=>3
 | .neg _=>4
 | .star _=>5
 | _=>6
def brk (l:Nat) (a:Ex) (x:List Nat):List Nat:=if bnd a<l then 40::(x++[41]) else x
def prE:Ex→List Nat
 | .zero=>[48]
 | .one=>[49]
 | .ltr c=>[97+c.val]
 | .join a b=>brk 3 a (prE a)++brk 4 b (prE b)
 | .alt a b=>brk 1 a (prE a)++124::brk 2 b (prE b)
 | .both a b=>brk 2 a (prE a)++38::brk 3 b (prE b)
 | .neg a=>33::brk 4 a (prE a)
 | .star a=>brk 5 a (prE a)++[42]
/-! The reader. -/
abbrev PS:Type:=List (Int × Int) × List Nat × Bool
def Zpq (p:Int × Int) (st:List Ex):Option (List Ex) :=
 if p.1=1 then some (.zero::st) else if p.1=2 then some (.one::st) else if p.1=3 then some (.ltr (Fin.ofNat 3 p.2.toNat)::st)
 else if p.1=7 then(match st with|a::st=>some (.neg a::st)|[]=>none)
 else if p.1=8 then(match st with|a::st=>some (.star a::st)|[]=>none)
 else match st with
  | b::a::st=>if p.1=4 then some (.join a b::st) else if p.1=5 then some (.alt a b::st) else some (.both a b::st)
  | _=>none
def Zeq:List (Int × Int)→List Ex→Option (List Ex)
 | [],st=>some st
 | p::r,st=>(Zpq p st).bind (Zeq r)
theorem ZkX:∀ (t:Ex) (r:List (Int × Int)) (st:List Ex),Zeq (t.post++r) st=Zeq r (t::st):=by
 intro t
 induction t with
 | zero=>intro r st;rfl
 | one=>intro r st;rfl
 | ltr c =>
  intro r st;obtain⟨c,hc⟩:=c;obtain rfl|rfl|rfl:c=0∨c=1∨c=2:=by omega
  all_goals rfl
 | neg a ha=>intro r st;show Zeq (a.post++[(7,0)]++r) st=_;rw[List.append_assoc,ha];rfl
 | star a ha=>intro r st;show Zeq (a.post++[(8,0)]++r) st=_;rw[List.append_assoc,ha];rfl
 | join a b ha hb=>intro r st;show Zeq (a.post++b.post++[(4,0)]++r) st=_;rw[List.append_assoc,List.append_assoc,ha,hb];rfl
 | alt a b ha hb=>intro r st;show Zeq (a.post++b.post++[(5,0)]++r) st=_;rw[List.append_assoc,List.append_assoc,ha,hb];rfl
 | both a b ha hb=>intro r st;show Zeq (a.post++b.post++[(6,0)]++r) st=_;rw[List.append_assoc,List.append_assoc,ha,hb];rfl
def Zk3 (e:List (Int × Int)):Option Ex:=match Zeq e [] with
 | some [t]=>some t
 | _=>none
theorem Zfu (t:Ex):Zk3 t.post=some t:=by have:=ZkX t [] [];rw[List.append_nil] at this;unfold Zk3;rw[this];rfl
theorem Zhr {t u:Ex} (h:t.post=u.post):t=u:=by have h1:=Zfu t;rw[h,Zfu u] at h1;exact(Option.some.inj h1).symm
def Zpp (e:List (Int × Int)):List Nat:=if exOk e=true then(match Zk3 e with|some t=>prE t|none=>[]) else []
def yesR (x:PS) (s:List Nat):Prop:=x.2.2=false∧x.2.1=[]∧Zpp x.1=s
instance (x:PS) (s:List Nat):Decidable (yesR x s):=by unfold yesR;infer_instance
/-! How much is read. -/
/-! What is left is an end of what was there. -/
end Go.Proofs.YtehmjmjedopkkaaGreat
namespace Go.Proofs.YtehmjmjedopkkaaGreat
open Go.RowKit
def Qs (lo:Nat) (w:World) (e:TypeId) (v:Value) (xs:List Value):Prop :=
 ∃ g off cap cur,v = .slice (some ⟨g,off,none⟩) xs.length cap∧lo≤g∧w.heap[g]? = some (.cells cur e (0,0))∧xs.length≤cap∧cap≤maxLen∧off+cap≤cur.size∧∀ j,j<xs.length→cur[off+j]? = xs[j]?
theorem Qs.obj {lo:Nat} {w:World} {e:TypeId} {v:Value} {xs:List Value} (h:Qs lo w e v xs) {k:Nat} (hk:v.ownBlock=some k):∃ cur,w.heap[k]? = some (.cells cur e (0,0)):=by
 obtain⟨g,off,cap,cur,rfl,_,hg,_⟩:=h;have:g=k:=by simpa [Value.ownBlock] using hk
 subst this;exact⟨cur,hg⟩
theorem Qs.kept {lo:Nat} {w w':World} {e:TypeId} {v:Value} {xs:List Value} (h:Qs lo w e v xs) (hk:∀ k,v.ownBlock=some k→w'.heap[k]? = w.heap[k]?):Qs lo w' e v xs:=by obtain⟨g,off,cap,cur,rfl,h1,hg,h2⟩:=h;exact⟨g,off,cap,cur,rfl,h1,(hk g rfl).trans hg,h2⟩
theorem Qs.grown {lo:Nat} {w w':World} {e:TypeId} {v:Value} {xs:List Value} {row:Option Nat} (h:Qs lo w e v xs) (hg:w.grownBy w' row) (ha:Zb0 w row e):Qs lo w' e v xs :=
 h.kept fun k hk=>by obtain⟨cur,hc⟩:=h.obj hk;exact hg.block k (Array.getElem?_eq_some_iff.1 hc).1 fun hr=>ha k hr.symm _ _ hc
theorem Qs.below {lo:Nat} {w w':World} {e:TypeId} {v:Value} {xs:List Value} (h:Qs lo w e v xs) (hb:Below w.heap.size w w'):Qs lo w' e v xs :=
 h.kept fun k hk=>by obtain⟨cur,hc⟩:=h.obj hk;exact hb.block k (Array.getElem?_eq_some_iff.1 hc).1
theorem Qs.form {lo:Nat} {w:World} {e:TypeId} {v:Value} {xs:List Value} (h:Qs lo w e v xs):∃ g off cap,v = .slice (some ⟨g,off,none⟩) xs.length cap∧lo≤g∧g<w.heap.size∧xs.length≤cap∧cap≤9223372036854775807∧∀ j,j<xs.length→w.cell? ⟨g,off+j,none⟩=xs[j]?:=by obtain⟨g,off,cap,cur,rfl,h1,hg,h2,h3,h4,h5⟩:=h;exact⟨g,off,cap,rfl,h1,(Array.getElem?_eq_some_iff.1 hg).1,h2,h3,fun j hj=>(cell_of_row w g _ cur e (0,0) hg).trans (h5 j hj)⟩
theorem Qs.lo {lo:Nat} {w:World} {e:TypeId} {v:Value} {xs:List Value} (h:Qs lo w e v xs) {k:Nat} (hk:v.ownBlock=some k):lo≤k:=by
 obtain⟨g,off,cap,cur,rfl,h1,_⟩:=h;have:g=k:=by simpa [Value.ownBlock] using hk
 omega
theorem Qs.append {P:Program} {lo:Nat} {w:World} {e:TypeId} {v:Value} {xs:List Value} (h:Qs lo w e v xs) (t ty:TypeId) (i:TypeInfo) (z:Value) (bytes:Nat) (ht:P.underlying t=some (.slice e)) (hi:P.info? e=some i) (hz:i.zero=some z) (hsize:i.size=1) (hby:i.bytes=bytes) (hzs:z.cells.size=1)
  (ad:Addr) (c:Nat) (x:Value) (hx:w.cell? ad=some x) (had:ad.add 0=ad) (h1:x.oneCell'=true) (h63:xs.length+1≤1000000) (hb:bytes≤100) (hlo:lo≤w.heap.size) :
  ∃ v' w',(Builtin.append_ #[t,t] ty #[v,.slice (some ad) 1 c]).run P w = .ok v' w'∧Qs lo w' e v' (xs++[x])∧w.grownBy w' v.ownBlock:=by
 obtain⟨g,off,cap,cur,rfl,hg0,hg,h2,h3,h4,h5⟩:=h
 have hnews:∀ j u,[x][j]? = some u→w.cell? (ad.add j)=some u:=fun j u hu=>by
  cases j with
  | zero=>simp at hu;subst hu;rw[had];exact hx
  | succ j=>simp at hu
 by_cases hroom:xs.length+1≤cap
 ·have hf:=run_firstCells_some (P:=P) w i.size 1 ad 1 c [x] (by simp[hsize]) hnews;have hst:=run_storeCells_at P g (off+xs.length) e [x] 0 cur w hg (by simp;omega) (by simpa using h1);have hadd:(⟨g,off,none⟩:Addr).add xs.length=⟨g,off+xs.length,none⟩:=by unfold Addr.add;split<;>simp_all
  simp only[Nat.add_zero,List.length_singleton] at hst;rw[hsize] at hf;have hcl:off+xs.length<cur.toList.length:=by simp;omega
  have ht1:(List.take (off+xs.length) cur.toList).length=off+xs.length:=by rw[List.length_take];omega
  obtain⟨cs,hcs⟩:∃ cs:Array Value,cs=(List.take (off+xs.length) cur.toList++[x]++List.drop (off+xs.length+1) cur.toList).toArray:=⟨_,rfl⟩;rw[← hcs] at hst;have hrow:=setRow_heap w g cur cs e (0,0) hg;refine⟨.slice (some ⟨g,off,none⟩) (xs.length+1) cap,w.setRow g cs,by simp[Builtin.append_,run_underlying ht,sizeOf,typeInfo,hi,hsize,Builtin.lenOf,hroom,hf,hadd,hst],?_,?_⟩
  ·refine⟨g,off,cap,cs,by simp,hg0,hrow,by simpa using hroom,h3,?_,fun j hj => ?_⟩
   ·rw[hcs];simp only[List.size_toArray,List.length_append,List.length_singleton,List.length_drop,ht1,Array.length_toList];omega
   simp only[List.length_append,List.length_singleton] at hj;rw[hcs];simp only[List.getElem?_toArray];by_cases hjn:j<xs.length
   ·rw[List.append_assoc,List.getElem?_append_left (by omega),List.getElem?_append_left hjn,List.getElem?_take,if_pos (by omega),Array.getElem?_toList];exact h5 j hjn
   obtain rfl:j=xs.length:=by omega
   rw[List.append_assoc,List.getElem?_append_right (by omega),ht1];simp
  exact⟨rfl,rfl,rfl,by simp,fun k _ hk=>setRow_other w g k cs (fun e=>hk (by rw[e];rfl))⟩
 have hgr:=run_append_grow (P:=P) w t ty e i z ht hi hz ⟨g,off,none⟩ xs.length cap xs (by rw[hsize];omega)
  (fun j u hu=>by
   have hj:j<xs.length:=(List.getElem?_eq_some_iff.1 hu).1;have hadd:(⟨g,off,none⟩:Addr).add j=⟨g,off+j,none⟩:=by unfold Addr.add;split<;>simp_all
   rw[hadd,cell_of_row w g _ cur e (0,0) hg,h5 j hj,hu]) ad 1 c [x] (by simp[hsize]) hnews (by omega) (by omega)
  (by have:=nextslicecap_le_wide (need:=xs.length+1) (old:=cap) (by omega);have hm:=Nat.mul_le_mul this (show i.bytes≤100 by omega);omega)
 have hcm:=grownCap_le_maxLen w (xs.length+1) cap e (by unfold maxLen;omega);have hge:=grownCap_ge w (xs.length+1) cap e;have hnew:=heap_alloc_new w.drew (.cells (xs.toArray++[x].toArray++Builtin.zeroCells z.cells (grownCap w (xs.length+1) cap e-(xs.length+1))) e);refine⟨_,_,hgr,⟨w.heap.size,0,_,_,by simp,hlo,hnew,by simpa using hge,hcm,?_,fun j hj => ?_⟩,?_⟩
 ·simp[size_zeroCells,hzs];omega
 ·simp only[Nat.zero_add];rw[← List.getElem?_toArray];have:(xs++[x]).toArray=xs.toArray++[x].toArray:=by simp
  rw[this,Array.getElem?_append_left (by simpa using hj)]
 exact⟨rfl,rfl,rfl,by simp[World.alloc],fun k hk _=>Below.heap_alloc w.drew _ k hk⟩
def wdB (l:List Nat):ByteArray:=⟨(l.map fun c=>UInt8.ofNat (97+c)).toArray⟩
abbrev wdCells (ws:List (List Nat)):List Value:=ws.map fun l=>Value.string (wdB l)
theorem Zjy (l:List Nat):(wdB l).size=l.length:=by simp[wdB,ByteArray.size]
def knows (n:Nat) (s:Bs Int) (cs:List Value):Prop:=cs.length=n∧∀ j,j<s.met.length→cs[(s.met.getD j 0).toNat]? = some (.string (wdB (s.words.getD j [])))
def marks (n:Nat) (s:Bs Int) (bs:List Value):Prop:=bs.length=n∧∀ x:Nat,x<n→bs[x]? = some (.bool (decide ((x:Int)∈s.met)))
structure FwW (d:DfaD) (W0 bw bs:Nat) (bx:Array Value) (w:World) (s:Bs Int) (k:Nat) (vq:Value):Prop where
 wo:∃ cs,w.ownsRow W0 9 1 (.slice (some ⟨bw,0,none⟩) d.next.length d.next.length) d.next.length cs∧knows d.next.length s cs
 se:∃ ms,w.ownsRow W0 4 1 (.slice (some ⟨bs,0,none⟩) d.next.length d.next.length) d.next.length ms∧marks d.next.length s ms
 qu:Qs W0 w 3 vq ((s.met.drop k).map (Value.int .i64))
 bx:Bx w W0 bx 32
theorem FwW.below {d:DfaD} {W0 bw bs k:Nat} {bx:Array Value} {w w':World} {s:Bs Int} {vq:Value} (h:FwW d W0 bw bs bx w s k vq) (hb:Below w.heap.size w w'):FwW d W0 bw bs bx w' s k vq:=by obtain⟨⟨cs,h1,h2⟩,⟨ms,h3,h4⟩,h5,h6⟩:=h;exact⟨⟨cs,(Own.below (Zac h1) hb).1,h2⟩,⟨ms,(Own.below (Zac h3) hb).1,h4⟩,h5.below hb,h6.below hb h6.lt⟩
theorem FwW.cells {d:DfaD} {W0 bw bs k:Nat} {bx:Array Value} {w:World} {s:Bs Int} {vq:Value} (h:FwW d W0 bw bs bx w s k vq) {x:Nat} (hxn:x<d.next.length):(∃ u,w.cell? ⟨bw,x,none⟩=some u)∧w.frozen? ⟨bw,x,none⟩=false∧w.frozen? ⟨bs,x,none⟩=false:=by obtain⟨⟨cs,h1,h2⟩,⟨ms,h3,h4⟩,_⟩:=h;exact⟨Zb3 h1 x (by omega),h1.frozenAt x,h3.frozenAt x⟩
theorem FwW.lt {d:DfaD} {W0 bw bs k:Nat} {bx:Array Value} {w:World} {s:Bs Int} {vq:Value} (h:FwW d W0 bw bs bx w s k vq):W0≤bw∧W0≤bs∧bw<w.heap.size∧bs<w.heap.size∧bw≠bs∧W0≠bw∧W0≠bs:=by
 obtain⟨⟨cs,h1,h2⟩,⟨ms,h3,h4⟩,_,h6⟩:=h;refine⟨(h1.lt bw rfl).1,(h3.lt bs rfl).1,(h1.lt bw rfl).2,(h3.lt bs rfl).2,?_,?_,?_⟩
 ·intro e;obtain⟨cu,hcu⟩:=ZaR (k:=bs) h3 rfl;exact Zak (e':=4) h1 (by decide) bs (by rw[e];rfl) _ _ hcu
 ·intro e;exact Zak (e':=32) h1 (by decide) bw rfl _ _ (by rw[← e];exact h6)
 intro e;exact Zak (e':=32) h3 (by decide) bs rfl _ _ (by rw[← e];exact h6)
theorem FwW.q2 {d:DfaD} {W0 bw bs k:Nat} {bx:Array Value} {w w4 w5:World} {s:Bs Int} {vq:Value} (h:FwW d W0 bw bs bx w s k vq) (x:Nat) {u v:Value} (_:bw≠bs)
  (h5:w5=(w4.setCell ⟨bw,x,none⟩ u).drew) (h4:w4=w.setCell ⟨bs,x,none⟩ v):Qs W0 w5 3 vq ((s.met.drop k).map (Value.int .i64)):=by
 obtain⟨⟨cs,h1,h2⟩,⟨ms,h3,h4'⟩,hq,h6⟩:=h;subst h4;subst h5;have a1:(w.setCell ⟨bs,x,none⟩ v).ownsRow W0 9 1 (.slice (some ⟨bw,0,none⟩) d.next.length d.next.length) d.next.length cs:=Zae h1 (ZaC w bs x _) (fun k hk=>by cases hk;exact Zak (e':=9) h3 (by decide) bs rfl);exact((hq.grown (ZaC w bs x v) (fun k hk=>by cases hk;exact Zak (e':=3) h3 (by decide) bs rfl)).grown (ZaC (w.setCell ⟨bs,x,none⟩ v) bw x u) (fun k hk=>by cases hk;exact Zak (e':=3) a1 (by decide) bw rfl)).below (Below.refl _ _).drew
end Go.Proofs.YtehmjmjedopkkaaGreat
namespace Go.Proofs.YtehmjmjedopkkaaGreat
theorem Zfn {xs ys:List (Int × Int)} {p:Int × Int}:(xs++p::ys).getD xs.length (0,0)=p:=by simp
theorem Zg8 {es pre suf:List (Int × Int)} {p:Int × Int} (he:es=pre++p::suf) (hp:Zab p=0):stkB es (pre.length+1)=stkB es pre.length++[pre.length]:=by
 have h:es.getD pre.length (0,0)=p:=by rw[he];exact Zfn
 rw[ZcG];unfold begB;rw[h,hp];simp
theorem Zk6 {es pre xs suf:List (Int × Int)} {p:Int × Int} (he:es=pre++xs++p::suf) (hp:Zab p=1) (hx:stkB es (pre.length+xs.length)=stkB es pre.length++[pre.length]):stkB es (pre.length+(xs.length+1))=stkB es pre.length++[pre.length]:=by
 have h:es.getD (pre.length+xs.length) (0,0)=p:=by rw[he,← List.length_append];exact Zfn
 rw[← Nat.add_assoc,ZcG];unfold begB;rw[h,hp,hx];simp
theorem ZiU {es pre xs ys suf:List (Int × Int)} {p:Int × Int} (he:es=pre++xs++ys++p::suf) (hp:Zab p=2) (hx:stkB es (pre.length+xs.length)=stkB es pre.length++[pre.length]) (hy:stkB es (pre.length+xs.length+ys.length)=stkB es (pre.length+xs.length)++[pre.length+xs.length]) :
  stkB es (pre.length+(xs.length+(ys.length+1)))=stkB es pre.length++[pre.length]:=by
 have h:es.getD (pre.length+xs.length+ys.length) (0,0)=p:=by rw[he,← List.length_append,← List.length_append];exact Zfn
 rw[show pre.length+(xs.length+(ys.length+1))=pre.length+xs.length+ys.length+1 by omega,ZcG];unfold begB;rw[h,hp,hy,hx];simp
theorem ZmR:∀ (t:Ex) (es pre suf:List (Int × Int)),es=pre++t.post++suf→stkB es (pre.length+t.post.length)=stkB es pre.length++[pre.length]:=by
 intro t
 induction t with
 | zero=>intro es pre suf he;exact Zg8 (p:=(1,0)) (suf:=suf) (by rw[he];simp[Ex.post]) Zb5
 | one=>intro es pre suf he;exact Zg8 (p:=(2,0)) (suf:=suf) (by rw[he];simp[Ex.post]) Zb4
 | ltr c=>intro es pre suf he;exact Zg8 (p:=(3,(c.val:Int))) (suf:=suf) (by rw[he];simp[Ex.post]) (ZbN c)
 | neg a ha =>intro es pre suf he;have h1:=ha es pre ((7,0)::suf) (by rw[he];simp[Ex.post]);have h2:=Zk6 (xs:=a.post) (p:=(7,0)) (suf:=suf) (by rw[he];simp[Ex.post]) ZdZ h1;simpa [Ex.post] using h2
 | star a ha =>intro es pre suf he;have h1:=ha es pre ((8,0)::suf) (by rw[he];simp[Ex.post]);have h2:=Zk6 (xs:=a.post) (p:=(8,0)) (suf:=suf) (by rw[he];simp[Ex.post]) ZcV h1;simpa [Ex.post] using h2
 | join a b ha hb =>intro es pre suf he;have h1:=ha es pre (b.post++(4,0)::suf) (by rw[he];simp[Ex.post]);have h2:=hb es (pre++a.post) ((4,0)::suf) (by rw[he];simp[Ex.post]);rw[List.length_append] at h2;have h3:=ZiU (xs:=a.post) (ys:=b.post) (p:=(4,0)) (suf:=suf) (by rw[he];simp[Ex.post]) ZcW h1 h2;simpa [Ex.post] using h3
 | alt a b ha hb =>intro es pre suf he;have h1:=ha es pre (b.post++(5,0)::suf) (by rw[he];simp[Ex.post]);have h2:=hb es (pre++a.post) ((5,0)::suf) (by rw[he];simp[Ex.post]);rw[List.length_append] at h2;have h3:=ZiU (xs:=a.post) (ys:=b.post) (p:=(5,0)) (suf:=suf) (by rw[he];simp[Ex.post]) Zd0 h1 h2;simpa [Ex.post] using h3
 | both a b ha hb =>intro es pre suf he;have h1:=ha es pre (b.post++(6,0)::suf) (by rw[he];simp[Ex.post]);have h2:=hb es (pre++a.post) ((6,0)::suf) (by rw[he];simp[Ex.post]);rw[List.length_append] at h2;have h3:=ZiU (xs:=a.post) (ys:=b.post) (p:=(6,0)) (suf:=suf) (by rw[he];simp[Ex.post]) ZcX h1 h2;simpa [Ex.post] using h3
theorem Zo1 (a b:Ex) (p:Int × Int):begB (a.post++b.post++[p]) (a.post.length+b.post.length-1)=a.post.length:=by have h2:=ZmR b (a.post++b.post++[p]) a.post [p] rfl;have hb:=Zap b;rw[show a.post.length+b.post.length=(a.post.length+b.post.length-1)+1 by omega,ZcG] at h2;have:=List.append_inj_right' h2 rfl;simpa using this
end Go.Proofs.YtehmjmjedopkkaaGreat
namespace Go.Proofs.YtehmjmjedopkkaaGreat
open Go.RowKit
theorem Za7 {w:World} {v:Value} {pre:List (Int × Int)} {p:Int × Int} (h:Pairs 0 w v (pre++[p])):∃ b off cap,v = .slice (some ⟨b,off,none⟩) (pre.length+1) cap∧pre.length+1≤cap∧cap≤9223372036854775807∧b<w.heap.size ∧
  ∀ u,Below w.heap.size w u→u.cell? ⟨b,off+pre.length*2,none⟩=some (.int .i64 p.1)∧u.cell? ⟨b,off+pre.length*2+1,none⟩=some (.int .i64 p.2):=by
 obtain⟨a,cap,hv,h1,h2,h3⟩:=h.form;obtain⟨b,off,rfl,-,hb,hc⟩:=h3 (by simp);have hl:(pre++[p]).length=pre.length+1:=by simp
 rw[hl] at hv h1;obtain⟨c1,c2⟩:=hc pre.length (by simp);have e:(pre++[p]).getD pre.length (0,0)=p:=Zfn;rw[e] at c1 c2;exact⟨b,off,cap,hv,h1,h2,hb,fun u hu=>⟨(bcell hu b _ hb).trans c1,(bcell hu b _ hb).trans c2⟩⟩
theorem Zoc {es:List (Int × Int)} {w:World} {e:Ending} {w':World} (hok:exOk es=true) (h:RSt es es.length w e w'):∃ g b,e = .returned (.tuple #[.slice (some ⟨g,0,none⟩) es.length es.length,.bool b])∧St w w' [Ent.row 3 1 (.slice (some ⟨g,0,none⟩) es.length es.length) es.length (intCells (clsL es.length (begB es)))]:=by
 rcases h with⟨-,g,b,he,-,hS⟩|⟨hbad,-⟩
 ·exact⟨g,b,he,hS⟩
 exact absurd (Zfo.1 hok).1 hbad
theorem Za2 (a b t:Ex) (k l:Int) (ht:t.post=a.post++b.post++[(k,l)]) (hk:Zab (k,l)=2) (v:Value) (w:World) (h60:t.post.length≤60) (h:Pairs 0 w v t.post) :
  Calls Tryz.prog 95 #[v] w fun e w'=>∃ g va vb,e = .returned (.slice (some ⟨g,0,none⟩) 2 2)∧St w w' [Ent.row 23 1 (.slice (some ⟨g,0,none⟩) 2 2) 2 [va,vb]]∧∀ u,Pairs 0 u v t.post→Pairs 0 u va a.post∧Pairs 0 u vb b.post:=by
 have hok:=Zaq t h60;have hst:=qh (ZbT t.post v w (by omega) h);have hbt:=Zo1 a b (k,l);rw[← ht] at hbt;have hP:=h;rw[ht] at hP;obtain⟨bb,off,cap,rfl,hc1,hc2,hb,hcell⟩:=Za7 hP;have hpl:(a.post++b.post).length=a.post.length+b.post.length:=by simp
 have hal:=Zap a;have hbl:=Zap b;have htl:t.post.length=a.post.length+b.post.length+1:=by rw[ht];simp;omega
 rw[hpl] at hc1 hcell hst hP ⊢;have e1:(a.post++b.post++[(k,l)]).take a.post.length=a.post:=by rw[List.append_assoc,List.take_left]
 have e2:(a.post++b.post++[(k,l)]).drop a.post.length=b.post++[(k,l)]:=by rw[List.append_assoc,List.drop_left]
 have hPab:∀ u,Pairs 0 u (.slice (some ⟨bb,off,none⟩) (a.post.length+b.post.length+1) cap) t.post→Pairs 0 u (.slice (some ⟨bb,off,none⟩) a.post.length cap) a.post∧Pairs 0 u (.slice (some ⟨bb,off+a.post.length*2,none⟩) b.post.length (cap-a.post.length)) b.post:=fun u hu=>by
  rw[ht] at hu;have hPa:=hu.take (n:=a.post.length) (by simp);have hPd:=hu.drop (n:=a.post.length) (by simp);rw[e1] at hPa;rw[e2] at hPd;have hPb:=hPd.take (n:=b.post.length) (by simp);rw[List.take_left] at hPb;refine⟨hPa,?_⟩;have e3:a.post.length+b.post.length+1-a.post.length=b.post.length+1:=by omega
  exact hPb
 obtain⟨A,hA⟩:=eI (a.post.length);obtain⟨B,hB⟩:=eI (b.post.length);obtain⟨m,hm⟩:=eI (A+B);rw[← hA,← hB,← hm] at htl hc1 hcell hst hbt;rw[← hA,← hB,← hm] at hPab;rw[← hA] at hal;rw[← hB] at hbl;rw[← hA,← hB,← hm];have hst2:=hst;have Hcell:=qh hcell;have HPab:=qh hPab;have hw1:IntKind.i64.wrap ((m:Int)+1-1)=(m:Int):=by rw[IntWalk.i64_in _ (by omega)];omega
 have hw2:IntKind.i64.wrap ((m:Int)-1)=((m-1:Nat):Int):=by rw[IntWalk.i64_in _ (by omega)];omega
 have hm1:m-1<m+1:=by omega
 have hm2:((m-1:Nat):Int)<(m:Int)+1:=by omega
 have hbeg:(intCells (clsL (m+1) (begB t.post)))[m-1]? = some (.int .i64 (A:Int)):=by rw[Zcr _ (by omega),hbt]
 have Hbeg:=qh hbeg;have hmA:A+1≤m:=by omega
 have hmI:(A:Int)≤(m:Int):=by omega
 replace hm:=qh hm;replace hk:=qh hk;have Hhpl:=qh hpl;clear hpl;have Hhok:=qh hok;clear hok;replace hbt:=qh hbt;have Hhtl:=qh htl;clear htl;replace hA:=qh hA;have HhB:=qh hB;clear hB;have Hht:=qh ht;clear ht;clear hP hPab hcell e1 e2 h hst2 hbeg
 go_enter Tryz.func95, Tryz.ntmps95
 go_wp2_with (go_at_call 51;refine(hst.out).mono ?_;rintro e w1 hR;have h9:=Zoc Hhok.out hR;rw[Hhtl.out] at h9;obtain⟨g,bx,rfl,hS⟩:=h9;have k4:=hS.rcell (v:=.int .i64 (A:Int)) 0 (m-1) rfl (by omega) Hbeg.out;have HS:=qh hS;obtain⟨k2,k3⟩:=Hcell.out _ hS.bel;clear hR hS);refine(ZaF k l _ 2 hk.out (by omega)).mono ?_;rintro e w2 ⟨rfl,hb2⟩;have HS2:=qh (HS.out.call hb2);have k5:=HS2.out.rcell (v:=.int .i64 (A:Int)) 0 (m-1) rfl (by omega) Hbeg.out;have hne:(cap=A)=False:=by simp;omega
 have hBm:B=m-A:=by have:=hm.out;omega
 have hPb:=HPab.out;rw[hBm] at hPb;have HPb2:=qh hPb;have HhBm:=qh hBm;clear hBm;clear k2 k3 k4 hb2 hPb;go_wp2
 go_region
 go_wp2;have hS3:=(HS2.out.alloc w2.heap.size rfl #[.slice (some ⟨bb,off,none⟩) A cap,.slice (some ⟨bb,off+A*2,none⟩) (m-A) (cap-A)] 23).boxrow 1 2 1 [.slice (some ⟨bb,off,none⟩) A cap,.slice (some ⟨bb,off+A*2,none⟩) (m-A) (cap-A)] rfl rfl (by unfold maxLen;omega);go_ret;exact⟨_,_,_,rfl,hS3.drew.pick [1] (by decide),HPb2.out⟩
theorem ZbP (a t:Ex) (k l:Int) (ht:t.post=a.post++[(k,l)]) (hk:Zab (k,l)=1) (v:Value) (w:World) (h60:t.post.length≤60) (h:Pairs 0 w v t.post) :
  Calls Tryz.prog 95 #[v] w fun e w'=>∃ g va,e = .returned (.slice (some ⟨g,0,none⟩) 1 1)∧St w w' [Ent.row 23 1 (.slice (some ⟨g,0,none⟩) 1 1) 1 [va]]∧∀ u,Pairs 0 u v t.post→Pairs 0 u va a.post:=by
 have hok:=Zaq t h60;have hst:=qh (ZbT t.post v w (by omega) h);have hP:=h;rw[ht] at hP;obtain⟨bb,off,cap,rfl,hc1,hc2,hb,hcell⟩:=Za7 hP;have hal:=Zap a;have htl:t.post.length=a.post.length+1:=by rw[ht];simp
 have hPa:∀ u,Pairs 0 u (.slice (some ⟨bb,off,none⟩) (a.post.length+1) cap) t.post→Pairs 0 u (.slice (some ⟨bb,off,none⟩) a.post.length cap) a.post:=fun u hu=>by rw[ht] at hu;have hPa:=hu.take (n:=a.post.length) (by simp);rw[List.take_left] at hPa;exact hPa
 obtain⟨m,hm⟩:=eI (a.post.length);rw[← hm] at htl hc1 hcell hst hPa hal;rw[← hm];have Hcell:=qh hcell;have HPa:=qh hPa;have hw1:IntKind.i64.wrap ((m:Int)+1-1)=(m:Int):=by rw[IntWalk.i64_in _ (by omega)];omega
 replace hk:=qh hk;have Hhok:=qh hok;clear hok;have Hhtl:=qh htl;clear htl;have Hhm:=qh hm;clear hm;have Hht:=qh ht;clear ht;clear hP hPa hcell h
 go_enter Tryz.func95, Tryz.ntmps95
 go_wp2_with (go_at_call 51;refine(hst.out).mono ?_;rintro e w1 hR;have h9:=Zoc Hhok.out hR;rw[Hhtl.out] at h9;obtain⟨g,bx,rfl,hS⟩:=h9;have HS:=qh hS;obtain⟨k2,k3⟩:=Hcell.out _ hS.bel;clear hR hS);refine(ZaF k l _ 1 hk.out (by omega)).mono ?_;rintro e w2 ⟨rfl,hb2⟩;have HS2:=qh (HS.out.call hb2);have hS3:=(HS2.out.alloc w2.heap.size rfl #[.slice (some ⟨bb,off,none⟩) m cap] 23).boxrow 1 1 1 [.slice (some ⟨bb,off,none⟩) m cap] rfl rfl (by unfold maxLen;omega);have HS3:=qh hS3;clear k2 k3 hb2 hS3;go_wp2;go_ret;exact⟨_,_,rfl,HS3.out.pick [1] (by decide),HPa.out⟩
theorem Zbd (t:Ex) (k l:Int) (ht:t.post=[(k,l)]) (hk:Zab (k,l)=0) (v:Value) (w:World) (h:Pairs 0 w v t.post) :
  Calls Tryz.prog 95 #[v] w fun e w'=>e = .returned (.slice none 0 0)∧Below w.heap.size w w':=by
 have htl:t.post.length=1:=by rw[ht];rfl
 have hok:=Zaq t (by omega);have hst:=qh (ZbT t.post v w (by omega) h);rw[ht] at h;obtain⟨bb,off,cap,rfl,hc1,hc2,hb,hcell⟩:=Za7 (pre:=[]) h;simp only[List.length_nil,Nat.zero_add,Nat.zero_mul,Nat.add_zero] at hc1 hcell hst;simp only[List.length_nil,Nat.zero_add];have Hcell:=qh hcell;replace hk:=qh hk;have Hhok:=qh hok;clear hok;have Hhtl:=qh htl;clear htl;have Hht:=qh ht;clear ht;clear hcell h
 go_enter Tryz.func95, Tryz.ntmps95
 go_wp2_with (go_at_call 51;refine(hst.out).mono ?_;rintro e w1 hR;have h9:=Zoc Hhok.out hR;rw[Hhtl.out] at h9;obtain⟨g,bx,rfl,hS⟩:=h9;have HS:=qh hS;obtain⟨k2,k3⟩:=Hcell.out _ hS.bel;clear hR hS);refine(ZaF k l _ 0 hk.out (by omega)).mono ?_;rintro e w2 ⟨rfl,hb2⟩;have HS2:=qh (HS.out.call hb2);clear k2 k3 hb2;go_wp2;go_ret;exact⟨rfl,HS2.out.bel⟩
end Go.Proofs.YtehmjmjedopkkaaGreat
namespace Go.Proofs.YtehmjmjedopkkaaGreat
open Go.RowKit Go.Maps
def Ent.map {α:Type} (kt:Nat) (enc:α→Value) (b:Nat) (M:List (α × Value)):Ent:=⟨fun k=>k=b,fun w=>MapL Tryz.prog kt enc w b M,fun _ _ h hk=>h.kept (hk b rfl)⟩
section
variable {α:Type} {w0 w w':World} {L:List Ent} {kt:Nat} {enc:α→Value} {b:Nat} {M M':List (α × Value)}
theorem St.map (h:St w0 w L) (i:Nat) (hx:L[i]? = some (Ent.map kt enc b M)):MapL Tryz.prog kt enc w b M:=(h.has i _ hx).1
theorem St.mapset (h:St w0 w L) (i:Nat) (hx:L[i]? = some (Ent.map kt enc b M)) (hn:MapL Tryz.prog kt enc w' b M') (hg:w.grownBy w' (some b)):St w0 w' (L.set i (Ent.map kt enc b M')) :=
 h.turn i hx _ hg.os hg.tape hg.output hg.size (fun k hk hne=>hg.block k hk fun e=>hne (show k=b from Option.some.inj e)) hn fun k hk=>by have hk:k=b:=hk;subst hk;exact⟨hn.lt,Or.inl rfl⟩
end
def ZaS (x:Int):Value:=.int .i64 x
theorem ZaL:∀ x y:Int,ZaS x=ZaS y→x=y:=fun x y h=>by simp only[ZaS,Value.int.injEq,true_and] at h;exact h
theorem Tryz.lawInt:Keyed Tryz.prog 3:=int_keyed Tryz.underlying3
theorem Tryz.keyOfInt (x:Int) (hx:fitI x):∃ l,keyOf Tryz.prog 3 (ZaS x)=some l:=⟨_,keyOf_int_mk Tryz.underlying3 (Zj7 hx)⟩
theorem Zcv (w:World):(zeroValue 3).run Tryz.prog w = .ok (.int .i64 0) w:=by kernel_rfl
end Go.Proofs.YtehmjmjedopkkaaGreat
namespace Go.Proofs.YtehmjmjedopkkaaGreat
open Go.RowKit
def endI (S:List Nat) (x:PS):Int:=if x.2.2=true then -1 else((S.length-x.2.1.length:Nat):Int)
def RRs (S:List Nat) (x:PS) (w:World) (e:Ending) (w':World):Prop:=∃ a c,e = .returned (.tuple #[.slice a x.1.length c,.int .i64 (endI S x)])∧St w w' [Ent.row 55 2 (.slice a x.1.length c) x.1.length (x.1.flatMap Zaa)]
theorem RRs.nil (S:List Nat) (q:List Nat) {w w':World} {a:Option Addr} {c:Nat} (hS:St w w' [Ent.row 55 2 (.slice a 0 c) 0 []]):RRs S ([],q,true) w (.returned (.tuple #[.slice a 0 c,.int .i64 (-1)])) w':=⟨a,c,rfl,hS⟩
theorem ZdJ (es:List (Int × Int)) (l:List Nat) (v:Value) (w:World) (r:Bool) (hr:AccO es l r) (h:Pairs 0 w v es) (ht:isT l) (hlen:l.length≤2000000) (hel:es.length≤1000000) :
  Calls Tryz.prog 58 #[v,.string (txB l)] w fun e w'=>e = .returned (.bool r)∧Below w.heap.size w w':=by
 obtain⟨x,hx⟩:=eJ (exOk es);obtain⟨y,hy⟩:=eJ (wdOk l);have Hc1:=qh (fun u (hp:Pairs 0 u v es)=>Zbg es v u (by omega) hp x hx);have Hc2:=qh (fun u=>Zba l u ht hlen y hy);have Hh:=qh h;have Ht:=qh ht;have Hr:=qh hr;replace hx:=qh hx;have Hhy:=qh hy;clear hy;clear ht hr;cases x with
 | false =>
  have hrf:r=false:=by
   rcases Hr.out with⟨h1,-,-⟩|⟨-,h2⟩
   ·rw[hx.out] at h1;cases h1
   exact h2
  subst hrf;clear h
  go_enter Tryz.func58, Tryz.ntmps58
  go_wp2_with fail;refine(Hc1.out _ Hh.out).mono ?_;rintro e w1 ⟨rfl,hb1⟩;go_wp2;go_ret;exact⟨rfl,hb1⟩
 | true =>
  cases y with
  | false =>
   have hrf:r=false:=by
    rcases Hr.out with⟨-,h1,-⟩|⟨-,h2⟩
    ·rw[Hhy.out] at h1;cases h1
    exact h2
   subst hrf;clear h
   go_enter Tryz.func58, Tryz.ntmps58
   go_wp2_with fail;refine(Hc1.out _ Hh.out).mono ?_;rintro e w1 ⟨rfl,hb1⟩;go_wp2_with (go_at_call 32;refine(Hc2.out _).mono ?_;rintro e w' ⟨rfl,rfl⟩);go_ret;exact⟨rfl,hb1⟩
  | true =>
   obtain⟨t,ht1,ht2⟩:∃ t:Ex,t.post=es∧accX l t=r:=by
    rcases Hr.out with⟨-,-,h1⟩|⟨h1|h1,-⟩
    ·exact h1
    ·rw[hx.out] at h1;cases h1
    rw[Hhy.out] at h1;cases h1
   obtain⟨hall,hd1,hn1,hn60⟩:=ZaH hx.out;obtain⟨n,hln⟩:=eJ (l.length);obtain⟨M,hM⟩:=eJ (es.length);obtain⟨m,hm⟩:∃ m,M=m+1:=⟨M-1,by omega⟩;obtain⟨hn8,-⟩:=ZcF Hhy.out;have hsz:=ZbL l;rw[hln] at hsz hn8;have Hc3:=qh (fun u (hp:Pairs 0 u v es)=>Zjf t es l n M v u ht1 hM hx.out hp Ht.out Hhy.out hln)
   have hlast:subT t n l m 0 n=r:=by
    have e1:m=t.post.length-1:=by rw[ht1,hM,hm];rfl
    rw[e1];unfold subT;rw[ZdU,ZcR (Nat.zero_le _) (Nat.le_refl _),← ht2,← hln];rfl
   obtain⟨av,cv,rfl,hc1,hc2,-⟩:=h.form;rw[hM] at hc1 Hc1 Hc3 Hh hn1 hn60;rw[hM];have hwm:IntKind.i64.wrap ((M:Int)-1)=(m:Int):=by rw[IntWalk.i64_in _ (by omega)];omega
   have hmM:(m:Int)<(M:Int):=by omega
   have hmM2:m<M:=by omega
   replace hlast:=qh hlast;have Hhm:=qh hm;clear hm;replace hM:=qh hM;have Hhln:=qh hln;clear hln;clear h ht1 ht2 hall hd1
   go_enter Tryz.func58, Tryz.ntmps58
   go_wp2_with fail;refine(Hc1.out _ Hh.out).mono ?_;rintro e w1 ⟨rfl,hb1⟩;have HB1:=qh hb1;go_wp2_with (first|(go_at_call 32;refine(Hc2.out _).mono ?_;rintro e w' ⟨rfl,rfl⟩)|fail);refine(Hc3.out _ (Hh.out.below HB1.out)).mono ?_;rintro e w2 ⟨a,c,vs,X,rfl,hvs,hTb,hS⟩;obtain⟨g,cap,hg⟩:=hS.rowform 0 rfl (by omega);simp only[Value.slice.injEq] at hg;obtain⟨rfl,-,rfl⟩:=hg;obtain⟨B,c',R,t1,t2,t3⟩:=hS.tab 0 1 (q:=m) rfl rfl hvs hmM2 (hTb m hmM2);have v2:=t2 0 (by omega);have v3:=t3 0 n (by omega) (by omega);rw[hlast.out] at v3;have HBS:=qh (hb1.trans (hS.bel.mono hb1.size));clear hS hTb t2 t3 hb1;go_wp2;go_ret;exact⟨rfl,HBS.out⟩
end Go.Proofs.YtehmjmjedopkkaaGreat
