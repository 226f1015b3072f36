/-
  The walks over the reference's l11Star and l11Join.
  Conditions: the automata are valid and read as such.
-/
import Derived.Test.YtfgpkadhegdffaaGreatPk12Jw
set_option maxHeartbeats 16000000
set_option maxRecDepth 100000
namespace Go.Proofs.YtfgpkadhegdffaaGreat
open Go.RowKit
def RO (o:Option DfaD) (w:World) (e:Ending) (w':World):Prop:=∃ a1 c1 a2 c2,e = .returned (.tuple #[.agg #[.slice a1 (o.getD zeroD).next.length c1,.slice a2 (o.getD zeroD).ends.length c2],.bool o.isSome]) ∧
 DfaR w.heap.size w' (.agg #[.slice a1 (o.getD zeroD).next.length c1,.slice a2 (o.getD zeroD).ends.length c2]) (o.getD zeroD) ∧ Below w.heap.size w w'
theorem zeroD_r (w:World) (B:Nat):DfaR B w (.agg #[.slice none 0 0,.slice none 0 0]) zeroD:=(zeroD_own w B 0 0 0).r
theorem RDetSM.ro {M K:Nat} {n:NfaD} {w:World} {e:Ending} {w':World} (h:RDetSM M n K w.heap.size e w') (hb:Below w.heap.size w w'):RO (detM M K n) w e w':=by
 unfold RDetSM at h
 unfold detM RO
 by_cases hle:(metSM M n K).length ≤ K
 ·rw [if_pos hle] at h
  rw [if_pos hle]
  obtain ⟨an,ln,cn,ae,le,ce,rfl,hown⟩:=h
  obtain ⟨D,hD⟩:∃ D,numDfa (nxSM M n) (enS n) (metSM M n K) = D:=⟨_,rfl⟩
  rw [hD] at hown ⊢
  have hln:ln = D.next.length ∧ le = D.ends.length:=by
   obtain ⟨q1,q2,hq,hd1,hd2⟩:=hown
   simp only [Value.agg.injEq] at hq
   have e1:=congrArg (fun (l:Array Value) => l[0]?) hq
   have e2:=congrArg (fun (l:Array Value) => l[1]?) hq
   simp at e1 e2
   subst e1
   subst e2
   obtain ⟨_,_,h1,-⟩:=hd1.form
   obtain ⟨_,_,h2,-⟩:=hd2.form
   simp only [Value.slice.injEq] at h1 h2
   exact ⟨h1.2.1,h2.2.1⟩
  obtain ⟨rfl,rfl⟩:=hln
  exact ⟨an,cn,ae,ce,rfl,hown,hb⟩
 ·rw [if_neg hle] at h
  rw [if_neg hle]
  subst h
  exact ⟨none,0,none,0,rfl,zeroD_r _ _,hb⟩
theorem map_snocM {l:List Int} {k:Nat} {x:Int} {L:Int} (hk:k < l.length) (hx:x = l.getD k 0):(l.take (k+1)).map (fun e => (e,(-1:Int),L)) = (l.take k).map (fun e => (e,(-1:Int),L)) ++ [(x,-1,L)]:=by
 rw [List.take_succ_eq_append_getElem hk,List.map_append,hx]
 simp [hk]
theorem map_snocA {l:List Int} {k:Nat} {x:Int} {L:Int} (hk:k < l.length) (hx:x = l.getD k 0):(l.take (k+1)).map (fun e => e+L) = (l.take k).map (fun e => e+L) ++ [x+L]:=by
 rw [List.take_succ_eq_append_getElem hk,List.map_append,hx]
 simp [hk]
theorem map_snocS {l:List (Int × Int × Int)} {k:Nat} {x y z:Int} {n:Nat} (hk:k < l.length) (hx:(x,y,z) = l.getD k (0,0,0)):(l.take (k+1)).map (shJ n) = (l.take k).map (shJ n) ++ [(x+(n:Int),y,z+(n:Int))]:=by
 rw [List.take_succ_eq_append_getElem hk,List.map_append]
 have:l[k] = (x,y,z):=by rw [hx];simp [hk]
 rw [List.map_singleton,this]
 rfl
theorem flatMap3 {l:List (Int × Int × Int)} {k:Nat} {d:Int × Int × Int} (hk:k < l.length):(l.flatMap moveCells)[k * 3]? = some (.int .i64 (l.getD k d).1) ∧ (l.flatMap moveCells)[k * 3+1]? = some (.int .i64 (l.getD k d).2.1) ∧ (l.flatMap moveCells)[k * 3+2]? = some (.int .i64 (l.getD k d).2.2):=by
 induction l generalizing k with
 | nil => simp at hk
 | cons x l ih =>
  cases k with
  | zero => simp [moveCells]
  | succ k =>
   have h:=ih (k:=k) (by simpa using hk)
   have e:∀ j,((x :: l).flatMap moveCells)[(k+1) * 3+j]? = (l.flatMap moveCells)[k * 3+j]?:=fun j => by
    rw [List.flatMap_cons,List.getElem?_append_right (by simp [moveCells];omega)]
    congr 1
    simp [moveCells]
    omega
   have e0:=e 0
   rw [Nat.add_zero,Nat.add_zero] at e0
   rw [e0,e 1,e 2]
   simpa using h
theorem l11Star_any (K:Nat) (hK:K = 40) (d:DfaD) (v:Value) (w:World) (hd:dfaOk d.next d.ends = true) (h:DfaR 0 w v d) :
  Calls Tryz.prog 100 #[v] w fun e w' => RO (detM 81 K (wStar d)) w e w':=by
 have H:=qh h
 obtain ⟨b1,o1,cv,b2,o2,cw,rfl,-⟩:=dfa_open hd h
 have hno:=fun (u:World) (hu:Below w.heap.size w u) => specNfaOf_any d _ u hd (H.out.below hu)
 obtain ⟨hl1,hl2,-⟩:=dfaOk_len hd
 obtain ⟨W,hW⟩:∃ W,wStar d = W:=⟨_,rfl⟩
 have hmv:=wStar_mv hd
 have hen:=wStar_ends (a:=d)
 have hws:(⟨(d.next.length:Int)+1,(nfaOf d).moves ++ [((d.next.length:Int),-1,0)] ++ (nfaOf d).ends.map (fun e => (e,-1,(d.next.length:Int))),[(d.next.length:Int)],[(d.next.length:Int)]⟩:NfaD) = wStar d:=rfl
 have hml:(nfaOf d).moves.length = 3 * d.next.length:=mvs_len d _
 have hel:(nfaOf d).ends.length ≤ d.next.length:=eds_len d _
 have hns:(nfaOf d).states = (d.next.length:Int):=rfl
 obtain ⟨N,hN⟩:∃ N,nfaOf d = N:=⟨_,rfl⟩
 obtain ⟨L,hL⟩:∃ L,d.next.length = L:=⟨_,rfl⟩
 rw [hN,hL] at hno hws
 rw [hN] at hml hel hns
 rw [hL] at hl1 hl2 hmv hen hml hel hns
 rw [hW] at hws hmv
 rw [hL,hW]
 obtain ⟨i0,hi,hz0,hz1,hz2⟩:=info_parts Tryz.infoMv
 have hS0:=((St.start w).alloc _ rfl #[.slice (some ⟨b1,o1,none⟩) L cv,.slice (some ⟨b2,o2,none⟩) L cw] 25).alloc (w.heap.size+1) (by simp) #[.slice none 0 0,.slice none 0 0] 25
 have e0:=hS0.cell (v:=.slice (some ⟨b1,o1,none⟩) L cv) 0 0 rfl rfl
 have e1:=hS0.cell (v:=.slice (some ⟨b2,o2,none⟩) L cw) 0 1 rfl rfl
 have Hno:=qh hno
 have HhS0:=qh hS0;clear hS0
 have Hhmv:=qh hmv;clear hmv
 have Hhen:=qh hen;clear hen
 have Hhws:=qh hws;clear hws
 have HhN:=qh hN;clear hN
 have HhL:=qh hL;clear hL
 have HhW:=qh hW;clear hW
 have Hhi:=qh hi;clear hi
 have Hhz0:=qh hz0;clear hz0
 have Hhz1:=qh hz1;clear hz1
 have Hhz2:=qh hz2;clear hz2
 have Hhns:=qh hns;clear hns
 clear hno
 go_enter Tryz.func100, Tryz.ntmps100
 go_wp2_with fail
 refine (Hno.out _ HhS0.out.bel).mono ?_
 rintro e w1 ⟨a1,c1,a2,c2,a3,c3,rfl,hS'⟩
 rw [Hhns.out]
 obtain ⟨P,hP⟩:∃ P,N.moves.length = P:=⟨_,rfl⟩
 obtain ⟨E,hE⟩:∃ E,N.ends.length = E:=⟨_,rfl⟩
 rw [hP] at hml hS'
 have hPle:P ≤ 120:=by omega
 rw [hE] at hel hS'
 rw [hP,hE]
 have hS1:=(HhS0.out.cat hS').alloc _ rfl #[.int .i64 (L:Int),.slice a1 P c1,.slice a2 N.firsts.length c2,.slice a3 E c3] 90
 have d1:=hS1.cell (v:=.slice a1 P c1) 5 1 rfl rfl
 have hS3:=((((hS1.alloc (w1.heap.size+1) (by simp) #[.int .i64 (L:Int)] 3).boxrow 6 1 1 [.int .i64 (L:Int)] rfl rfl (by unfold maxLen;omega)).alloc (w1.heap.size+1+1) (by simp) #[.int .i64 (L:Int)] 3).boxrow 7 1 1 [.int .i64 (L:Int)] rfl rfl (by unfold maxLen;omega)).alloc (w1.heap.size+1+1+1) (by simp) #[.int .i64 ((L:Int)+1),.slice a1 P c1,.slice (some ⟨w1.heap.size+1,0,none⟩) 1 1,.slice (some ⟨w1.heap.size+1+1,0,none⟩) 1 1] 90
 have d2:=hS3.cell (v:=.slice a1 P c1) 8 1 rfl rfl
 have HS4:=qh (hS3.alloc (w1.heap.size+1+1+1+1) (by simp) #[.int .i64 (L:Int),.int .i64 (-1),.int .i64 0] 135)
 have HR:=qh (HS4.out.row 2 rfl)
 have HhP:=qh hP;clear hP
 have HhE:=qh hE;clear hE
 clear hml
 clear hS1 hS3 hS' e0 e1
 go_wp2_with (at_builtin;refine wpList_append_lies _ rfl _ _ _ rfl _ 135 i0 (.agg #[.int .i64 0,.int .i64 0,.int .i64 0]) 3 24 Tryz.underlying88 Hhi.out Hhz0.out Hhz1.out Hhz2.out rfl (by omega) _ P _ rfl HR.out ⟨w1.heap.size+1+1+1+1,0,none⟩ 1 1 [.int .i64 (L:Int),.int .i64 (-1),.int .i64 0] rfl rfl (World.news_of_block (HS4.out.box 9 rfl)) one_mv (by omega) (by unfold maxLen;omega) (by omega) HS4.out.size _ rfl ?_;intro g6 c6 w6 hown6 hgrow6 hat6 hlt6;have HS6:=qh (HS4.out.app 2 rfl hown6 hgrow6 hat6);have y1:=HS6.out.cell (v:=.slice a1 P c1) 8 1 rfl rfl;have y2:=HS6.out.fr 8 1 rfl;clear hown6 hgrow6 hat6 hlt6)
 have hS7:=(HS6.out.set 8 rfl 1 (.slice (some ⟨g6,0,none⟩) (P+1) c6)).pick [0,1,5,8,2,4,6,7] (by decide)
 have HS7:=qh hS7
 clear hS7 d1 d2 y1 y2
 go_loopw [7] (fun i wr => ∃ (k:Nat) (q1:Option Addr) (t1:Nat),i = .int .i64 k ∧ k ≤ E ∧ St w wr [Ent.box w.heap.size #[.slice (some ⟨b1,o1,none⟩) L cv,.slice (some ⟨b2,o2,none⟩) L cw] 25,Ent.box (w.heap.size+1) #[.slice none 0 0,.slice none 0 0] 25,Ent.box w1.heap.size #[.int .i64 (L:Int),.slice a1 P c1,.slice a2 N.firsts.length c2,.slice a3 E c3] 90,Ent.box (w1.heap.size+1+1+1) #[.int .i64 ((L:Int)+1),.slice q1 (P+1+k) t1,.slice (some ⟨w1.heap.size+1,0,none⟩) 1 1,.slice (some ⟨w1.heap.size+1+1,0,none⟩) 1 1] 90,
   Ent.row 135 3 (.slice q1 (P+1+k) t1) (P+1+k) ((N.moves ++ [((L:Int),(-1:Int),(0:Int))] ++ (N.ends.take k).map (fun e => (e,(-1:Int),(L:Int)))).flatMap moveCells),Ent.row 3 1 (.slice a3 E c3) E (intCells N.ends),Ent.row 3 1 (.slice (some ⟨w1.heap.size+1,0,none⟩) 1 1) 1 [.int .i64 (L:Int)],Ent.row 3 1 (.slice (some ⟨w1.heap.size+1+1,0,none⟩) 1 1) 1 [.int .i64 (L:Int)]]) (fun i _ => E - (intOf i).toNat)
 case atStart =>
  refine ⟨0,some ⟨g6,0,none⟩,c6,rfl,Nat.zero_le _,?_⟩
  have h:=HS7.out
  rw [List.take_zero,List.map_nil,List.append_nil,flatM_snoc]
  exact h
 case round =>
  obtain ⟨k,q1,t1,rfl,hk,hS⟩:=hrel
  have e9:=hS.cell (v:=.slice a3 E c3) 2 3 rfl rfl
  by_cases hlt:k < E
  ·have hlt2:(k:Int) < E:=by omega
   have hkn:k < N.ends.length:=by have:=HhE.out;omega
   obtain ⟨g3,c3',hv⟩:=hS.rowform 5 rfl (by omega)
   simp only [Value.slice.injEq,true_and] at hv
   obtain ⟨rfl,rfl⟩:=hv
   obtain ⟨p0,hp⟩:∃ p,p = N.ends.getD k 0:=⟨_,rfl⟩
   have hc0:(intCells N.ends)[k]? = some (.int .i64 p0):=by rw [hp];simp [intCells,hkn]
   have hsn:=map_snocM (L:=(L:Int)) hkn hp
   have HC0:=qh hc0
   have HSq:=qh hS
   have Hhp:=qh hp;clear hp
   have Hhsn:=qh hsn;clear hsn
   clear hS hc0
   go_wp2
   refine wp_region_any (by kernel_rfl) ?_
   refine wpAny_invA (fun A listed a w' => ∃ (l0 l1 l2 l3 l4 l5 l6 l7 l8 l9 l10 l11 l12:Bool) (g7:Nat) (c7:Nat) (bn:Nat),listed = #[l0,l1,l2,l3,l4,l5,l6,l7,l8,l9,l10,l11,l12] ∧ (l10 = true → l1 = true ∧ l9 = true) ∧ (l12 = true → l10 = true ∧ l1 = true) ∧
     a = ⟨((((((((((((A.tmps.setIfInBounds 36 (if l0 = true then .pointer (some ⟨w1.heap.size+1+1+1,1,none⟩) else A.tmps.getD 36 undef)).setIfInBounds 37 (if l1 = true then .slice q1 (P+1+k) t1 else A.tmps.getD 37 undef)).setIfInBounds 38 (if l2 = true then .pointer (some ⟨w1.heap.size,3,none⟩) else A.tmps.getD 38 undef)).setIfInBounds 39 (if l3 = true then .slice (some ⟨g3,0,none⟩) E c3 else A.tmps.getD 39 undef)).setIfInBounds 40 (if l4 = true then .int .i64 (k:Int) else A.tmps.getD 40 undef)).setIfInBounds 41 (if l5 = true then .pointer (some ⟨g3,k,none⟩) else A.tmps.getD 41 undef)).setIfInBounds 42 (if l6 = true then .int .i64 p0 else A.tmps.getD 42 undef)).setIfInBounds 43 (if l7 = true then .int .i64 (L:Int) else A.tmps.getD 43 undef)).setIfInBounds 44 (if l8 = true then .agg #[.int .i64 p0,.int .i64 (-1),.int .i64 (L:Int)] else A.tmps.getD 44 undef)).setIfInBounds 45 (if l9 = true then .slice (some ⟨bn,0,none⟩) 1 1 else A.tmps.getD 45 undef)).setIfInBounds 46 (if l10 = true then .slice (some ⟨g7,0,none⟩) ((P+1+k)+1) c7 else A.tmps.getD 46 undef)).setIfInBounds 47 (if l11 = true then .pointer (some ⟨w1.heap.size+1+1+1,1,none⟩) else A.tmps.getD 47 undef)),A.defers⟩ ∧
     St w w' [Ent.box w.heap.size #[.slice (some ⟨b1,o1,none⟩) L cv,.slice (some ⟨b2,o2,none⟩) L cw] 25,Ent.box (w.heap.size+1) #[.slice none 0 0,.slice none 0 0] 25,Ent.box w1.heap.size #[.int .i64 (L:Int),.slice a1 P c1,.slice a2 N.firsts.length c2,.slice (some ⟨g3,0,none⟩) E c3] 90,Ent.box (w1.heap.size+1+1+1) #[.int .i64 ((L:Int)+1),(if l12 = true then .slice (some ⟨g7,0,none⟩) ((P+1+k)+1) c7 else .slice q1 (P+1+k) t1),.slice (some ⟨w1.heap.size+1,0,none⟩) 1 1,.slice (some ⟨w1.heap.size+1+1,0,none⟩) 1 1] 90,(if l10 = true then Ent.row 135 3 (.slice (some ⟨g7,0,none⟩) ((P+1+k)+1) c7) ((P+1+k)+1) (((N.moves ++ [((L:Int),(-1:Int),(0:Int))] ++ (N.ends.take k).map (fun e => (e,(-1:Int),(L:Int)))).flatMap moveCells) ++ [.int .i64 p0,.int .i64 (-1),.int .i64 (L:Int)]) else Ent.row 135 3 (.slice q1 (P+1+k) t1) (P+1+k) ((N.moves ++ [((L:Int),(-1:Int),(0:Int))] ++ (N.ends.take k).map (fun e => (e,(-1:Int),(L:Int)))).flatMap moveCells)),Ent.row 3 1 (.slice (some ⟨g3,0,none⟩) E c3) E (intCells N.ends),Ent.row 3 1 (.slice (some ⟨w1.heap.size+1,0,none⟩) 1 1) 1 [.int .i64 (L:Int)],Ent.row 3 1 (.slice (some ⟨w1.heap.size+1+1,0,none⟩) 1 1) 1 [.int .i64 (L:Int)],(if l9 = true then Ent.box bn #[.int .i64 p0,.int .i64 (-1),.int .i64 (L:Int)] 135 else Ent.nil)]) ?_ ?_ ?_
   ·rintro listed a w' ⟨l0,l1,l2,l3,l4,l5,l6,l7,l8,l9,l10,l11,l12,g7,c7,bn,rfl,hd10,hd12,rfl,hS⟩ i hi
    obtain ⟨hun,o,ho,hall⟩:=mem_ready.1 hi
    have hlt:=(Array.getElem?_eq_some_iff.1 ho).1
    refine wpOp_step ho (fun K hK => ?_)
    clear hi
    have HS:=qh hS
    clear hS
    simp only [List.setIfInBounds_toArray,List.set_cons_zero,List.set_cons_succ,Array.getD_eq_getD_getElem?,List.getElem?_toArray,List.getElem?_cons_zero,List.getElem?_cons_succ,Option.getD_some]
    obtain h | h | h | h | h | h | h | h | h | h | h | h | h:i = 0 ∨ i = 1 ∨ i = 2 ∨ i = 3 ∨ i = 4 ∨ i = 5 ∨ i = 6 ∨ i = 7 ∨ i = 8 ∨ i = 9 ∨ i = 10 ∨ i = 11 ∨ i = 12:=by simp at hlt;omega
    all_goals subst h
    all_goals simp only [List.getElem?_toArray,List.getElem?_cons_zero,List.getElem?_cons_succ,Option.some.injEq] at ho
    all_goals subst ho
    all_goals simp [Region.binds] at hun hall
    ·subst hun
     go_simp
     exact hK _ _ ⟨true,l1,l2,l3,l4,l5,l6,l7,l8,l9,l10,l11,l12,g7,c7,bn,rfl,hd10,hd12,(by simp),HS.out⟩
    ·obtain rfl:=hall
     subst hun
     obtain rfl:l10 = false:=offL hd10 rfl
     obtain rfl:l12 = false:=offL hd12 rfl
     have e0:=HS.out.cell (v:=.slice q1 (P+1+k) t1) 3 1 rfl rfl
     go_simp
     exact hK _ _ ⟨true,true,l2,l3,l4,l5,l6,l7,l8,l9,false,l11,false,g7,c7,bn,rfl,by simp,by simp,(by simp),HS.out⟩
    ·subst hun
     go_simp
     exact hK _ _ ⟨l0,l1,true,l3,l4,l5,l6,l7,l8,l9,l10,l11,l12,g7,c7,bn,rfl,hd10,hd12,(by simp),HS.out⟩
    ·obtain rfl:=hall
     subst hun
     have e0:=HS.out.cell (v:=.slice (some ⟨g3,0,none⟩) E c3) 2 3 rfl rfl
     go_simp
     exact hK _ _ ⟨l0,l1,true,true,l4,l5,l6,l7,l8,l9,l10,l11,l12,g7,c7,bn,rfl,hd10,hd12,(by simp),HS.out⟩
    ·subst hun
     go_simp
     exact hK _ _ ⟨l0,l1,l2,l3,true,l5,l6,l7,l8,l9,l10,l11,l12,g7,c7,bn,rfl,hd10,hd12,(by simp),HS.out⟩
    ·obtain ⟨rfl,rfl⟩:=hall
     subst hun
     go_simp
     exact hK _ _ ⟨l0,l1,l2,true,true,true,l6,l7,l8,l9,l10,l11,l12,g7,c7,bn,rfl,hd10,hd12,(by simp),HS.out⟩
    ·obtain rfl:=hall
     subst hun
     have e0:=HS.out.rcell (v:=.int .i64 p0) 5 k rfl (by omega) HC0.out
     go_simp
     exact hK _ _ ⟨l0,l1,l2,l3,l4,true,true,l7,l8,l9,l10,l11,l12,g7,c7,bn,rfl,hd10,hd12,(by simp),HS.out⟩
    ·subst hun
     go_simp
     exact hK _ _ ⟨l0,l1,l2,l3,l4,l5,l6,true,l8,l9,l10,l11,l12,g7,c7,bn,rfl,hd10,hd12,(by simp),HS.out⟩
    ·obtain ⟨rfl,rfl⟩:=hall
     subst hun
     go_simp
     exact hK _ _ ⟨l0,l1,l2,l3,l4,l5,true,true,true,l9,l10,l11,l12,g7,c7,bn,rfl,hd10,hd12,(by simp),HS.out⟩
    ·obtain rfl:=hall
     subst hun
     obtain rfl:l10 = false:=offR hd10 rfl
     obtain rfl:l12 = false:=offL hd12 rfl
     have hS2:=(HS.out.alloc _ rfl #[.int .i64 p0,.int .i64 (-1),.int .i64 (L:Int)] 135).pick [0,1,2,3,4,5,6,7,9] (by decide)
     have HhS2:=qh hS2;clear hS2
     go_simp
     exact hK _ _ ⟨l0,l1,l2,l3,l4,l5,l6,l7,true,true,false,l11,false,g7,c7,_,rfl,by simp,by simp,(by simp),HhS2.out⟩
    ·obtain ⟨rfl,rfl⟩:=hall
     subst hun
     obtain rfl:l12 = false:=offL hd12 rfl
     refine step_append_lies (a:=⟨_,_⟩) _ (by rfl) _ _ _ (by rfl) w.heap.size 135 i0 (.agg #[.int .i64 0,.int .i64 0,.int .i64 0]) 3 24 Tryz.underlying88 Hhi.out Hhz0.out Hhz1.out Hhz2.out (by rfl) (by omega) (.slice q1 (P+1+k) t1) (P+1+k) ((N.moves ++ [((L:Int),(-1:Int),(0:Int))] ++ (N.ends.take k).map (fun e => (e,(-1:Int),(L:Int)))).flatMap moveCells) (by rfl) (HS.out.row 4 rfl) ⟨bn,0,none⟩ 1 1 [.int .i64 p0,.int .i64 (-1),.int .i64 (L:Int)] (by rfl) (by rfl) (World.news_of_block (HS.out.box 8 rfl)) one_mv (by omega) (by unfold maxLen;omega) (by omega) HS.out.size _ rfl ?_
     intro g8 c8 w8 hown8 hgrow8 hat8 hlt8
     have HS8:=qh (HS.out.app 4 rfl hown8 hgrow8 hat8)
     clear hown8 hgrow8 hat8
     go_simp
     exact hK _ _ ⟨l0,true,l2,l3,l4,l5,l6,l7,l8,true,true,l11,false,g8,c8,bn,rfl,by simp,by simp,(by simp),HS8.out⟩
    ·obtain ⟨rfl,rfl,rfl,rfl,rfl,rfl,rfl,rfl,rfl,rfl,rfl⟩:=hall
     subst hun
     go_simp
     exact hK _ _ ⟨true,true,true,true,true,true,true,true,true,true,true,true,l12,g7,c7,bn,rfl,by simp,hd12,(by simp only [↓reduceIte,List.setIfInBounds_toArray,List.set_cons_zero,List.set_cons_succ]),HS.out⟩
    ·obtain ⟨rfl,rfl,rfl,rfl,rfl,rfl,rfl,rfl,rfl,rfl,rfl,rfl,-⟩:=hall
     subst hun
     have f0:=HS.out.fr 3 1 rfl
     have k0:=HS.out.cell (v:=.slice q1 (P+1+k) t1) 3 1 rfl rfl
     go_simp
     exact hK _ _ ⟨true,true,true,true,true,true,true,true,true,true,true,true,true,g7,c7,bn,rfl,by simp,by simp,(by simp only [↓reduceIte,List.setIfInBounds_toArray,List.set_cons_zero,List.set_cons_succ]),(HS.out.set 3 rfl 1 (.slice (some ⟨g7,0,none⟩) ((P+1+k)+1) c7))⟩
   ·rintro listed a w' ⟨l0,l1,l2,l3,l4,l5,l6,l7,l8,l9,l10,l11,l12,g7,c7,bn,rfl,hd10,hd12,rfl,hS⟩ hr
    have hall:=ready_nil (by kernel_rfl) rfl hr
    obtain rfl:l0 = true:=by simpa using hall 0 (by simp)
    obtain rfl:l1 = true:=by simpa using hall 1 (by simp)
    obtain rfl:l2 = true:=by simpa using hall 2 (by simp)
    obtain rfl:l3 = true:=by simpa using hall 3 (by simp)
    obtain rfl:l4 = true:=by simpa using hall 4 (by simp)
    obtain rfl:l5 = true:=by simpa using hall 5 (by simp)
    obtain rfl:l6 = true:=by simpa using hall 6 (by simp)
    obtain rfl:l7 = true:=by simpa using hall 7 (by simp)
    obtain rfl:l8 = true:=by simpa using hall 8 (by simp)
    obtain rfl:l9 = true:=by simpa using hall 9 (by simp)
    obtain rfl:l10 = true:=by simpa using hall 10 (by simp)
    obtain rfl:l11 = true:=by simpa using hall 11 (by simp)
    obtain rfl:l12 = true:=by simpa using hall 12 (by simp)
    clear hall hr hd10 hd12
    simp only [↓reduceIte] at hS ⊢
    simp only [List.setIfInBounds_toArray,List.set_cons_zero,List.set_cons_succ]
    have hS9:=hS.pick [0,1,2,3,4,5,6,7] (by decide)
    have HhS9:=qh hS9;clear hS9
    clear hS
    go_wp2
    go_roundw
    case rel =>
     refine ⟨k+1,some ⟨g7,0,none⟩,c7,by go_num,by omega,?_⟩
     rw [Hhsn.out,← List.append_assoc,flatM_snoc]
     exact HhS9.out
    case measure => simp [intOf];omega
   ·refine ⟨false,false,false,false,false,false,false,false,false,false,false,false,false,0,0,0,rfl,by simp,by simp,(by simp),?_⟩
    exact HSq.out.drew.pick [0,1,2,3,4,5,6,7,8] (by decide)
  ·obtain rfl:E = k:=by omega
   rw [show (N.ends.take E) = N.ends from List.take_of_length_le (by have:=HhE.out;omega)] at hS
   have r0:=hS.cell (v:=.int .i64 ((L:Int)+1)) 3 0 rfl rfl
   have r1:=hS.cell (v:=.slice q1 (P+1+E) t1) 3 1 rfl rfl
   have r2:=hS.cell (v:=.slice (some ⟨w1.heap.size+1,0,none⟩) 1 1) 3 2 rfl rfl
   have r3:=hS.cell (v:=.slice (some ⟨w1.heap.size+1+1,0,none⟩) 1 1) 3 3 rfl rfl
   have hrow:=hS.row 4 rfl
   have hWm:W.moves = N.moves ++ [((L:Int),(-1:Int),(0:Int))] ++ N.ends.map (fun e => (e,(-1:Int),(L:Int))):=by rw [← Hhws.out]
   have hWl:W.moves.length = P+1+E:=by rw [hWm];simp only [List.length_append,List.length_map,List.length_cons,List.length_nil,HhP.out,HhE.out]
   rw [← hWm,← hWl] at hrow
   have hdet:=l9DfaM_any 81 (by omega) (L+1) K hK W.moves [(L:Int)] [(L:Int)] _ _ _ wr (by omega) Hhmv.out (by omega) Hhen.out (by simp) Hhen.out (by simp) (moves_of_row hrow) (hS.intsR (xs:=[(L:Int)]) 6 rfl) (hS.intsR (xs:=[(L:Int)]) 7 rfl)
   rw [show (((L+1:Nat):Int)) = (L:Int)+1 from rfl,show (⟨(L:Int)+1,W.moves,[(L:Int)],[(L:Int)]⟩:NfaD) = W by rw [hWm];exact Hhws.out,hWl] at hdet
   have Hdet:=qh hdet
   have hB1:=(hS.boxlt 1 rfl).2
   have HS8:=qh hS
   have HhWm:=qh hWm;clear hWm
   have HhWl:=qh hWl;clear hWl
   clear hS hrow hdet
   go_wp2_with fail
   refine Hdet.out.mono ?_
   rintro e w9 ⟨hr,hb9⟩
   obtain ⟨x1,y1,x2,y2,rfl,hdr,-⟩:=hr.ro hb9
   obtain ⟨o,ho⟩:∃ o,detM 81 K W = o:=⟨_,rfl⟩
   rw [ho] at hdr
   rw [ho]
   have hS9:=HS8.out.call hb9
   have f0:=hS9.fr 1 0 rfl
   have f1:=hS9.fr 1 1 rfl
   have k0:=hS9.cell (v:=.slice none 0 0) 1 0 rfl rfl
   have k1:=hS9.cell (v:=.slice none 0 0) 1 1 rfl rfl
   have HS9:=qh hS9
   have HDr:=qh hdr
   have hsz:=HS8.out.size
   clear hS9 hr hb9 hdr r0 r1 r2 r3 e9
   go_wp2
   have hq:=(HS9.out.set 1 rfl 0 (.slice x1 (o.getD zeroD).next.length y1)).set 1 rfl 1 (.slice x2 (o.getD zeroD).ends.length y2)
   have q0:=hq.cell (v:=.slice x1 (o.getD zeroD).next.length y1) 1 0 rfl rfl
   have q1':=hq.cell (v:=.slice x2 (o.getD zeroD).ends.length y2) 1 1 rfl rfl
   refine bodyPost_ret (v:=.tuple #[.agg #[.slice x1 (o.getD zeroD).next.length y1,.slice x2 (o.getD zeroD).ends.length y2],.bool o.isSome]) (by simp [results,Tryz.results100,go_sem,q0,q1']) rfl ?_
   rw [ho]
   exact ⟨_,_,_,_,rfl,((HDr.out.far hB1 0 _).far hB1 1 _).mono (by omega),hq.bel⟩
theorem l11Join_any (K:Nat) (hK:K = 40) (d g:DfaD) (v u:Value) (w:World) (hd:dfaOk d.next d.ends = true) (hg:dfaOk g.next g.ends = true) (h:DfaR 0 w v d) (h':DfaR 0 w u g) :
  Calls Tryz.prog 98 #[v,u] w fun e w' => RO (detM 81 K (wJoin d g)) w e w':=by
 have H:=qh h
 have H':=qh h'
 obtain ⟨b1,o1,cv,b2,o2,cw,rfl,-⟩:=dfa_open hd h
 obtain ⟨b3,o3,cx,b4,o4,cy,rfl,-⟩:=dfa_open hg h'
 have hno:=fun (z:World) (hz:Below w.heap.size w z) => specNfaOf_any d _ z hd (H.out.below hz)
 have hng:=fun (z:World) (hz:Below w.heap.size w z) => specNfaOf_any g _ z hg (H'.out.below hz)
 obtain ⟨hl1,hl2,-⟩:=dfaOk_len hd
 obtain ⟨hl3,hl4,-⟩:=dfaOk_len hg
 obtain ⟨W,hW⟩:∃ W,wJoin d g = W:=⟨_,rfl⟩
 have hmv:=wJoin_mv hd hg
 have hen:=wJoin_ends (a:=d) (b:=g)
 have hfi:=wJoin_firsts (b:=g) hd
 have hmg:=mvs_in hg _ (Nat.le_refl _)
 have heg:=eds_in g g.next.length
 have hws:(⟨(d.next.length:Int)+(g.next.length:Int),(nfaOf d).moves ++ (nfaOf g).moves.map (shJ d.next.length) ++ (nfaOf d).ends.map (fun e => (e,-1,(d.next.length:Int))),[0],(nfaOf g).ends.map (fun e => e+(d.next.length:Int))⟩:NfaD) = wJoin d g:=rfl
 have hml:(nfaOf d).moves.length = 3 * d.next.length:=mvs_len d _
 have hel:(nfaOf d).ends.length ≤ d.next.length:=eds_len d _
 have hns:(nfaOf d).states = (d.next.length:Int):=rfl
 have hml':(nfaOf g).moves.length = 3 * g.next.length:=mvs_len g _
 have hel':(nfaOf g).ends.length ≤ g.next.length:=eds_len g _
 have hns':(nfaOf g).states = (g.next.length:Int):=rfl
 obtain ⟨N,hN⟩:∃ N,nfaOf d = N:=⟨_,rfl⟩
 obtain ⟨M,hM⟩:∃ M,nfaOf g = M:=⟨_,rfl⟩
 obtain ⟨L,hL⟩:∃ L,d.next.length = L:=⟨_,rfl⟩
 obtain ⟨G,hG⟩:∃ G,g.next.length = G:=⟨_,rfl⟩
 have hmM:∀ x ∈ M.moves,(0 ≤ x.1 ∧ x.1 < (G:Int)) ∧ 0 ≤ x.2.2 ∧ x.2.2 < (G:Int):=by rw [← hM,← hG];exact hmg
 have heM:∀ x ∈ M.ends,0 ≤ x ∧ x < (G:Int):=by rw [← hM,← hG];exact heg
 rw [hN,hL] at hno
 rw [hM,hG] at hng
 rw [hN,hM,hL,hG,hW] at hws
 rw [hN,hL] at hml hel hns
 rw [hM,hG] at hml' hel' hns'
 rw [hL] at hl1 hl2 hmv hen hfi
 rw [hG] at hl3 hl4 hmv hen hfi
 rw [hW] at hmv hen
 rw [hL,hG,hW]
 obtain ⟨i0,hi,hz0,hz1,hz2⟩:=info_parts Tryz.infoMv
 obtain ⟨j0,hj,hy0,hy1,hy2⟩:=info_parts Tryz.infoInt
 have hS0:=(((St.start w).alloc _ rfl #[.slice (some ⟨b1,o1,none⟩) L cv,.slice (some ⟨b2,o2,none⟩) L cw] 25).alloc (w.heap.size+1) (by simp) #[.slice (some ⟨b3,o3,none⟩) G cx,.slice (some ⟨b4,o4,none⟩) G cy] 25).alloc (w.heap.size+1+1) (by simp) #[.slice none 0 0,.slice none 0 0] 25
 have e0:=hS0.cell (v:=.slice (some ⟨b1,o1,none⟩) L cv) 0 0 rfl rfl
 have e1:=hS0.cell (v:=.slice (some ⟨b2,o2,none⟩) L cw) 0 1 rfl rfl
 have Hno:=qh hno
 have Hng:=qh hng
 have HmM:=qh hmM
 have HeM:=qh heM
 have HhS0:=qh hS0;clear hS0
 have Hhmv:=qh hmv;clear hmv
 have Hhen:=qh hen;clear hen
 have Hhfi:=qh hfi;clear hfi
 have Hhws:=qh hws;clear hws
 have HhN:=qh hN;clear hN
 have HhM:=qh hM;clear hM
 have HhL:=qh hL;clear hL
 have HhG:=qh hG;clear hG
 have HhW:=qh hW;clear hW
 have Hhi:=qh hi;clear hi
 have Hhz0:=qh hz0;clear hz0
 have Hhz1:=qh hz1;clear hz1
 have Hhz2:=qh hz2;clear hz2
 have Hhj:=qh hj;clear hj
 have Hhy0:=qh hy0;clear hy0
 have Hhy1:=qh hy1;clear hy1
 have Hhy2:=qh hy2;clear hy2
 have Hhns:=qh hns;clear hns
 have Hhns':=qh hns';clear hns'
 clear hno hng hmg heg hmM heM
 go_enter Tryz.func98, Tryz.ntmps98
 go_wp2_with fail
 refine (Hno.out _ HhS0.out.bel).mono ?_
 rintro e w1 ⟨a1,c1,a2,c2,a3,c3,rfl,hS'⟩
 rw [Hhns.out]
 obtain ⟨P,hP⟩:∃ P,N.moves.length = P:=⟨_,rfl⟩
 obtain ⟨E,hE⟩:∃ E,N.ends.length = E:=⟨_,rfl⟩
 rw [hP] at hml hS'
 have hPle:P ≤ 120:=by omega
 rw [hE] at hel hS'
 rw [hP,hE]
 have hS1:=(HhS0.out.cat hS').alloc _ rfl #[.int .i64 (L:Int),.slice a1 P c1,.slice a2 N.firsts.length c2,.slice a3 E c3] 90
 have HS1:=qh hS1
 have d0:=hS1.cell (v:=.slice (some ⟨b3,o3,none⟩) G cx) 1 0 rfl rfl
 have d1:=hS1.cell (v:=.slice (some ⟨b4,o4,none⟩) G cy) 1 1 rfl rfl
 have HhP:=qh hP;clear hP
 have HhE:=qh hE;clear hE
 clear hml
 clear hS1 hS' e0 e1
 go_wp2_with fail
 refine (Hng.out _ HS1.out.bel).mono ?_
 rintro e w2 ⟨x1,y1,x2,y2,x3,y3,rfl,hS'⟩
 rw [Hhns'.out]
 obtain ⟨P2,hP2⟩:∃ P,M.moves.length = P:=⟨_,rfl⟩
 obtain ⟨E2,hE2⟩:∃ E,M.ends.length = E:=⟨_,rfl⟩
 rw [hP2] at hml' hS'
 have hP2le:P2 ≤ 120:=by omega
 rw [hE2] at hel' hS'
 rw [hP2,hE2]
 have hS2:=(HS1.out.cat hS').alloc _ rfl #[.int .i64 (G:Int),.slice x1 P2 y1,.slice x2 M.firsts.length y2,.slice x3 E2 y3] 90
 have d3:=hS2.cell (v:=.slice (some ⟨b3,o3,none⟩) G cx) 1 0 rfl rfl
 have d4:=hS2.cell (v:=.slice a1 P c1) 6 1 rfl rfl
 have hS3:=((hS2.alloc (w2.heap.size+1) (by simp) #[.int .i64 0] 3).boxrow 11 1 1 [.int .i64 0] rfl rfl (by unfold maxLen;omega)).alloc (w2.heap.size+1+1) (by simp) #[.int .i64 ((L:Int)+(G:Int)),.slice a1 P c1,.slice (some ⟨w2.heap.size+1,0,none⟩) 1 1,.slice none 0 0] 90
 have HS3:=qh ((hS3.nilRow 3 1).pick [0,1,2,6,10,12,3,5,7,9,11,13] (by decide))
 have w3:IntKind.i64.wrap ((L:Int)+(G:Int)) = (L:Int)+(G:Int):=IntWalk.i64_in _ (by omega)
 have HhP2:=qh hP2;clear hP2
 have HhE2:=qh hE2;clear hE2
 clear hml'
 clear hS2 hS3 hS' d0 d1
 go_wp2
 clear d3 d4
 go_loopw [10] (fun i wr => ∃ (k:Nat) (q1:Option Addr) (t1:Nat),i = .int .i64 k ∧ k ≤ P2 ∧ St w wr [Ent.box w.heap.size #[.slice (some ⟨b1,o1,none⟩) L cv,.slice (some ⟨b2,o2,none⟩) L cw] 25,Ent.box (w.heap.size+1) #[.slice (some ⟨b3,o3,none⟩) G cx,.slice (some ⟨b4,o4,none⟩) G cy] 25,Ent.box (w.heap.size+1+1) #[.slice none 0 0,.slice none 0 0] 25,Ent.box w1.heap.size #[.int .i64 (L:Int),.slice a1 P c1,.slice a2 N.firsts.length c2,.slice a3 E c3] 90,Ent.box w2.heap.size #[.int .i64 (G:Int),.slice x1 P2 y1,.slice x2 M.firsts.length y2,.slice x3 E2 y3] 90,Ent.box (w2.heap.size+1+1) #[.int .i64 ((L:Int)+(G:Int)),.slice q1 (P+k) t1,.slice (some ⟨w2.heap.size+1,0,none⟩) 1 1,.slice none 0 0] 90,
   Ent.row 135 3 (.slice q1 (P+k) t1) (P+k) ((N.moves ++ (M.moves.take k).map (shJ L)).flatMap moveCells),Ent.row 3 1 (.slice a3 E c3) E (intCells N.ends),Ent.row 135 3 (.slice x1 P2 y1) P2 (M.moves.flatMap moveCells),Ent.row 3 1 (.slice x3 E2 y3) E2 (intCells M.ends),Ent.row 3 1 (.slice (some ⟨w2.heap.size+1,0,none⟩) 1 1) 1 [.int .i64 0],Ent.row 3 1 (.slice none 0 0) 0 []]) (fun i _ => P2 - (intOf i).toNat)
 case atStart =>
  refine ⟨0,a1,c1,rfl,Nat.zero_le _,?_⟩
  have h:=HS3.out
  rw [List.take_zero,List.map_nil,List.append_nil]
  exact h
 case round =>
  obtain ⟨k,q1,t1,rfl,hk,hS⟩:=hrel
  have e9:=hS.cell (v:=.slice x1 P2 y1) 4 1 rfl rfl
  by_cases hlt:k < P2
  ·have hlt2:(k:Int) < P2:=by omega
   have hkn:k < M.moves.length:=by have:=HhP2.out;omega
   obtain ⟨g3,c3',hv⟩:=hS.rowform 8 rfl (by omega)
   simp only [Value.slice.injEq,true_and] at hv
   obtain ⟨rfl,rfl⟩:=hv
   have hin:=HmM.out _ (memD (d:=(0,0,0)) hkn)
   obtain ⟨p,hp⟩:∃ p,p = M.moves.getD k (0,0,0):=⟨_,rfl⟩
   have hfm:=flatMap3 (d:=(0,0,0)) hkn
   rw [← hp] at hin hfm
   obtain ⟨p0,p1,p2⟩:=p
   simp only at hin hfm
   obtain ⟨⟨i1,i2⟩,i3,i4⟩:=hin
   have m0:=hS.rcell (v:=.int .i64 p0) 8 (k * 3) rfl (by omega) hfm.1
   have m1:=hS.rcell (v:=.int .i64 p1) 8 (k * 3+1) rfl (by omega) hfm.2.1
   have m2:=hS.rcell (v:=.int .i64 p2) 8 (k * 3+2) rfl (by omega) hfm.2.2
   have hsn:=map_snocS (n:=L) hkn hp
   have v0:IntKind.i64.wrap (p0+(L:Int)) = p0+(L:Int):=IntWalk.i64_in _ (by omega)
   have v2:IntKind.i64.wrap (p2+(L:Int)) = p2+(L:Int):=IntWalk.i64_in _ (by omega)
   have hSa:=hS.alloc _ rfl #[.int .i64 p0,.int .i64 p1,.int .i64 p2] 135
   have d5:=hSa.cell (v:=.slice q1 (P+k) t1) 5 1 rfl rfl
   have HS4:=qh (hSa.alloc (wr.heap.size+1) (by simp) #[.int .i64 (p0+(L:Int)),.int .i64 p1,.int .i64 (p2+(L:Int))] 135)
   have HR:=qh (HS4.out.row 6 rfl)
   have Hhp:=qh hp;clear hp
   have Hhsn:=qh hsn;clear hsn
   clear hS hSa hfm
   go_wp2_with (at_builtin;refine wpList_append_lies _ rfl _ _ _ rfl _ 135 i0 (.agg #[.int .i64 0,.int .i64 0,.int .i64 0]) 3 24 Tryz.underlying88 Hhi.out Hhz0.out Hhz1.out Hhz2.out rfl (by omega) _ (P+k) _ rfl HR.out ⟨wr.heap.size+1,0,none⟩ 1 1 [.int .i64 (p0+(L:Int)),.int .i64 p1,.int .i64 (p2+(L:Int))] rfl rfl (World.news_of_block (HS4.out.box 13 rfl)) one_mv (by omega) (by unfold maxLen;omega) (by omega) HS4.out.size _ rfl ?_;intro g6 c6 w6 hown6 hgrow6 hat6 hlt6;have HS6:=qh (HS4.out.app 6 rfl hown6 hgrow6 hat6);have yy1:=HS6.out.cell (v:=.slice q1 (P+k) t1) 5 1 rfl rfl;have yy2:=HS6.out.fr 5 1 rfl;clear hown6 hgrow6 hat6 hlt6)
   go_roundw
   case rel =>
    refine ⟨k+1,some ⟨g6,0,none⟩,c6,by go_num,by omega,?_⟩
    rw [Hhsn.out,← List.append_assoc,flatM_snoc]
    exact (HS6.out.set 5 rfl 1 (.slice (some ⟨g6,0,none⟩) (P+k+1) c6)).pick [0,1,2,3,4,5,6,7,8,9,10,11] (by decide)
   case measure => simp [intOf];omega
  ·obtain rfl:P2 = k:=by omega
   rw [show (M.moves.take P2) = M.moves from List.take_of_length_le (by have:=HhP2.out;omega)] at hS
   have HS5:=qh hS
   clear hS
   go_wp2
   clear e9
   go_loopw [12] (fun i wr => ∃ (k:Nat) (q1:Option Addr) (t1:Nat),i = .int .i64 k ∧ k ≤ E ∧ St w wr [Ent.box w.heap.size #[.slice (some ⟨b1,o1,none⟩) L cv,.slice (some ⟨b2,o2,none⟩) L cw] 25,Ent.box (w.heap.size+1) #[.slice (some ⟨b3,o3,none⟩) G cx,.slice (some ⟨b4,o4,none⟩) G cy] 25,Ent.box (w.heap.size+1+1) #[.slice none 0 0,.slice none 0 0] 25,Ent.box w1.heap.size #[.int .i64 (L:Int),.slice a1 P c1,.slice a2 N.firsts.length c2,.slice a3 E c3] 90,Ent.box w2.heap.size #[.int .i64 (G:Int),.slice x1 P2 y1,.slice x2 M.firsts.length y2,.slice x3 E2 y3] 90,Ent.box (w2.heap.size+1+1) #[.int .i64 ((L:Int)+(G:Int)),.slice q1 (P+P2+k) t1,.slice (some ⟨w2.heap.size+1,0,none⟩) 1 1,.slice none 0 0] 90,
     Ent.row 135 3 (.slice q1 (P+P2+k) t1) (P+P2+k) ((N.moves ++ M.moves.map (shJ L) ++ (N.ends.take k).map (fun e => (e,(-1:Int),(L:Int)))).flatMap moveCells),Ent.row 3 1 (.slice a3 E c3) E (intCells N.ends),Ent.row 135 3 (.slice x1 P2 y1) P2 (M.moves.flatMap moveCells),Ent.row 3 1 (.slice x3 E2 y3) E2 (intCells M.ends),Ent.row 3 1 (.slice (some ⟨w2.heap.size+1,0,none⟩) 1 1) 1 [.int .i64 0],Ent.row 3 1 (.slice none 0 0) 0 []]) (fun i _ => E - (intOf i).toNat)
   case atStart =>
    refine ⟨0,q1,t1,rfl,Nat.zero_le _,?_⟩
    have h:=HS5.out
    rw [List.take_zero,List.map_nil,List.append_nil]
    exact h
   case round =>
    obtain ⟨k,q1,t1,rfl,hk,hS⟩:=hrel
    have e9:=hS.cell (v:=.slice a3 E c3) 3 3 rfl rfl
    by_cases hlt:k < E
    ·have hlt2:(k:Int) < E:=by omega
     have hkn:k < N.ends.length:=by have:=HhE.out;omega
     obtain ⟨g3,c3',hv⟩:=hS.rowform 7 rfl (by omega)
     simp only [Value.slice.injEq,true_and] at hv
     obtain ⟨rfl,rfl⟩:=hv
     obtain ⟨p0,hp⟩:∃ p,p = N.ends.getD k 0:=⟨_,rfl⟩
     have hc0:(intCells N.ends)[k]? = some (.int .i64 p0):=by rw [hp];simp [intCells,hkn]
     have hsn:=map_snocM (L:=(L:Int)) hkn hp
     have HC0:=qh hc0
     have HSq:=qh hS
     have Hhp:=qh hp;clear hp
     have Hhsn:=qh hsn;clear hsn
     clear hS hc0
     go_wp2
     refine wp_region_any (by kernel_rfl) ?_
     refine wpAny_invA (fun A listed a w' => ∃ (l0 l1 l2 l3 l4 l5 l6 l7 l8 l9 l10 l11 l12:Bool) (g7:Nat) (c7:Nat) (bn:Nat),listed = #[l0,l1,l2,l3,l4,l5,l6,l7,l8,l9,l10,l11,l12] ∧ (l10 = true → l1 = true ∧ l9 = true) ∧ (l12 = true → l10 = true ∧ l1 = true) ∧
       a = ⟨((((((((((((A.tmps.setIfInBounds 65 (if l0 = true then .pointer (some ⟨w2.heap.size+1+1,1,none⟩) else A.tmps.getD 65 undef)).setIfInBounds 66 (if l1 = true then .slice q1 (P+P2+k) t1 else A.tmps.getD 66 undef)).setIfInBounds 67 (if l2 = true then .pointer (some ⟨w1.heap.size,3,none⟩) else A.tmps.getD 67 undef)).setIfInBounds 68 (if l3 = true then .slice (some ⟨g3,0,none⟩) E c3 else A.tmps.getD 68 undef)).setIfInBounds 69 (if l4 = true then .int .i64 (k:Int) else A.tmps.getD 69 undef)).setIfInBounds 70 (if l5 = true then .pointer (some ⟨g3,k,none⟩) else A.tmps.getD 70 undef)).setIfInBounds 71 (if l6 = true then .int .i64 p0 else A.tmps.getD 71 undef)).setIfInBounds 72 (if l7 = true then .int .i64 (L:Int) else A.tmps.getD 72 undef)).setIfInBounds 73 (if l8 = true then .agg #[.int .i64 p0,.int .i64 (-1),.int .i64 (L:Int)] else A.tmps.getD 73 undef)).setIfInBounds 74 (if l9 = true then .slice (some ⟨bn,0,none⟩) 1 1 else A.tmps.getD 74 undef)).setIfInBounds 75 (if l10 = true then .slice (some ⟨g7,0,none⟩) ((P+P2+k)+1) c7 else A.tmps.getD 75 undef)).setIfInBounds 76 (if l11 = true then .pointer (some ⟨w2.heap.size+1+1,1,none⟩) else A.tmps.getD 76 undef)),A.defers⟩ ∧
       St w w' [Ent.box w.heap.size #[.slice (some ⟨b1,o1,none⟩) L cv,.slice (some ⟨b2,o2,none⟩) L cw] 25,Ent.box (w.heap.size+1) #[.slice (some ⟨b3,o3,none⟩) G cx,.slice (some ⟨b4,o4,none⟩) G cy] 25,Ent.box (w.heap.size+1+1) #[.slice none 0 0,.slice none 0 0] 25,Ent.box w1.heap.size #[.int .i64 (L:Int),.slice a1 P c1,.slice a2 N.firsts.length c2,.slice (some ⟨g3,0,none⟩) E c3] 90,Ent.box w2.heap.size #[.int .i64 (G:Int),.slice x1 P2 y1,.slice x2 M.firsts.length y2,.slice x3 E2 y3] 90,Ent.box (w2.heap.size+1+1) #[.int .i64 ((L:Int)+(G:Int)),(if l12 = true then .slice (some ⟨g7,0,none⟩) ((P+P2+k)+1) c7 else .slice q1 (P+P2+k) t1),.slice (some ⟨w2.heap.size+1,0,none⟩) 1 1,.slice none 0 0] 90,(if l10 = true then Ent.row 135 3 (.slice (some ⟨g7,0,none⟩) ((P+P2+k)+1) c7) ((P+P2+k)+1) (((N.moves ++ M.moves.map (shJ L) ++ (N.ends.take k).map (fun e => (e,(-1:Int),(L:Int)))).flatMap moveCells) ++ [.int .i64 p0,.int .i64 (-1),.int .i64 (L:Int)]) else Ent.row 135 3 (.slice q1 (P+P2+k) t1) (P+P2+k) ((N.moves ++ M.moves.map (shJ L) ++ (N.ends.take k).map (fun e => (e,(-1:Int),(L:Int)))).flatMap moveCells)),Ent.row 3 1 (.slice (some ⟨g3,0,none⟩) E c3) E (intCells N.ends),Ent.row 135 3 (.slice x1 P2 y1) P2 (M.moves.flatMap moveCells),Ent.row 3 1 (.slice x3 E2 y3) E2 (intCells M.ends),Ent.row 3 1 (.slice (some ⟨w2.heap.size+1,0,none⟩) 1 1) 1 [.int .i64 0],Ent.row 3 1 (.slice none 0 0) 0 [],(if l9 = true then Ent.box bn #[.int .i64 p0,.int .i64 (-1),.int .i64 (L:Int)] 135 else Ent.nil)]) ?_ ?_ ?_
     ·rintro listed a w' ⟨l0,l1,l2,l3,l4,l5,l6,l7,l8,l9,l10,l11,l12,g7,c7,bn,rfl,hd10,hd12,rfl,hS⟩ i hi
      obtain ⟨hun,o,ho,hall⟩:=mem_ready.1 hi
      have hlt:=(Array.getElem?_eq_some_iff.1 ho).1
      refine wpOp_step ho (fun K hK => ?_)
      clear hi
      have HS:=qh hS
      clear hS
      simp only [List.setIfInBounds_toArray,List.set_cons_zero,List.set_cons_succ,Array.getD_eq_getD_getElem?,List.getElem?_toArray,List.getElem?_cons_zero,List.getElem?_cons_succ,Option.getD_some]
      obtain h | h | h | h | h | h | h | h | h | h | h | h | h:i = 0 ∨ i = 1 ∨ i = 2 ∨ i = 3 ∨ i = 4 ∨ i = 5 ∨ i = 6 ∨ i = 7 ∨ i = 8 ∨ i = 9 ∨ i = 10 ∨ i = 11 ∨ i = 12:=by simp at hlt;omega
      all_goals subst h
      all_goals simp only [List.getElem?_toArray,List.getElem?_cons_zero,List.getElem?_cons_succ,Option.some.injEq] at ho
      all_goals subst ho
      all_goals simp [Region.binds] at hun hall
      ·subst hun
       go_simp
       exact hK _ _ ⟨true,l1,l2,l3,l4,l5,l6,l7,l8,l9,l10,l11,l12,g7,c7,bn,rfl,hd10,hd12,(by simp),HS.out⟩
      ·obtain rfl:=hall
       subst hun
       obtain rfl:l10 = false:=offL hd10 rfl
       obtain rfl:l12 = false:=offL hd12 rfl
       have e0:=HS.out.cell (v:=.slice q1 (P+P2+k) t1) 5 1 rfl rfl
       go_simp
       exact hK _ _ ⟨true,true,l2,l3,l4,l5,l6,l7,l8,l9,false,l11,false,g7,c7,bn,rfl,by simp,by simp,(by simp),HS.out⟩
      ·subst hun
       go_simp
       exact hK _ _ ⟨l0,l1,true,l3,l4,l5,l6,l7,l8,l9,l10,l11,l12,g7,c7,bn,rfl,hd10,hd12,(by simp),HS.out⟩
      ·obtain rfl:=hall
       subst hun
       have e0:=HS.out.cell (v:=.slice (some ⟨g3,0,none⟩) E c3) 3 3 rfl rfl
       go_simp
       exact hK _ _ ⟨l0,l1,true,true,l4,l5,l6,l7,l8,l9,l10,l11,l12,g7,c7,bn,rfl,hd10,hd12,(by simp),HS.out⟩
      ·subst hun
       go_simp
       exact hK _ _ ⟨l0,l1,l2,l3,true,l5,l6,l7,l8,l9,l10,l11,l12,g7,c7,bn,rfl,hd10,hd12,(by simp),HS.out⟩
      ·obtain ⟨rfl,rfl⟩:=hall
       subst hun
       go_simp
       exact hK _ _ ⟨l0,l1,l2,true,true,true,l6,l7,l8,l9,l10,l11,l12,g7,c7,bn,rfl,hd10,hd12,(by simp),HS.out⟩
      ·obtain rfl:=hall
       subst hun
       have e0:=HS.out.rcell (v:=.int .i64 p0) 7 k rfl (by omega) HC0.out
       go_simp
       exact hK _ _ ⟨l0,l1,l2,l3,l4,true,true,l7,l8,l9,l10,l11,l12,g7,c7,bn,rfl,hd10,hd12,(by simp),HS.out⟩
      ·subst hun
       go_simp
       exact hK _ _ ⟨l0,l1,l2,l3,l4,l5,l6,true,l8,l9,l10,l11,l12,g7,c7,bn,rfl,hd10,hd12,(by simp),HS.out⟩
      ·obtain ⟨rfl,rfl⟩:=hall
       subst hun
       go_simp
       exact hK _ _ ⟨l0,l1,l2,l3,l4,l5,true,true,true,l9,l10,l11,l12,g7,c7,bn,rfl,hd10,hd12,(by simp),HS.out⟩
      ·obtain rfl:=hall
       subst hun
       obtain rfl:l10 = false:=offR hd10 rfl
       obtain rfl:l12 = false:=offL hd12 rfl
       have hS2:=(HS.out.alloc _ rfl #[.int .i64 p0,.int .i64 (-1),.int .i64 (L:Int)] 135).pick [0,1,2,3,4,5,6,7,8,9,10,11,13] (by decide)
       have HhS2:=qh hS2;clear hS2
       go_simp
       exact hK _ _ ⟨l0,l1,l2,l3,l4,l5,l6,l7,true,true,false,l11,false,g7,c7,_,rfl,by simp,by simp,(by simp),HhS2.out⟩
      ·obtain ⟨rfl,rfl⟩:=hall
       subst hun
       obtain rfl:l12 = false:=offL hd12 rfl
       refine step_append_lies (a:=⟨_,_⟩) _ (by rfl) _ _ _ (by rfl) w.heap.size 135 i0 (.agg #[.int .i64 0,.int .i64 0,.int .i64 0]) 3 24 Tryz.underlying88 Hhi.out Hhz0.out Hhz1.out Hhz2.out (by rfl) (by omega) (.slice q1 (P+P2+k) t1) (P+P2+k) ((N.moves ++ M.moves.map (shJ L) ++ (N.ends.take k).map (fun e => (e,(-1:Int),(L:Int)))).flatMap moveCells) (by rfl) (HS.out.row 6 rfl) ⟨bn,0,none⟩ 1 1 [.int .i64 p0,.int .i64 (-1),.int .i64 (L:Int)] (by rfl) (by rfl) (World.news_of_block (HS.out.box 12 rfl)) one_mv (by omega) (by unfold maxLen;omega) (by omega) HS.out.size _ rfl ?_
       intro g8 c8 w8 hown8 hgrow8 hat8 hlt8
       have HS8:=qh (HS.out.app 6 rfl hown8 hgrow8 hat8)
       clear hown8 hgrow8 hat8
       go_simp
       exact hK _ _ ⟨l0,true,l2,l3,l4,l5,l6,l7,l8,true,true,l11,false,g8,c8,bn,rfl,by simp,by simp,(by simp),HS8.out⟩
      ·obtain ⟨rfl,rfl,rfl,rfl,rfl,rfl,rfl,rfl,rfl,rfl,rfl⟩:=hall
       subst hun
       go_simp
       exact hK _ _ ⟨true,true,true,true,true,true,true,true,true,true,true,true,l12,g7,c7,bn,rfl,by simp,hd12,(by simp only [↓reduceIte,List.setIfInBounds_toArray,List.set_cons_zero,List.set_cons_succ]),HS.out⟩
      ·obtain ⟨rfl,rfl,rfl,rfl,rfl,rfl,rfl,rfl,rfl,rfl,rfl,rfl,-⟩:=hall
       subst hun
       have f0:=HS.out.fr 5 1 rfl
       have k0:=HS.out.cell (v:=.slice q1 (P+P2+k) t1) 5 1 rfl rfl
       go_simp
       exact hK _ _ ⟨true,true,true,true,true,true,true,true,true,true,true,true,true,g7,c7,bn,rfl,by simp,by simp,(by simp only [↓reduceIte,List.setIfInBounds_toArray,List.set_cons_zero,List.set_cons_succ]),(HS.out.set 5 rfl 1 (.slice (some ⟨g7,0,none⟩) ((P+P2+k)+1) c7))⟩
     ·rintro listed a w' ⟨l0,l1,l2,l3,l4,l5,l6,l7,l8,l9,l10,l11,l12,g7,c7,bn,rfl,hd10,hd12,rfl,hS⟩ hr
      have hall:=ready_nil (by kernel_rfl) rfl hr
      obtain rfl:l0 = true:=by simpa using hall 0 (by simp)
      obtain rfl:l1 = true:=by simpa using hall 1 (by simp)
      obtain rfl:l2 = true:=by simpa using hall 2 (by simp)
      obtain rfl:l3 = true:=by simpa using hall 3 (by simp)
      obtain rfl:l4 = true:=by simpa using hall 4 (by simp)
      obtain rfl:l5 = true:=by simpa using hall 5 (by simp)
      obtain rfl:l6 = true:=by simpa using hall 6 (by simp)
      obtain rfl:l7 = true:=by simpa using hall 7 (by simp)
      obtain rfl:l8 = true:=by simpa using hall 8 (by simp)
      obtain rfl:l9 = true:=by simpa using hall 9 (by simp)
      obtain rfl:l10 = true:=by simpa using hall 10 (by simp)
      obtain rfl:l11 = true:=by simpa using hall 11 (by simp)
      obtain rfl:l12 = true:=by simpa using hall 12 (by simp)
      clear hall hr hd10 hd12
      simp only [↓reduceIte] at hS ⊢
      simp only [List.setIfInBounds_toArray,List.set_cons_zero,List.set_cons_succ]
      have hS9:=hS.pick [0,1,2,3,4,5,6,7,8,9,10,11] (by decide)
      have HhS9:=qh hS9;clear hS9
      clear hS
      go_wp2
      go_roundw
      case rel =>
       refine ⟨k+1,some ⟨g7,0,none⟩,c7,by go_num,by omega,?_⟩
       rw [Hhsn.out,← List.append_assoc,flatM_snoc]
       exact HhS9.out
      case measure => simp [intOf];omega
     ·refine ⟨false,false,false,false,false,false,false,false,false,false,false,false,false,0,0,0,rfl,by simp,by simp,(by simp),?_⟩
      exact HSq.out.drew.pick [0,1,2,3,4,5,6,7,8,9,10,11,12] (by decide)
    ·obtain rfl:E = k:=by omega
     rw [show (N.ends.take E) = N.ends from List.take_of_length_le (by have:=HhE.out;omega)] at hS
     obtain ⟨am,ham⟩:∃ am,am = q1:=⟨_,rfl⟩
     obtain ⟨cm,hcm⟩:∃ cm,cm = t1:=⟨_,rfl⟩
     subst ham
     subst hcm
     have HS6:=qh hS
     clear hS
     go_wp2
     clear e9
     go_loopw [13] (fun i wr => ∃ (k:Nat) (q1:Option Addr) (t1:Nat),i = .int .i64 k ∧ k ≤ E2 ∧ St w wr [Ent.box w.heap.size #[.slice (some ⟨b1,o1,none⟩) L cv,.slice (some ⟨b2,o2,none⟩) L cw] 25,Ent.box (w.heap.size+1) #[.slice (some ⟨b3,o3,none⟩) G cx,.slice (some ⟨b4,o4,none⟩) G cy] 25,Ent.box (w.heap.size+1+1) #[.slice none 0 0,.slice none 0 0] 25,Ent.box w1.heap.size #[.int .i64 (L:Int),.slice a1 P c1,.slice a2 N.firsts.length c2,.slice a3 E c3] 90,Ent.box w2.heap.size #[.int .i64 (G:Int),.slice x1 P2 y1,.slice x2 M.firsts.length y2,.slice x3 E2 y3] 90,Ent.box (w2.heap.size+1+1) #[.int .i64 ((L:Int)+(G:Int)),.slice am (P+P2+E) cm,.slice (some ⟨w2.heap.size+1,0,none⟩) 1 1,.slice q1 k t1] 90,
       Ent.row 135 3 (.slice am (P+P2+E) cm) (P+P2+E) ((N.moves ++ M.moves.map (shJ L) ++ N.ends.map (fun e => (e,(-1:Int),(L:Int)))).flatMap moveCells),Ent.row 3 1 (.slice a3 E c3) E (intCells N.ends),Ent.row 135 3 (.slice x1 P2 y1) P2 (M.moves.flatMap moveCells),Ent.row 3 1 (.slice x3 E2 y3) E2 (intCells M.ends),Ent.row 3 1 (.slice (some ⟨w2.heap.size+1,0,none⟩) 1 1) 1 [.int .i64 0],Ent.row 3 1 (.slice q1 k t1) k (intCells ((M.ends.take k).map (fun e => e+(L:Int))))]) (fun i _ => E2 - (intOf i).toNat)
     case atStart => exact ⟨0,none,0,rfl,Nat.zero_le _,HS6.out⟩
     case round =>
      obtain ⟨k,q1,t1,rfl,hk,hS⟩:=hrel
      have e9:=hS.cell (v:=.slice x3 E2 y3) 4 3 rfl rfl
      by_cases hlt:k < E2
      ·have hlt2:(k:Int) < E2:=by omega
       have hkn:k < M.ends.length:=by have:=HhE2.out;omega
       obtain ⟨g3,c3',hv⟩:=hS.rowform 9 rfl (by omega)
       simp only [Value.slice.injEq,true_and] at hv
       obtain ⟨rfl,rfl⟩:=hv
       have hin:=HeM.out _ (memD (d:=0) hkn)
       obtain ⟨p0,hp⟩:∃ p,p = M.ends.getD k 0:=⟨_,rfl⟩
       rw [← hp] at hin
       obtain ⟨i1,i2⟩:=hin
       have hc0:(intCells M.ends)[k]? = some (.int .i64 p0):=by rw [hp];simp [intCells,hkn]
       have hsn:=map_snocA (L:=(L:Int)) hkn hp
       have v0:IntKind.i64.wrap (p0+(L:Int)) = p0+(L:Int):=IntWalk.i64_in _ (by omega)
       have HC0:=qh hc0
       have HSq:=qh hS
       have Hhp:=qh hp;clear hp
       have Hhsn:=qh hsn;clear hsn
       clear hS hc0
       go_wp2
       refine wp_region_any (by kernel_rfl) ?_
       refine wpAny_invA (fun A listed a w' => ∃ (l0 l1 l2 l3 l4 l5 l6 l7 l8 l9 l10 l11 l12:Bool) (g7:Nat) (c7:Nat) (bn:Nat),listed = #[l0,l1,l2,l3,l4,l5,l6,l7,l8,l9,l10,l11,l12] ∧ (l10 = true → l1 = true ∧ l9 = true) ∧ (l12 = true → l10 = true ∧ l1 = true) ∧
         a = ⟨((((((((((((A.tmps.setIfInBounds 84 (if l0 = true then .pointer (some ⟨w2.heap.size+1+1,3,none⟩) else A.tmps.getD 84 undef)).setIfInBounds 85 (if l1 = true then .slice q1 k t1 else A.tmps.getD 85 undef)).setIfInBounds 86 (if l2 = true then .pointer (some ⟨w2.heap.size,3,none⟩) else A.tmps.getD 86 undef)).setIfInBounds 87 (if l3 = true then .slice (some ⟨g3,0,none⟩) E2 y3 else A.tmps.getD 87 undef)).setIfInBounds 88 (if l4 = true then .int .i64 (k:Int) else A.tmps.getD 88 undef)).setIfInBounds 89 (if l5 = true then .pointer (some ⟨g3,k,none⟩) else A.tmps.getD 89 undef)).setIfInBounds 90 (if l6 = true then .int .i64 p0 else A.tmps.getD 90 undef)).setIfInBounds 91 (if l7 = true then .int .i64 (L:Int) else A.tmps.getD 91 undef)).setIfInBounds 92 (if l8 = true then .int .i64 (p0+(L:Int)) else A.tmps.getD 92 undef)).setIfInBounds 93 (if l9 = true then .slice (some ⟨bn,0,none⟩) 1 1 else A.tmps.getD 93 undef)).setIfInBounds 94 (if l10 = true then .slice (some ⟨g7,0,none⟩) (k+1) c7 else A.tmps.getD 94 undef)).setIfInBounds 95 (if l11 = true then .pointer (some ⟨w2.heap.size+1+1,3,none⟩) else A.tmps.getD 95 undef)),A.defers⟩ ∧
         St w w' [Ent.box w.heap.size #[.slice (some ⟨b1,o1,none⟩) L cv,.slice (some ⟨b2,o2,none⟩) L cw] 25,Ent.box (w.heap.size+1) #[.slice (some ⟨b3,o3,none⟩) G cx,.slice (some ⟨b4,o4,none⟩) G cy] 25,Ent.box (w.heap.size+1+1) #[.slice none 0 0,.slice none 0 0] 25,Ent.box w1.heap.size #[.int .i64 (L:Int),.slice a1 P c1,.slice a2 N.firsts.length c2,.slice a3 E c3] 90,Ent.box w2.heap.size #[.int .i64 (G:Int),.slice x1 P2 y1,.slice x2 M.firsts.length y2,.slice (some ⟨g3,0,none⟩) E2 y3] 90,Ent.box (w2.heap.size+1+1) #[.int .i64 ((L:Int)+(G:Int)),.slice am (P+P2+E) cm,.slice (some ⟨w2.heap.size+1,0,none⟩) 1 1,(if l12 = true then .slice (some ⟨g7,0,none⟩) (k+1) c7 else .slice q1 k t1)] 90,Ent.row 135 3 (.slice am (P+P2+E) cm) (P+P2+E) ((N.moves ++ M.moves.map (shJ L) ++ N.ends.map (fun e => (e,(-1:Int),(L:Int)))).flatMap moveCells),Ent.row 3 1 (.slice a3 E c3) E (intCells N.ends),Ent.row 135 3 (.slice x1 P2 y1) P2 (M.moves.flatMap moveCells),Ent.row 3 1 (.slice (some ⟨g3,0,none⟩) E2 y3) E2 (intCells M.ends),Ent.row 3 1 (.slice (some ⟨w2.heap.size+1,0,none⟩) 1 1) 1 [.int .i64 0],(if l10 = true then Ent.row 3 1 (.slice (some ⟨g7,0,none⟩) (k+1) c7) (k+1) ((intCells ((M.ends.take k).map (fun e => e+(L:Int)))) ++ [.int .i64 (p0+(L:Int))]) else Ent.row 3 1 (.slice q1 k t1) k (intCells ((M.ends.take k).map (fun e => e+(L:Int))))),(if l9 = true then Ent.box bn #[.int .i64 (p0+(L:Int))] 3 else Ent.nil)]) ?_ ?_ ?_
       ·rintro listed a w' ⟨l0,l1,l2,l3,l4,l5,l6,l7,l8,l9,l10,l11,l12,g7,c7,bn,rfl,hd10,hd12,rfl,hS⟩ i hi
        obtain ⟨hun,o,ho,hall⟩:=mem_ready.1 hi
        have hlt:=(Array.getElem?_eq_some_iff.1 ho).1
        refine wpOp_step ho (fun K hK => ?_)
        clear hi
        have HS:=qh hS
        clear hS
        simp only [List.setIfInBounds_toArray,List.set_cons_zero,List.set_cons_succ,Array.getD_eq_getD_getElem?,List.getElem?_toArray,List.getElem?_cons_zero,List.getElem?_cons_succ,Option.getD_some]
        obtain h | h | h | h | h | h | h | h | h | h | h | h | h:i = 0 ∨ i = 1 ∨ i = 2 ∨ i = 3 ∨ i = 4 ∨ i = 5 ∨ i = 6 ∨ i = 7 ∨ i = 8 ∨ i = 9 ∨ i = 10 ∨ i = 11 ∨ i = 12:=by simp at hlt;omega
        all_goals subst h
        all_goals simp only [List.getElem?_toArray,List.getElem?_cons_zero,List.getElem?_cons_succ,Option.some.injEq] at ho
        all_goals subst ho
        all_goals simp [Region.binds] at hun hall
        ·subst hun
         go_simp
         exact hK _ _ ⟨true,l1,l2,l3,l4,l5,l6,l7,l8,l9,l10,l11,l12,g7,c7,bn,rfl,hd10,hd12,(by simp),HS.out⟩
        ·obtain rfl:=hall
         subst hun
         obtain rfl:l10 = false:=offL hd10 rfl
         obtain rfl:l12 = false:=offL hd12 rfl
         have e0:=HS.out.cell (v:=.slice q1 k t1) 5 3 rfl rfl
         go_simp
         exact hK _ _ ⟨true,true,l2,l3,l4,l5,l6,l7,l8,l9,false,l11,false,g7,c7,bn,rfl,by simp,by simp,(by simp),HS.out⟩
        ·subst hun
         go_simp
         exact hK _ _ ⟨l0,l1,true,l3,l4,l5,l6,l7,l8,l9,l10,l11,l12,g7,c7,bn,rfl,hd10,hd12,(by simp),HS.out⟩
        ·obtain rfl:=hall
         subst hun
         have e0:=HS.out.cell (v:=.slice (some ⟨g3,0,none⟩) E2 y3) 4 3 rfl rfl
         go_simp
         exact hK _ _ ⟨l0,l1,true,true,l4,l5,l6,l7,l8,l9,l10,l11,l12,g7,c7,bn,rfl,hd10,hd12,(by simp),HS.out⟩
        ·subst hun
         go_simp
         exact hK _ _ ⟨l0,l1,l2,l3,true,l5,l6,l7,l8,l9,l10,l11,l12,g7,c7,bn,rfl,hd10,hd12,(by simp),HS.out⟩
        ·obtain ⟨rfl,rfl⟩:=hall
         subst hun
         go_simp
         exact hK _ _ ⟨l0,l1,l2,true,true,true,l6,l7,l8,l9,l10,l11,l12,g7,c7,bn,rfl,hd10,hd12,(by simp),HS.out⟩
        ·obtain rfl:=hall
         subst hun
         have e0:=HS.out.rcell (v:=.int .i64 p0) 9 k rfl (by omega) HC0.out
         go_simp
         exact hK _ _ ⟨l0,l1,l2,l3,l4,true,true,l7,l8,l9,l10,l11,l12,g7,c7,bn,rfl,hd10,hd12,(by simp),HS.out⟩
        ·subst hun
         go_simp
         exact hK _ _ ⟨l0,l1,l2,l3,l4,l5,l6,true,l8,l9,l10,l11,l12,g7,c7,bn,rfl,hd10,hd12,(by simp),HS.out⟩
        ·obtain ⟨rfl,rfl⟩:=hall
         subst hun
         go_simp
         exact hK _ _ ⟨l0,l1,l2,l3,l4,l5,true,true,true,l9,l10,l11,l12,g7,c7,bn,rfl,hd10,hd12,(by simp),HS.out⟩
        ·obtain rfl:=hall
         subst hun
         obtain rfl:l10 = false:=offR hd10 rfl
         obtain rfl:l12 = false:=offL hd12 rfl
         have hS2:=(HS.out.alloc _ rfl #[.int .i64 (p0+(L:Int))] 3).pick [0,1,2,3,4,5,6,7,8,9,10,11,13] (by decide)
         have HhS2:=qh hS2;clear hS2
         go_simp
         exact hK _ _ ⟨l0,l1,l2,l3,l4,l5,l6,l7,true,true,false,l11,false,g7,c7,_,rfl,by simp,by simp,(by simp),HhS2.out⟩
        ·obtain ⟨rfl,rfl⟩:=hall
         subst hun
         obtain rfl:l12 = false:=offL hd12 rfl
         refine step_append_lies (a:=⟨_,_⟩) _ (by rfl) _ _ _ (by rfl) w.heap.size 3 j0 (.int .i64 0) 1 8 Tryz.underlying67 Hhj.out Hhy0.out Hhy1.out Hhy2.out (by rfl) (by omega) (.slice q1 k t1) k (intCells ((M.ends.take k).map (fun e => e+(L:Int)))) (by rfl) (HS.out.row 11 rfl) ⟨bn,0,none⟩ 1 1 [.int .i64 (p0+(L:Int))] (by rfl) (by rfl) (World.news_of_block (HS.out.box 12 rfl)) one_int (by omega) (by unfold maxLen;omega) (by omega) HS.out.size _ rfl ?_
         intro g8 c8 w8 hown8 hgrow8 hat8 hlt8
         have HS8:=qh (HS.out.app 11 rfl hown8 hgrow8 hat8)
         clear hown8 hgrow8 hat8
         go_simp
         exact hK _ _ ⟨l0,true,l2,l3,l4,l5,l6,l7,l8,true,true,l11,false,g8,c8,bn,rfl,by simp,by simp,(by simp),HS8.out⟩
        ·obtain ⟨rfl,rfl,rfl,rfl,rfl,rfl,rfl,rfl,rfl,rfl,rfl⟩:=hall
         subst hun
         go_simp
         exact hK _ _ ⟨true,true,true,true,true,true,true,true,true,true,true,true,l12,g7,c7,bn,rfl,by simp,hd12,(by simp only [↓reduceIte,List.setIfInBounds_toArray,List.set_cons_zero,List.set_cons_succ]),HS.out⟩
        ·obtain ⟨rfl,rfl,rfl,rfl,rfl,rfl,rfl,rfl,rfl,rfl,rfl,rfl,-⟩:=hall
         subst hun
         have f0:=HS.out.fr 5 3 rfl
         have k0:=HS.out.cell (v:=.slice q1 k t1) 5 3 rfl rfl
         go_simp
         exact hK _ _ ⟨true,true,true,true,true,true,true,true,true,true,true,true,true,g7,c7,bn,rfl,by simp,by simp,(by simp only [↓reduceIte,List.setIfInBounds_toArray,List.set_cons_zero,List.set_cons_succ]),(HS.out.set 5 rfl 3 (.slice (some ⟨g7,0,none⟩) (k+1) c7))⟩
       ·rintro listed a w' ⟨l0,l1,l2,l3,l4,l5,l6,l7,l8,l9,l10,l11,l12,g7,c7,bn,rfl,hd10,hd12,rfl,hS⟩ hr
        have hall:=ready_nil (by kernel_rfl) rfl hr
        obtain rfl:l0 = true:=by simpa using hall 0 (by simp)
        obtain rfl:l1 = true:=by simpa using hall 1 (by simp)
        obtain rfl:l2 = true:=by simpa using hall 2 (by simp)
        obtain rfl:l3 = true:=by simpa using hall 3 (by simp)
        obtain rfl:l4 = true:=by simpa using hall 4 (by simp)
        obtain rfl:l5 = true:=by simpa using hall 5 (by simp)
        obtain rfl:l6 = true:=by simpa using hall 6 (by simp)
        obtain rfl:l7 = true:=by simpa using hall 7 (by simp)
        obtain rfl:l8 = true:=by simpa using hall 8 (by simp)
        obtain rfl:l9 = true:=by simpa using hall 9 (by simp)
        obtain rfl:l10 = true:=by simpa using hall 10 (by simp)
        obtain rfl:l11 = true:=by simpa using hall 11 (by simp)
        obtain rfl:l12 = true:=by simpa using hall 12 (by simp)
        clear hall hr hd10 hd12
        simp only [↓reduceIte] at hS ⊢
        simp only [List.setIfInBounds_toArray,List.set_cons_zero,List.set_cons_succ]
        have hS9:=hS.pick [0,1,2,3,4,5,6,7,8,9,10,11] (by decide)
        have HhS9:=qh hS9;clear hS9
        clear hS
        go_wp2
        go_roundw
        case rel =>
         refine ⟨k+1,some ⟨g7,0,none⟩,c7,by go_num,by omega,?_⟩
         rw [Hhsn.out,intCells_snoc]
         exact HhS9.out
        case measure => simp [intOf];omega
       ·refine ⟨false,false,false,false,false,false,false,false,false,false,false,false,false,0,0,0,rfl,by simp,by simp,(by simp),?_⟩
        exact HSq.out.drew.pick [0,1,2,3,4,5,6,7,8,9,10,11,12] (by decide)
      ·obtain rfl:E2 = k:=by omega
       rw [show (M.ends.take E2) = M.ends from List.take_of_length_le (by have:=HhE2.out;omega)] at hS
       have r0:=hS.cell (v:=.int .i64 ((L:Int)+(G:Int))) 5 0 rfl rfl
       have r1:=hS.cell (v:=.slice am (P+P2+E) cm) 5 1 rfl rfl
       have r2:=hS.cell (v:=.slice (some ⟨w2.heap.size+1,0,none⟩) 1 1) 5 2 rfl rfl
       have r3:=hS.cell (v:=.slice q1 E2 t1) 5 3 rfl rfl
       have hrow:=hS.row 6 rfl
       have hWm:W.moves = N.moves ++ M.moves.map (shJ L) ++ N.ends.map (fun e => (e,(-1:Int),(L:Int))):=by rw [← Hhws.out]
       have hWe:W.ends = M.ends.map (fun e => e+(L:Int)):=by rw [← Hhws.out]
       have hWl:W.moves.length = P+P2+E:=by rw [hWm];simp only [List.length_append,List.length_map,HhP.out,HhE.out,HhP2.out]
       have hWel:W.ends.length = E2:=by rw [hWe];simp [HhE2.out]
       rw [← hWm,← hWl] at hrow
       have hdet:=l9DfaM_any 81 (by omega) (L+G) K hK W.moves [0] W.ends _ _ _ wr (by omega) Hhmv.out (by omega) Hhfi.out (by simp) Hhen.out (by omega) (moves_of_row hrow) (hS.intsR (xs:=[0]) 10 rfl) (hS.intsR (xs:=W.ends) 11 (by rw [hWe];rfl))
       rw [show (((L+G:Nat):Int)) = (L:Int)+(G:Int) from rfl,show (⟨(L:Int)+(G:Int),W.moves,[0],W.ends⟩:NfaD) = W by rw [hWm,hWe];exact Hhws.out,hWl] at hdet
       have Hdet:=qh hdet
       have hB1:=(hS.boxlt 2 rfl).2
       have HS8:=qh hS
       have HhWm:=qh hWm;clear hWm
       have HhWl:=qh hWl;clear hWl
       have HhWe:=qh hWe;clear hWe
       have HhWel:=qh hWel;clear hWel
       clear hS hrow hdet
       go_wp2_with fail
       refine Hdet.out.mono ?_
       rintro e w9 ⟨hr,hb9⟩
       obtain ⟨x1,y1,x2,y2,rfl,hdr,-⟩:=hr.ro hb9
       obtain ⟨o,ho⟩:∃ o,detM 81 K W = o:=⟨_,rfl⟩
       rw [ho] at hdr
       rw [ho]
       have hS9:=HS8.out.call hb9
       have f0:=hS9.fr 2 0 rfl
       have f1:=hS9.fr 2 1 rfl
       have k0:=hS9.cell (v:=.slice none 0 0) 2 0 rfl rfl
       have k1:=hS9.cell (v:=.slice none 0 0) 2 1 rfl rfl
       have HS9:=qh hS9
       have HDr:=qh hdr
       have hsz:=HS8.out.size
       clear hS9 hr hb9 hdr r0 r1 r2 r3 e9
       go_wp2
       have hq:=(HS9.out.set 2 rfl 0 (.slice x1 (o.getD zeroD).next.length y1)).set 2 rfl 1 (.slice x2 (o.getD zeroD).ends.length y2)
       have q0:=hq.cell (v:=.slice x1 (o.getD zeroD).next.length y1) 2 0 rfl rfl
       have q1':=hq.cell (v:=.slice x2 (o.getD zeroD).ends.length y2) 2 1 rfl rfl
       refine bodyPost_ret (v:=.tuple #[.agg #[.slice x1 (o.getD zeroD).next.length y1,.slice x2 (o.getD zeroD).ends.length y2],.bool o.isSome]) (by simp [results,Tryz.results98,go_sem,q0,q1']) rfl ?_
       rw [ho]
       exact ⟨_,_,_,_,rfl,((HDr.out.far hB1 0 _).far hB1 1 _).mono (by omega),hq.bel⟩
end Go.Proofs.YtfgpkadhegdffaaGreat
