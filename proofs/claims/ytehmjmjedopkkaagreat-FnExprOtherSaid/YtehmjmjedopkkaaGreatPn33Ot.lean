/-
  The walks over the program's row and leafDfa.
  Condition: the part is valid and needs no operands.
-/
import Derived.Test.YtehmjmjedopkkaaGreatPn29Cst
set_option maxHeartbeats 4000000
set_option maxRecDepth 100000
namespace Go.Proofs.YtehmjmjedopkkaaGreat
open Go.RowKit
theorem Za1 (t:Int) (B:Nat) (w:World) (hB:w.heap.size=B):Calls Tryz.prog 104 #[.int .i64 t] w fun e w'=>e = .returned (.slice (some ⟨B,0,none⟩) 3 3)∧w'=w.alloc (.cells #[.int .i64 t,.int .i64 t,.int .i64 t] 3):=by
 subst hB
 go_enter Tryz.func104, Tryz.ntmps104
 go_wp2;go_ret;exact⟨rfl,rfl⟩
theorem Zbn {w0 w:World} {L:List Ent} (h:St w0 w L) (i:Nat) {e:Nat} {v:Value} {n:Nat} {l:List Int} (hx:L[i]? = some (Ent.row e 1 v n (intCells l))):Ints w0.heap.size w v l:=by
 have h2:=h.row i hx;have hn:n=l.length:=by have:=h2.1;simp[intCells] at this;omega
 subst hn;exact(Zaa h2).sl (by omega)
theorem Zfz {w0 w:World} {L:List Ent} (h:St w0 w L) (i:Nat) {e:Nat} {v:Value} {n:Nat} {cs:List Value} (hx:L[i]? = some (Ent.row e 1 v n cs)):Sl w0.heap.size w v n 1 cs:=(Zaa (h.row i hx)).sl (by omega)
theorem Zdo {w0 w:World} {L:List Ent} (h:St w0 w L) (i:Nat) {e:Nat} {v:Value} {n:Nat} {l:List Bool} (hx:L[i]? = some (Ent.row e 1 v n (boolCells l))):Bools w0.heap.size w v l:=by
 have h2:=h.row i hx;have hn:n=l.length:=by have:=h2.1;simp[boolCells] at this;omega
 subst hn;exact(Zaa h2).sl (by omega)
theorem ZhN (w:World):Calls Tryz.prog 66 #[.agg #[.int .i64 1,.int .i64 0]] w fun e w'=>RDs ZdW w e w':=by
 have hS0:=((St.start w).alloc _ rfl #[.int .i64 1,.int .i64 0] 55).alloc (w.heap.size+1) (by simp) #[.slice none 0 0,.slice none 0 0] 32;replace hS0:=qh hS0
 go_enter Tryz.func66, Tryz.ntmps66
 have e0:=hS0.out.cell (v:=.int .i64 1) 0 0 rfl rfl;go_wp2_with fail;refine(Za1 0 (w.heap.size+1+1) _ (by simp)).mono ?_;rintro e w1 ⟨rfl,rfl⟩;clear e0;go_wp2;have hq:=(((((St.start w).alloc _ rfl #[.int .i64 1,.int .i64 0] 55).alloc (w.heap.size+1) (by simp) #[.slice (some ⟨w.heap.size+1+1+1,0,none⟩) 1 1,.slice (some ⟨w.heap.size+1+1+1+1,0,none⟩) 1 1] 32).alloc (w.heap.size+1+1) (by simp) #[.int .i64 0,.int .i64 0,.int .i64 0] 3).alloc (w.heap.size+1+1+1) (by simp) #[.slice (some ⟨w.heap.size+1+1,0,none⟩) 3 3] 59).alloc (w.heap.size+1+1+1+1) (by simp) #[.bool false] 4;refine bodyPost_ret (v:=.agg #[.slice (some ⟨w.heap.size+1+1+1,0,none⟩) 1 1,.slice (some ⟨w.heap.size+1+1+1+1,0,none⟩) 1 1]) (by simp[results,Tryz.results66,go_sem]) rfl ?_;have hr:=((hq.boxrow 2 3 1 (intCells [0,0,0]) rfl rfl (by decide)).boxrow 3 1 1 [.slice (some ⟨w.heap.size+1+1,0,none⟩) 3 3] rfl rfl (by decide)).boxrow 4 1 1 (boolCells [false]) rfl rfl (by decide);refine⟨_,_,_,_,rfl,⟨_,_,rfl,⟨_,Zfz hr 3 rfl,fun i hi => ?_⟩,Zdo hr 4 rfl⟩,hq.bel⟩;obtain rfl:i=0:=by have:i<1:=hi;omega
 exact Zbn hr 2 rfl
theorem ZhM (w:World):Calls Tryz.prog 66 #[.agg #[.int .i64 2,.int .i64 0]] w fun e w'=>RDs oneD w e w':=by
 have hS0:=((St.start w).alloc _ rfl #[.int .i64 2,.int .i64 0] 55).alloc (w.heap.size+1) (by simp) #[.slice none 0 0,.slice none 0 0] 32;replace hS0:=qh hS0
 go_enter Tryz.func66, Tryz.ntmps66
 have e0:=hS0.out.cell (v:=.int .i64 2) 0 0 rfl rfl;go_wp2_with fail;refine(Za1 1 (w.heap.size+1+1) _ (by simp)).mono ?_;rintro e w1 ⟨rfl,rfl⟩;go_wp2_with fail;refine(Za1 1 (w.heap.size+1+1+1) _ (by simp)).mono ?_;rintro e w1 ⟨rfl,rfl⟩;clear e0;go_wp2;have hq:=((((((St.start w).alloc _ rfl #[.int .i64 2,.int .i64 0] 55).alloc (w.heap.size+1) (by simp) #[.slice (some ⟨w.heap.size+1+1+1+1,0,none⟩) 2 2,.slice (some ⟨w.heap.size+1+1+1+1+1,0,none⟩) 2 2] 32).alloc (w.heap.size+1+1) (by simp) #[.int .i64 1,.int .i64 1,.int .i64 1] 3).alloc (w.heap.size+1+1+1) (by simp) #[.int .i64 1,.int .i64 1,.int .i64 1] 3).alloc (w.heap.size+1+1+1+1) (by simp) #[.slice (some ⟨w.heap.size+1+1,0,none⟩) 3 3,.slice (some ⟨w.heap.size+1+1+1,0,none⟩) 3 3] 59).alloc (w.heap.size+1+1+1+1+1) (by simp) #[.bool true,.bool false] 4;refine bodyPost_ret (v:=.agg #[.slice (some ⟨w.heap.size+1+1+1+1,0,none⟩) 2 2,.slice (some ⟨w.heap.size+1+1+1+1+1,0,none⟩) 2 2]) (by simp[results,Tryz.results66,go_sem]) rfl ?_;have hr:=(((hq.boxrow 2 3 1 (intCells [1,1,1]) rfl rfl (by decide)).boxrow 3 3 1 (intCells [1,1,1]) rfl rfl (by decide)).boxrow 4 2 1 [.slice (some ⟨w.heap.size+1+1,0,none⟩) 3 3,.slice (some ⟨w.heap.size+1+1+1,0,none⟩) 3 3] rfl rfl (by decide)).boxrow 5 2 1 (boolCells [true,false]) rfl rfl (by decide);refine⟨_,_,_,_,rfl,⟨_,_,rfl,⟨_,Zfz hr 4 rfl,fun i hi => ?_⟩,Zdo hr 5 rfl⟩,hq.bel⟩;have hi:i<2:=hi;obtain rfl|rfl:i=0∨i=1:=by omega
 ·exact Zbn hr 2 rfl
 exact Zbn hr 3 rfl
theorem ZgB (D:DfaD) (hD:minD ⟨[[1,2,2],[2,2,2],[2,2,2]],[false,true,false]⟩=D) (w:World):Calls Tryz.prog 66 #[.agg #[.int .i64 3,.int .i64 0]] w fun e w'=>RDs D w e w':=by
 have hS0:=((St.start w).alloc _ rfl #[.int .i64 3,.int .i64 0] 55).alloc (w.heap.size+1) (by simp) #[.slice none 0 0,.slice none 0 0] 32;have hok:Zaf [[1,2,2],[2,2,2],[2,2,2]] [false,true,false]=true:=by decide
 replace hS0:=qh hS0;replace hD:=qh hD;have Hhok:=qh hok;clear hok
 go_enter Tryz.func66, Tryz.ntmps66
 have e0:=hS0.out.cell (v:=.int .i64 3) 0 0 rfl rfl;have e1:=hS0.out.cell (v:=.int .i64 0) 0 1 rfl rfl;go_wp2_with fail;refine(Za1 2 (w.heap.size+1+1) _ (by simp)).mono ?_;rintro e w1 ⟨rfl,rfl⟩;go_wp2_with fail;refine(Za1 2 (w.heap.size+1+1+1) _ (by simp)).mono ?_;rintro e w1 ⟨rfl,rfl⟩;go_wp2_with fail;refine(Za1 2 (w.heap.size+1+1+1+1) _ (by simp)).mono ?_;rintro e w1 ⟨rfl,rfl⟩;have hS3:=((((hS0.out.alloc (w.heap.size+1+1) (by simp) #[.int .i64 1,.int .i64 2,.int .i64 2] 3).alloc (w.heap.size+1+1+1) (by simp) #[.int .i64 2,.int .i64 2,.int .i64 2] 3).alloc (w.heap.size+1+1+1+1) (by simp) #[.int .i64 2,.int .i64 2,.int .i64 2] 3).alloc (w.heap.size+1+1+1+1+1) (by simp) #[.slice (some ⟨w.heap.size+1+1,0,none⟩) 3 3,.slice (some ⟨w.heap.size+1+1+1,0,none⟩) 3 3,.slice (some ⟨w.heap.size+1+1+1+1,0,none⟩) 3 3] 59).alloc (w.heap.size+1+1+1+1+1+1) (by simp) #[.bool false,.bool true,.bool false] 4;have hr:=((((hS3.boxrow 2 3 1 (intCells [1,2,2]) rfl rfl (by decide)).boxrow 3 3 1 (intCells [2,2,2]) rfl rfl (by decide)).boxrow 4 3 1 (intCells [2,2,2]) rfl rfl (by decide)).boxrow 5 3 1 [.slice (some ⟨w.heap.size+1+1,0,none⟩) 3 3,.slice (some ⟨w.heap.size+1+1+1,0,none⟩) 3 3,.slice (some ⟨w.heap.size+1+1+1+1,0,none⟩) 3 3] rfl rfl (by decide)).boxrow 6 3 1 (boolCells [false,true,false]) rfl rfl (by decide)
 have hR:DfaR 0 _ (.agg #[.slice (some ⟨w.heap.size+1+1+1+1+1,0,none⟩) 3 3,.slice (some ⟨w.heap.size+1+1+1+1+1+1,0,none⟩) 3 3]) ⟨[[1,2,2],[2,2,2],[2,2,2]],[false,true,false]⟩:=⟨_,_,rfl,⟨_,(Zfz hr 5 rfl).mono (Nat.zero_le _),fun i hi=>by
  have hi:i<3:=hi;obtain rfl|rfl|rfl:i=0∨i=1∨i=2:=by omega
  ·exact Sl.mono (Zbn hr 2 rfl) (Nat.zero_le _)
  ·exact Sl.mono (Zbn hr 3 rfl) (Nat.zero_le _)
  exact Sl.mono (Zbn hr 4 rfl) (Nat.zero_le _)⟩,Sl.mono (Zdo hr 6 rfl) (Nat.zero_le _)⟩
 have HS3:=qh hS3;have HR:=qh hR;clear hS3 hr hR e0 e1;go_wp2_with fail;refine(Za6 _ _ _ Hhok.out HR.out).mono ?_;rintro e w5 ⟨a1,c1,a2,c2,rfl,hown,hb5⟩;rw[hD.out] at hown;rw[hD.out];have HS4:=qh (HS3.out.call hb5);have HDr:=qh hown.r;have hB1:=(HS3.out.boxlt 1 rfl).2;have hsz:=HS3.out.size;have f0:=HS4.out.fr 1 0 rfl;have f1:=HS4.out.fr 1 1 rfl;have k0:=HS4.out.cell (v:=.slice none 0 0) 1 0 rfl rfl;have k1:=HS4.out.cell (v:=.slice none 0 0) 1 1 rfl rfl;clear hown hb5;go_wp2;have hq:=(HS4.out.set 1 rfl 0 (.slice a1 D.next.length c1)).set 1 rfl 1 (.slice a2 D.ends.length c2);have q0:=hq.cell (v:=.slice a1 D.next.length c1) 1 0 rfl rfl;have q1:=hq.cell (v:=.slice a2 D.ends.length c2) 1 1 rfl rfl;refine bodyPost_ret (v:=.agg #[.slice a1 D.next.length c1,.slice a2 D.ends.length c2]) (by simp[results,Tryz.results66,go_sem,q0,q1]) rfl ?_;exact⟨a1,c1,a2,c2,rfl,((HDr.out.far hB1 0 _).far hB1 1 _).mono hsz,hq.bel⟩
theorem ZgA (D:DfaD) (hD:minD ⟨[[2,1,2],[2,2,2],[2,2,2]],[false,true,false]⟩=D) (w:World):Calls Tryz.prog 66 #[.agg #[.int .i64 3,.int .i64 1]] w fun e w'=>RDs D w e w':=by
 have hS0:=((St.start w).alloc _ rfl #[.int .i64 3,.int .i64 1] 55).alloc (w.heap.size+1) (by simp) #[.slice none 0 0,.slice none 0 0] 32;have hok:Zaf [[2,1,2],[2,2,2],[2,2,2]] [false,true,false]=true:=by decide
 replace hS0:=qh hS0;replace hD:=qh hD;have Hhok:=qh hok;clear hok
 go_enter Tryz.func66, Tryz.ntmps66
 have e0:=hS0.out.cell (v:=.int .i64 3) 0 0 rfl rfl;have e1:=hS0.out.cell (v:=.int .i64 1) 0 1 rfl rfl;go_wp2_with fail;refine(Za1 2 (w.heap.size+1+1) _ (by simp)).mono ?_;rintro e w1 ⟨rfl,rfl⟩;go_wp2_with fail;refine(Za1 2 (w.heap.size+1+1+1) _ (by simp)).mono ?_;rintro e w1 ⟨rfl,rfl⟩;go_wp2_with fail;refine(Za1 2 (w.heap.size+1+1+1+1) _ (by simp)).mono ?_;rintro e w1 ⟨rfl,rfl⟩;have hS3:=((((hS0.out.alloc (w.heap.size+1+1) (by simp) #[.int .i64 2,.int .i64 1,.int .i64 2] 3).alloc (w.heap.size+1+1+1) (by simp) #[.int .i64 2,.int .i64 2,.int .i64 2] 3).alloc (w.heap.size+1+1+1+1) (by simp) #[.int .i64 2,.int .i64 2,.int .i64 2] 3).alloc (w.heap.size+1+1+1+1+1) (by simp) #[.slice (some ⟨w.heap.size+1+1,0,none⟩) 3 3,.slice (some ⟨w.heap.size+1+1+1,0,none⟩) 3 3,.slice (some ⟨w.heap.size+1+1+1+1,0,none⟩) 3 3] 59).alloc (w.heap.size+1+1+1+1+1+1) (by simp) #[.bool false,.bool true,.bool false] 4;have hr:=((((hS3.boxrow 2 3 1 (intCells [2,1,2]) rfl rfl (by decide)).boxrow 3 3 1 (intCells [2,2,2]) rfl rfl (by decide)).boxrow 4 3 1 (intCells [2,2,2]) rfl rfl (by decide)).boxrow 5 3 1 [.slice (some ⟨w.heap.size+1+1,0,none⟩) 3 3,.slice (some ⟨w.heap.size+1+1+1,0,none⟩) 3 3,.slice (some ⟨w.heap.size+1+1+1+1,0,none⟩) 3 3] rfl rfl (by decide)).boxrow 6 3 1 (boolCells [false,true,false]) rfl rfl (by decide)
 have hR:DfaR 0 _ (.agg #[.slice (some ⟨w.heap.size+1+1+1+1+1,0,none⟩) 3 3,.slice (some ⟨w.heap.size+1+1+1+1+1+1,0,none⟩) 3 3]) ⟨[[2,1,2],[2,2,2],[2,2,2]],[false,true,false]⟩:=⟨_,_,rfl,⟨_,(Zfz hr 5 rfl).mono (Nat.zero_le _),fun i hi=>by
  have hi:i<3:=hi;obtain rfl|rfl|rfl:i=0∨i=1∨i=2:=by omega
  ·exact Sl.mono (Zbn hr 2 rfl) (Nat.zero_le _)
  ·exact Sl.mono (Zbn hr 3 rfl) (Nat.zero_le _)
  exact Sl.mono (Zbn hr 4 rfl) (Nat.zero_le _)⟩,Sl.mono (Zdo hr 6 rfl) (Nat.zero_le _)⟩
 have HS3:=qh hS3;have HR:=qh hR;clear hS3 hr hR e0 e1;go_wp2_with fail;refine(Za6 _ _ _ Hhok.out HR.out).mono ?_;rintro e w5 ⟨a1,c1,a2,c2,rfl,hown,hb5⟩;rw[hD.out] at hown;rw[hD.out];have HS4:=qh (HS3.out.call hb5);have HDr:=qh hown.r;have hB1:=(HS3.out.boxlt 1 rfl).2;have hsz:=HS3.out.size;have f0:=HS4.out.fr 1 0 rfl;have f1:=HS4.out.fr 1 1 rfl;have k0:=HS4.out.cell (v:=.slice none 0 0) 1 0 rfl rfl;have k1:=HS4.out.cell (v:=.slice none 0 0) 1 1 rfl rfl;clear hown hb5;go_wp2;have hq:=(HS4.out.set 1 rfl 0 (.slice a1 D.next.length c1)).set 1 rfl 1 (.slice a2 D.ends.length c2);have q0:=hq.cell (v:=.slice a1 D.next.length c1) 1 0 rfl rfl;have q1:=hq.cell (v:=.slice a2 D.ends.length c2) 1 1 rfl rfl;refine bodyPost_ret (v:=.agg #[.slice a1 D.next.length c1,.slice a2 D.ends.length c2]) (by simp[results,Tryz.results66,go_sem,q0,q1]) rfl ?_;exact⟨a1,c1,a2,c2,rfl,((HDr.out.far hB1 0 _).far hB1 1 _).mono hsz,hq.bel⟩
theorem Zgz (D:DfaD) (hD:minD ⟨[[2,2,1],[2,2,2],[2,2,2]],[false,true,false]⟩=D) (w:World):Calls Tryz.prog 66 #[.agg #[.int .i64 3,.int .i64 2]] w fun e w'=>RDs D w e w':=by
 have hS0:=((St.start w).alloc _ rfl #[.int .i64 3,.int .i64 2] 55).alloc (w.heap.size+1) (by simp) #[.slice none 0 0,.slice none 0 0] 32;have hok:Zaf [[2,2,1],[2,2,2],[2,2,2]] [false,true,false]=true:=by decide
 replace hS0:=qh hS0;replace hD:=qh hD;have Hhok:=qh hok;clear hok
 go_enter Tryz.func66, Tryz.ntmps66
 have e0:=hS0.out.cell (v:=.int .i64 3) 0 0 rfl rfl;have e1:=hS0.out.cell (v:=.int .i64 2) 0 1 rfl rfl;go_wp2_with fail;refine(Za1 2 (w.heap.size+1+1) _ (by simp)).mono ?_;rintro e w1 ⟨rfl,rfl⟩;go_wp2_with fail;refine(Za1 2 (w.heap.size+1+1+1) _ (by simp)).mono ?_;rintro e w1 ⟨rfl,rfl⟩;go_wp2_with fail;refine(Za1 2 (w.heap.size+1+1+1+1) _ (by simp)).mono ?_;rintro e w1 ⟨rfl,rfl⟩;have hS3:=((((hS0.out.alloc (w.heap.size+1+1) (by simp) #[.int .i64 2,.int .i64 2,.int .i64 1] 3).alloc (w.heap.size+1+1+1) (by simp) #[.int .i64 2,.int .i64 2,.int .i64 2] 3).alloc (w.heap.size+1+1+1+1) (by simp) #[.int .i64 2,.int .i64 2,.int .i64 2] 3).alloc (w.heap.size+1+1+1+1+1) (by simp) #[.slice (some ⟨w.heap.size+1+1,0,none⟩) 3 3,.slice (some ⟨w.heap.size+1+1+1,0,none⟩) 3 3,.slice (some ⟨w.heap.size+1+1+1+1,0,none⟩) 3 3] 59).alloc (w.heap.size+1+1+1+1+1+1) (by simp) #[.bool false,.bool true,.bool false] 4;have hr:=((((hS3.boxrow 2 3 1 (intCells [2,2,1]) rfl rfl (by decide)).boxrow 3 3 1 (intCells [2,2,2]) rfl rfl (by decide)).boxrow 4 3 1 (intCells [2,2,2]) rfl rfl (by decide)).boxrow 5 3 1 [.slice (some ⟨w.heap.size+1+1,0,none⟩) 3 3,.slice (some ⟨w.heap.size+1+1+1,0,none⟩) 3 3,.slice (some ⟨w.heap.size+1+1+1+1,0,none⟩) 3 3] rfl rfl (by decide)).boxrow 6 3 1 (boolCells [false,true,false]) rfl rfl (by decide)
 have hR:DfaR 0 _ (.agg #[.slice (some ⟨w.heap.size+1+1+1+1+1,0,none⟩) 3 3,.slice (some ⟨w.heap.size+1+1+1+1+1+1,0,none⟩) 3 3]) ⟨[[2,2,1],[2,2,2],[2,2,2]],[false,true,false]⟩:=⟨_,_,rfl,⟨_,(Zfz hr 5 rfl).mono (Nat.zero_le _),fun i hi=>by
  have hi:i<3:=hi;obtain rfl|rfl|rfl:i=0∨i=1∨i=2:=by omega
  ·exact Sl.mono (Zbn hr 2 rfl) (Nat.zero_le _)
  ·exact Sl.mono (Zbn hr 3 rfl) (Nat.zero_le _)
  exact Sl.mono (Zbn hr 4 rfl) (Nat.zero_le _)⟩,Sl.mono (Zdo hr 6 rfl) (Nat.zero_le _)⟩
 have HS3:=qh hS3;have HR:=qh hR;clear hS3 hr hR e0 e1;go_wp2_with fail;refine(Za6 _ _ _ Hhok.out HR.out).mono ?_;rintro e w5 ⟨a1,c1,a2,c2,rfl,hown,hb5⟩;rw[hD.out] at hown;rw[hD.out];have HS4:=qh (HS3.out.call hb5);have HDr:=qh hown.r;have hB1:=(HS3.out.boxlt 1 rfl).2;have hsz:=HS3.out.size;have f0:=HS4.out.fr 1 0 rfl;have f1:=HS4.out.fr 1 1 rfl;have k0:=HS4.out.cell (v:=.slice none 0 0) 1 0 rfl rfl;have k1:=HS4.out.cell (v:=.slice none 0 0) 1 1 rfl rfl;clear hown hb5;go_wp2;have hq:=(HS4.out.set 1 rfl 0 (.slice a1 D.next.length c1)).set 1 rfl 1 (.slice a2 D.ends.length c2);have q0:=hq.cell (v:=.slice a1 D.next.length c1) 1 0 rfl rfl;have q1:=hq.cell (v:=.slice a2 D.ends.length c2) 1 1 rfl rfl;refine bodyPost_ret (v:=.agg #[.slice a1 D.next.length c1,.slice a2 D.ends.length c2]) (by simp[results,Tryz.results66,go_sem,q0,q1]) rfl ?_;exact⟨a1,c1,a2,c2,rfl,((HDr.out.far hB1 0 _).far hB1 1 _).mono hsz,hq.bel⟩
theorem ZiM (k l:Int) (w:World) (hok:pOk (k,l)=true) (h0:Zah (k,l)=0) (D:DfaD) (hD:Ziz (k,l)=D):Calls Tryz.prog 66 #[.agg #[.int .i64 k,.int .i64 l]] w fun e w'=>RDs D w e w':=by
 have hk:(k=1∧l=0)∨(k=2∧l=0)∨(k=3∧0≤l∧l≤2):=by
  unfold Zah at h0;rw[if_pos hok] at h0;simp only[pOk,inB,Bool.and_eq_true,Bool.or_eq_true,decide_eq_true_eq,Bool.not_eq_true',decide_eq_false_iff_not] at hok
  split at h0
  ·omega
  split at h0<;>omega
 subst hD;rcases hk with⟨rfl,rfl⟩|⟨rfl,rfl⟩|⟨rfl,h1,h2⟩
 ·exact ZhN w
 ·exact ZhM w
 obtain⟨c,rfl⟩:∃ c:Nat,l=(c:Int):=⟨l.toNat,by omega⟩;obtain rfl|rfl|rfl:c=0∨c=1∨c=2:=by omega
 ·exact ZgB _ rfl w
 ·exact ZgA _ rfl w
 exact Zgz _ rfl w
theorem Zmn {l:List Bool} {k:Nat} (hk:k<l.length) {y:Bool} (hy:(!l.getD k false)=y):boolCells ((l.take (k+1)).map (!·))=boolCells ((l.take k).map (!·))++[.bool y]:=by
 have e:l.getD k false=l[k]:=by simp[hk]
 rw[e] at hy;rw[List.take_succ_eq_append_getElem hk,List.map_append];show boolCells ((l.take k).map (!·)++[!l[k]])=_;rw[Zor,hy]
theorem Zoj (d:DfaD):flB true d=⟨d.next,d.ends.map (!·)⟩:=by unfold flB;congr 1;exact List.map_congr_left fun x _=>by cases x<;>rfl
theorem ZdF (d:DfaD) (v1 v2:Value) (w:World) (hd:Zaf d.next d.ends=true) (h:DfaR 0 w (.agg #[v1,v2]) d) :
  Calls Tryz.prog 54 #[.agg #[v1,v2]] w fun e w'=>∃ u2,e = .returned (.agg #[v1,u2])∧Bools w.heap.size w' u2 (flB true d).ends∧Below w.heap.size w w':=by
 rw[Zoj];obtain⟨L,hL⟩:=eI (d.ends.length);have hl:=Zad hd;have hL40:L≤40:=by omega
 obtain⟨_,_,hv,q1,q2⟩:=h;simp only[Value.agg.injEq,Array.mk.injEq,List.cons.injEq,and_true] at hv;obtain⟨rfl,rfl⟩:=hv;obtain⟨a1,c1,rfl,hca,hcb,-⟩:=q1.formI;have hS0:=(((St.start w).alloc w.heap.size rfl #[.slice a1 d.next.length c1,v2] 32).alloc (w.heap.size+1) (by simp) #[.slice none 0 0,.slice none 0 0] 32).alloc (w.heap.size+1+1) (by simp) #[.slice a1 d.next.length c1,.slice none 0 0] 32;have HS0:=qh (hS0.nilRow 4 1);obtain⟨a2,c2,rfl,hc1,hc2,hr2⟩:=q2.form;rw[← hL] at hc1 hr2;rw[← hL] at HS0;obtain⟨i0,hi,hz0,hz1,hz2⟩:=info_parts Tryz.infoBool;have Hr:=qh hr2;have e0:=hS0.cell (v:=.slice a1 d.next.length c1) 0 0 rfl rfl;have e1:=hS0.cell (v:=.slice a2 d.ends.length c2) 0 1 rfl rfl;rw[← hL] at e1;rw[← hL];replace hi:=qh hi;have Hhz0:=qh hz0;clear hz0;have Hhz1:=qh hz1;clear hz1;have Hhz2:=qh hz2;clear hz2;replace hL:=qh hL;clear hr2 q1 q2 hl hS0
 go_enter Tryz.func54, Tryz.ntmps54
 go_wp2;clear e0 e1
 go_loopw [5,12] (fun _ i wr=>∃ (k c:Nat) (a:Option Addr),i = .int .i64 (k:Int)∧k≤L∧St w wr [Ent.box w.heap.size #[.slice a1 d.next.length c1,.slice a2 L c2] 32,Ent.box (w.heap.size+1) #[.slice none 0 0,.slice none 0 0] 32,Ent.box (w.heap.size+1+1) #[.slice a1 d.next.length c1,.slice a k c] 32,Ent.row 4 1 (.slice a k c) k (boolCells ((d.ends.take k).map (!·)))])
  (fun _ i _=>L-(intOf i).toNat)
 case atStart=>exact⟨0,0,none,rfl,Nat.zero_le _,HS0.out⟩
 case round =>
  obtain⟨k,c,a,rfl,hk,hS⟩:=hrel;by_cases hlt:k<L
  ·have hlt2:(k:Int)<L:=by omega
   obtain⟨b2,o2,rfl,-,hb2,hcs⟩:=Hr.out (by omega);have k2:=(bcell hS.bel b2 _ hb2).trans (hcs k hlt);obtain⟨x,hx⟩:=eJ (d.ends.getD k false);rw[hx] at k2;obtain⟨y,hy⟩:=eJ ((!x));have hsn:=Zmn (l:=d.ends) (k:=k) (by rw[← hL.out];exact hlt) (by rw[hx,hy]);have HS:=qh hS;have HSa:=qh (hS.alloc_ (.cells #[.bool y] 4));have HRw:=qh (HSa.out.row 3 rfl);have x1:=hS.cell (v:=.slice a k c) 2 1 rfl rfl;have Hhx:=qh hx;clear hx;have Hhsn:=qh hsn;clear hsn;clear hcs hS;go_wp2_with (at_builtin;refine wpList_append_lies _ rfl _ _ _ rfl _ 4 i0 (.bool false) 1 1 Tryz.underlying30 hi.out Hhz0.out Hhz1.out Hhz2.out rfl (by omega) _ k _ rfl HRw.out ⟨wr.heap.size,0,none⟩ 1 1 [.bool y] rfl rfl (World.news_of_block (heap_alloc_new wr _)) ZaZ (by omega) (by unfold maxLen;omega) (by omega) HSa.out.size _ rfl ?_;intro g6 c6 w6 hown6 hgrow6 hat6 hlt6;have HS6:=qh (HSa.out.app 3 rfl hown6 hgrow6 hat6);have y1:=HS6.out.cell (v:=.slice a k c) 2 1 rfl rfl;have y2:=HS6.out.fr 2 1 rfl;clear hown6 hgrow6 hat6 hlt6);go_roundw
   case rel =>refine⟨k+1,c6,some ⟨g6,0,none⟩,by go_num,by omega,?_⟩;rw[Hhsn.out];exact HS6.out.set 2 rfl 1 (.slice (some ⟨g6,0,none⟩) (k+1) c6)
   case measure=>simp[intOf];omega
  obtain rfl:k=L:=by omega
  have HSe:=qh hS;have t0:=hS.cell (v:=.slice a1 d.next.length c1) 2 0 rfl rfl;have t1:=hS.cell (v:=.slice a k c) 2 1 rfl rfl;have f0:=hS.fr 1 0 rfl;have f1:=hS.fr 1 1 rfl;have k0:=hS.cell (v:=.slice none 0 0) 1 0 rfl rfl;have k1:=hS.cell (v:=.slice none 0 0) 1 1 rfl rfl;clear hS;go_wp2;have hq:=(HSe.out.set 1 rfl 0 (.slice a1 d.next.length c1)).set 1 rfl 1 (.slice a k c);have q0:=hq.cell (v:=.slice a1 d.next.length c1) 1 0 rfl rfl;have q1:=hq.cell (v:=.slice a k c) 1 1 rfl rfl;refine bodyPost_ret (v:=.agg #[.slice a1 d.next.length c1,.slice a k c]) (by simp[results,Tryz.results54,go_sem,q0,q1]) rfl ?_;refine⟨.slice a k c,rfl,?_,hq.bel⟩;have hrow:=hq.row 3 rfl;have e:d.ends.take k=d.ends:=by rw[hL.out];exact List.take_length
  rw[e] at hrow;have e2:k=(d.ends.map (!·)).length:=by rw[List.length_map];exact hL.out
  exact(Zaa hrow).sl (by omega) |> fun z=>by rw[e2] at z;exact e2 ▸ z
theorem ZhL (d:DfaD) (v:Value) (w:World) (hd:Zaf d.next d.ends=true) (h:DfaR 0 w v d) :
  Calls Tryz.prog 54 #[v] w fun e w'=>∃ u1 u2,e = .returned (.agg #[u1,u2])∧DfaR 0 w' (.agg #[u1,u2]) (flB true d)∧Below w.heap.size w w':=by
 have H:=h;obtain⟨v1,v2,rfl,q1,-⟩:=h;exact(ZdF d v1 v2 w hd H).mono fun e w' ⟨u2,he,hu,hb⟩=>⟨v1,u2,he,⟨_,_,rfl,q1.below hb,Sl.mono hu (Nat.zero_le _)⟩,hb⟩
def othQ (d:DfaD):DfaD:=if Zaf d.next d.ends=true then minD (flB true d) else⟨[],[]⟩
theorem Ze4 (d:DfaD) (D:DfaD) (hD:othQ d=D) (v:Value) (w:World) (h:DfaR 0 w v d) :
  Calls Tryz.prog 23 #[v] w fun e w'=>RDs D w e w':=by
 have H:=qh h;obtain⟨v1,v2,rfl,g1,g2⟩:=h;have hS0:=((St.start w).alloc _ rfl #[v1,v2] 32).alloc (w.heap.size+1) (by simp) #[.slice none 0 0,.slice none 0 0] 32;have e0:=hS0.cell (v:=v1) 0 0 rfl rfl;have e1:=hS0.cell (v:=v2) 0 1 rfl rfl;replace hS0:=qh hS0;clear g1 g2;cases hok:Zaf d.next d.ends
 ·have hz:D=⟨[],[]⟩:=by rw[← hD];unfold othQ;rw[if_neg (by rw[hok];simp)]
  subst hz;have Hhok:=qh hok;clear hok;clear hD
  go_enter Tryz.func23, Tryz.ntmps23
  go_wp2_with fail;refine(Zbo d _ _ (H.out.below hS0.out.bel) _ Hhok.out).mono ?_;rintro e w1 ⟨rfl,hb1⟩;have HS1:=qh (hS0.out.call hb1);clear hb1 e0 e1;have f0:=HS1.out.fr 1 0 rfl;have f1:=HS1.out.fr 1 1 rfl;have k0:=HS1.out.cell (v:=.slice none 0 0) 1 0 rfl rfl;have k1:=HS1.out.cell (v:=.slice none 0 0) 1 1 rfl rfl;go_wp2;have hq:=(HS1.out.set 1 rfl 0 (.slice none 0 0)).set 1 rfl 1 (.slice none 0 0);have q0:=hq.cell (v:=.slice none 0 0) 1 0 rfl rfl;have q1:=hq.cell (v:=.slice none 0 0) 1 1 rfl rfl;refine bodyPost_ret (v:=.agg #[.slice none 0 0,.slice none 0 0]) (by simp[results,Tryz.results23,go_sem,q0,q1]) rfl ?_;exact⟨none,0,none,0,rfl,ZpF _ _,hq.bel⟩
 have hz:minD (flB true d)=D:=by rw[← hD];unfold othQ;rw[if_pos hok]
 have Hhok:=qh hok;clear hok;have Hz:=qh hz;clear hD hz
 go_enter Tryz.func23, Tryz.ntmps23
 go_wp2_with fail;refine(Zbo d _ _ (H.out.below hS0.out.bel) _ Hhok.out).mono ?_;rintro e w1 ⟨rfl,hb1⟩;have HS1:=qh (hS0.out.call hb1);clear hb1 e0 e1;have e0:=HS1.out.cell (v:=v1) 0 0 rfl rfl;have e1:=HS1.out.cell (v:=v2) 0 1 rfl rfl;go_wp2_with fail;refine(ZhL d _ _ Hhok.out (H.out.below HS1.out.bel)).mono ?_;rintro e w1' ⟨u1,u2,rfl,hou,hb1'⟩;have HS1':=qh (HS1.out.call hb1');have HS1:=HS1';clear hb1' e0 e1;go_wp2_with fail;refine(Za6 (flB true d) _ _ (ZiW Hhok.out) hou).mono ?_;rintro e w2 ⟨a1,c1,a2,c2,rfl,hdo,hb2⟩;rw[Hz.out] at hdo;rw[Hz.out];have HS2:=qh (HS1.out.call hb2);have HDr:=qh hdo.r;have hB1:=(HS1.out.boxlt 1 rfl).2;have hsz:=HS1.out.size;clear hb2 hdo hou;have f0:=HS2.out.fr 1 0 rfl;have f1:=HS2.out.fr 1 1 rfl;have k0:=HS2.out.cell (v:=.slice none 0 0) 1 0 rfl rfl;have k1:=HS2.out.cell (v:=.slice none 0 0) 1 1 rfl rfl;go_wp2;have hq:=(HS2.out.set 1 rfl 0 (.slice a1 D.next.length c1)).set 1 rfl 1 (.slice a2 D.ends.length c2);have q0:=hq.cell (v:=.slice a1 D.next.length c1) 1 0 rfl rfl;have q1:=hq.cell (v:=.slice a2 D.ends.length c2) 1 1 rfl rfl;refine bodyPost_ret (v:=.agg #[.slice a1 D.next.length c1,.slice a2 D.ends.length c2]) (by simp[results,Tryz.results23,go_sem,q0,q1]) rfl ?_;exact⟨a1,c1,a2,c2,rfl,((HDr.out.far hB1 0 _).far hB1 1 _).mono hsz,hq.bel⟩
end Go.Proofs.YtehmjmjedopkkaaGreat
