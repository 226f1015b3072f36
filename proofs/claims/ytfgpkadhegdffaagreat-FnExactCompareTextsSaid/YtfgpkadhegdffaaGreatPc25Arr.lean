/-
  The walks over the program's row and leafDfa.
  Condition: the part is valid and needs no operands.
-/
import Derived.Test.YtfgpkadhegdffaaGreatPc19Cst
import Derived.Test.YtfgpkadhegdffaaGreatPc23Su
set_option maxHeartbeats 4000000
set_option maxRecDepth 100000
namespace Go.Proofs.YtfgpkadhegdffaaGreat
open Go.RowKit
theorem Zbd (t:Int) (B:Nat) (w:World) (hB:w.heap.size=B):Calls Tryz.prog 118 #[.int .i64 t] w fun e w'=>e = .returned (.slice (some ⟨B,0,none⟩) 3 3)∧w'=w.alloc (.cells #[.int .i64 t,.int .i64 t,.int .i64 t] 3):=by
 subst hB
 go_enter Tryz.func118, Tryz.ntmps118
 go_wp2;go_ret;exact⟨rfl,rfl⟩
theorem Zbw {w0 w:World} {L:List Ent} (h:St w0 w L) (i:Nat) {e:Nat} {v:Value} {n:Nat} {l:List Int} (hx:L[i]? = some (Ent.row e 1 v n (intCells l))):Ints w0.heap.size w v l:=by
 have h2:=h.row i hx;have hn:n=l.length:=by have:=h2.1;simp[intCells] at this;omega
 subst hn;exact(Zab h2).sl (by omega)
theorem Zin {w0 w:World} {L:List Ent} (h:St w0 w L) (i:Nat) {e:Nat} {v:Value} {n:Nat} {cs:List Value} (hx:L[i]? = some (Ent.row e 1 v n cs)):Sl w0.heap.size w v n 1 cs:=(Zab (h.row i hx)).sl (by omega)
theorem Zdv {w0 w:World} {L:List Ent} (h:St w0 w L) (i:Nat) {e:Nat} {v:Value} {n:Nat} {l:List Bool} (hx:L[i]? = some (Ent.row e 1 v n (boolCells l))):Bools w0.heap.size w v l:=by
 have h2:=h.row i hx;have hn:n=l.length:=by have:=h2.1;simp[boolCells] at this;omega
 subst hn;exact(Zab h2).sl (by omega)
theorem ZhR (w:World):Calls Tryz.prog 76 #[.agg #[.int .i64 1,.int .i64 0]] w fun e w'=>RDs Zf0 w e w':=by
 have hS0:=((St.start w).alloc _ rfl #[.int .i64 1,.int .i64 0] 59).alloc (w.heap.size+1) (by simp) #[.slice none 0 0,.slice none 0 0] 25;replace hS0:=qh hS0
 go_enter Tryz.func76, Tryz.ntmps76
 have e0:=hS0.out.cell (v:=.int .i64 1) 0 0 rfl rfl;go_wp2_with fail;refine(Zbd 0 (w.heap.size+1+1) _ (by simp)).mono ?_;rintro e w1 ⟨rfl,rfl⟩;clear e0;go_wp2;have hq:=(((((St.start w).alloc _ rfl #[.int .i64 1,.int .i64 0] 59).alloc (w.heap.size+1) (by simp) #[.slice (some ⟨w.heap.size+1+1+1,0,none⟩) 1 1,.slice (some ⟨w.heap.size+1+1+1+1,0,none⟩) 1 1] 25).alloc (w.heap.size+1+1) (by simp) #[.int .i64 0,.int .i64 0,.int .i64 0] 3).alloc (w.heap.size+1+1+1) (by simp) #[.slice (some ⟨w.heap.size+1+1,0,none⟩) 3 3] 67).alloc (w.heap.size+1+1+1+1) (by simp) #[.bool false] 4;refine bodyPost_ret (v:=.agg #[.slice (some ⟨w.heap.size+1+1+1,0,none⟩) 1 1,.slice (some ⟨w.heap.size+1+1+1+1,0,none⟩) 1 1]) (by simp[results,Tryz.results76,go_sem]) rfl ?_;have hr:=((hq.boxrow 2 3 1 (intCells [0,0,0]) rfl rfl (by decide)).boxrow 3 1 1 [.slice (some ⟨w.heap.size+1+1,0,none⟩) 3 3] rfl rfl (by decide)).boxrow 4 1 1 (boolCells [false]) rfl rfl (by decide);refine⟨_,_,_,_,rfl,⟨_,_,rfl,⟨_,Zin hr 3 rfl,fun i hi => ?_⟩,Zdv hr 4 rfl⟩,hq.bel⟩;obtain rfl:i=0:=by have:i<1:=hi;omega
 exact Zbw hr 2 rfl
theorem ZhQ (w:World):Calls Tryz.prog 76 #[.agg #[.int .i64 2,.int .i64 0]] w fun e w'=>RDs oneD w e w':=by
 have hS0:=((St.start w).alloc _ rfl #[.int .i64 2,.int .i64 0] 59).alloc (w.heap.size+1) (by simp) #[.slice none 0 0,.slice none 0 0] 25;replace hS0:=qh hS0
 go_enter Tryz.func76, Tryz.ntmps76
 have e0:=hS0.out.cell (v:=.int .i64 2) 0 0 rfl rfl;go_wp2_with fail;refine(Zbd 1 (w.heap.size+1+1) _ (by simp)).mono ?_;rintro e w1 ⟨rfl,rfl⟩;go_wp2_with fail;refine(Zbd 1 (w.heap.size+1+1+1) _ (by simp)).mono ?_;rintro e w1 ⟨rfl,rfl⟩;clear e0;go_wp2;have hq:=((((((St.start w).alloc _ rfl #[.int .i64 2,.int .i64 0] 59).alloc (w.heap.size+1) (by simp) #[.slice (some ⟨w.heap.size+1+1+1+1,0,none⟩) 2 2,.slice (some ⟨w.heap.size+1+1+1+1+1,0,none⟩) 2 2] 25).alloc (w.heap.size+1+1) (by simp) #[.int .i64 1,.int .i64 1,.int .i64 1] 3).alloc (w.heap.size+1+1+1) (by simp) #[.int .i64 1,.int .i64 1,.int .i64 1] 3).alloc (w.heap.size+1+1+1+1) (by simp) #[.slice (some ⟨w.heap.size+1+1,0,none⟩) 3 3,.slice (some ⟨w.heap.size+1+1+1,0,none⟩) 3 3] 67).alloc (w.heap.size+1+1+1+1+1) (by simp) #[.bool true,.bool false] 4;refine bodyPost_ret (v:=.agg #[.slice (some ⟨w.heap.size+1+1+1+1,0,none⟩) 2 2,.slice (some ⟨w.heap.size+1+1+1+1+1,0,none⟩) 2 2]) (by simp[results,Tryz.results76,go_sem]) rfl ?_;have hr:=(((hq.boxrow 2 3 1 (intCells [1,1,1]) rfl rfl (by decide)).boxrow 3 3 1 (intCells [1,1,1]) rfl rfl (by decide)).boxrow 4 2 1 [.slice (some ⟨w.heap.size+1+1,0,none⟩) 3 3,.slice (some ⟨w.heap.size+1+1+1,0,none⟩) 3 3] rfl rfl (by decide)).boxrow 5 2 1 (boolCells [true,false]) rfl rfl (by decide);refine⟨_,_,_,_,rfl,⟨_,_,rfl,⟨_,Zin hr 4 rfl,fun i hi => ?_⟩,Zdv hr 5 rfl⟩,hq.bel⟩;have hi:i<2:=hi;obtain rfl|rfl:i=0∨i=1:=by omega
 ·exact Zbw hr 2 rfl
 exact Zbw hr 3 rfl
theorem ZgG (D:DfaD) (hD:minD ⟨[[1,2,2],[2,2,2],[2,2,2]],[false,true,false]⟩=D) (w:World):Calls Tryz.prog 76 #[.agg #[.int .i64 3,.int .i64 0]] w fun e w'=>RDs D w e w':=by
 have hS0:=((St.start w).alloc _ rfl #[.int .i64 3,.int .i64 0] 59).alloc (w.heap.size+1) (by simp) #[.slice none 0 0,.slice none 0 0] 25;have hok:Zae [[1,2,2],[2,2,2],[2,2,2]] [false,true,false]=true:=by decide
 replace hS0:=qh hS0;replace hD:=qh hD;have Hhok:=qh hok;clear hok
 go_enter Tryz.func76, Tryz.ntmps76
 have e0:=hS0.out.cell (v:=.int .i64 3) 0 0 rfl rfl;have e1:=hS0.out.cell (v:=.int .i64 0) 0 1 rfl rfl;go_wp2_with fail;refine(Zbd 2 (w.heap.size+1+1) _ (by simp)).mono ?_;rintro e w1 ⟨rfl,rfl⟩;go_wp2_with fail;refine(Zbd 2 (w.heap.size+1+1+1) _ (by simp)).mono ?_;rintro e w1 ⟨rfl,rfl⟩;go_wp2_with fail;refine(Zbd 2 (w.heap.size+1+1+1+1) _ (by simp)).mono ?_;rintro e w1 ⟨rfl,rfl⟩;have hS3:=((((hS0.out.alloc (w.heap.size+1+1) (by simp) #[.int .i64 1,.int .i64 2,.int .i64 2] 3).alloc (w.heap.size+1+1+1) (by simp) #[.int .i64 2,.int .i64 2,.int .i64 2] 3).alloc (w.heap.size+1+1+1+1) (by simp) #[.int .i64 2,.int .i64 2,.int .i64 2] 3).alloc (w.heap.size+1+1+1+1+1) (by simp) #[.slice (some ⟨w.heap.size+1+1,0,none⟩) 3 3,.slice (some ⟨w.heap.size+1+1+1,0,none⟩) 3 3,.slice (some ⟨w.heap.size+1+1+1+1,0,none⟩) 3 3] 67).alloc (w.heap.size+1+1+1+1+1+1) (by simp) #[.bool false,.bool true,.bool false] 4;have hr:=((((hS3.boxrow 2 3 1 (intCells [1,2,2]) rfl rfl (by decide)).boxrow 3 3 1 (intCells [2,2,2]) rfl rfl (by decide)).boxrow 4 3 1 (intCells [2,2,2]) rfl rfl (by decide)).boxrow 5 3 1 [.slice (some ⟨w.heap.size+1+1,0,none⟩) 3 3,.slice (some ⟨w.heap.size+1+1+1,0,none⟩) 3 3,.slice (some ⟨w.heap.size+1+1+1+1,0,none⟩) 3 3] rfl rfl (by decide)).boxrow 6 3 1 (boolCells [false,true,false]) rfl rfl (by decide)
 have hR:DfaR 0 _ (.agg #[.slice (some ⟨w.heap.size+1+1+1+1+1,0,none⟩) 3 3,.slice (some ⟨w.heap.size+1+1+1+1+1+1,0,none⟩) 3 3]) ⟨[[1,2,2],[2,2,2],[2,2,2]],[false,true,false]⟩:=⟨_,_,rfl,⟨_,(Zin hr 5 rfl).mono (Nat.zero_le _),fun i hi=>by
  have hi:i<3:=hi;obtain rfl|rfl|rfl:i=0∨i=1∨i=2:=by omega
  ·exact Sl.mono (Zbw hr 2 rfl) (Nat.zero_le _)
  ·exact Sl.mono (Zbw hr 3 rfl) (Nat.zero_le _)
  exact Sl.mono (Zbw hr 4 rfl) (Nat.zero_le _)⟩,Sl.mono (Zdv hr 6 rfl) (Nat.zero_le _)⟩
 have HS3:=qh hS3;have HR:=qh hR;clear hS3 hr hR e0 e1;go_wp2_with fail;refine(ZbS _ _ _ Hhok.out HR.out).mono ?_;rintro e w5 ⟨a1,c1,a2,c2,rfl,hown,hb5⟩;rw[hD.out] at hown;rw[hD.out];have HS4:=qh (HS3.out.call hb5);have HDr:=qh hown.r;have hB1:=(HS3.out.boxlt 1 rfl).2;have hsz:=HS3.out.size;have f0:=HS4.out.fr 1 0 rfl;have f1:=HS4.out.fr 1 1 rfl;have k0:=HS4.out.cell (v:=.slice none 0 0) 1 0 rfl rfl;have k1:=HS4.out.cell (v:=.slice none 0 0) 1 1 rfl rfl;clear hown hb5;go_wp2;have hq:=(HS4.out.set 1 rfl 0 (.slice a1 D.next.length c1)).set 1 rfl 1 (.slice a2 D.ends.length c2);have q0:=hq.cell (v:=.slice a1 D.next.length c1) 1 0 rfl rfl;have q1:=hq.cell (v:=.slice a2 D.ends.length c2) 1 1 rfl rfl;refine bodyPost_ret (v:=.agg #[.slice a1 D.next.length c1,.slice a2 D.ends.length c2]) (by simp[results,Tryz.results76,go_sem,q0,q1]) rfl ?_;exact⟨a1,c1,a2,c2,rfl,((HDr.out.far hB1 0 _).far hB1 1 _).mono hsz,hq.bel⟩
theorem ZgF (D:DfaD) (hD:minD ⟨[[2,1,2],[2,2,2],[2,2,2]],[false,true,false]⟩=D) (w:World):Calls Tryz.prog 76 #[.agg #[.int .i64 3,.int .i64 1]] w fun e w'=>RDs D w e w':=by
 have hS0:=((St.start w).alloc _ rfl #[.int .i64 3,.int .i64 1] 59).alloc (w.heap.size+1) (by simp) #[.slice none 0 0,.slice none 0 0] 25;have hok:Zae [[2,1,2],[2,2,2],[2,2,2]] [false,true,false]=true:=by decide
 replace hS0:=qh hS0;replace hD:=qh hD;have Hhok:=qh hok;clear hok
 go_enter Tryz.func76, Tryz.ntmps76
 have e0:=hS0.out.cell (v:=.int .i64 3) 0 0 rfl rfl;have e1:=hS0.out.cell (v:=.int .i64 1) 0 1 rfl rfl;go_wp2_with fail;refine(Zbd 2 (w.heap.size+1+1) _ (by simp)).mono ?_;rintro e w1 ⟨rfl,rfl⟩;go_wp2_with fail;refine(Zbd 2 (w.heap.size+1+1+1) _ (by simp)).mono ?_;rintro e w1 ⟨rfl,rfl⟩;go_wp2_with fail;refine(Zbd 2 (w.heap.size+1+1+1+1) _ (by simp)).mono ?_;rintro e w1 ⟨rfl,rfl⟩;have hS3:=((((hS0.out.alloc (w.heap.size+1+1) (by simp) #[.int .i64 2,.int .i64 1,.int .i64 2] 3).alloc (w.heap.size+1+1+1) (by simp) #[.int .i64 2,.int .i64 2,.int .i64 2] 3).alloc (w.heap.size+1+1+1+1) (by simp) #[.int .i64 2,.int .i64 2,.int .i64 2] 3).alloc (w.heap.size+1+1+1+1+1) (by simp) #[.slice (some ⟨w.heap.size+1+1,0,none⟩) 3 3,.slice (some ⟨w.heap.size+1+1+1,0,none⟩) 3 3,.slice (some ⟨w.heap.size+1+1+1+1,0,none⟩) 3 3] 67).alloc (w.heap.size+1+1+1+1+1+1) (by simp) #[.bool false,.bool true,.bool false] 4;have hr:=((((hS3.boxrow 2 3 1 (intCells [2,1,2]) rfl rfl (by decide)).boxrow 3 3 1 (intCells [2,2,2]) rfl rfl (by decide)).boxrow 4 3 1 (intCells [2,2,2]) rfl rfl (by decide)).boxrow 5 3 1 [.slice (some ⟨w.heap.size+1+1,0,none⟩) 3 3,.slice (some ⟨w.heap.size+1+1+1,0,none⟩) 3 3,.slice (some ⟨w.heap.size+1+1+1+1,0,none⟩) 3 3] rfl rfl (by decide)).boxrow 6 3 1 (boolCells [false,true,false]) rfl rfl (by decide)
 have hR:DfaR 0 _ (.agg #[.slice (some ⟨w.heap.size+1+1+1+1+1,0,none⟩) 3 3,.slice (some ⟨w.heap.size+1+1+1+1+1+1,0,none⟩) 3 3]) ⟨[[2,1,2],[2,2,2],[2,2,2]],[false,true,false]⟩:=⟨_,_,rfl,⟨_,(Zin hr 5 rfl).mono (Nat.zero_le _),fun i hi=>by
  have hi:i<3:=hi;obtain rfl|rfl|rfl:i=0∨i=1∨i=2:=by omega
  ·exact Sl.mono (Zbw hr 2 rfl) (Nat.zero_le _)
  ·exact Sl.mono (Zbw hr 3 rfl) (Nat.zero_le _)
  exact Sl.mono (Zbw hr 4 rfl) (Nat.zero_le _)⟩,Sl.mono (Zdv hr 6 rfl) (Nat.zero_le _)⟩
 have HS3:=qh hS3;have HR:=qh hR;clear hS3 hr hR e0 e1;go_wp2_with fail;refine(ZbS _ _ _ Hhok.out HR.out).mono ?_;rintro e w5 ⟨a1,c1,a2,c2,rfl,hown,hb5⟩;rw[hD.out] at hown;rw[hD.out];have HS4:=qh (HS3.out.call hb5);have HDr:=qh hown.r;have hB1:=(HS3.out.boxlt 1 rfl).2;have hsz:=HS3.out.size;have f0:=HS4.out.fr 1 0 rfl;have f1:=HS4.out.fr 1 1 rfl;have k0:=HS4.out.cell (v:=.slice none 0 0) 1 0 rfl rfl;have k1:=HS4.out.cell (v:=.slice none 0 0) 1 1 rfl rfl;clear hown hb5;go_wp2;have hq:=(HS4.out.set 1 rfl 0 (.slice a1 D.next.length c1)).set 1 rfl 1 (.slice a2 D.ends.length c2);have q0:=hq.cell (v:=.slice a1 D.next.length c1) 1 0 rfl rfl;have q1:=hq.cell (v:=.slice a2 D.ends.length c2) 1 1 rfl rfl;refine bodyPost_ret (v:=.agg #[.slice a1 D.next.length c1,.slice a2 D.ends.length c2]) (by simp[results,Tryz.results76,go_sem,q0,q1]) rfl ?_;exact⟨a1,c1,a2,c2,rfl,((HDr.out.far hB1 0 _).far hB1 1 _).mono hsz,hq.bel⟩
theorem ZgE (D:DfaD) (hD:minD ⟨[[2,2,1],[2,2,2],[2,2,2]],[false,true,false]⟩=D) (w:World):Calls Tryz.prog 76 #[.agg #[.int .i64 3,.int .i64 2]] w fun e w'=>RDs D w e w':=by
 have hS0:=((St.start w).alloc _ rfl #[.int .i64 3,.int .i64 2] 59).alloc (w.heap.size+1) (by simp) #[.slice none 0 0,.slice none 0 0] 25;have hok:Zae [[2,2,1],[2,2,2],[2,2,2]] [false,true,false]=true:=by decide
 replace hS0:=qh hS0;replace hD:=qh hD;have Hhok:=qh hok;clear hok
 go_enter Tryz.func76, Tryz.ntmps76
 have e0:=hS0.out.cell (v:=.int .i64 3) 0 0 rfl rfl;have e1:=hS0.out.cell (v:=.int .i64 2) 0 1 rfl rfl;go_wp2_with fail;refine(Zbd 2 (w.heap.size+1+1) _ (by simp)).mono ?_;rintro e w1 ⟨rfl,rfl⟩;go_wp2_with fail;refine(Zbd 2 (w.heap.size+1+1+1) _ (by simp)).mono ?_;rintro e w1 ⟨rfl,rfl⟩;go_wp2_with fail;refine(Zbd 2 (w.heap.size+1+1+1+1) _ (by simp)).mono ?_;rintro e w1 ⟨rfl,rfl⟩;have hS3:=((((hS0.out.alloc (w.heap.size+1+1) (by simp) #[.int .i64 2,.int .i64 2,.int .i64 1] 3).alloc (w.heap.size+1+1+1) (by simp) #[.int .i64 2,.int .i64 2,.int .i64 2] 3).alloc (w.heap.size+1+1+1+1) (by simp) #[.int .i64 2,.int .i64 2,.int .i64 2] 3).alloc (w.heap.size+1+1+1+1+1) (by simp) #[.slice (some ⟨w.heap.size+1+1,0,none⟩) 3 3,.slice (some ⟨w.heap.size+1+1+1,0,none⟩) 3 3,.slice (some ⟨w.heap.size+1+1+1+1,0,none⟩) 3 3] 67).alloc (w.heap.size+1+1+1+1+1+1) (by simp) #[.bool false,.bool true,.bool false] 4;have hr:=((((hS3.boxrow 2 3 1 (intCells [2,2,1]) rfl rfl (by decide)).boxrow 3 3 1 (intCells [2,2,2]) rfl rfl (by decide)).boxrow 4 3 1 (intCells [2,2,2]) rfl rfl (by decide)).boxrow 5 3 1 [.slice (some ⟨w.heap.size+1+1,0,none⟩) 3 3,.slice (some ⟨w.heap.size+1+1+1,0,none⟩) 3 3,.slice (some ⟨w.heap.size+1+1+1+1,0,none⟩) 3 3] rfl rfl (by decide)).boxrow 6 3 1 (boolCells [false,true,false]) rfl rfl (by decide)
 have hR:DfaR 0 _ (.agg #[.slice (some ⟨w.heap.size+1+1+1+1+1,0,none⟩) 3 3,.slice (some ⟨w.heap.size+1+1+1+1+1+1,0,none⟩) 3 3]) ⟨[[2,2,1],[2,2,2],[2,2,2]],[false,true,false]⟩:=⟨_,_,rfl,⟨_,(Zin hr 5 rfl).mono (Nat.zero_le _),fun i hi=>by
  have hi:i<3:=hi;obtain rfl|rfl|rfl:i=0∨i=1∨i=2:=by omega
  ·exact Sl.mono (Zbw hr 2 rfl) (Nat.zero_le _)
  ·exact Sl.mono (Zbw hr 3 rfl) (Nat.zero_le _)
  exact Sl.mono (Zbw hr 4 rfl) (Nat.zero_le _)⟩,Sl.mono (Zdv hr 6 rfl) (Nat.zero_le _)⟩
 have HS3:=qh hS3;have HR:=qh hR;clear hS3 hr hR e0 e1;go_wp2_with fail;refine(ZbS _ _ _ Hhok.out HR.out).mono ?_;rintro e w5 ⟨a1,c1,a2,c2,rfl,hown,hb5⟩;rw[hD.out] at hown;rw[hD.out];have HS4:=qh (HS3.out.call hb5);have HDr:=qh hown.r;have hB1:=(HS3.out.boxlt 1 rfl).2;have hsz:=HS3.out.size;have f0:=HS4.out.fr 1 0 rfl;have f1:=HS4.out.fr 1 1 rfl;have k0:=HS4.out.cell (v:=.slice none 0 0) 1 0 rfl rfl;have k1:=HS4.out.cell (v:=.slice none 0 0) 1 1 rfl rfl;clear hown hb5;go_wp2;have hq:=(HS4.out.set 1 rfl 0 (.slice a1 D.next.length c1)).set 1 rfl 1 (.slice a2 D.ends.length c2);have q0:=hq.cell (v:=.slice a1 D.next.length c1) 1 0 rfl rfl;have q1:=hq.cell (v:=.slice a2 D.ends.length c2) 1 1 rfl rfl;refine bodyPost_ret (v:=.agg #[.slice a1 D.next.length c1,.slice a2 D.ends.length c2]) (by simp[results,Tryz.results76,go_sem,q0,q1]) rfl ?_;exact⟨a1,c1,a2,c2,rfl,((HDr.out.far hB1 0 _).far hB1 1 _).mono hsz,hq.bel⟩
theorem ZiP (k l:Int) (w:World) (hok:pOk (k,l)=true) (h0:Zai (k,l)=0) (D:DfaD) (hD:ZiH (k,l)=D):Calls Tryz.prog 76 #[.agg #[.int .i64 k,.int .i64 l]] w fun e w'=>RDs D w e w':=by
 have hk:(k=1∧l=0)∨(k=2∧l=0)∨(k=3∧0≤l∧l≤2):=by
  unfold Zai at h0;rw[if_pos hok] at h0;simp only[pOk,inB,Bool.and_eq_true,Bool.or_eq_true,decide_eq_true_eq,Bool.not_eq_true',decide_eq_false_iff_not] at hok
  split at h0
  ·omega
  split at h0<;>omega
 subst hD;rcases hk with⟨rfl,rfl⟩|⟨rfl,rfl⟩|⟨rfl,h1,h2⟩
 ·exact ZhR w
 ·exact ZhQ w
 obtain⟨c,rfl⟩:∃ c:Nat,l=(c:Int):=⟨l.toNat,by omega⟩;obtain rfl|rfl|rfl:c=0∨c=1∨c=2:=by omega
 ·exact ZgG _ rfl w
 ·exact ZgF _ rfl w
 exact ZgE _ rfl w
theorem ZdM (x:Int) (w:World) (r:Bool) (hr:inB x 0 2=r):Calls Tryz.prog 161 #[.int .i64 x] w fun e w'=>e = .returned (.bool r)∧w=w':=by
 have Hr:=qh hr;clear hr
 go_enter Tryz.func161, Tryz.ntmps161
 go_wp2_with fail;refine(Zbl _ _ _ _ _ Hr.out).mono ?_;rintro e w1 ⟨rfl,rfl⟩;go_wp2;go_ret;exact⟨rfl,rfl⟩
theorem ZcR (k l:Int) (w:World) (r:Bool) (hr:pOk (k,l)=r) :
  Calls Tryz.prog 128 #[.agg #[.int .i64 k,.int .i64 l]] w fun e w'=>e = .returned (.bool r)∧Below w.heap.size w w':=by
 unfold pOk at hr;simp only at hr;by_cases h3:k=3
 ·subst h3;have h1:inB 3 1 8=true:=by decide
  rw[h1,Bool.true_and] at hr;cases h2:inB l 0 2
  ·rw[h2] at hr;have hr:false=r:=hr;subst hr;have H2:=qh h2;clear h2 h1
   go_enter Tryz.func128, Tryz.ntmps128
   go_wp2_with fail;refine(ZdM _ _ _ H2.out).mono ?_;rintro e w1 ⟨rfl,rfl⟩;go_wp2;go_ret;exact⟨rfl,(Below.refl _ _).alloc (Nat.le_refl _) _⟩
  rw[h2] at hr;have hr:true=r:=hr;subst hr;have H2:=qh h2;clear h2 h1
  go_enter Tryz.func128, Tryz.ntmps128
  go_wp2_with fail;refine(ZdM _ _ _ H2.out).mono ?_;rintro e w1 ⟨rfl,rfl⟩;go_wp2;go_ret;exact⟨rfl,(Below.refl _ _).alloc (Nat.le_refl _) _⟩
 obtain⟨q1,q2,q3,q4⟩:=Zdl h3;rw[decide_eq_false h3] at hr;cases h1:inB k 1 8
 ·rw[h1,Bool.false_and] at hr;subst hr;have H1:=qh h1;clear h1
  go_enter Tryz.func128, Tryz.ntmps128
  go_wp2_with fail;refine(Zbl _ _ _ _ _ H1.out).mono ?_;rintro e w1 ⟨rfl,rfl⟩;go_wp2;go_ret;exact⟨rfl,(Below.refl _ _).alloc (Nat.le_refl _) _⟩
 rw[h1,Bool.true_and] at hr;have H1:=qh h1;clear h1;have hr:decide (l=0)=r:=hr;subst hr
 go_enter Tryz.func128, Tryz.ntmps128
 go_wp2_with fail;refine(Zbl _ _ _ _ _ H1.out).mono ?_;rintro e w1 ⟨rfl,rfl⟩;by_cases h0:l=0
 ·subst h0;go_wp2;go_ret;exact⟨rfl,(Below.refl _ _).alloc (Nat.le_refl _) _⟩
 obtain⟨p1,p2,p3,p4⟩:=Zdl h0;go_wp2;go_ret;exact⟨by rw[decide_eq_false h0];rfl,(Below.refl _ _).alloc (Nat.le_refl _) _⟩
theorem ZaW (k l:Int) (w:World) (r:Int) (hr:Zai (k,l)=r) (h0:0≤r) :
  Calls Tryz.prog 75 #[.agg #[.int .i64 k,.int .i64 l]] w fun e w'=>e = .returned (.int .i64 r)∧Below w.heap.size w w':=by
 have hok:=ZfV (p:=(k,l)) (by rw[hr];exact h0);have hk:(k=1∨k=2∨k=3∨k=4∨k=5∨k=6∨k=7∨k=8):=by simp only[pOk,inB,Bool.and_eq_true,Bool.or_eq_true,decide_eq_true_eq] at hok;omega
 unfold Zai at hr;rw[if_pos hok] at hr;clear hok h0;rcases hk with rfl|rfl|rfl|rfl|rfl|rfl|rfl|rfl <;>
 ·simp at hr;subst hr
  go_enter Tryz.func75, Tryz.ntmps75
  go_wp2;go_ret;exact⟨rfl,(Below.refl _ _).alloc (Nat.le_refl _) _⟩
variable {P:Program}
theorem Zjp {w:World} {B e size n cap m:Nat} {a:Option Addr} {cs:List Value} (h:w.ownsRow B e size (.slice a n cap) n cs) (hm:m≤n):w.ownsRow B e size (.slice a m cap) m (cs.take (m*size)):=by
 obtain⟨h1,h2⟩:=h;have hle:m*size≤n*size:=Nat.mul_le_mul_right size hm;refine⟨by rw[List.length_take,h1];omega,?_⟩;rcases h2 with⟨h3,h4⟩|⟨g,c,cur,h3,h4,h5,h6,h7,h8,h9⟩
 ·simp only[Value.slice.injEq] at h3;obtain⟨rfl,rfl,rfl⟩:=h3;obtain rfl:m=0:=by omega
  exact .inl ⟨rfl,rfl⟩
 simp only[Value.slice.injEq] at h3;obtain⟨rfl,-,rfl⟩:=h3;refine .inr ⟨g,cap,cur,rfl,h4,h5,by omega,h7,h8,?_⟩;rw[← h9,List.take_take,Nat.min_eq_left hle]
theorem St.cut {w0 w:World} {L:List Ent} (h:St w0 w L) (i:Nat) {e size n cap:Nat} {a:Option Addr} {cs:List Value} (hx:L[i]? = some (Ent.row e size (.slice a n cap) n cs)) (m:Nat) (hm:m≤n):St w0 w (L.set i (Ent.row e size (.slice a m cap) m (cs.take (m*size)))) :=
 h.same i hx _ (fun hb=>Zjp hb hm) fun k hk=>by
  cases a with
  | none=>cases hk
  | some a=>exact hk
end Go.Proofs.YtfgpkadhegdffaaGreat
