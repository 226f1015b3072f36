/-
  The walk over the program's starSpans.
  Condition: the word has at most eight letters.
-/
import Derived.Test.YtfikabecgaappaaGreatPb39Spn
set_option maxHeartbeats 8000000
set_option maxRecDepth 100000
namespace Go.Proofs.YtfikabecgaappaaGreat
open Go.RowKit
theorem Zhm (w:World) (o:Obj) (b:Nat) (cs:Array Value):((w.alloc o).setRow b cs).heap.size=w.heap.size+1:=by unfold World.setRow World.alloc;simp
theorem Zhi (n:Nat) (A:Nat→Nat→Bool) (w:World) (hn:n≤8) :
  Calls Tryz.prog 148 #[.int .i64 (n:Int),.agg (spC A)] w fun e w'=>e = .returned (.agg (spC (Zap n (stB n A n))))∧Below w.heap.size w w':=by
 have hz:Tryz.zeroCells131 = spC fun _ _=>false:=by rfl
 have HS0:=qh (show St w _ [Ent.box w.heap.size (spC A) 131,Ent.box (w.heap.size+1) (spC fun _ _=>false) 131] from((St.start w).alloc w.heap.size rfl (spC A) 131).alloc (w.heap.size+1) (by simp) (spC fun _ _=>false) 131);rw[← hz] at HS0;replace hz:=qh hz
 go_enter Tryz.func148, Tryz.ntmps148
 go_wp2_with (go_at_call 141;go_loud (refine(Zbv 173 #[] n (fun i j=>decide (i=j)) _ hn (Zba Tryz.func173 (by kernel_rfl) rfl) (fun i j hij hj u _=>Zlm i j u _ (by simp) (by omega) (by omega))).mono ?_;rintro e w1 ⟨rfl,hb⟩;have HS1:=qh ((HS0.out.call hb).alloc _ rfl Tryz.zeroCells131 131);have hst:=Za5 (P:=Tryz.prog) (HS1.out.box 2 rfl) (cs':=spC (Zap n fun i j=>decide (i=j))) (by rw[Zaf,hz.out,Zaf]) (Za4 _);clear hb));have HS2:=qh (HS1.out.setAll 2 rfl (spC (Zap n (stB n A 0))));obtain⟨g,hg⟩:=eI (w1.heap.size);rw[← hg] at HS2 ⊢;replace hg:=qh hg;clear hst HS1
 go_loopw [6,7,11] (fun v6 v7 vm wr=>∃ m:Nat,vm = .int .i64 (m:Int)∧m≤n∧St w wr [Ent.box w.heap.size (spC A) 131,Ent.box (w.heap.size+1) Tryz.zeroCells131 131,Ent.box g (spC (Zap n (stB n A m))) 131]) (fun _ _ vm _=>n-(intOf vm).toNat)
 case atStart=>exact⟨0,rfl,Nat.zero_le _,HS2.out⟩
 case round =>
  obtain⟨m,rfl,hm,hS⟩:=hrel;have HS:=qh hS;clear hS HS2;by_cases hlt:m<n
  ·have hm1:(m:Int)<(n:Int):=by omega
   have hw1:IntKind.i64.wrap ((m:Int)+1)=(m:Int)+1:=IntWalk.i64_in _ (by omega);have hI:(Tryz.prog.info? 131).map (·.size)=some 81:=by kernel_rfl
   go_wp2;refine ZbM 131 _ rfl g 131 _ _ rfl (HS.out.box 2 rfl) Tryz.underlying131 rfl (by rw[hI,Zaf]) ?_;go_wp2;refine ZbM 131 _ rfl w.heap.size 131 _ _ rfl (HS.out.box 0 rfl) Tryz.underlying131 rfl (by rw[hI,Zaf]) ?_;go_wp2_with (go_at_call 144;go_loud (refine(Zdm n (Zap n (stB n A m)) A (ZgE (Zap n (stB n A m)) A) _ hn (fun i j hij hj=>Zd9 hn hj)).mono ?_;rintro e w2 ⟨rfl,hb⟩;have HS3:=qh ((HS.out.call hb).alloc _ rfl Tryz.zeroCells131 131);have hst:=Za5 (P:=Tryz.prog) (HS3.out.box 3 rfl) (cs':=spC (Zap n (ZgE (Zap n (stB n A m)) A))) (by rw[Zaf,hz.out,Zaf]) (Za4 _);clear hb));have HS4:=qh (HS3.out.setAll 3 rfl (spC (Zap n (ZgE (Zap n (stB n A m)) A))));clear hst HS3;refine ZbM 131 _ rfl g 131 _ _ rfl (HS4.out.box 2 rfl) Tryz.underlying131 rfl (by rw[hI,Zaf]) ?_;have HS5:=qh (HS4.out.alloc (w2.heap.size+1) (Zhm _ _ _ _) Tryz.zeroCells131 131);have hst:=Za5 (P:=Tryz.prog) (HS5.out.box 4 rfl) (cs':=spC (Zap n (stB n A m))) (by rw[Zaf,hz.out,Zaf]) (Za4 _);have HS6:=qh (HS5.out.setAll 4 rfl (spC (Zap n (stB n A m))));clear HS5 HS4
   go_wp2_with (go_at_call 141;go_loud (clear hst;refine(Zbv 174 #[.pointer (some ⟨w2.heap.size+1,0,none⟩),.pointer (some ⟨w2.heap.size,0,none⟩)] n (stB n A (m+1)) _ hn (Zba Tryz.func174 (by kernel_rfl) rfl) (fun i j hij hj u hu=>Zll (Zap n (stB n A m)) (Zap n (ZgE (Zap n (stB n A m)) A)) _ _ i j u hij (by omega) (TabAt.of_box ((HS6.out.call hu).box 4 rfl)) (TabAt.of_box ((HS6.out.call hu).box 3 rfl)) (stB n A (m+1) i j) (by rw[Zbn _ hij hj,Zbn _ hij hj];rfl))).mono ?_;rintro e w8 ⟨rfl,hb⟩;have HS7:=qh (HS6.out.call hb);have hst:=Za5 (P:=Tryz.prog) (HS7.out.box 2 rfl) (cs':=spC (Zap n (stB n A (m+1)))) (by rw[Zaf,Zaf]) (Za4 _);clear hb HS6));go_roundw
   case rel=>exact⟨m+1,by simp,by omega,(HS7.out.setAll 2 rfl (spC (Zap n (stB n A (m+1))))).pick [0,1,2] (by decide)⟩
   case measure=>simp[intOf];omega
  have hm1:¬ (m:Int)<(n:Int):=by omega
  have hmn:m=n:=by omega
  have hS9:=HS.out;rw[hmn] at hS9;have HS9:=qh hS9;have hI:(Tryz.prog.info? 131).map (·.size)=some 81:=by kernel_rfl
  have hst:=Za5 (P:=Tryz.prog) (HS9.out.box 1 rfl) (cs':=spC (Zap n (stB n A n))) (by rw[Zaf,hz.out,Zaf]) (Za4 _);have Hhmn:=qh hmn;clear hmn;clear hS9 HS;go_wp2;refine ZbM 131 _ rfl g 131 _ _ rfl (HS9.out.box 2 rfl) Tryz.underlying131 rfl (by rw[hI,Zaf]) ?_;go_wp2;have HS8:=qh (HS9.out.setAll 1 rfl (spC (Zap n (stB n A n))));refine bodyPost_ret (v:=.agg (spC (Zap n (stB n A n)))) (ZbB Tryz.results148 _ _ _ (w.heap.size+1) 131 (spC (Zap n (stB n A n))) _ rfl (HS8.out.box 1 rfl) Tryz.underlying131 rfl (by rw[hI,Zaf])) rfl ?_;exact⟨rfl,HS8.out.bel⟩
end Go.Proofs.YtfikabecgaappaaGreat
