/-
  The walk over the program's starSpans.
  Condition: the word has at most eight letters.
-/
import Derived.Test.YtfanhfcamblghaaPq48Spn
set_option maxHeartbeats 8000000
set_option maxRecDepth 100000
namespace Go.Proofs.Ytfanhfcamblghaa
open Go.RowKit
theorem Zgq (w:World) (o:Obj) (b:Nat) (cs:Array Value):((w.alloc o).setRow b cs).heap.size=w.heap.size+1:=by unfold World.setRow World.alloc;simp
theorem Zgn (n:Nat) (A:Nat→Nat→Bool) (w:World) (hn:n≤8) :
  Calls Try.prog 140 #[.int .i64 (n:Int),.agg (spC A)] w fun e w'=>e = .returned (.agg (spC (Zak n (stB n A n))))∧Below w.heap.size w w':=by
 have hz:Try.zeroCells137 = spC fun _ _=>false:=by rfl
 have HS0:=qh (show St w _ [Ent.box w.heap.size (spC A) 137,Ent.box (w.heap.size+1) (spC fun _ _=>false) 137] from((St.start w).alloc w.heap.size rfl (spC A) 137).alloc (w.heap.size+1) (by simp) (spC fun _ _=>false) 137);rw[← hz] at HS0;replace hz:=qh hz
 go_enter Try.func140, Try.ntmps140
 go_wp2_with (go_at_call 133;go_loud (refine(Za6 154 #[] n (fun i j=>decide (i=j)) _ hn (ZaU Try.func154 (by kernel_rfl) rfl) (fun i j hij hj u _=>ZjS i j u _ (by simp) (by omega) (by omega))).mono ?_;rintro e w1 ⟨rfl,hb⟩;have HS1:=qh ((HS0.out.call hb).alloc _ rfl Try.zeroCells137 137);have hst:=ZaQ (P:=Try.prog) (HS1.out.box 2 rfl) (cs':=spC (Zak n fun i j=>decide (i=j))) (by rw[Zad,hz.out,Zad]) (ZaO _);clear hb));have HS2:=qh (HS1.out.setAll 2 rfl (spC (Zak n (stB n A 0))));obtain⟨g,hg⟩:=eI (w1.heap.size);rw[← hg] at HS2 ⊢;replace hg:=qh hg;clear hst HS1
 go_loopw [6,7,11] (fun v6 v7 vm wr=>∃ m:Nat,vm = .int .i64 (m:Int)∧m≤n∧St w wr [Ent.box w.heap.size (spC A) 137,Ent.box (w.heap.size+1) Try.zeroCells137 137,Ent.box g (spC (Zak n (stB n A m))) 137]) (fun _ _ vm _=>n-(intOf vm).toNat)
 case atStart=>exact⟨0,rfl,Nat.zero_le _,HS2.out⟩
 case round =>
  obtain⟨m,rfl,hm,hS⟩:=hrel;have HS:=qh hS;clear hS HS2;by_cases hlt:m<n
  ·have hm1:(m:Int)<(n:Int):=by omega
   have hw1:IntKind.i64.wrap ((m:Int)+1)=(m:Int)+1:=IntWalk.i64_in _ (by omega);have hI:(Try.prog.info? 137).map (·.size)=some 81:=by kernel_rfl
   go_wp2;refine Zbg 137 _ rfl g 137 _ _ rfl (HS.out.box 2 rfl) Try.underlying137 rfl (by rw[hI,Zad]) ?_;go_wp2;refine Zbg 137 _ rfl w.heap.size 137 _ _ rfl (HS.out.box 0 rfl) Try.underlying137 rfl (by rw[hI,Zad]) ?_;go_wp2_with (go_at_call 136;go_loud (refine(ZcX n (Zak n (stB n A m)) A (ZfR (Zak n (stB n A m)) A) _ hn (fun i j hij hj=>ZdK hn hj)).mono ?_;rintro e w2 ⟨rfl,hb⟩;have HS3:=qh ((HS.out.call hb).alloc _ rfl Try.zeroCells137 137);have hst:=ZaQ (P:=Try.prog) (HS3.out.box 3 rfl) (cs':=spC (Zak n (ZfR (Zak n (stB n A m)) A))) (by rw[Zad,hz.out,Zad]) (ZaO _);clear hb));have HS4:=qh (HS3.out.setAll 3 rfl (spC (Zak n (ZfR (Zak n (stB n A m)) A))));clear hst HS3;refine Zbg 137 _ rfl g 137 _ _ rfl (HS4.out.box 2 rfl) Try.underlying137 rfl (by rw[hI,Zad]) ?_;have HS5:=qh (HS4.out.alloc (w2.heap.size+1) (Zgq _ _ _ _) Try.zeroCells137 137);have hst:=ZaQ (P:=Try.prog) (HS5.out.box 4 rfl) (cs':=spC (Zak n (stB n A m))) (by rw[Zad,hz.out,Zad]) (ZaO _);have HS6:=qh (HS5.out.setAll 4 rfl (spC (Zak n (stB n A m))));clear HS5 HS4
   go_wp2_with (go_at_call 133;go_loud (clear hst;refine(Za6 155 #[.pointer (some ⟨w2.heap.size+1,0,none⟩),.pointer (some ⟨w2.heap.size,0,none⟩)] n (stB n A (m+1)) _ hn (ZaU Try.func155 (by kernel_rfl) rfl) (fun i j hij hj u hu=>ZjR (Zak n (stB n A m)) (Zak n (ZfR (Zak n (stB n A m)) A)) _ _ i j u hij (by omega) (TabAt.of_box ((HS6.out.call hu).box 4 rfl)) (TabAt.of_box ((HS6.out.call hu).box 3 rfl)) (stB n A (m+1) i j) (by rw[Za3 _ hij hj,Za3 _ hij hj];rfl))).mono ?_;rintro e w8 ⟨rfl,hb⟩;have HS7:=qh (HS6.out.call hb);have hst:=ZaQ (P:=Try.prog) (HS7.out.box 2 rfl) (cs':=spC (Zak n (stB n A (m+1)))) (by rw[Zad,Zad]) (ZaO _);clear hb HS6));go_roundw
   case rel=>exact⟨m+1,by simp,by omega,(HS7.out.setAll 2 rfl (spC (Zak n (stB n A (m+1))))).pick [0,1,2] (by decide)⟩
   case measure=>simp[intOf];omega
  have hm1:¬ (m:Int)<(n:Int):=by omega
  have hmn:m=n:=by omega
  have hS9:=HS.out;rw[hmn] at hS9;have HS9:=qh hS9;have hI:(Try.prog.info? 137).map (·.size)=some 81:=by kernel_rfl
  have hst:=ZaQ (P:=Try.prog) (HS9.out.box 1 rfl) (cs':=spC (Zak n (stB n A n))) (by rw[Zad,hz.out,Zad]) (ZaO _);have Hhmn:=qh hmn;clear hmn;clear hS9 HS;go_wp2;refine Zbg 137 _ rfl g 137 _ _ rfl (HS9.out.box 2 rfl) Try.underlying137 rfl (by rw[hI,Zad]) ?_;go_wp2;have HS8:=qh (HS9.out.setAll 1 rfl (spC (Zak n (stB n A n))));refine bodyPost_ret (v:=.agg (spC (Zak n (stB n A n)))) (Zba Try.results140 _ _ _ (w.heap.size+1) 137 (spC (Zak n (stB n A n))) _ rfl (HS8.out.box 1 rfl) Try.underlying137 rfl (by rw[hI,Zad])) rfl ?_;exact⟨rfl,HS8.out.bel⟩
end Go.Proofs.Ytfanhfcamblghaa
