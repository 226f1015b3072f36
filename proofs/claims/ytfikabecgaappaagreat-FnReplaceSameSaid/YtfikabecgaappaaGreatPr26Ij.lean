/-
  The walks over the program's shifted and shiftedMoves.
  Conditions: the lists are readable.
-/
import Derived.Test.YtfikabecgaappaaGreatPr19Is
set_option maxHeartbeats 8000000
set_option maxRecDepth 100000
namespace Go.Proofs.YtfikabecgaappaaGreat
open Go.RowKit
theorem ZfK (w:World) (o o2:Obj):((w.alloc o).alloc o2).heap[w.heap.size+1]? = some o2:=by have:=heap_alloc_new (w.alloc o) o2;simpa only [World.size_alloc] using this
theorem Zix (xs:List Int) (v:Value) (d:Int) (w:World) (hl:xs.length≤1000) (hx:∀ x∈xs,-1000≤x∧x≤1000) (hd:-1000≤d∧d≤1000) (h:Ints 0 w v xs) :
  Calls Tryz.prog 126 #[v,.int .i64 d] w fun e w'=>∃ a c,e = .returned (.slice a xs.length c)∧St w w' [Ent.row 3 1 (.slice a xs.length c) xs.length (intCells (xs.map (·+d)))]:=by
 obtain⟨a0,c0,rfl,hc1,hc2,hr⟩:=h.form;obtain⟨j0,hj,hy0,hy1,hy2⟩:=info_parts Tryz.infoInt;obtain⟨L,hL⟩:=eI (xs.length);have hS0:=(St.start w).nilRow 3 1;rw[← hL] at hl hc1 hr;rw[← hL];obtain⟨hd0,hd1⟩:=hd;have Hr:=qh hr;replace hS0:=qh hS0;replace hL:=qh hL;have Hhx:=qh hx;clear hx;have Hhj:=qh hj;clear hj;have Hhy0:=qh hy0;clear hy0;have Hhy1:=qh hy1;clear hy1;have Hhy2:=qh hy2;clear hy2;clear hr h
 go_enter Tryz.func126, Tryz.ntmps126
 go_wp2
 go_loopw [5,10] (fun vo i wr=>∃ (k:Nat) (a:Option Addr) (c:Nat),i = .int .i64 k∧vo = .slice a k c∧k≤L∧St w wr [Ent.row 3 1 (.slice a k c) k (intCells ((xs.take k).map (·+d)))])
  (fun _ i _=>L-(intOf i).toNat)
 case atStart=>exact⟨0,none,0,rfl,rfl,Nat.zero_le _,hS0.out⟩
 case round =>
  obtain⟨k,a,c,rfl,rfl,hk,hS⟩:=hrel;by_cases hlt:k<L
  ·have hlt2:(k:Int)<L:=by omega
   have hkn:k<xs.length:=by have:=hL.out;omega
   obtain⟨b1,o1,rfl,-,hb1,hcs⟩:=Hr.out (by omega);have m0:=hcs k hlt;have hsn:=Zbp (·+d) (d:=0) hkn rfl;have hxx:=Hhx.out _ (memD (d:=0) hkn);obtain⟨p0,hp⟩:∃ p,p=xs.getD k 0:=⟨_,rfl⟩;rw[← hp] at m0 hsn hxx;obtain⟨hp0,hp1⟩:=hxx;have m1:=(bcell hS.bel b1 _ hb1).trans m0;have hw:IntKind.i64.wrap (p0+d)=p0+d:=IntWalk.i64_in _ (by omega);have hSa:=hS.alloc_ (.cells #[.int .i64 (p0+d)] 3);have HSa:=qh hSa;have HRa:=qh (hSa.row 0 rfl);have Hhp:=qh hp;clear hp;have Hhsn:=qh hsn;clear hsn;clear hS hSa hcs m0;go_wp2_with (at_builtin;refine wpList_append_lies _ rfl _ _ _ rfl _ 3 j0 (.int .i64 0) 1 8 Tryz.underlying26 Hhj.out Hhy0.out Hhy1.out Hhy2.out rfl (by omega) _ k _ rfl HRa.out ⟨wr.heap.size,0,none⟩ 1 1 [.int .i64 (p0+d)] rfl rfl (World.news_of_block (heap_alloc_new wr _)) Zbb (by omega) (by unfold maxLen;omega) (by omega) HSa.out.size _ rfl ?_;intro g6 c6 w6 hown6 hgrow6 hat6 hlt6;have HS6:=qh (HSa.out.app 0 rfl hown6 hgrow6 hat6);clear hown6 hgrow6 hat6 hlt6);go_roundw
   case rel =>refine⟨k+1,some ⟨g6,0,none⟩,c6,by go_num,rfl,by omega,?_⟩;rw[Hhsn.out,Zar];exact HS6.out
   case measure=>simp[intOf];omega
  obtain rfl:L=k:=by omega
  rw[show xs.take L=xs from List.take_of_length_le (by have:=hL.out;omega)] at hS;have HSe:=qh hS;clear hS;go_wp2;go_ret;exact⟨a,c,rfl,HSe.out⟩
theorem ZeN (p q:NfaD) (S:Nat) (v1 v2 v3 u1 u2 u3:Value) (w:World) (hS40:p.states=(S:Int)) (hS1:S≤40) (hpl:p.moves.length≤1000) (hql:q.moves.length≤1000) (hqm:mvIn 40 q.moves) (hpm:Moves 0 w v1 p.moves) (hq:Moves 0 w u1 q.moves) :
  Calls Tryz.prog 124 #[.agg #[.int .i64 p.states,v1,v2,v3],.agg #[.int .i64 q.states,u1,u2,u3]] w fun e w'=>∃ a c,e = .returned (.slice a (p.moves.length+q.moves.length) c)∧St w w' [Ent.row 72 3 (.slice a (p.moves.length+q.moves.length) c) (p.moves.length+q.moves.length) ((p.moves++q.moves.map (shM p.states)).flatMap Zab)]:=by
 have hcl:=fun (u:World) (hu:Below w.heap.size w u)=>ZfT p.moves v1 u (by omega) (hpm.below hu)
 obtain⟨av,cv,rfl,hc1,hc2,-⟩:=hpm.form;obtain⟨au,cu,rfl,hd1,hd2,hr⟩:=hq.form;obtain⟨i0,hi,hz0,hz1,hz2⟩:=info_parts Tryz.infoMv;obtain⟨L1,hL1⟩:∃ L,L=p.moves.length:=⟨_,rfl⟩;obtain⟨L2,hL2⟩:∃ L,L=q.moves.length:=⟨_,rfl⟩;obtain⟨Q,hQ⟩:=eI (q.states);have hS0:=((St.start w).alloc _ rfl #[.int .i64 p.states,.slice av p.moves.length cv,v2,v3] 28).alloc (w.heap.size+1) (by simp) #[.int .i64 q.states,.slice au q.moves.length cu,u2,u3] 28;rw[hS40,← hL1,← hL2,← hQ] at hS0;rw[hS40,← hL1,← hL2,← hQ];rw[← hL1] at hpl hc1 hcl;rw[← hL2] at hql hd1 hr;have e1:=hS0.cell (v:=.slice av L1 cv) 0 1 rfl rfl;have Hcl:=qh hcl;have Hr:=qh hr;replace hS0:=qh hS0;replace hL1:=qh hL1;have HhL2:=qh hL2;clear hL2;have HhS40:=qh hS40;clear hS40;have Hhqm:=qh hqm;clear hqm;have HhQ:=qh hQ;clear hQ;have Hhi:=qh hi;clear hi;have Hhz0:=qh hz0;clear hz0;have Hhz1:=qh hz1;clear hz1;have Hhz2:=qh hz2;clear hz2;clear hcl hr hpm hq
 go_enter Tryz.func124, Tryz.ntmps124
 go_wp2_with fail;refine(Hcl.out _ hS0.out.bel).mono ?_;rintro e w1 ⟨am,cm,rfl,hS'⟩;have HS1:=qh (hS0.out.cat hS');clear hS' e1;have e2:=HS1.out.cell (v:=.slice au L2 cu) 1 1 rfl rfl;go_wp2
 go_loopw [5,14] (fun vo i wr=>∃ (k:Nat) (a:Option Addr) (c:Nat),i = .int .i64 k∧vo = .slice a (L1+k) c∧k≤L2∧St w wr [Ent.box w.heap.size #[.int .i64 (S:Int),.slice av L1 cv,v2,v3] 28,Ent.box (w.heap.size+1) #[.int .i64 Q,.slice au L2 cu,u2,u3] 28,Ent.row 72 3 (.slice a (L1+k) c) (L1+k) ((p.moves++(q.moves.take k).map (shM (S:Int))).flatMap Zab)])
  (fun _ i _=>L2-(intOf i).toNat)
 case atStart =>refine⟨0,am,cm,rfl,rfl,Nat.zero_le _,?_⟩;rw[List.take_zero,List.map_nil,List.append_nil];exact HS1.out
 case round =>
  obtain⟨k,a,c,rfl,rfl,hk,hS⟩:=hrel;clear e2;by_cases hlt:k<L2
  ·have hlt2:(k:Int)<L2:=by omega
   have hkn:k<q.moves.length:=by have:=HhL2.out;omega
   obtain⟨b1,o1,rfl,-,hb1,hcs⟩:=Hr.out (by omega);obtain⟨p1,p2,p3⟩:=hcs k hlt;have hsn:=Zbp (shM (S:Int)) (d:=(0,0,0)) hkn rfl;have hxx:=Hhqm.out _ (memD (d:=(0,0,0)) hkn);obtain⟨mm,hmm⟩:=eI (q.moves.getD k (0,0,0));rw[← hmm] at p1 p2 p3 hsn hxx;obtain⟨f,l,t⟩:=mm;simp only at p1 p2 p3 hxx;obtain⟨⟨hf0,hf1⟩,ht0,ht1⟩:=hxx;have m1:=(bcell hS.bel b1 _ hb1).trans p1;have m2:=(bcell hS.bel b1 _ hb1).trans p2;have m3:=(bcell hS.bel b1 _ hb1).trans p3;have hw1:IntKind.i64.wrap (f+(S:Int))=f+(S:Int):=IntWalk.i64_in _ (by omega);have hw2:IntKind.i64.wrap (t+(S:Int))=t+(S:Int):=IntWalk.i64_in _ (by omega);have hSb:=hS.alloc _ rfl #[.int .i64 f,.int .i64 l,.int .i64 t] 72;have e0:=hSb.cell (v:=.int .i64 (S:Int)) 0 0 rfl rfl;have g0:=hSb.cell (v:=.int .i64 f) 3 0 rfl rfl;have g1:=hSb.cell (v:=.int .i64 l) 3 1 rfl rfl;have g2:=hSb.cell (v:=.int .i64 t) 3 2 rfl rfl;have hSa:=hSb.alloc_ (.cells #[.int .i64 (f+(S:Int)),.int .i64 l,.int .i64 (t+(S:Int))] 72);have HSa:=qh hSa;have HRa:=qh (hSa.row 2 rfl);have HHb:=qh (ZfK wr (.cells #[.int .i64 f,.int .i64 l,.int .i64 t] 72) (.cells #[.int .i64 (f+(S:Int)),.int .i64 l,.int .i64 (t+(S:Int))] 72));have HSb:=qh hSb;have Hhmm:=qh hmm;clear hmm;have Hhsn:=qh hsn;clear hsn;clear hS hSa hSb hcs p1 p2 p3
   go_wp2_with (at_builtin;refine wpList_append_lies _ rfl _ _ _ rfl _ 72 i0 (.agg #[.int .i64 0,.int .i64 0,.int .i64 0]) 3 24 Tryz.underlying25 Hhi.out Hhz0.out Hhz1.out Hhz2.out rfl (by omega) _ (L1+k) _ rfl HRa.out ⟨wr.heap.size+1,0,none⟩ 1 1 [.int .i64 (f+(S:Int)),.int .i64 l,.int .i64 (t+(S:Int))] rfl rfl (World.news_of_block HHb.out) Zdt (by omega) (by unfold maxLen;omega) (by omega) HSa.out.size _ rfl ?_;intro g6 c6 w6 hown6 hgrow6 hat6 hlt6;have HS6:=qh (HSa.out.app 2 rfl hown6 hgrow6 hat6);clear hown6 hgrow6 hat6 hlt6);go_roundw
   case rel =>refine⟨k+1,some ⟨g6,0,none⟩,c6,by go_num,rfl,by omega,?_⟩;rw[Hhsn.out,← List.append_assoc,List.flatMap_append (xs:=_++_)];exact HS6.out.pick [0,1,2] (by decide)
   case measure=>simp[intOf];omega
  obtain rfl:L2=k:=by omega
  rw[show q.moves.take L2=q.moves from List.take_of_length_le (by have:=HhL2.out;omega)] at hS;have HSe:=qh hS;clear hS;go_wp2;go_ret;exact⟨a,c,rfl,HSe.out.pick [2] (by decide)⟩
end Go.Proofs.YtfikabecgaappaaGreat
