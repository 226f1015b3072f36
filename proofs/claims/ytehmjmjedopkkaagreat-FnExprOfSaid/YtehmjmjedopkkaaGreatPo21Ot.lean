/-
  impl.Dfa.other and impl.DfaOther, walked.
  Conditions: the argument reads as an automaton.
-/
import Derived.Test.YtehmjmjedopkkaaGreatPo18Cst
set_option maxHeartbeats 4000000
set_option maxRecDepth 100000
namespace Go.Proofs.YtehmjmjedopkkaaGreat
open Go.RowKit
theorem Znt {l:List Bool} {k:Nat} (hk:k<l.length) {y:Bool} (hy:(!l.getD k false)=y):boolCells ((l.take (k+1)).map (!·))=boolCells ((l.take k).map (!·))++[.bool y]:=by
 have e:l.getD k false=l[k]:=by simp[hk]
 rw[e] at hy;rw[List.take_succ_eq_append_getElem hk,List.map_append];show boolCells ((l.take k).map (!·)++[!l[k]])=_;rw[ZpO,hy]
theorem ZpG (d:DfaD):flB true d=⟨d.next,d.ends.map (!·)⟩:=by unfold flB;congr 1;exact List.map_congr_left fun x _=>by cases x<;>rfl
theorem Zg7 (d:DfaD) (v1 v2:Value) (w:World) (hd:Zae d.next d.ends=true) (h:DfaR 0 w (.agg #[v1,v2]) d) :
  Calls Tryz.prog 54 #[.agg #[v1,v2]] w fun e w'=>∃ u2,e = .returned (.agg #[v1,u2])∧Bools w.heap.size w' u2 (flB true d).ends∧Below w.heap.size w w':=by
 rw[ZpG];obtain⟨L,hL⟩:=eI (d.ends.length);have hl:=Zad hd;have hL40:L≤40:=by omega
 obtain⟨_,_,hv,q1,q2⟩:=h;simp only[Value.agg.injEq,Array.mk.injEq,List.cons.injEq,and_true] at hv;obtain⟨rfl,rfl⟩:=hv;obtain⟨a1,c1,rfl,hca,hcb,-⟩:=q1.formI;have hS0:=(((St.start w).alloc w.heap.size rfl #[.slice a1 d.next.length c1,v2] 32).alloc (w.heap.size+1) (by simp) #[.slice none 0 0,.slice none 0 0] 32).alloc (w.heap.size+1+1) (by simp) #[.slice a1 d.next.length c1,.slice none 0 0] 32;have HS0:=qh (hS0.nilRow 4 1);obtain⟨a2,c2,rfl,hc1,hc2,hr2⟩:=q2.form;rw[← hL] at hc1 hr2;rw[← hL] at HS0;obtain⟨i0,hi,hz0,hz1,hz2⟩:=info_parts Tryz.infoBool;have Hr:=qh hr2;have e0:=hS0.cell (v:=.slice a1 d.next.length c1) 0 0 rfl rfl;have e1:=hS0.cell (v:=.slice a2 d.ends.length c2) 0 1 rfl rfl;rw[← hL] at e1;rw[← hL];replace hi:=qh hi;have Hhz0:=qh hz0;clear hz0;have Hhz1:=qh hz1;clear hz1;have Hhz2:=qh hz2;clear hz2;replace hL:=qh hL;clear hr2 q1 q2 hl hS0
 go_enter Tryz.func54, Tryz.ntmps54
 go_wp2;clear e0 e1
 go_loopw [5,12] (fun _ i wr=>∃ (k c:Nat) (a:Option Addr),i = .int .i64 (k:Int)∧k≤L∧St w wr [Ent.box w.heap.size #[.slice a1 d.next.length c1,.slice a2 L c2] 32,Ent.box (w.heap.size+1) #[.slice none 0 0,.slice none 0 0] 32,Ent.box (w.heap.size+1+1) #[.slice a1 d.next.length c1,.slice a k c] 32,Ent.row 4 1 (.slice a k c) k (boolCells ((d.ends.take k).map (!·)))])
  (fun _ i _=>L-(intOf i).toNat)
 case atStart=>exact⟨0,0,none,rfl,Nat.zero_le _,HS0.out⟩
 case round =>
  obtain⟨k,c,a,rfl,hk,hS⟩:=hrel;by_cases hlt:k<L
  ·have hlt2:(k:Int)<L:=by omega
   obtain⟨b2,o2,rfl,-,hb2,hcs⟩:=Hr.out (by omega);have k2:=(bcell hS.bel b2 _ hb2).trans (hcs k hlt);obtain⟨x,hx⟩:=eJ (d.ends.getD k false);rw[hx] at k2;obtain⟨y,hy⟩:=eJ ((!x));have hsn:=Znt (l:=d.ends) (k:=k) (by rw[← hL.out];exact hlt) (by rw[hx,hy]);have HS:=qh hS;have HSa:=qh (hS.alloc_ (.cells #[.bool y] 4));have HRw:=qh (HSa.out.row 3 rfl);have x1:=hS.cell (v:=.slice a k c) 2 1 rfl rfl;have Hhx:=qh hx;clear hx;have Hhsn:=qh hsn;clear hsn;clear hcs hS;go_wp2_with (at_builtin;refine wpList_append_lies _ rfl _ _ _ rfl _ 4 i0 (.bool false) 1 1 Tryz.underlying30 hi.out Hhz0.out Hhz1.out Hhz2.out rfl (by omega) _ k _ rfl HRw.out ⟨wr.heap.size,0,none⟩ 1 1 [.bool y] rfl rfl (World.news_of_block (heap_alloc_new wr _)) Za4 (by omega) (by unfold maxLen;omega) (by omega) HSa.out.size _ rfl ?_;intro g6 c6 w6 hown6 hgrow6 hat6 hlt6;have HS6:=qh (HSa.out.app 3 rfl hown6 hgrow6 hat6);have y1:=HS6.out.cell (v:=.slice a k c) 2 1 rfl rfl;have y2:=HS6.out.fr 2 1 rfl;clear hown6 hgrow6 hat6 hlt6);go_roundw
   case rel =>refine⟨k+1,c6,some ⟨g6,0,none⟩,by go_num,by omega,?_⟩;rw[Hhsn.out];exact HS6.out.set 2 rfl 1 (.slice (some ⟨g6,0,none⟩) (k+1) c6)
   case measure=>simp[intOf];omega
  obtain rfl:k=L:=by omega
  have HSe:=qh hS;have t0:=hS.cell (v:=.slice a1 d.next.length c1) 2 0 rfl rfl;have t1:=hS.cell (v:=.slice a k c) 2 1 rfl rfl;have f0:=hS.fr 1 0 rfl;have f1:=hS.fr 1 1 rfl;have k0:=hS.cell (v:=.slice none 0 0) 1 0 rfl rfl;have k1:=hS.cell (v:=.slice none 0 0) 1 1 rfl rfl;clear hS;go_wp2;have hq:=(HSe.out.set 1 rfl 0 (.slice a1 d.next.length c1)).set 1 rfl 1 (.slice a k c);have q0:=hq.cell (v:=.slice a1 d.next.length c1) 1 0 rfl rfl;have q1:=hq.cell (v:=.slice a k c) 1 1 rfl rfl;refine bodyPost_ret (v:=.agg #[.slice a1 d.next.length c1,.slice a k c]) (by simp[results,Tryz.results54,go_sem,q0,q1]) rfl ?_;refine⟨.slice a k c,rfl,?_,hq.bel⟩;have hrow:=hq.row 3 rfl;have e:d.ends.take k=d.ends:=by rw[hL.out];exact List.take_length
  rw[e] at hrow;have e2:k=(d.ends.map (!·)).length:=by rw[List.length_map];exact hL.out
  exact(Zaa hrow).sl (by omega) |> fun z=>by rw[e2] at z;exact e2 ▸ z
end Go.Proofs.YtehmjmjedopkkaaGreat
