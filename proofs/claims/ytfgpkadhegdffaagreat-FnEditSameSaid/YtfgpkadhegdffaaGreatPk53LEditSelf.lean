/-
  Plain: tables of the parts of a word for the trees of an expression, and which trees stand on the program's stack and in the reference's table.
  No condition.
-/
import Derived.Test.YtfgpkadhegdffaaGreatPk46Tlg
import Derived.Test.YtfgpkadhegdffaaGreatPk48Dtx
import Derived.Test.YtfgpkadhegdffaaGreatPk49Cmx
set_option maxHeartbeats 16000000
set_option maxRecDepth 100000
namespace Go.Proofs.YtfgpkadhegdffaaGreat
open Go.RowKit
def SubAt (es:List (Int × Int)) (ts:List Ex) (k:Nat):Prop :=
 (Zad (es.getD k (0,0))=0∧ts.getD k .zero=mkE (es.getD k (0,0)) .zero .zero) ∨
 (Zad (es.getD k (0,0))=1∧∃ q,k=q+1∧ts.getD k .zero=mkE (es.getD k (0,0)) (ts.getD q .zero) (ts.getD q .zero)) ∨
 (Zad (es.getD k (0,0))=2∧∃ q a,k=q+1∧a+1≤q∧beginsAt es (q+1) (a+1)∧ts.getD k .zero=mkE (es.getD k (0,0)) (ts.getD a .zero) (ts.getD q .zero))
theorem ZmX (xs ys:List Ex) (k:Nat):(xs++ys).getD (xs.length+k) .zero=ys.getD k .zero:=by simp[List.getD_eq_getElem?_getD,List.getElem?_append_right (show xs.length≤xs.length+k by omega)]
theorem beginsAt.right (xs:List (Int × Int)) {ys:List (Int × Int)} {n a:Nat} (h:beginsAt ys n a):beginsAt (xs++ys) (xs.length+n) (xs.length+a):=by
 obtain⟨h1,h2,h3⟩:=h;refine⟨by omega,?_,fun j h4 h5 => ?_⟩
 ·rw[ZdC,ZdC];omega
 obtain⟨i,rfl⟩:=Nat.exists_eq_add_of_le (show xs.length≤j by omega);rw[ZdC,ZdC];have:=h3 i (by omega) (by omega);omega
theorem SubAt.right {es xs:List (Int × Int)} {ts us:List Ex} {k:Nat} (hx:us.length=xs.length) (h:SubAt es ts k):SubAt (xs++es) (us++ts) (xs.length+k):=by
 have g:∀ i,(us++ts).getD (xs.length+i) .zero=ts.getD i .zero:=fun i=>by rw[← hx];exact ZmX us ts i
 unfold SubAt at h ⊢;rw[Zew,g];rcases h with h|⟨h1,q,rfl,h2⟩|⟨h1,q,a,rfl,h2,h3,h4⟩
 ·exact .inl h
 ·exact .inr (.inl ⟨h1,xs.length+q,rfl,by rw[g];exact h2⟩)
 exact .inr (.inr ⟨h1,xs.length+q,xs.length+a,rfl,by omega,h3.right xs,by rw[g,g];exact h4⟩)
def Zfj (s t:List Nat) (k:Int):Option (List (Int × Int)):=if inB k 4 6=true then(match Za5 s,Za5 t with|some x,some y=>some (x++y++[(k,0)])|_,_=>none) else none
theorem Zkj {s t:List Nat} {k:Int} (h:Za5 s=none):Zfj s t k=none:=by
 unfold Zfj;rw[h]
 split<;>rfl
theorem ZoX {s t:List Nat} {k:Int} (h:Za5 t=none):Zfj s t k=none:=by
 unfold Zfj;rw[h]
 split
 ·cases Za5 s<;>rfl
 rfl
theorem ZoW {s t:List Nat} {k:Int} (h:inB k 4 6=false):Zfj s t k=none:=by unfold Zfj;rw[if_neg (by simp[h])]
theorem Zfi {s t:List Nat} {k:Int} {x y:List (Int × Int)} (h1:Za5 s=some x) (h2:Za5 t=some y) (hk:4≤k∧k≤6):Zfj s t k=some (x++y++[(k,0)]):=by unfold Zfj;rw[if_pos (by unfold inB;simp;omega),h1,h2]
theorem Zl7 (K:Nat) (s t:List Nat) (k:Int):∃ o,ZhB K (Zfj s t k) o:=by
 cases h:Zfj s t k with
 | none=>exact⟨none,.inl ⟨rfl,rfl⟩⟩
 | some es =>
  obtain⟨o,ho⟩:=Zjl K es;refine⟨o,.inr ⟨es,rfl,?_,ho⟩⟩;unfold Zfj at h
  split at h
  ·split at h
   ·rename_i x y h1 h2;have e1:=ZdT h1;have e2:=ZdT h2;cases h;simp;omega
   cases h
  cases h
theorem Zdj (K:Nat) (hK:K=40) (s t:List Nat) (k:Int) (o:Option DfaD) (ho:ZhB K (Zfj s t k) o) (w:World) (hs:isT s) (ht:isT t) :
  Calls Tryz.prog 16 #[.string (txB s),.string (txB t),.int .i64 k] w fun e w'=>RTt (o.getD zeD) o.isSome w.heap.size e w'∧Below w.heap.size w w':=by
 have HS:Hid (St w _ [Ent.box w.heap.size #[.slice none 0 0,.slice none 0 0] 25]):=qh ((St.start w).alloc w.heap.size rfl #[.slice none 0 0,.slice none 0 0] 25);have HR:=qh (fun u=>ZbI s u hs);have HT:=qh (fun u=>ZbI t u ht);have HO:=qh ho;obtain⟨D,hD⟩:=eJ (o.getD zeD);obtain⟨fb,hfb⟩:=eJ (o.isSome);rw[hD,hfb];have HD:=qh hD;have HF:=qh hfb;clear ho hs ht hD hfb
 have hkd:k=4∨k=5∨k=6∨inB k 4 6=false:=by
  by_cases h:4≤k∧k≤6
  ·omega
  exact .inr (.inr (.inr (by unfold inB;simp;omega)))
 have HKD:=qh hkd;clear hkd
 go_enter Tryz.func16, Tryz.ntmps16
 go_wp2_with fail;refine(HR.out _).mono ?_;rintro e w1 (⟨hr1,rfl,hb⟩|⟨xs,a1,c1,hr1,rfl,hS⟩)
 ·have hno:o=none:=by
   have h:=HO.out;rw[Zkj hr1] at h;rcases h with⟨-,h⟩|⟨es,h,-⟩
   ·exact h
   cases h
  subst hno;obtain rfl:=HD.out;obtain rfl:=HF.out;clear HD HF;replace HS:=qh (HS.out.call hb);clear hb;clear HO HKD hr1;go_wp2_with fail;refine(HT.out _).mono ?_;rintro e w2 (⟨hr2,rfl,hb⟩|⟨ys,a2,c2,hr2,rfl,hS⟩)
  ·replace HS:=qh (HS.out.call hb);clear hb;have f0:=HS.out.fr 0 0 rfl;have f1:=HS.out.fr 0 1 rfl;have k0:=HS.out.cell (v:=.slice none 0 0) 0 0 rfl rfl;have k1:=HS.out.cell (v:=.slice none 0 0) 0 1 rfl rfl;go_wp2;have hq:=(HS.out.set 0 rfl 0 (.slice none 0 0)).set 0 rfl 1 (.slice none 0 0);have q0:=hq.cell (v:=.slice none 0 0) 0 0 rfl rfl;have q1:=hq.cell (v:=.slice none 0 0) 0 1 rfl rfl;refine bodyPost_ret (v:=.tuple #[.agg #[.slice none 0 0,.slice none 0 0],.bool false]) (by simp[results,Tryz.results16,go_sem,q0,q1]) rfl ?_;exact⟨⟨none,0,none,0,rfl,Zc2 _ _ _ _ _⟩,hq.bel⟩
  replace HS:=qh (HS.out.call hS.bel);clear hS;have f0:=HS.out.fr 0 0 rfl;have f1:=HS.out.fr 0 1 rfl;have k0:=HS.out.cell (v:=.slice none 0 0) 0 0 rfl rfl;have k1:=HS.out.cell (v:=.slice none 0 0) 0 1 rfl rfl;go_wp2;have hq:=(HS.out.set 0 rfl 0 (.slice none 0 0)).set 0 rfl 1 (.slice none 0 0);have q0:=hq.cell (v:=.slice none 0 0) 0 0 rfl rfl;have q1:=hq.cell (v:=.slice none 0 0) 0 1 rfl rfl;refine bodyPost_ret (v:=.tuple #[.agg #[.slice none 0 0,.slice none 0 0],.bool false]) (by simp[results,Tryz.results16,go_sem,q0,q1]) rfl ?_;exact⟨⟨none,0,none,0,rfl,Zc2 _ _ _ _ _⟩,hq.bel⟩
 have HX:=qh (Zan (hS.row 0 rfl));have hlx:=ZdT hr1;replace HS:=qh (HS.out.call hS.bel);clear hS;go_wp2_with fail;refine(HT.out _).mono ?_;rintro e w2 (⟨hr2,rfl,hb⟩|⟨ys,a2,c2,hr2,rfl,hS⟩)
 ·have hno:o=none:=by
   have h:=HO.out;rw[ZoX hr2] at h;rcases h with⟨-,h⟩|⟨es,h,-⟩
   ·exact h
   cases h
  subst hno;obtain rfl:=HD.out;obtain rfl:=HF.out;clear HD HF;replace HS:=qh (HS.out.call hb);clear hb;clear HO HKD hr1 hr2;have f0:=HS.out.fr 0 0 rfl;have f1:=HS.out.fr 0 1 rfl;have k0:=HS.out.cell (v:=.slice none 0 0) 0 0 rfl rfl;have k1:=HS.out.cell (v:=.slice none 0 0) 0 1 rfl rfl;go_wp2;have hq:=(HS.out.set 0 rfl 0 (.slice none 0 0)).set 0 rfl 1 (.slice none 0 0);have q0:=hq.cell (v:=.slice none 0 0) 0 0 rfl rfl;have q1:=hq.cell (v:=.slice none 0 0) 0 1 rfl rfl;refine bodyPost_ret (v:=.tuple #[.agg #[.slice none 0 0,.slice none 0 0],.bool false]) (by simp[results,Tryz.results16,go_sem,q0,q1]) rfl ?_;exact⟨⟨none,0,none,0,rfl,Zc2 _ _ _ _ _⟩,hq.bel⟩
 have HY:=qh (Zan (hS.row 0 rfl));have hly:=ZdT hr2;replace HX:=qh (HX.out.below hS.bel);replace HS:=qh (HS.out.call hS.bel);clear hS;rcases HKD.out with rfl|rfl|rfl|hk
 ·have hq:=Zfi hr1 hr2 (k:=4) (by omega);have hhd:=HO.out;rw[hq] at hhd;obtain⟨h,-⟩|⟨es,h,hl,ho⟩:=hhd
  ·cases h
  have hes:xs++ys++[(4,0)]=es:=by simpa using h
  have hc:=fun (v:Value) (u:World) (h:Pairs 0 u v es)=>Zbd K hK _ o ho v u h
  rw[HD.out,HF.out] at hc;have Hc:=qh hc;clear ho hc HD HF HO HKD hr1 hr2 hq hl h;have HS2:=qh (show St w _ [Ent.box w.heap.size #[.slice none 0 0,.slice none 0 0] 25,Ent.box w2.heap.size #[.slice a1 xs.length c1,.slice a2 ys.length c2] 40] from HS.out.alloc w2.heap.size rfl _ _);have HX2:=qh (HX.out.below ((Below.refl w2.heap.size w2).alloc (Nat.le_refl _) (.cells #[.slice a1 xs.length c1,.slice a2 ys.length c2] 40)));have HY2:=qh (HY.out.below ((Below.refl w2.heap.size w2).alloc (Nat.le_refl _) (.cells #[.slice a1 xs.length c1,.slice a2 ys.length c2] 40)));have hop:=ZfI 4 xs ys _ _ w2.heap.size 2 _ (by omega) (by omega) (HS2.out.boxlt 1 rfl).2 (HS2.out.cell (v:=.slice a1 xs.length c1) 1 0 rfl rfl) (HS2.out.cell (v:=.slice a2 ys.length c2) 1 1 rfl rfl) HX2.out HY2.out;rw[hes] at hop;have Hop:=qh hop;clear hop hes;go_wp2_with fail;refine Hop.out.mono ?_;rintro e w3 ⟨a3,c3,rfl,hS⟩;have HP:=qh (Zan (hS.row 0 rfl));replace HS:=qh ((HS2.out.call hS.bel).pick [0] (by decide));clear hS HS2 HX2 HY2 HX HY Hop;go_wp2_with fail;refine(Hc.out _ _ HP.out).mono ?_;rintro e w4 ⟨⟨d1,e1,d2,e2,rfl,hown⟩,hb2⟩;have hS5:=HS.out.call hb2;have f0:=hS5.fr 0 0 rfl;have f1:=hS5.fr 0 1 rfl;have k0:=hS5.cell (v:=.slice none 0 0) 0 0 rfl rfl;have k1:=hS5.cell (v:=.slice none 0 0) 0 1 rfl rfl;have hDM:=DMem.of hown HS.out.size;have hb0:=hS5.box 0 rfl;have HS5:=qh hS5;have HDM:=qh hDM;replace hb0:=qh hb0;clear hS5 hown hb2 hDM;go_wp2
  have hq:=(HS5.out.set 0 rfl 0 (.slice d1 D.next.length e1)).set 0 rfl 1 (.slice d2 D.ends.length e2);have q0:=hq.cell (v:=.slice d1 D.next.length e1) 0 0 rfl rfl;have q1:=hq.cell (v:=.slice d2 D.ends.length e2) 0 1 rfl rfl;have hm:=(HDM.out.set hb0.out 0 (.slice d1 D.next.length e1)).set (hb0.out.set 0 _) 1 (.slice d2 D.ends.length e2);refine bodyPost_ret (v:=.tuple #[.agg #[.slice d1 D.next.length e1,.slice d2 D.ends.length e2],.bool fb]) (by simp[results,Tryz.results16,go_sem,q0,q1]) rfl ?_;exact⟨⟨d1,e1,d2,e2,rfl,_,_,rfl,hm.1,hm.2⟩,hq.bel⟩
 ·have hq:=Zfi hr1 hr2 (k:=5) (by omega);have hhd:=HO.out;rw[hq] at hhd;obtain⟨h,-⟩|⟨es,h,hl,ho⟩:=hhd
  ·cases h
  have hes:xs++ys++[(5,0)]=es:=by simpa using h
  have hc:=fun (v:Value) (u:World) (h:Pairs 0 u v es)=>Zbd K hK _ o ho v u h
  rw[HD.out,HF.out] at hc;have Hc:=qh hc;clear ho hc HD HF HO HKD hr1 hr2 hq hl h;have HS2:=qh (show St w _ [Ent.box w.heap.size #[.slice none 0 0,.slice none 0 0] 25,Ent.box w2.heap.size #[.slice a1 xs.length c1,.slice a2 ys.length c2] 40] from HS.out.alloc w2.heap.size rfl _ _);have HX2:=qh (HX.out.below ((Below.refl w2.heap.size w2).alloc (Nat.le_refl _) (.cells #[.slice a1 xs.length c1,.slice a2 ys.length c2] 40)));have HY2:=qh (HY.out.below ((Below.refl w2.heap.size w2).alloc (Nat.le_refl _) (.cells #[.slice a1 xs.length c1,.slice a2 ys.length c2] 40)));have hop:=ZfI 5 xs ys _ _ w2.heap.size 2 _ (by omega) (by omega) (HS2.out.boxlt 1 rfl).2 (HS2.out.cell (v:=.slice a1 xs.length c1) 1 0 rfl rfl) (HS2.out.cell (v:=.slice a2 ys.length c2) 1 1 rfl rfl) HX2.out HY2.out;rw[hes] at hop;have Hop:=qh hop;clear hop hes;go_wp2_with fail;refine Hop.out.mono ?_;rintro e w3 ⟨a3,c3,rfl,hS⟩;have HP:=qh (Zan (hS.row 0 rfl));replace HS:=qh ((HS2.out.call hS.bel).pick [0] (by decide));clear hS HS2 HX2 HY2 HX HY Hop;go_wp2_with fail;refine(Hc.out _ _ HP.out).mono ?_;rintro e w4 ⟨⟨d1,e1,d2,e2,rfl,hown⟩,hb2⟩;have hS5:=HS.out.call hb2;have f0:=hS5.fr 0 0 rfl;have f1:=hS5.fr 0 1 rfl;have k0:=hS5.cell (v:=.slice none 0 0) 0 0 rfl rfl;have k1:=hS5.cell (v:=.slice none 0 0) 0 1 rfl rfl;have hDM:=DMem.of hown HS.out.size;have hb0:=hS5.box 0 rfl;have HS5:=qh hS5;have HDM:=qh hDM;replace hb0:=qh hb0;clear hS5 hown hb2 hDM;go_wp2
  have hq:=(HS5.out.set 0 rfl 0 (.slice d1 D.next.length e1)).set 0 rfl 1 (.slice d2 D.ends.length e2);have q0:=hq.cell (v:=.slice d1 D.next.length e1) 0 0 rfl rfl;have q1:=hq.cell (v:=.slice d2 D.ends.length e2) 0 1 rfl rfl;have hm:=(HDM.out.set hb0.out 0 (.slice d1 D.next.length e1)).set (hb0.out.set 0 _) 1 (.slice d2 D.ends.length e2);refine bodyPost_ret (v:=.tuple #[.agg #[.slice d1 D.next.length e1,.slice d2 D.ends.length e2],.bool fb]) (by simp[results,Tryz.results16,go_sem,q0,q1]) rfl ?_;exact⟨⟨d1,e1,d2,e2,rfl,_,_,rfl,hm.1,hm.2⟩,hq.bel⟩
 ·have hq:=Zfi hr1 hr2 (k:=6) (by omega);have hhd:=HO.out;rw[hq] at hhd;obtain⟨h,-⟩|⟨es,h,hl,ho⟩:=hhd
  ·cases h
  have hes:xs++ys++[(6,0)]=es:=by simpa using h
  have hc:=fun (v:Value) (u:World) (h:Pairs 0 u v es)=>Zbd K hK _ o ho v u h
  rw[HD.out,HF.out] at hc;have Hc:=qh hc;clear ho hc HD HF HO HKD hr1 hr2 hq hl h;have HS2:=qh (show St w _ [Ent.box w.heap.size #[.slice none 0 0,.slice none 0 0] 25,Ent.box w2.heap.size #[.slice a1 xs.length c1,.slice a2 ys.length c2] 40] from HS.out.alloc w2.heap.size rfl _ _);have HX2:=qh (HX.out.below ((Below.refl w2.heap.size w2).alloc (Nat.le_refl _) (.cells #[.slice a1 xs.length c1,.slice a2 ys.length c2] 40)));have HY2:=qh (HY.out.below ((Below.refl w2.heap.size w2).alloc (Nat.le_refl _) (.cells #[.slice a1 xs.length c1,.slice a2 ys.length c2] 40)));have hop:=ZfI 6 xs ys _ _ w2.heap.size 2 _ (by omega) (by omega) (HS2.out.boxlt 1 rfl).2 (HS2.out.cell (v:=.slice a1 xs.length c1) 1 0 rfl rfl) (HS2.out.cell (v:=.slice a2 ys.length c2) 1 1 rfl rfl) HX2.out HY2.out;rw[hes] at hop;have Hop:=qh hop;clear hop hes;go_wp2_with fail;refine Hop.out.mono ?_;rintro e w3 ⟨a3,c3,rfl,hS⟩;have HP:=qh (Zan (hS.row 0 rfl));replace HS:=qh ((HS2.out.call hS.bel).pick [0] (by decide));clear hS HS2 HX2 HY2 HX HY Hop;go_wp2_with fail;refine(Hc.out _ _ HP.out).mono ?_;rintro e w4 ⟨⟨d1,e1,d2,e2,rfl,hown⟩,hb2⟩;have hS5:=HS.out.call hb2;have f0:=hS5.fr 0 0 rfl;have f1:=hS5.fr 0 1 rfl;have k0:=hS5.cell (v:=.slice none 0 0) 0 0 rfl rfl;have k1:=hS5.cell (v:=.slice none 0 0) 0 1 rfl rfl;have hDM:=DMem.of hown HS.out.size;have hb0:=hS5.box 0 rfl;have HS5:=qh hS5;have HDM:=qh hDM;replace hb0:=qh hb0;clear hS5 hown hb2 hDM;go_wp2
  have hq:=(HS5.out.set 0 rfl 0 (.slice d1 D.next.length e1)).set 0 rfl 1 (.slice d2 D.ends.length e2);have q0:=hq.cell (v:=.slice d1 D.next.length e1) 0 0 rfl rfl;have q1:=hq.cell (v:=.slice d2 D.ends.length e2) 0 1 rfl rfl;have hm:=(HDM.out.set hb0.out 0 (.slice d1 D.next.length e1)).set (hb0.out.set 0 _) 1 (.slice d2 D.ends.length e2);refine bodyPost_ret (v:=.tuple #[.agg #[.slice d1 D.next.length e1,.slice d2 D.ends.length e2],.bool fb]) (by simp[results,Tryz.results16,go_sem,q0,q1]) rfl ?_;exact⟨⟨d1,e1,d2,e2,rfl,_,_,rfl,hm.1,hm.2⟩,hq.bel⟩
 have hno:o=none:=by
  have h:=HO.out;rw[ZoW hk] at h;rcases h with⟨-,h⟩|⟨es,h,-⟩
  ·exact h
  cases h
 subst hno;obtain rfl:=HD.out;obtain rfl:=HF.out;clear HD HF;have k4:k≠4:=by rintro rfl;exact absurd hk (by decide)
 obtain⟨p4,q4,r4,s4⟩:=ZaF k4;clear k4;have k5:k≠5:=by rintro rfl;exact absurd hk (by decide)
 obtain⟨p5,q5,r5,s5⟩:=ZaF k5;clear k5;have k6:k≠6:=by rintro rfl;exact absurd hk (by decide)
 obtain⟨p6,q6,r6,s6⟩:=ZaF k6;clear k6;clear HO HKD hr1 hr2 HX HY hk;have f0:=HS.out.fr 0 0 rfl;have f1:=HS.out.fr 0 1 rfl;have k0:=HS.out.cell (v:=.slice none 0 0) 0 0 rfl rfl;have k1:=HS.out.cell (v:=.slice none 0 0) 0 1 rfl rfl;go_wp2_with fail;have hq:=(HS.out.set 0 rfl 0 (.slice none 0 0)).set 0 rfl 1 (.slice none 0 0);have q0:=hq.cell (v:=.slice none 0 0) 0 0 rfl rfl;have q1:=hq.cell (v:=.slice none 0 0) 0 1 rfl rfl;refine bodyPost_ret (v:=.tuple #[.agg #[.slice none 0 0,.slice none 0 0],.bool false]) (by simp[results,Tryz.results16,go_sem,q0,q1]) rfl ?_;exact⟨⟨none,0,none,0,rfl,Zc2 _ _ _ _ _⟩,hq.bel⟩
theorem Zkl {K:Nat} (hK:K=40) {s t:Ex} {x y:DfaD} (hx:Zal K s=some x) (hy:Zal K t=some y) (h:∀ w,isW w→(memE s w↔memE t w)):x=y:=by
 have e:=ZjY (ZaM (Zbe hK s hx)) (ZaM (Zbe hK t hy)) fun w hw=>by rw[Bool.eq_iff_iff,Zfn hK s hx w hw,Zfn hK t hy w hw];exact h w hw
 rwa [Zem hK s hx,Zem hK t hy] at e
theorem ZqL {K:Nat} (hK:K=40) {t:Ex} {d y:DfaD} (hd:Zal K t=some d) (hy:Zal K (.alt t t)=some y):y=d :=
 Zkl hK hy hd fun w _=>⟨fun h=>h.elim id id,fun h=>Or.inl h⟩
theorem Zpm {K:Nat} (hK:K=40) {t:Ex} {d y:DfaD} (hd:Zal K t=some d) (hy:Zal K (.both t t)=some y):y=d :=
 Zkl hK hy hd fun w _=>⟨fun h=>h.1,fun h=>⟨h,h⟩⟩
theorem ZnX {K:Nat} (f g:Bool→Bool→Bool) (a b:DfaD):(Zbn K f a b).isSome=(Zbn K g a b).isSome:=by
 unfold Zbn
 split<;>rfl
theorem ZoV {K:Nat} (a b:Ex):(Zal K (.alt a b)).isSome=(Zal K (.both a b)).isSome:=by
 unfold Zal;cases Zal K a with
 | none=>rfl
 | some x =>
  cases Zal K b with
  | none=>rfl
  | some y =>show((Zbn K _ x y).map Zak).isSome=((Zbn K _ x y).map Zak).isSome;rw[Option.isSome_map,Option.isSome_map];exact ZnX _ _ x y
theorem Zki {K:Nat} {t:Ex} (h:Zal K t=none):Zal K (.alt t t)=none∧Zal K (.both t t)=none:=by constructor<;>(unfold Zal;rw[h];rfl)
theorem Zmw {K:Nat} (hK:K=40) {s:List Nat} {o oa ob:Option DfaD} (ho:ZhB K (Za5 s) o) (ha:ZhB K (Zfj s s 5) oa) (hb:ZhB K (Zfj s s 6) ob):oa.isSome=ob.isSome∧(oa.isSome=true→oa.getD zeD=o.getD zeD)∧(ob.isSome=true→ob.getD zeD=o.getD zeD):=by
 cases hr:Za5 s with
 | none =>
  rw[Zkj hr] at ha hb;rcases ha with⟨-,rfl⟩|⟨es,h,-⟩
  ·rcases hb with⟨-,rfl⟩|⟨es,h,-⟩
   ·exact⟨rfl,fun h=>(by cases h),fun h=>(by cases h)⟩
   cases h
  cases h
 | some x =>
  obtain⟨t,rfl,-,h60,-⟩:=ZfB hr;rw[hr] at ho;rw[Zfi hr hr (by omega)] at ha hb;have hx:exOk t.post=true:=ZaB t h60
  have hot:o=Zal K t:=by
   rcases ho with⟨h,-⟩|⟨es,h,-,⟨-,u,hu,hc⟩|⟨h2,-⟩⟩
   ·cases h
   ·obtain rfl:=Option.some.inj h;rw[← hc,Zgv hu]
   obtain rfl:=Option.some.inj h;rw[hx] at h2;cases h2
  by_cases hl:(Ex.alt t t).post.length≤60
  ·have hl2:(Ex.both t t).post.length≤60:=by simpa [Ex.post] using hl
   have hat:oa=Zal K (.alt t t):=by
    rcases ha with⟨h,-⟩|⟨es,h,-,⟨-,u,hu,hc⟩|⟨h2,-⟩⟩
    ·cases h
    ·have e:=hu.trans (Option.some.inj h).symm;rw[← hc,Zgv (u:=.alt t t) e]
    rw[← Option.some.inj h] at h2;have:=ZaB (.alt t t) hl;rw[show(Ex.alt t t).post=t.post++t.post++[(5,0)] from rfl,h2] at this;cases this
   have hbt:ob=Zal K (.both t t):=by
    rcases hb with⟨h,-⟩|⟨es,h,-,⟨-,u,hu,hc⟩|⟨h2,-⟩⟩
    ·cases h
    ·have e:=hu.trans (Option.some.inj h).symm;rw[← hc,Zgv (u:=.both t t) e]
    rw[← Option.some.inj h] at h2;have:=ZaB (.both t t) hl2;rw[show(Ex.both t t).post=t.post++t.post++[(6,0)] from rfl,h2] at this;cases this
   subst hot hat hbt;refine⟨ZoV t t,?_,?_⟩
   ·cases h1:Zal K (.alt t t) with
    | none=>exact fun h=>(by cases h)
    | some y =>
     cases h2:Zal K t with
     | none=>rw[(Zki h2).1] at h1;cases h1
     | some d=>exact fun _=>ZqL hK h2 h1
   cases h1:Zal K (.both t t) with
   | none=>exact fun h=>(by cases h)
   | some y =>
    cases h2:Zal K t with
    | none=>rw[(Zki h2).2] at h1;cases h1
    | some d=>exact fun _=>Zpm hK h2 h1
  have big:∀ (k:Int) {q:Option DfaD},(∀ u:Ex,u.post≠t.post++t.post++[(k,0)]∨60<u.post.length)→ZhB K (some (t.post++t.post++[(k,0)])) q→q=none:=fun k q hu h=>by
   rcases h with⟨h,-⟩|⟨es,h,-,⟨h1,u,hu',-⟩|⟨-,h2⟩⟩
   ·cases h
   ·rw[← Option.some.inj h] at h1 hu';have h60':=(Zby h1).2.2.2;rw[← hu'] at h60';rcases hu u with h|h
    ·exact absurd hu' h
    omega
   exact h2
  have hall:∀ (k:Int) (u:Ex),u.post≠t.post++t.post++[(k,0)]∨60<u.post.length:=fun k u=>by
   by_cases e:u.post=t.post++t.post++[(k,0)]
   ·right;rw[e];simpa [Ex.post] using hl
   exact .inl e
  obtain rfl:=big 5 (hall 5) ha;obtain rfl:=big 6 (hall 6) hb;exact⟨rfl,fun h=>(by cases h),fun h=>(by cases h)⟩
theorem Zjh (bs:List Nat) (v:Value) (w:World) (hb:Bytes 0 w v bs) :
  Calls Tryz.prog 6 #[v] w fun e w'=>e = .returned (.bool true)∧Below w.heap.size w w':=by
 have HB:=qh hb;obtain⟨av,cv,rfl,hcv1,hcv2,-⟩:=hb.form;clear hb;by_cases hlen:1048576<bs.length
 ·have hl2:(1048576:Int)<bs.length:=by omega
  go_enter Tryz.func6, Tryz.ntmps6
  go_wp2;go_ret;exact⟨rfl,Below.refl _ _⟩
 have hl2:¬ (1048576:Int)<bs.length:=by omega
 go_enter Tryz.func6, Tryz.ntmps6
 go_wp2_with fail;refine(ZcS bs _ _ HB.out (by omega)).mono ?_;rintro e w1 ⟨⟨s,hs,hsl,rfl⟩,hb1⟩;obtain⟨K,hK⟩:∃ K:Nat,K=40:=⟨_,rfl⟩;obtain⟨o,ho⟩:=Zme K s;obtain⟨oa,hoa⟩:=Zl7 K s s 5;obtain⟨ob,hob⟩:=Zl7 K s s 6;have hsp:=fun (u:World)=>ZcF K hK s o ho u hs
 have him:=fun (u:World)=>ZcQ K hK s o ho u hs
 have hia:=fun (u:World)=>Zdj K hK s s 5 oa hoa u hs hs
 have hib:=fun (u:World)=>Zdj K hK s s 6 ob hob u hs hs
 obtain⟨hsome,hea,heb⟩:=Zmw hK ho hoa hob;obtain⟨D,hD⟩:=eJ (o.getD Zbj);have hD2:o.getD zeD=D:=hD;obtain⟨fb,hfb⟩:=eJ (o.isSome);unfold RO at hsp;rw[hD,hfb] at hsp;rw[hD2,hfb] at him;obtain⟨gb,hgb⟩:=eJ (oa.isSome);have hgb2:ob.isSome=gb:=hsome.symm.trans hgb;obtain⟨A,hA⟩:=eJ (oa.getD zeD);obtain⟨B,hB'⟩:=eJ (ob.getD zeD);rw[hgb,hA,hD2] at hea;rw[hgb2,hB',hD2] at heb;rw[hA,hgb] at hia;rw[hB',hgb2] at hib;have Hia:=qh hia;have Hib:=qh hib;replace hea:=qh hea;have Hheb:=qh heb;clear heb;obtain⟨hno,hyes⟩:=Zkn hK ho hD hfb;have Hhs:=qh hs;clear hs;have Hho:=qh ho;clear ho;replace hK:=qh hK;clear hia hib hgb hgb2 hA hB' hoa hob hsome;have Hsp:=qh hsp;have Him:=qh him;have Hhno:=qh hno;clear hno;have Hhyes:=qh hyes;clear hyes;clear hsp him hD hD2 hfb;have HS1:=qh ((St.start w).call hb1);clear hb1;go_wp2_with fail;refine(Him.out _).mono ?_;rintro e w2 ⟨⟨g1,c1,g2,c2,rfl,hx⟩,hb⟩;have HS2:=qh ((HS1.out.call hb).alloc _ rfl #[.slice g1 D.next.length c1,.slice g2 D.ends.length c2] 25);have HX2:=qh (((hx.r).mono (Nat.zero_le _)).below ((Below.refl w2.heap.size w2).alloc (Nat.le_refl _) (.cells #[.slice g1 D.next.length c1,.slice g2 D.ends.length c2] 25)));have HB2:=qh (hb.trans (((Below.refl w2.heap.size w2).alloc (Nat.le_refl _) (.cells #[.slice g1 D.next.length c1,.slice g2 D.ends.length c2] 25)).mono hb.size));clear hb hx;go_wp2_with fail;refine(Hsp.out _).mono ?_;rintro e w3 ⟨x1,y1,x2,y2,rfl,hr,hb⟩
 have HS3:=qh ((HS2.out.call hb).alloc _ rfl #[.slice x1 D.next.length y1,.slice x2 D.ends.length y2] 25);have HX3:=qh ((HX2.out.below hb).below ((Below.refl w3.heap.size w3).alloc (Nat.le_refl _) (.cells #[.slice x1 D.next.length y1,.slice x2 D.ends.length y2] 25)));have HY3:=qh ((hr.mono (Nat.zero_le _)).below ((Below.refl w3.heap.size w3).alloc (Nat.le_refl _) (.cells #[.slice x1 D.next.length y1,.slice x2 D.ends.length y2] 25)));clear hb hr HX2;have e0:=HS3.out.cell (v:=.slice g1 D.next.length c1) 0 0 rfl rfl;have e1:=HS3.out.cell (v:=.slice g2 D.ends.length c2) 0 1 rfl rfl;have f0:=HS3.out.cell (v:=.slice x1 D.next.length y1) 1 0 rfl rfl;have f1:=HS3.out.cell (v:=.slice x2 D.ends.length y2) 1 1 rfl rfl;go_wp2_with fail;refine(ZbO D _ _ _ HX3.out HY3.out).mono ?_;rintro e w4 ⟨rfl,hb⟩;have HS4:=qh (HS3.out.call hb);have HX4:=qh (HX3.out.below hb);have hff:(fb != fb)=false:=by simp
 clear hb HX3 HY3 HS2 HS3 e0 e1 f0 f1 HB2;go_wp2_with fail;refine(Hia.out _).mono ?_;rintro e w5 ⟨⟨p1,r1,p2,r2,rfl,hx⟩,hb⟩;have HS5:=qh ((HS4.out.call hb).alloc _ rfl #[.slice p1 A.next.length r1,.slice p2 A.ends.length r2] 25);have HX5:=qh ((HX4.out.below hb).below ((Below.refl w5.heap.size w5).alloc (Nat.le_refl _) (.cells #[.slice p1 A.next.length r1,.slice p2 A.ends.length r2] 25)));have HAA:=qh (((hx.r).mono (Nat.zero_le _)).below ((Below.refl w5.heap.size w5).alloc (Nat.le_refl _) (.cells #[.slice p1 A.next.length r1,.slice p2 A.ends.length r2] 25)));clear hb hx HS4 HX4;go_wp2_with fail;refine(Hib.out _).mono ?_;rintro e w6 ⟨⟨h1,k1,h2,k2,rfl,hx⟩,hb⟩;have HS6:=qh ((HS5.out.call hb).alloc _ rfl #[.slice h1 B.next.length k1,.slice h2 B.ends.length k2] 25);have HX6:=qh ((HX5.out.below hb).below ((Below.refl w6.heap.size w6).alloc (Nat.le_refl _) (.cells #[.slice h1 B.next.length k1,.slice h2 B.ends.length k2] 25)));have HA6:=qh ((HAA.out.below hb).below ((Below.refl w6.heap.size w6).alloc (Nat.le_refl _) (.cells #[.slice h1 B.next.length k1,.slice h2 B.ends.length k2] 25)));have HBB6:=qh (((hx.r).mono (Nat.zero_le _)).below ((Below.refl w6.heap.size w6).alloc (Nat.le_refl _) (.cells #[.slice h1 B.next.length k1,.slice h2 B.ends.length k2] 25)));clear hb hx HS5 HX5 HAA;have hgg:(gb==gb)=true:=beq_self_eq_true gb;cases gb
 ·go_wp2_with (go_at_call 21;refine(Zfu _).mono ?_;rintro e w' ⟨rfl,rfl⟩);go_ret;exact⟨rfl,HS6.out.bel⟩
 obtain rfl:=hea.out rfl;obtain rfl:=Hheb.out rfl;have e0:=HS6.out.cell (v:=.slice g1 B.next.length c1) 0 0 rfl rfl;have e1:=HS6.out.cell (v:=.slice g2 B.ends.length c2) 0 1 rfl rfl;have f0:=HS6.out.cell (v:=.slice p1 B.next.length r1) 2 0 rfl rfl;have f1:=HS6.out.cell (v:=.slice p2 B.ends.length r2) 2 1 rfl rfl;have m0:=HS6.out.cell (v:=.slice h1 B.next.length k1) 3 0 rfl rfl;have m1:=HS6.out.cell (v:=.slice h2 B.ends.length k2) 3 1 rfl rfl
 go_wp2_with (first
  | (go_at_call 20;with_reducible refine(ZbO B _ _ _ HA6.out HX6.out).mono ?_;rintro e w7 ⟨rfl,hb7⟩;have HS7:=qh (HS6.out.call hb7);have HX7:=qh (HX6.out.below hb7);have HB7:=qh (HBB6.out.below hb7);clear hb7 e0 e1 f0 f1 m0 m1;have e0:=HS7.out.cell (v:=.slice g1 B.next.length c1) 0 0 rfl rfl;have e1:=HS7.out.cell (v:=.slice g2 B.ends.length c2) 0 1 rfl rfl;have m0:=HS7.out.cell (v:=.slice h1 B.next.length k1) 3 0 rfl rfl;have m1:=HS7.out.cell (v:=.slice h2 B.ends.length k2) 3 1 rfl rfl)
  | (go_at_call 20;with_reducible refine(ZbO B _ _ _ HB7.out HX7.out).mono ?_;rintro e w8 ⟨rfl,hb8⟩;have HS8:=qh (HS7.out.call hb8);clear hb8)
  | (go_at_call 21;refine(Zfu _).mono ?_;rintro e w' ⟨rfl,rfl⟩))
 go_ret;exact⟨rfl,HS8.out.bel⟩
end Go.Proofs.YtfgpkadhegdffaaGreat
