/-
  The walk over the program's RewriteBack.
  Conditions: the rewriter and the automaton read as such; the rewriter's texts are of bytes.
-/
import Derived.Test.YtfanhfcamblghaaPv22Rwc
import Derived.Test.YtfanhfcamblghaaPv23ExpW
set_option maxHeartbeats 16000000
set_option maxRecDepth 100000
namespace Go.Proofs.Ytfanhfcamblghaa
open Go.RowKit
theorem Zj5 {nx:Int × Int→Nat→Int × Int} {en:Int × Int→Bool} {most B:Nat} {e:Ending} {w':World} (h:RExp nx en most B e w') (hle:(bat nx (0,0) most).met.length≤most) :
  ∃ an cn ae ce am cm,e = .returned (.tuple #[.agg #[.slice an (bat nx (0,0) most).met.length cn,.slice ae (bat nx (0,0) most).met.length ce],.slice am (bat nx (0,0) most).met.length cm,.bool true]) ∧
   DfaR B w' (.agg #[.slice an (bat nx (0,0) most).met.length cn,.slice ae (bat nx (0,0) most).met.length ce]) (Zaz nx en (bat nx (0,0) most).met):=by
 unfold RExp at h;rw[if_pos hle] at h;obtain⟨an,cn,ae,ce,am,cm,h1,h2,-⟩:=h;exact⟨an,cn,ae,ce,am,cm,h1,h2.r⟩
theorem Zj6 {nx:Int × Int→Nat→Int × Int} {en:Int × Int→Bool} {most B:Nat} {e:Ending} {w':World} {X:Prop} (h:RExp nx en most B e w'∧X):Hid (RExp nx en most B e w')∧X:=⟨qh h.1,h.2⟩
theorem Zk0 {nx:Int × Int→Nat→Int × Int} {en:Int × Int→Bool} {most B:Nat} {e:Ending} {w':World} (h:RExp nx en most B e w') (hle:¬ (bat nx (0,0) most).met.length≤most) :
  e = .returned (.tuple #[.agg #[.slice none 0 0,.slice none 0 0],.slice none 0 0,.bool false]):=by
 unfold RExp at h
 rwa [if_neg hle] at h
theorem ZbE (K:Nat) (hK40:K=40) (r:RwD) (d:DfaD) (v u:Value) (w:World) (hok:okRw r) (h:RwR w v r) (hd:DfaR 0 w u d) :
  Calls Try.prog 22 #[v,u] w fun e w'=>RO (rwB K r d) w e w':=by
 have HR:=qh h;have HD:=qh hd;obtain⟨y,hy⟩:=eJ (rwOk r);obtain⟨z,hz⟩:=eJ (Zaf d.next d.ends);have HV:=qh (fun (u:World) h=>Zbr r v u hok h y hy);have HZ:=qh (fun (t:World) h=>ZaO d u t h z hz);obtain⟨v1,v2,v3,rfl,h1,h2,h3⟩:=h;obtain⟨u1,u2,rfl,k1,k2⟩:=hd;have hS0:=(((St.start w).alloc w.heap.size rfl #[v1,v2,v3] 54).alloc (w.heap.size+1) (by simp) #[u1,u2] 45).alloc (w.heap.size+1+1) (by simp) #[.slice none 0 0,.slice none 0 0] 45;have e0:=hS0.cell (v:=v1) 0 0 rfl rfl;have e1:=hS0.cell (v:=v2) 0 1 rfl rfl;have e2:=hS0.cell (v:=v3) 0 2 rfl rfl;have e3:=hS0.cell (v:=u1) 1 0 rfl rfl;have e4:=hS0.cell (v:=u2) 1 1 rfl rfl;have HS:=qh hS0;clear hS0
 have hno:y=false∨z=false→rwB K r d=none:=fun h=>by
  unfold rwB;rw[if_neg];rintro⟨p1,p2,-⟩;rcases h with h|h
  ·rw[hy,h] at p1;cases p1
  rw[hz,h] at p2;cases p2
 cases y with
 | false =>
  rw[hno (.inl rfl)];clear h1 h2 h3 k1 k2 hy hz hno
  go_enter Try.func22, Try.ntmps22
  go_wp2_with fail;refine(HV.out _ (HR.out.below HS.out.bel)).mono ?_;rintro e w1 ⟨rfl,hb1⟩;have HS1:=qh (HS.out.call hb1);have f0:=HS1.out.fr 2 0 rfl;have f1:=HS1.out.fr 2 1 rfl;have l0:=HS1.out.cell (v:=.slice none 0 0) 2 0 rfl rfl;have l1:=HS1.out.cell (v:=.slice none 0 0) 2 1 rfl rfl;clear hb1 e0 e1 e2 e3 e4;go_wp2;have hq:=(HS1.out.set 2 rfl 0 (.slice none 0 0)).set 2 rfl 1 (.slice none 0 0);have q0:=hq.cell (v:=.slice none 0 0) 2 0 rfl rfl;have q1:=hq.cell (v:=.slice none 0 0) 2 1 rfl rfl;refine bodyPost_ret (v:=.tuple #[.agg #[.slice none 0 0,.slice none 0 0],.bool false]) (by simp[results,Try.results22,go_sem,q0,q1]) rfl ?_;exact⟨none,0,none,0,rfl,Za3 _ _,hq.bel⟩
 | true =>
  cases z with
  | false =>
   rw[hno (.inr rfl)];clear h1 h2 h3 k1 k2 hy hz hno
   go_enter Try.func22, Try.ntmps22
   go_wp2_with fail;refine(HV.out _ (HR.out.below HS.out.bel)).mono ?_;rintro e w1 ⟨rfl,hb1⟩;have HS1:=qh (HS.out.call hb1);have e5:=HS1.out.cell (v:=u1) 1 0 rfl rfl;have e6:=HS1.out.cell (v:=u2) 1 1 rfl rfl;clear hb1 e0 e1 e2 e3 e4;go_wp2_with fail;refine(HZ.out _ (HD.out.below HS1.out.bel)).mono ?_;rintro e w2 ⟨rfl,hb2⟩;have HS2:=qh (HS1.out.call hb2);have f0:=HS2.out.fr 2 0 rfl;have f1:=HS2.out.fr 2 1 rfl;have l0:=HS2.out.cell (v:=.slice none 0 0) 2 0 rfl rfl;have l1:=HS2.out.cell (v:=.slice none 0 0) 2 1 rfl rfl;clear hb2 e5 e6;go_wp2;have hq:=(HS2.out.set 2 rfl 0 (.slice none 0 0)).set 2 rfl 1 (.slice none 0 0);have q0:=hq.cell (v:=.slice none 0 0) 2 0 rfl rfl;have q1:=hq.cell (v:=.slice none 0 0) 2 1 rfl rfl;refine bodyPost_ret (v:=.tuple #[.agg #[.slice none 0 0,.slice none 0 0],.bool false]) (by simp[results,Try.results22,go_sem,q0,q1]) rfl ?_;exact⟨none,0,none,0,rfl,Za3 _ _,hq.bel⟩
  | true =>
   have hf:=ZaE hz;have hlenD:=Zag hz;obtain⟨hn1,hn12,-,-,-⟩:=ZaT hy;have hrw:∀ t:World,Below w.heap.size w t→Bx t w.heap.size #[v1,v2,v3] 54 → RwAt t w.heap.size r:=fun t ht hx=>⟨v1,v2,v3,hx,h1.below ht,h2.below ht,h3.below ht⟩
   have hda:∀ t:World,Below w.heap.size w t→Bx t (w.heap.size+1) #[u1,u2] 45 → DfaAt t (w.heap.size+1) d:=fun t ht hx=>⟨u1,u2,hx,k1.below ht,k2.below ht⟩
   have hex:=fun (W:World) (hA:RwAt W w.heap.size r) (hB:DfaAt W (w.heap.size+1) d)=>ZeG (stpW r d) (entW r d) (fun x=>inPW r d x) K w.heap.size (w.heap.size+1) W (Zem hy hf) (fun x c hc hx=>Zen hy hf hc hx)
    (fun x hx=>by obtain⟨s,q,rfl,hs,hq⟩:=hx;unfold fitI;simp only;omega) (by omega) (by omega)
    (fun x c w' hx hc hb=>by obtain⟨s,q,rfl,hs,hq⟩:=hx;exact ZgR r d s q c _ _ w' hy hz hs hq hc (hA.below hb) (hB.below hb))
    (fun x w' hx hb=>by obtain⟨s,q,rfl,hs,hq⟩:=hx;exact ZgQ r d s q _ _ w' hy hz hs hq (hA.below hb) (hB.below hb))
   have hK9:((K:Nat):Int)=40:=by rw[hK40];rfl
   rw[hK9] at hex
   have hB:rwB K r d=if (bat (stpW r d) (0,0) K).met.length≤K then some (minD (ZcY K r d)) else none:=by
    unfold rwB;by_cases h:(bat (stpW r d) (0,0) K).met.length≤K
    ·rw[if_pos h,if_pos ⟨hy,hz,h⟩]
    rw[if_neg h,if_neg (fun h'=>h h'.2.2)]
   have hbok:(bat (stpW r d) (0,0) K).met.length≤K→Zaf (ZcY K r d).next (ZcY K r d).ends=true:=fun h=>Zgd hK40 h
   obtain⟨D,hD⟩:=eI (ZcY K r d);obtain⟨E,hE⟩:=eI (minD D);rw[← hD,← hE] at hB;rw[← hD] at hbok;replace hD:=qh hD;have HhE:=qh hE;clear hE;obtain⟨o,ho⟩:=eI (rwB K r d);rw[← ho] at hB ⊢;have HBo:=qh hB;have Hex:=qh hex;have Hrw:=qh hrw;have Hda:=qh hda;have Hbok:=qh hbok;clear h1 h2 h3 k1 k2 hy hz hno hex hrw hda hbok hf hlenD hB ho hK9
   go_enter Try.func22, Try.ntmps22
   go_wp2_with fail;refine(HV.out _ (HR.out.below HS.out.bel)).mono ?_;rintro e w1 ⟨rfl,hb1⟩;have HS1:=qh (HS.out.call hb1);have e5:=HS1.out.cell (v:=u1) 1 0 rfl rfl;have e6:=HS1.out.cell (v:=u2) 1 1 rfl rfl;clear hb1 e0 e1 e2 e3 e4;go_wp2_with fail;refine(HZ.out _ (HD.out.below HS1.out.bel)).mono ?_;rintro e w2 ⟨rfl,hb2⟩;have HS2:=qh (HS1.out.call hb2);clear hb2 e5 e6;go_wp2_with fail;refine(Hex.out w2 (Hrw.out _ HS2.out.bel (HS2.out.box 0 rfl)) (Hda.out _ HS2.out.bel (HS2.out.box 1 rfl))).mono ?_;intro e w3 h9;obtain⟨hr,hb3⟩:=Zj6 h9;clear h9;have HS3:=qh (HS2.out.call hb3);by_cases hle:(bat (stpW r d) (0,0) K).met.length≤K
   ·have ho:=HBo.out;rw[if_pos hle] at ho;subst ho;have hbk:=Hbok.out hle;obtain⟨an,cn,ae,ce,am,cm,rfl,hdo⟩:=Zj5 hr.out hle;have hdr:DfaR 0 w3 (.agg #[.slice an (bat (stpW r d) (0,0) K).met.length cn,.slice ae (bat (stpW r d) (0,0) K).met.length ce]) D:=by rw[hD.out];exact hdo.mono (Nat.zero_le _)
    obtain⟨F,hF⟩:=eI ((bat (stpW r d) (0,0) K).met.length);rw[← hF] at hdr ⊢;have HS4:=qh (HS3.out.alloc w3.heap.size rfl #[.slice an F cn,.slice ae F ce] 45);have HDr:=qh (hdr.below ((Below.refl w3.heap.size w3).alloc (Nat.le_refl _) (.cells #[.slice an F cn,.slice ae F ce] 45)));have e7:=HS4.out.cell (v:=.slice an F cn) 3 0 rfl rfl;have e8:=HS4.out.cell (v:=.slice ae F ce) 3 1 rfl rfl;have Hbk:=qh hbk;have HhF:=qh hF;clear hF;clear hdo hdr hbk hb3 HS3 HS2 HS1;go_wp2_with fail;refine(Zeo D _ _ Hbk.out HDr.out).mono ?_;rintro e w5 ⟨a1,c1,a2,c2,rfl,hdo,hb5⟩;rw[← HhE.out] at hdo ⊢;have HS5:=qh (HS4.out.call hb5);have hsz:=HS4.out.size;have HM:=qh hdo.r;have hB1:=(HS4.out.boxlt 2 rfl).2;have f0:=HS5.out.fr 2 0 rfl;have f1:=HS5.out.fr 2 1 rfl;have l0:=HS5.out.cell (v:=.slice none 0 0) 2 0 rfl rfl;have l1:=HS5.out.cell (v:=.slice none 0 0) 2 1 rfl rfl;clear hdo hb5 e7 e8;go_wp2;have hq:=(HS5.out.set 2 rfl 0 (.slice a1 E.next.length c1)).set 2 rfl 1 (.slice a2 E.ends.length c2);have q0:=hq.cell (v:=.slice a1 E.next.length c1) 2 0 rfl rfl;have q1:=hq.cell (v:=.slice a2 E.ends.length c2) 2 1 rfl rfl;refine bodyPost_ret (v:=.tuple #[.agg #[.slice a1 E.next.length c1,.slice a2 E.ends.length c2],.bool true]) (by simp[results,Try.results22,go_sem,q0,q1]) rfl ?_;exact⟨a1,c1,a2,c2,rfl,((HM.out.far hB1 0 _).far hB1 1 _).mono hsz,hq.bel⟩
   have ho:=HBo.out;rw[if_neg hle] at ho;subst ho;obtain rfl:=Zk0 hr.out hle;have HS4:=qh (HS3.out.alloc w3.heap.size rfl #[.slice none 0 0,.slice none 0 0] 45);have f0:=HS4.out.fr 2 0 rfl;have f1:=HS4.out.fr 2 1 rfl;have l0:=HS4.out.cell (v:=.slice none 0 0) 2 0 rfl rfl;have l1:=HS4.out.cell (v:=.slice none 0 0) 2 1 rfl rfl;clear hb3 HS3 HS2 HS1;go_wp2;have hq:=(HS4.out.set 2 rfl 0 (.slice none 0 0)).set 2 rfl 1 (.slice none 0 0);have q0:=hq.cell (v:=.slice none 0 0) 2 0 rfl rfl;have q1:=hq.cell (v:=.slice none 0 0) 2 1 rfl rfl;refine bodyPost_ret (v:=.tuple #[.agg #[.slice none 0 0,.slice none 0 0],.bool false]) (by simp[results,Try.results22,go_sem,q0,q1]) rfl ?_;exact⟨none,0,none,0,rfl,Za3 _ _,hq.bel⟩
end Go.Proofs.Ytfanhfcamblghaa
