/-
  The walk over the law FnReplaceSame.
  Condition: the argument reads as bytes.
-/
import Derived.Test.YtfikabecgaappaaGreatPr41Prl
set_option maxHeartbeats 16000000
set_option maxRecDepth 100000
namespace Go.Proofs.YtfikabecgaappaaGreat
open Go.RowKit
theorem Zj8 {K:Nat} (hK:K=40) {o:Option DfaD} (ho:Zmr K [(3,0)] o):∃ D,o=some D∧Zae D.next D.ends=true∧accA D:=by
 rcases ho with⟨-,t,ht,hc⟩|⟨h,-⟩
 ·obtain rfl:=ZmI (ht.trans (show [((3:Int),(0:Int))]=(Ex.ltr 0).post from rfl));cases o with
  | none=>simp only[Zam] at hc;cases hc
  | some D=>exact⟨D,rfl,Za8 hK _ hc,fun u hu=>Zl2 hK _ hc u hu⟩
 exact absurd h (by decide)
theorem ZmE (l:List Nat):((txB l).toList==(txB l).toList)=true:=beq_self_eq_true _
theorem ZeO (bs:List Nat) (v:Value) (w:World) (hb:Bytes 0 w v bs) :
  Calls Tryz.prog 5 #[v] w fun e w'=>e = .returned (.bool true)∧Below w.heap.size w w':=by
 have HB:=qh hb;obtain⟨av,cv,rfl,hcv1,hcv2,-⟩:=hb.form;clear hb;by_cases hlen:1048576<bs.length
 ·have hl2:(1048576:Int)<bs.length:=by omega
  go_enter Tryz.func5, Tryz.ntmps5
  go_wp2;go_ret;exact⟨rfl,Below.refl _ _⟩
 have hl2:¬ (1048576:Int)<bs.length:=by omega
 obtain⟨K,hK⟩:∃ K,K=40:=⟨40,rfl⟩;obtain⟨o,ho⟩:=Zhs K [(3,0)];obtain⟨D,rfl,hdo,hacc⟩:=Zj8 hK ho;have him:=fun (v:Value) (u:World) h=>ZdF K hK [(3,0)] (some D) ho v u h
 have hsp:=fun (v:Value) (u:World) h=>Zcb K hK [(3,0)] (some D) ho v u (by simp) h
 unfold RO at hsp;simp only[Option.getD_some,Option.isSome_some] at him hsp;have Him:=qh him;have Hsp:=qh hsp;have Hdo:=qh hdo;have Hacc:=qh hacc;clear him hsp hdo hacc ho hK
 go_enter Tryz.func5, Tryz.ntmps5
 go_wp2_with fail;refine(ZfQ bs _ _ HB.out (by omega)).mono ?_;rintro e w1 ⟨s,hts,hsl,a1,z1,c1,a2,z2,c2,x,rfl,hb1⟩;have HW1:=qh hb1;have HS1:=qh (((St.start w1).alloc w1.heap.size rfl #[.slice a1 z1 c1,.slice a2 z2 c2] 37).alloc (w1.heap.size+1) (by simp) #[.int .i64 3,.int .i64 0] 57);have HQ1:=qh (ZaG (xs:=[(3,0)]) ((HS1.out.boxrow 1 1 2 [.int .i64 3,.int .i64 0] rfl rfl (by unfold maxLen;omega)).row 1 rfl));replace hts:=qh hts;clear hb1;go_wp2_with fail;refine(Him.out _ _ HQ1.out).mono ?_;rintro e w2 ⟨⟨r1,s1,r2,s2,rfl,hx⟩,hb⟩;have hb2:=(Below.refl w2.heap.size w2).alloc (Nat.le_refl _) (.cells #[.slice r1 D.next.length s1,.slice r2 D.ends.length s2] 37);have HS2:=qh (((HS1.out.call hb).alloc w2.heap.size rfl #[.slice r1 D.next.length s1,.slice r2 D.ends.length s2] 37).alloc (w2.heap.size+1) (by simp) #[.int .i64 3,.int .i64 0] 57);have HX2:=qh ((((hx.r).mono (Nat.zero_le _)).below hb2).below ((Below.refl _ _).alloc (Nat.le_refl _) (.cells #[.int .i64 3,.int .i64 0] 57)));have HQ2:=qh (ZaG (xs:=[(3,0)]) ((HS2.out.boxrow 3 1 2 [.int .i64 3,.int .i64 0] rfl rfl (by unfold maxLen;omega)).row 3 rfl));clear hx hb hb2 HS1 HQ1;go_wp2_with fail;refine(Hsp.out _ _ HQ2.out).mono ?_;rintro e w3 ⟨x1,y1,x2,y2,rfl,hr,hb⟩;have hb3:=(Below.refl w3.heap.size w3).alloc (Nat.le_refl _) (.cells #[.slice x1 D.next.length y1,.slice x2 D.ends.length y2] 37)
 have HS3:Hid (St w1 _ [Ent.box w2.heap.size #[.slice r1 D.next.length s1,.slice r2 D.ends.length s2] 37,Ent.box w3.heap.size #[.slice x1 D.next.length y1,.slice x2 D.ends.length y2] 37]):=qh (((HS2.out.call hb).alloc w3.heap.size rfl #[.slice x1 D.next.length y1,.slice x2 D.ends.length y2] 37).pick [2,4] (by decide));have HX3:=qh ((HX2.out.below hb).below hb3);have HY3:=qh ((hr.mono (Nat.zero_le _)).below hb3);have e0:=HS3.out.cell (v:=.slice r1 D.next.length s1) 0 0 rfl rfl;have e1:=HS3.out.cell (v:=.slice r2 D.ends.length s2) 0 1 rfl rfl;have f0:=HS3.out.cell (v:=.slice x1 D.next.length y1) 1 0 rfl rfl;have f1:=HS3.out.cell (v:=.slice x2 D.ends.length y2) 1 1 rfl rfl;clear hb hb3 hr HS2 HQ2 HX2 Him Hsp;go_wp2_with fail;refine(Ziz D _ _ _ HX3.out HY3.out).mono ?_;rintro e w4 ⟨rfl,hb⟩;have HS4:Hid (St w1 w4 [Ent.box w2.heap.size #[.slice r1 D.next.length s1,.slice r2 D.ends.length s2] 37]):=qh ((HS3.out.call hb).pick [0] (by decide));have HX4:=qh (HX3.out.below hb);clear hb HS3 HX3 HY3 e0 e1 f0 f1;obtain⟨r,hr⟩:=eJ (txM 30 s);have Htv:=qh (fun (u:World)=>Zef s u hts.out (by omega) r hr);cases r with
 | false =>
  clear hr
  as_aux_lemma =>
  go_wp2_with (first
   | (go_at_call 26;refine(Htv.out _).mono ?_;rintro e w' ⟨rfl,rfl⟩)
   | (go_at_call 10;refine(Zmm _).mono ?_;rintro e w' ⟨rfl,rfl⟩))
  go_ret;exact⟨rfl,HW1.out.trans (HS4.out.bel.mono HW1.out.size)⟩
 | true =>
  have hl30:=(Zkx.1 hr).2;have h0:=fun (v:Value) (u:World) h=>(show Calls Tryz.prog 27 #[v,.string (txB s),.string ⟨#[]⟩] u fun e w'=>e = .returned (.string (txB (rpA [] s)))∧Below u.heap.size u w' from ZeB D s [] v u Hdo.out Hacc.out hts.out hr (fun b hb=>by cases hb) (by decide) (by decide) h)
  have h1:=fun (v:Value) (u:World) h=>(show Calls Tryz.prog 27 #[v,.string (txB s),.string ⟨#[97]⟩] u fun e w'=>e = .returned (.string (txB (rpA [97] s)))∧Below u.heap.size u w' from ZeB D s [97] v u Hdo.out Hacc.out hts.out hr (fun b hb=>by rw[List.mem_singleton] at hb;subst hb;decide) (by decide) (by decide) h)
  rw[Zjf] at h1;obtain⟨hn1,hn2⟩:=ZkT s;have hxt:isT (rpA [] s):=fun b hb=>hts.out b (hn1 b hb).2
  have hx97:∀ k,k<(rpA [] s).length→(rpA [] s).getD k 0≠97:=fun k hk=>by rw[List.getD_eq_getElem?_getD,List.getElem?_eq_getElem hk];exact(hn1 _ (List.getElem_mem hk)).1
  obtain⟨y,hy⟩:=eI (rpA [] s);rw[← hy] at h0 hn2 hxt hx97;have hys:=ZaE y;have hss:=ZaE s;have hqs:=ZmE s;obtain⟨ny,hny⟩:=eI (y.length);obtain⟨ns,hns⟩:=eI (s.length);rw[← hny] at hys hn2 hx97;rw[← hns] at hss hn2 hl30;have H0:=qh h0;have H1:=qh h1;have Hx97:=qh hx97;have hle:(ny:Int)≤(ns:Int):=by omega
  have e0:=HS4.out.cell (v:=.slice r1 D.next.length s1) 0 0 rfl rfl;have e1:=HS4.out.cell (v:=.slice r2 D.ends.length s2) 0 1 rfl rfl;have Hhy:=qh hy;clear hy;replace hny:=qh hny;replace hns:=qh hns;have Hhxt:=qh hxt;clear hxt;have Hhr:=qh hr;clear hr;clear h0 h1 hx97 hn1;go_wp2_with (go_at_call 26;refine(Htv.out _).mono ?_;rintro e w' ⟨rfl,rfl⟩);refine(H0.out _ _ HX4.out).mono ?_;rintro e w5 ⟨rfl,hb⟩;have HS5:=qh (HS4.out.call hb);have HX5:=qh (HX4.out.below hb);clear hb e0 e1 HS4 HX4 H0;go_wp2_with fail
  go_loopw [11] (fun kv wr=>∃ k:Nat,kv = .int .i64 (k:Int)∧k≤ny∧wr=w5) (fun kv _=>ny-(intOf kv).toNat)
  case atStart=>exact⟨0,rfl,Nat.zero_le _,rfl⟩
  case round =>
   obtain⟨k,rfl,hk,rfl⟩:=hrel;by_cases hkn:k<ny
   ·have hkI:(k:Int)<(ny:Int):=by omega
    have hwk:IntKind.i64.wrap ((k:Int)+1)=(k:Int)+1:=IntWalk.i64_in _ (by omega);have hrun:=Zb9 (l:=y) (i:=k) (by rw[← hny.out];exact hkn) Hhxt.out;have h97:=Hx97.out k hkn;obtain⟨c,hc⟩:=eI (y.getD k 0);rw[← hc] at hrun h97;have hcI:¬ (c:Int)=97:=by omega
    obtain⟨q1,q2,q3,q4⟩:=Zau hcI;replace hc:=qh hc
    as_aux_lemma =>
    go_wp2;go_roundw
    case rel=>exact⟨k+1,by go_num,by omega,by trivial⟩
    case measure=>simp[intOf];omega
   have hkI:¬ (k:Int)<(ny:Int):=by omega
   have e0:=HS5.out.cell (v:=.slice r1 D.next.length s1) 0 0 rfl rfl;have e1:=HS5.out.cell (v:=.slice r2 D.ends.length s2) 0 1 rfl rfl
   as_aux_lemma =>
   go_wp2_with (go_at_call 27;refine(H1.out _ _ HX5.out).mono ?_;rintro e w6 ⟨rfl,hb⟩;have HS6:=qh (HS5.out.call hb);clear hb);go_ret;exact⟨rfl,HW1.out.trans (HS6.out.bel.mono HW1.out.size)⟩
end Go.Proofs.YtfikabecgaappaaGreat
