/-
  The walks over the reference's l11Dfa and CompileExpr.
  Conditions: the expression's parts read as such.
-/
import Derived.Test.YtfikabecgaappaaPx24Wsx
set_option maxHeartbeats 8000000
set_option maxRecDepth 100000
namespace Go.Proofs.Ytfikabecgaappaa
open Go.RowKit
def Zno (K:Nat) (es:List (Int × Int)) (o:Option DfaD):Prop:=(exOk es=true∧∃ t:Ex,t.post=es∧Zar K t=o)∨(exOk es=false∧o=none)
theorem Zmt (K:Nat) (es:List (Int × Int)):∃ o,Zno K es o:=by
 cases h:exOk es with
 | true =>obtain⟨t,ht⟩:=parse h;exact⟨Zar K t,.inl ⟨h,t,ht,rfl⟩⟩
 | false=>exact⟨none,.inr ⟨h,rfl⟩⟩
theorem Zku (bs:List Nat) (v:Value) (w:World) (hb:Bytes 0 w v bs) (hlen:bs.length≤100000000) :
  Calls Try.prog 21 #[v] w fun e w'=>∃ vb bs',bs'.length≤2000∧(∀ u:World,Bytes 0 u v bs→Bytes 0 u vb bs')∧e = .returned (.pointer (some ⟨w.heap.size,0,none⟩))∧St w w' [RdE w.heap.size vb 0]:=by
 obtain⟨a,c,rfl,hc1,hc2,-⟩:=hb.form;have Hb:=qh hb;clear hb;by_cases h2:2000<bs.length
 ·have q1:(2000:Int)<bs.length:=by omega
  have q2:(2000:Int)≤c:=by omega
  have hS:=(St.start w).alloc _ rfl #[.slice a 2000 c,.int .i64 0] 70;have HS:=qh hS;clear hS
  go_enter Try.func21, Try.ntmps21
  go_wp2;go_ret;exact⟨_,bs.take 2000,by rw[List.length_take];omega,fun u h=>h.take (by omega),rfl,HS.out⟩
 have q1:(2000<(bs.length:Int))=False:=by simp;omega
 have hS:=(St.start w).alloc _ rfl #[.slice a bs.length c,.int .i64 0] 70;have HS:=qh hS;have h2:bs.length≤2000:=by omega
 clear hS
 go_enter Try.func21, Try.ntmps21
 go_wp2;go_ret;exact⟨_,bs,h2,fun u h=>h,rfl,HS.out⟩
theorem Try.infoTxt:(Try.prog.info? 9).map (fun i=>(i.zero,i.size,i.bytes))=some (some (.string ⟨#[]⟩),1,16):=by kernel_rfl
theorem ZdY (bs:List Nat) (v:Value) (w:World) (hb:Bytes 0 w v bs) (hlen:bs.length≤100000000) :
  Calls Try.prog 14 #[v] w fun e w'=>∃ (ls:List (List Nat)) (v:Value),okTs ls∧e = .returned v∧Txts w' v ls∧Below w.heap.size w w':=by
 have Hb:=qh hb;obtain⟨i0,hi,hz0,hz1,hz2⟩:=info_parts Try.infoTxt;replace hi:=qh hi;have Hhz0:=qh hz0;clear hz0;have Hhz1:=qh hz1;clear hz1;have Hhz2:=qh hz2;clear hz2;clear hb
 go_enter Try.func14, Try.ntmps14
 go_wp2_with fail;refine(Zku bs v _ Hb.out hlen).mono ?_;rintro e w1 ⟨vb,bs',hl',hB,rfl,hS'⟩;have hB1:=hB w Hb.out;have HB:=qh hB1;have HS1:=qh (hS'.newRow0 9 1);clear hB hS' hB1;go_wp2_with fail;refine(Zde bs' vb w.heap.size 0 6 w _ _ HB.out hl' (by omega) (by omega) (by omega) HS1.out).mono ?_;rintro e w4 ⟨k0,hk0,rfl,hS4⟩;have HS4:=qh hS4;clear hS4 HS1;go_wp2_with fail
 go_loopw [4,5] (fun sv iv wr=>∃ (k p c:Nat) (a:Option Addr) (ls:List (List Nat)),iv = .int .i64 (k:Int)∧sv = .slice a ls.length c∧k+ls.length≤6∧p≤1000+20*ls.length∧(∀ l∈ls,isT l∧l.length≤10)∧St w wr [RdE w.heap.size vb p,Ent.row 9 1 (.slice a ls.length c) ls.length (strC ls)]) (fun _ iv _=>(intOf iv).toNat)
 case atStart=>exact⟨k0,1,0,_,[],rfl,rfl,by simp;omega,by omega,(by simp),HS4.out⟩
 case round =>
  obtain⟨k,p,c,a,ls,rfl,rfl,hk,hp,hls,hS⟩:=hrel;have HS:=qh hS;have Hls:=qh hls;clear hS hls HS4;by_cases h0:k=0
  ·subst h0;have hok:okTs ls:=⟨by omega,Hls.out⟩;have hT:Txts _ (.slice a ls.length c) ls:=((Zaa (HS.out.row 1 rfl)).sl (by omega)).mono (Nat.zero_le _);have Hhok:=qh hok;clear hok;replace hT:=qh hT;go_wp2;go_ret;exact⟨ls,_,Hhok.out,rfl,hT.out,HS.out.bel⟩
  have hkI:0<(k:Int):=by omega
  have hwk:IntKind.i64.wrap ((k:Int)-1)=(k:Int)-1:=IntWalk.i64_in _ (by omega);go_wp2_with fail;refine(Zhm bs' vb w.heap.size p 24 w _ _ HB.out hl' (by omega) (by omega) HS.out).mono ?_;rintro e w5 ⟨l,p',ht,hl,hp',rfl,hS5⟩;have HS6:=qh (hS5.alloc w5.heap.size rfl #[.string (txB l)] 9);have Hht:=qh ht;clear ht;clear hS5;go_wp2_with (at_builtin;refine Zao _ rfl _ _ _ rfl _ 9 i0 (.string ⟨#[]⟩) 1 16 Try.underlying40 hi.out Hhz0.out Hhz1.out Hhz2.out rfl (by omega) _ ls.length _ rfl (HS6.out.row 1 rfl) _ 1 [.string (txB l)] rfl ((Zaa ((HS6.out.boxrow 2 1 1 [.string (txB l)] rfl rfl (by unfold maxLen;omega)).row 2 rfl)).sl (by omega) |>.mono (Nat.zero_le _)) Znv (by unfold maxLen;omega) (by omega) HS6.out.size ?_;intro a7 c7 w7 hown hgrow hat;have hS:=(HS6.out.appS 1 rfl hown hgrow hat).pick [0,1] (by decide);have HS7:=qh hS;clear hown hgrow hat hS);go_roundw
  case rel =>
   refine⟨k-1,p',c7,a7,ls++[l],?_,by rw[List.length_append];rfl,?_,?_,?_,?_⟩
   ·congr 1;omega
   ·rw[List.length_append,List.length_singleton];omega
   ·rw[List.length_append,List.length_singleton];omega
   ·intro x hx;rcases List.mem_append.1 hx with h|h
    ·exact Hls.out x h
    rw[List.mem_singleton.1 h];exact⟨Hht.out,hl⟩
   have e:strC (ls++[l])=strC ls++[.string (txB l)]:=by simp[strC]
   rw[e,List.length_append];exact HS7.out
  case measure=>simp[intOf]<;>omega
theorem ZcX (x:Int) (w:World) (r:Bool) (hr:inB x 0 2=r):Calls Try.prog 87 #[.int .i64 x] w fun e w'=>e = .returned (.bool r)∧w=w':=by
 have Hr:=qh hr;clear hr
 go_enter Try.func87, Try.ntmps87
 go_wp2_with fail;refine(ZaO _ _ _ _ _ Hr.out).mono ?_;rintro e w1 ⟨rfl,rfl⟩;go_wp2;go_ret;exact⟨rfl,rfl⟩
theorem Zb7 (k l:Int) (w:World) (r:Bool) (hr:pOk (k,l)=r) :
  Calls Try.prog 65 #[.agg #[.int .i64 k,.int .i64 l]] w fun e w'=>e = .returned (.bool r)∧Below w.heap.size w w':=by
 unfold pOk at hr;simp only at hr;by_cases h3:k=3
 ·subst h3;have h1:inB 3 1 8=true:=by decide
  rw[h1,Bool.true_and] at hr;cases h2:inB l 0 2
  ·rw[h2] at hr;have hr:false=r:=hr;subst hr;have H2:=qh h2;clear h2 h1
   go_enter Try.func65, Try.ntmps65
   go_wp2_with fail;refine(ZcX _ _ _ H2.out).mono ?_;rintro e w1 ⟨rfl,rfl⟩;go_wp2;go_ret;exact⟨rfl,(Below.refl _ _).alloc (Nat.le_refl _) _⟩
  rw[h2] at hr;have hr:true=r:=hr;subst hr;have H2:=qh h2;clear h2 h1
  go_enter Try.func65, Try.ntmps65
  go_wp2_with fail;refine(ZcX _ _ _ H2.out).mono ?_;rintro e w1 ⟨rfl,rfl⟩;go_wp2;go_ret;exact⟨rfl,(Below.refl _ _).alloc (Nat.le_refl _) _⟩
 obtain⟨q1,q2,q3,q4⟩:=Zgu h3;rw[decide_eq_false h3] at hr;cases h1:inB k 1 8
 ·rw[h1,Bool.false_and] at hr;subst hr;have H1:=qh h1;clear h1
  go_enter Try.func65, Try.ntmps65
  go_wp2_with fail;refine(ZaO _ _ _ _ _ H1.out).mono ?_;rintro e w1 ⟨rfl,rfl⟩;go_wp2;go_ret;exact⟨rfl,(Below.refl _ _).alloc (Nat.le_refl _) _⟩
 rw[h1,Bool.true_and] at hr;have H1:=qh h1;clear h1;have hr:decide (l=0)=r:=hr;subst hr
 go_enter Try.func65, Try.ntmps65
 go_wp2_with fail;refine(ZaO _ _ _ _ _ H1.out).mono ?_;rintro e w1 ⟨rfl,rfl⟩;by_cases h0:l=0
 ·subst h0;go_wp2;go_ret;exact⟨rfl,(Below.refl _ _).alloc (Nat.le_refl _) _⟩
 obtain⟨p1,p2,p3,p4⟩:=Zgu h0;go_wp2;go_ret;exact⟨by rw[decide_eq_false h0];rfl,(Below.refl _ _).alloc (Nat.le_refl _) _⟩
theorem Zaz (k l:Int) (w:World) (r:Int) (hr:Zah (k,l)=r) (h0:0≤r) :
  Calls Try.prog 46 #[.agg #[.int .i64 k,.int .i64 l]] w fun e w'=>e = .returned (.int .i64 r)∧Below w.heap.size w w':=by
 have hok:=Zdf (p:=(k,l)) (by rw[hr];exact h0);have hk:(k=1∨k=2∨k=3∨k=4∨k=5∨k=6∨k=7∨k=8):=by simp only[pOk,inB,Bool.and_eq_true,Bool.or_eq_true,decide_eq_true_eq] at hok;omega
 unfold Zah at hr;rw[if_pos hok] at hr;clear hok h0;rcases hk with rfl|rfl|rfl|rfl|rfl|rfl|rfl|rfl <;>
 ·simp at hr;subst hr
  go_enter Try.func46, Try.ntmps46
  go_wp2;go_ret;exact⟨rfl,(Below.refl _ _).alloc (Nat.le_refl _) _⟩
end Go.Proofs.Ytfikabecgaappaa
