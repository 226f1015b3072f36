/-
  The walks over the reference's sets of states as lists of truth values: l8Flags, l8Close, l8Step, l9Same, l9Find.
  Conditions: there are at most 40 states; the moves and the states of the lists lie below that number; the arguments read as such data.
-/
import Derived.Test.YtncekbbhgipdlaaGreatPs03Fe
set_option maxHeartbeats 4000000
set_option maxRecDepth 100000
namespace Go.Proofs.YtncekbbhgipdlaaGreat
open Go.RowKit
def FlagsAt (w:World) (v:Value) (m x:Nat):Prop:=∃ B g cap,v = .slice (some ⟨g,0,none⟩) m cap∧w.ownsRow B 4 1 v m (boolCells (flags m x))
theorem FlagsAt.of {w:World} {B g cap m x:Nat} (h:w.ownsRow B 4 1 (.slice (some ⟨g,0,none⟩) m cap) m (boolCells (flags m x))):FlagsAt w (.slice (some ⟨g,0,none⟩) m cap) m x:=⟨_,_,_,rfl,h⟩
theorem FlagsAt.below {w w':World} {v:Value} {m x:Nat} (h:FlagsAt w v m x) (hb:Below w.heap.size w w'):FlagsAt w' v m x:=by obtain⟨B,g,cap,hv,h⟩:=h;exact⟨B,g,cap,hv,(Own.below (Zab h) hb).1⟩
theorem Zdw {m x s:Nat} (h:s<m):(boolCells (flags m x))[s]? = some (.bool (x.testBit s)):=by simp[flags,h]
theorem ZgK {m x s:Nat}:(boolCells (flags m x)).set s (.bool true)=boolCells (flags m (adj x s)):=by simp[boolCells,Znm,List.map_set]
def ZnL (B m x:Nat) (e:Ending) (w':World):Prop:=∃ g cap,e = .returned (.slice (some ⟨g,0,none⟩) m cap)∧w'.ownsRow B 4 1 (.slice (some ⟨g,0,none⟩) m cap) m (boolCells (flags m x))
theorem Zht {w:World} {B m:Nat} {v:Value} (h:w.ownsRow B 4 1 v m (madeCells (Value.bool false).cells (m*1)).toList):w.ownsRow B 4 1 v m (boolCells (flags m 0)):=by
 have e:(madeCells (Value.bool false).cells (m*1)).toList=boolCells (flags m 0):=by rw[ZlK];simp[madeCells,Value.cells,boolCells,Nat.mod_one,List.map_const']
 rwa [e] at h
theorem Zjb (l:List Int) (m:Nat) (v:Value) (w:World) (hm:m≤1000) (hl:inN m l) (hn:l.length≤1000000) (h:Ints 0 w v l) :
  Calls Tryz.prog 166 #[v,.int .i64 m] w fun e w'=>ZnL w.heap.size m (setV l) e w'∧Below w.heap.size w w':=by
 obtain⟨a1,c1,rfl,hc1,hm1,hr1⟩:=h.form;obtain⟨i0,hi,hz0,hz1,hz2⟩:=info_parts Tryz.infoBool;replace hr1:=qh hr1;replace hl:=qh hl;clear h
 go_enter Tryz.func166, Tryz.ntmps166
 go_wp2_with (at_make;refine wpList_make_full _ rfl _ _ 42 rfl w.heap.size 4 i0 (.bool false) 1 Tryz.underlying42 hi hz0 hz1 .i64 .i64 _ _ m rfl rfl rfl rfl (by rw[hz2];omega) (by unfold maxLen;omega) (Nat.le_refl _) ?_;intro w1 hown hgrow);have hS:=(St.start w).made ((Below.refl _ _).grown hgrow (Nat.le_refl _) (fun _ h=>by cases h)) (Zht hown);replace hS:=qh hS;clear hown hgrow hi hz0 hz1 hz2
 go_loopw [6] (fun i wr=>∃ k:Nat,k≤l.length∧i = .int .i64 k∧St w wr [Ent.row 4 1 (.slice (some ⟨w.heap.size,0,none⟩) m m) m (boolCells (flags m (setV (l.take k))))])
  (fun i _=>l.length-(intOf i).toNat)
 case atStart=>exact⟨0,Nat.zero_le _,rfl,hS.out⟩
 case round =>
  obtain⟨k,hk,rfl,hS⟩:=hrel;by_cases hlt:k<l.length
  ·obtain⟨b1,o1,rfl,-,hbl,hcs⟩:=hr1.out (by omega);have hc:=(bcell hS.bel b1 _ hbl).trans (hcs k hlt);obtain⟨s0,s1⟩:=hl.out _ (memD (d:=0) hlt);obtain⟨s,hs⟩:=Int.eq_ofNat_of_zero_le s0;rw[hs] at hc s1;have d0:=hS.rcell 0 s rfl (by omega) (Zdw (show s<m by omega));have f0:=hS.rfr 0 s rfl;have Hhs:=qh hs;clear hs;replace hS:=qh hS;clear hcs s0;go_wp2;go_roundw
   case rel =>refine⟨k+1,by omega,by go_num,?_⟩;have h:=hS.out.store 0 rfl s (.bool true);rw[ZgK] at h;rw[ZiQ hlt,Hhs.out];exact h
   case measure=>simp[intOf];omega
  obtain rfl:k=l.length:=by omega
  rw[List.take_length] at hS;replace hS:=qh hS;go_wp2;go_ret;exact⟨⟨_,_,rfl,hS.out.row 0 rfl⟩,hS.out.bel⟩
theorem ZiA {xs:List Bool}:∀ u∈boolCells xs,u.oneCell'=true:=by intro u hu;obtain⟨q,-,rfl⟩:=List.mem_map.1 hu;rfl
theorem Zn7 {w:World} {B e size g m c:Nat} {cs:List Value} (h:w.ownsRow B e size (.slice (some ⟨g,0,none⟩) m c) m cs):∀ j u,cs[j]? = some u→w.cell? ((⟨g,0,none⟩:Addr).add j)=some u:=fun j u hu=>by
 have hadd:(⟨g,0,none⟩:Addr).add j=⟨g,j,none⟩:=by unfold Addr.add;split<;>simp_all
 have hj:j<m*size:=by rw[← h.1];exact(List.getElem?_eq_some_iff.1 hu).1
 rw[hadd];exact(h.cellAt j hj).trans hu
theorem Zi4 {m M:Nat} {ms:List (Int × Int × Int)} (h:mvIn m ms) (hm:m≤M):mvIn M ms:=fun x hx=>by have:=h x hx;omega
theorem Zpm {m:Nat} {ms:List (Int × Int × Int)} (h:mvIn m ms) (hm:m≤40):mvIn 40 ms:=fun x hx=>by have:=h x hx;omega
theorem Zfe (M:Nat) (hM:M≤1000) (n:NfaD) (m x:Nat) (v1 v2 v3 bv:Value) (w:World) (hm:m≤M) (hmv:mvIn m n.moves) (hml:n.moves.length≤1000000) (hx:x<2 ^ m) (h1:Moves 0 w v1 n.moves) (hbv:FlagsAt w bv m x) :
  Calls Tryz.prog 165 #[.agg (nfaC n v1 v2 v3),bv] w fun e w'=>ZnL w.heap.size m (clV M n.moves x) e w'∧Below w.heap.size w w':=by
 obtain⟨a1,c1,rfl,hc1,hm1,hr1⟩:=h1.form;obtain⟨Bv,gv,cv,rfl,hbr⟩:=hbv;obtain⟨i0,hi,hz0,hz1,hz2⟩:=info_parts Tryz.infoBool;obtain⟨ms,hms⟩:=eI (n.moves);rw[← hms] at hmv hml hc1 hr1;rw[← hms];have hmv40:=Zi4 hmv hm;have hlx:∀ j,clIt ms x j<2 ^ m:=Zd9 hmv hx;have hS0:=((St.start w).alloc _ rfl (nfaC n (.slice a1 ms.length c1) v2 v3) 81).alloc (w.heap.size+1) (by simp) #[] 4;have hbr1:=(Own.below (Zab hbr) (((Below.refl w.heap.size w).alloc (Nat.le_refl _) (.cells (nfaC n (.slice a1 ms.length c1) v2 v3) 81)).alloc (by simp) (.cells #[] 4))).1;have hS1:=hS0.boxrow 1 0 1 [] rfl rfl (by omega);have hE:((w.alloc (.cells (nfaC n (.slice a1 ms.length c1) v2 v3) 81)).alloc (.cells #[] 4)).ownsRow (w.heap.size+1) 4 1 (.slice (some ⟨w.heap.size+1,0,none⟩) 0 0) 0 []:=Zh3 (cs:=[]) (hS0.box 1 rfl) rfl (Nat.le_refl _) (by omega);replace hE:=qh hE;have Hhr1:=qh hr1;clear hr1;have Hhmv:=qh hmv;clear hmv;have Hhmv40:=qh hmv40;clear hmv40;have Hhx:=qh hx;clear hx;have Hhlx:=qh hlx;clear hlx;have Hhms:=qh hms;clear hms;have Hhi:=qh hi;clear hi;have Hhz0:=qh hz0;clear hz0;have Hhz1:=qh hz1;clear hz1;have Hhz2:=qh hz2;clear hz2;have Hhbr1:=qh hbr1;clear hbr1;have HhS1:=qh hS1;clear hS1;clear h1 hbr hS0
 go_enter Tryz.func165, Tryz.ntmps165
 go_wp2_with (at_builtin;refine wpList_append_own_wide _ rfl _ _ _ rfl (w.heap.size+1) 4 i0 (.bool false) 1 1 Tryz.underlying42 Hhi.out Hhz0.out Hhz1.out Hhz2.out rfl (by omega) _ 0 _ rfl hE.out ⟨gv,0,none⟩ m cv (boolCells (flags m x)) rfl (by simp[flags]) (Zn7 Hhbr1.out) ZiA (by unfold maxLen;omega) (by omega) (by simp) ?_;intro v6 w6 hown6 hgrow6 hnil6;have Hown6:=qh hown6;have Hgrow6:=qh hgrow6;have Hnil6:=qh hnil6;clear hown6 hgrow6 hnil6);rw[Nat.zero_add,List.nil_append] at Hown6
 have hS6:=HhS1.out.grow 1 rfl Hgrow6.out Hown6.out (fun k hk=>by
  have h1:=(Own.lt (Zab Hown6.out) k hk).1;by_cases h2:k=w.heap.size+1
  ·exact Or.inl (by rw[h2];rfl)
  right;simp only[World.size_alloc];omega)
 obtain⟨g,cap,hv6⟩:∃ g cap,v6 = .slice (some ⟨g,0,none⟩) m cap:=by
  rcases Hown6.out.2 with⟨h1,-⟩|⟨g',cap',cur,h1,-⟩
  ·exact absurd (Hnil6.out.1 h1).1 (fun e=>by cases e)
  exact⟨g',cap',h1⟩
 subst hv6;have HhS6:=qh hS6;clear hS6;clear Hown6 Hgrow6 Hnil6;obtain⟨B0,hB0⟩:=eI (w.heap.size)
 go_loopg [6] (M+2) (fun g' ag wr=>∃ j:Nat,g'=M+2-j∧(∃ ab:Bool,ag = .bool ab∧ab=(decide (j=0) || !decide (clIt ms x j=clIt ms x (j-1)))) ∧
   St w wr [Ent.box w.heap.size (nfaC n (.slice a1 ms.length c1) v2 v3) 81,Ent.row 4 1 (.slice (some ⟨g,0,none⟩) m cap) m (boolCells (flags m (clIt ms x j)))])
 case atStart=>exact⟨0,rfl,⟨true,rfl,by simp⟩,HhS6.out⟩
 case round =>
  obtain⟨j,rfl,⟨ab,rfl,hab⟩,hS⟩:=hrel;obtain⟨wo,hwo⟩:∃ wo:World,wo=wr:=⟨_,rfl⟩;subst hwo;have e1:=hS.cell 0 1 rfl rfl;have Hhab:=qh hab;clear hab;have HhS:=qh hS;clear hS;cases ab
  ·have hj:clIt ms x (j-1+1)=clIt ms x (j-1)∧j-1+1=j:=by
    have h:=Hhab.out;simp at h;have:j-1+1=j:=by omega
    rw[this];exact⟨h.2,rfl⟩
   have hv:clIt ms x j=clV M ms x:=by rw[Zo6 Hhmv40.out hj.1,← hj.1,hj.2]
   have Hhj:=qh hj;clear hj;have Hhv:=qh hv;clear hv;go_wp2;go_ret;refine⟨⟨_,_,rfl,?_⟩,HhS.out.bel⟩;rw[← Hhv.out];exact HhS.out.row 1 rfl
  obtain⟨X,hX⟩:=eI (clIt ms x j);have HhX:=qh hX;clear hX;go_wp2
  go_loopw [6,7] (fun ag i wi=>∃ k:Nat,k≤ms.length∧i = .int .i64 k∧(∃ ab:Bool,ag = .bool ab∧ab = !decide ((ms.take k).foldl Zaw X=X)) ∧
    St w wi [Ent.box w.heap.size (nfaC n (.slice a1 ms.length c1) v2 v3) 81,Ent.row 4 1 (.slice (some ⟨g,0,none⟩) m cap) m (boolCells (flags m ((ms.take k).foldl Zaw X)))])
   (fun _ i _=>ms.length-(intOf i).toNat)
  case atStart=>exact⟨0,Nat.zero_le _,rfl,⟨false,rfl,by simp⟩,by rw[HhX.out];exact HhS.out⟩
  case round =>
   obtain⟨k,hk,rfl,⟨ag,rfl,hag⟩,hSi⟩:=hrel;obtain⟨C,hC⟩:=eI ((ms.take k).foldl Zaw X);have hCm:C<2 ^ m:=by rw[hC];exact ZcL _ (fun v=>v<2 ^ m) (fun v m hmm hv=>ZgS Hhmv.out hmm hv) (by rw[HhX.out];exact Hhlx.out j) k
   rw[← hC] at hSi hag;clear e1;have e1:=hSi.cell 0 1 rfl rfl;by_cases hlt:k<ms.length
   ·obtain⟨b1,o1,rfl,-,hbl,hcs⟩:=Hhr1.out (by omega);obtain⟨p1,p2,p3⟩:=hcs k hlt;replace p1:=(bcell hSi.bel b1 _ hbl).trans p1;replace p2:=(bcell hSi.bel b1 _ hbl).trans p2;replace p3:=(bcell hSi.bel b1 _ hbl).trans p3;have hmm:=Hhmv.out _ (memD (d:=(0,0,0)) hlt);have hsucc:=ZbX Zaw X hlt (0,0,0);rw[← hC] at hsucc;have hne1:=Zjw (v:=X) Hhmv40.out hlt;have hne2:=ZdX (v:=X) Hhmv40.out hlt;rw[← hC] at hne1 hne2;obtain⟨mm,hmd⟩:=eI (ms.getD k (0,0,0));rw[← hmd] at p1 p2 p3 hmm hsucc hne1;obtain⟨f,l,t⟩:=mm;simp only at p1 p2 p3 hmm;obtain⟨⟨f0,f1⟩,t0,t1⟩:=hmm;obtain⟨f,rfl⟩:=Int.eq_ofNat_of_zero_le f0;obtain⟨t,rfl⟩:=Int.eq_ofNat_of_zero_le t0;have hfm:f<m:=by omega
    have htm:t<m:=by omega
    have hSa:=hSi.alloc _ rfl #[.int .i64 (f:Int),.int .i64 l,.int .i64 (t:Int)] 117;have cf:=hSa.rcell 1 f rfl (by omega) (Zdw hfm);have ct:=hSa.rcell 1 t rfl (by omega) (Zdw htm);have ff:=hSa.rfr 1 t rfl;have hkk:(k:Int)<ms.length:=by omega
    have Hstay:=qh (fun (h:Zaw C ((f:Int),l,(t:Int))=C)=>(show(ms.take (k+1)).foldl Zaw X=C from hsucc.trans h));replace hC:=qh hC;have HhCm:=qh hCm;clear hCm;have Hhag:=qh hag;clear hag;have Hhsucc:=qh hsucc;clear hsucc;have Hhne1:=qh hne1;clear hne1;have Hhne2:=qh hne2;clear hne2;have Hhmd:=qh hmd;clear hmd;have HhSi:=qh hSi;clear hSi;have HhSa:=qh hSa;clear hSa;clear hcs f0 t0
    have Hsame:=qh (fun (h:Zaw C ((f:Int),l,(t:Int))=C)=>(show ∃ k':Nat,k'≤ms.length∧Value.int .i64 ((k:Int)+1) = .int .i64 (k':Int)∧(∃ ab:Bool,Value.bool ag = .bool ab∧ab = !decide ((ms.take k').foldl Zaw X=X)) ∧
      St w (wr.alloc (.cells #[.int .i64 (f:Int),.int .i64 l,.int .i64 (t:Int)] 117)) [Ent.box w.heap.size (nfaC n (.slice (some ⟨b1,o1,none⟩) ms.length c1) v2 v3) 81,Ent.row 4 1 (.slice (some ⟨g,0,none⟩) m cap) m (boolCells (flags m ((ms.take k').foldl Zaw X)))] from
      ⟨k+1,by omega,by go_num,⟨ag,rfl,by rw[Hstay.out h];exact Hhag.out⟩,by rw[Hstay.out h];exact HhSa.out.pick [0,1] (by decide)⟩))
    by_cases hl:l = -1
    ·subst hl;cases hf:C.testBit f
     ·rw[hf] at cf;have Hhf:=qh hf;clear hf;have hst:=Hsame.out (by unfold Zaw;simp[Hhf.out]);have Hhst:=qh hst;clear hst;go_wp2;go_roundw
      case rel=>exact Hhst.out
      case measure=>simp[intOf];omega
     cases ht:C.testBit t
     ·rw[hf] at cf;rw[ht] at ct;have Hhf:=qh hf;clear hf;have Hht:=qh ht;clear ht;go_wp2;go_roundw
      case rel =>
       have hcm:Zaw C ((f:Int),-1,(t:Int))=adj C t:=by unfold Zaw;simp[Hhf.out,Hht.out]
       have hne:Zaw C ((f:Int),-1,(t:Int))≠C:=by rw[hcm];intro e;have:=ZeZ C t t;rw[e,Hht.out] at this;simp at this
       have hs2:(ms.take (k+1)).foldl Zaw X=adj C t:=Hhsucc.out.trans hcm;refine⟨k+1,by omega,by go_num,⟨true,rfl,?_⟩,?_⟩
       ·rw[decide_eq_false (Hhne1.out hne)];rfl
       rw[hs2,← ZgK];exact(HhSa.out.store 1 rfl t (.bool true)).pick [0,1] (by decide)
      case measure=>simp[intOf];omega
     rw[hf] at cf;rw[ht] at ct;have Hhf:=qh hf;clear hf;have Hht:=qh ht;clear ht;have hst:=Hsame.out (by unfold Zaw;simp[Hhf.out,Hht.out]);have Hhst:=qh hst;clear hst;go_wp2;go_roundw
     case rel=>exact Hhst.out
     case measure=>simp[intOf];omega
    have hst:=Hsame.out (by unfold Zaw;simp[hl]);have hl1:(l == -1)=false:=by simpa using hl
    have Hhst:=qh hst;clear hst;have Hhl:=qh hl;clear hl;go_wp2;go_roundw
    case rel=>exact Hhst.out
    case measure=>simp[intOf];omega
   obtain rfl:k=ms.length:=by omega
   rw[List.take_length] at hC;have hn:C=clIt ms x (j+1):=by rw[hC,HhX.out];rfl
   have hj0:j<M+2:=by
    by_cases h0:j=0
    ·omega
    have h:=Hhab.out;simp[h0] at h;have:=Ze4 (k:=j-1) Hhmv40.out (by rw[show j-1+1=j by omega];exact h);omega
   replace hC:=qh hC;have Hhn:=qh hn;clear hn;have Hhag:=qh hag;clear hag;have HhSi:=qh hSi;clear hSi;go_wp2
   go_roundg (M+2-(j+1))
   case measure=>omega
   case rel =>refine⟨j+1,rfl,⟨ag,rfl,?_⟩,by rw[← Hhn.out];exact HhSi.out⟩;rw[Hhag.out,← Hhn.out,show j+1-1=j by omega,← HhX.out];simp
theorem Zj4 (M:Nat) (hM:M≤1000) (n:NfaD) (m x:Nat) (c:Int) (v1 v2 v3 bv:Value) (w:World) (hns:n.states=(m:Int)) (hm:m≤M) (hmv:mvIn m n.moves) (hml:n.moves.length≤1000000) (h1:Moves 0 w v1 n.moves) (hbv:Bools 0 w bv (flags m x)) :
  Calls Tryz.prog 167 #[.agg (nfaC n v1 v2 v3),bv,.int .i64 c] w fun e w'=>ZnL w.heap.size m (stV M n.moves x c) e w'∧Below w.heap.size w w':=by
 have H1:=qh h1;obtain⟨a1,c1,rfl,hc1,hm1,hr1⟩:=h1.form;obtain⟨av,cv,rfl,hcv,hmv',hbr⟩:=hbv.form;rw[ZgL] at hcv hbr;rw[ZgL];clear hbv;obtain⟨i0,hi,hz0,hz1,hz2⟩:=info_parts Tryz.infoBool;obtain⟨ms,hms⟩:=eI (n.moves);have hmv2:=hmv;have hml2:=hml;rw[← hms] at hmv hml hc1 hr1;have hst:stV M n.moves x c=clV M ms (ms.foldl (Za3 x c) 0):=by rw[hms];rfl
 have hfm40:ms.foldl (Za3 x c) 0<2 ^ m:=ZcA _ (fun v=>v<2 ^ m) (fun _ _ hmm hv=>Zdk hmv hmm hv) (Nat.two_pow_pos m);obtain⟨ln,hln⟩:=eI (ms.length);have hlnn:ln=n.moves.length:=by rw[hln,hms]
 rw[← hlnn] at H1;rw[← hlnn];rw[← hln] at hc1 hr1 hml;have hS0:=(St.start w).alloc _ rfl (nfaC n (.slice a1 ln c1) v2 v3) 81;have e0:=hS0.cell (v:=.int .i64 (m:Int)) 0 0 rfl (by simp[nfaC,hns]);replace hns:=qh hns;have Hhr1:=qh hr1;clear hr1;replace hmv:=qh hmv;have Hhmv2:=qh hmv2;clear hmv2;replace hml2:=qh hml2;have Hhms:=qh hms;clear hms;have Hhst:=qh hst;clear hst;replace hfm40:=qh hfm40;have Hhln:=qh hln;clear hln;have Hhlnn:=qh hlnn;clear hlnn;have Hhi:=qh hi;clear hi;have Hhz0:=qh hz0;clear hz0;have Hhz1:=qh hz1;clear hz1;have Hhz2:=qh hz2;clear hz2;replace hbr:=qh hbr;replace hS0:=qh hS0;clear h1
 go_enter Tryz.func167, Tryz.ntmps167
 go_wp2_with (at_make;refine wpList_make_full _ rfl _ _ 42 rfl _ 4 i0 (.bool false) 1 Tryz.underlying42 Hhi.out Hhz0.out Hhz1.out .i64 .i64 _ _ m rfl rfl rfl rfl (by rw[Hhz2.out];omega) (by unfold maxLen;omega) (Nat.le_refl _) ?_;intro w1 hown hgrow);have hS1:=hS0.out.made ((Below.refl _ _).grown hgrow (Nat.le_refl _) (fun _ h=>by cases h)) (Zht hown);rw[World.size_alloc] at hS1;have hb1:=hS1.bel;have HhS1:=qh hS1;clear hS1;clear hown hgrow e0
 go_loopw [8] (fun i wi=>∃ k:Nat,k≤ln∧i = .int .i64 k∧St w wi [Ent.box w.heap.size (nfaC n (.slice a1 ln c1) v2 v3) 81,Ent.row 4 1 (.slice (some ⟨w.heap.size+1,0,none⟩) m m) m (boolCells (flags m ((ms.take k).foldl (Za3 x c) 0)))])
  (fun i _=>ln-(intOf i).toNat)
 case atStart=>exact⟨0,Nat.zero_le _,rfl,HhS1.out⟩
 case round =>
  obtain⟨k,hk,rfl,hSi⟩:=hrel;obtain⟨C,hC⟩:=eI ((ms.take k).foldl (Za3 x c) 0);rw[← hC] at hSi;have e1:=hSi.cell (v:=.slice a1 ln c1) 0 1 rfl rfl;clear hb1;by_cases hlt:k<ln
  ·have hlt':k<ms.length:=by rw[← Hhln.out];exact hlt
   obtain⟨b1,o1,rfl,-,hbl,hcs⟩:=Hhr1.out (by omega);obtain⟨p1,p2,p3⟩:=hcs k hlt;replace p1:=(bcell hSi.bel b1 _ hbl).trans p1;replace p2:=(bcell hSi.bel b1 _ hbl).trans p2;replace p3:=(bcell hSi.bel b1 _ hbl).trans p3;have hmm:=hmv.out _ (memD (d:=(0,0,0)) hlt');have hsucc:=ZbX (Za3 x c) 0 hlt' (0,0,0);rw[← hC] at hsucc;obtain⟨mm,hmd⟩:=eI (ms.getD k (0,0,0));rw[← hmd] at p1 p2 p3 hmm hsucc;obtain⟨f,l,t⟩:=mm;simp only at p1 p2 p3 hmm;obtain⟨⟨f0,f1⟩,t0,t1⟩:=hmm;obtain⟨f,rfl⟩:=Int.eq_ofNat_of_zero_le f0;obtain⟨t,rfl⟩:=Int.eq_ofNat_of_zero_le t0;have hfm:f<m:=by omega
   have htm:t<m:=by omega
   have hSa:=hSi.alloc _ rfl #[.int .i64 (f:Int),.int .i64 l,.int .i64 (t:Int)] 117;have hal:=(Below.refl w.heap.size w).trans hSa.bel;obtain⟨gv,ov,rfl,-,hgl,hbc⟩:=hbr.out (by omega);have cf:=(bcell hal gv (ov+f) hgl).trans (hbc f hfm);rw[Ze0 hfm] at cf;clear hbc;have ct:=hSa.rcell 1 t rfl (by omega) (Zdw htm);have ff:=hSa.rfr 1 t rfl;have hkk:(k:Int)<ln:=by omega
   replace hC:=qh hC;have Hhsucc:=qh hsucc;clear hsucc;have Hhmd:=qh hmd;clear hmd;have HhSi:=qh hSi;clear hSi;have HhSa:=qh hSa;clear hSa;clear hcs f0 t0 hal
   have Hsame:=qh (fun (h:Za3 x c C ((f:Int),l,(t:Int))=C)=>(show ∃ k':Nat,k'≤ln∧Value.int .i64 ((k:Int)+1) = .int .i64 (k':Int) ∧
     St w (wr.alloc (.cells #[.int .i64 (f:Int),.int .i64 l,.int .i64 (t:Int)] 117)) [Ent.box w.heap.size (nfaC n (.slice (some ⟨b1,o1,none⟩) ln c1) v2 v3) 81,Ent.row 4 1 (.slice (some ⟨w.heap.size+1,0,none⟩) m m) m (boolCells (flags m ((ms.take k').foldl (Za3 x c) 0)))] from
     ⟨k+1,by omega,by go_num,by rw[Hhsucc.out,h];exact HhSa.out.pick [0,1] (by decide)⟩))
   by_cases hl:l=c
   ·subst hl;cases hf:x.testBit f
    ·rw[hf] at cf;have Hhf:=qh hf;clear hf;have hst:=Hsame.out (ZdG (by simp[Hhf.out]));have Hhst:=qh hst;clear hst;go_wp2;go_roundw
     case rel=>exact Hhst.out
     case measure=>simp[intOf];omega
    rw[hf] at cf;have Hhf:=qh hf;clear hf;go_wp2;go_roundw
    case rel =>
     have hcm:Za3 x l C ((f:Int),l,(t:Int))=adj C t:=by unfold Za3;simp[Hhf.out]
     refine⟨k+1,by omega,by go_num,?_⟩;rw[Hhsucc.out.trans hcm,← ZgK];exact(HhSa.out.store 1 rfl t (.bool true)).pick [0,1] (by decide)
    case measure=>simp[intOf];omega
   have hst:=Hsame.out (ZdG (by simp[hl]));have hl1:(l==c)=false:=by simpa using hl
   have Hhst:=qh hst;clear hst;have Hhl:=qh hl;clear hl;go_wp2;go_roundw
   case rel=>exact Hhst.out
   case measure=>simp[intOf];omega
  have hkn:(ms.take k).foldl (Za3 x c) 0=ms.foldl (Za3 x c) 0:=by rw[List.take_of_length_le (by rw[← Hhln.out];omega)]
  have hCm:C<2 ^ m:=by rw[hC,hkn];exact hfm40.out
  have HM':=qh (H1.out.below hSi.bel);have HF:Hid (FlagsAt wr (.slice (some ⟨w.heap.size+1,0,none⟩) m m) m C):=qh ⟨_,_,_,rfl,hSi.row 1 rfl⟩;have d0:=hSi.cell (v:=.int .i64 n.states) 0 0 rfl rfl;have d2:=hSi.cell (v:=v2) 0 2 rfl rfl;have d3:=hSi.cell (v:=v3) 0 3 rfl rfl;replace hC:=qh hC;have Hhkn:=qh hkn;clear hkn;have HhSi:=qh hSi;clear hSi;have HhCm:=qh hCm;clear hCm;go_wp2_with fail;refine(Zfe M hM n m C (.slice a1 ln c1) v2 v3 _ _ hm Hhmv2.out hml2.out HhCm.out HM'.out HF.out).mono ?_;rintro e w2 ⟨⟨g2,c2,rfl,hr2⟩,hb2⟩;have hS2:=HhSi.out.made hb2 hr2;have hVs:clV M n.moves C=stV M n.moves x c:=by rw[Hhst.out,hC.out,Hhkn.out,Hhms.out]
  have HhS2:=qh hS2;clear hS2;have HhVs:=qh hVs;clear hVs;clear hr2 hb2;go_wp2;go_ret;refine⟨⟨_,_,rfl,?_⟩,HhS2.out.bel⟩;rw[← HhVs.out];exact HhS2.out.row 2 rfl
def BoolSS (B:Nat) (w:World) (v:Value) (xss:List (List Bool)):Prop :=
 ∃ vs:List Value,Sl B w v xss.length 1 vs∧∀ i,i<xss.length→Bools B w (vs.getD i undef) (xss.getD i [])
theorem BoolSS.below {B:Nat} {w w':World} {v:Value} {xss:List (List Bool)} (h:BoolSS B w v xss) (he:Below w.heap.size w w'):BoolSS B w' v xss:=by obtain⟨vs,h1,h2⟩:=h;exact⟨vs,h1.below he,fun i hi=>(h2 i hi).below he⟩
theorem BoolSS.form {B:Nat} {w:World} {v:Value} {xss:List (List Bool)} (h:BoolSS B w v xss):∃ a cap,v = .slice a xss.length cap∧xss.length≤cap∧cap≤9223372036854775807 ∧
  (0<xss.length→∃ b off,a=some ⟨b,off,none⟩∧b<w.heap.size∧∀ i,i<xss.length→∃ a' cap',w.cell? ⟨b,off+i,none⟩=some (.slice a' (xss.getD i []).length cap')∧Bools B w (.slice a' (xss.getD i []).length cap') (xss.getD i [])):=by
 obtain⟨vs,⟨hl,a,cap,hv,h1,h2,h3⟩,hr⟩:=h;refine⟨a,cap,hv,h1,h2,fun hn => ?_⟩;obtain⟨b,off,ha,hb,hlt,hc⟩:=h3 hn;refine⟨b,off,ha,hlt,fun i hi => ?_⟩;obtain⟨a',cap',hv',-⟩:=(hr i hi).form;refine⟨a',cap',?_,?_⟩
 ·rw[hc i (by omega),← hv'];simp at hl;simp[show i<vs.length by omega]
 rw[← hv'];exact hr i hi
theorem St.boolSS {w0 w:World} {L:List Ent} (h:St w0 w L) (i:Nat) {es e:Nat} {v:Value} {vs:List Value} {xss:List (List Bool)} (hx:L[i]? = some (Ent.rows es e v vs (xss.map boolCells))):BoolSS 0 w v xss:=by
 obtain⟨p1,p2,-⟩:=h.rows i hx;rw[List.length_map] at p1 p2;refine⟨vs,((Zab p1).sl (by omega)).mono (Nat.zero_le _),fun i hi => ?_⟩;have:=p2 i hi;have e1:(xss.map boolCells).getD i []=boolCells (xss.getD i []):=by simp[hi]
 rw[e1] at this;have:=((Zab this).sl (by omega)).mono (Nat.zero_le _);simpa [Bools] using this
theorem St.bools {w0 w:World} {L:List Ent} (h:St w0 w L) (i:Nat) {e:Nat} {v:Value} {xs:List Bool} {n:Nat} (hx:L[i]? = some (Ent.row e 1 v n (boolCells xs))):Bools 0 w v xs:=by
 have hr:=h.row i hx;have e1:n=xs.length:=by have:=hr.1;simp at this;omega
 subst e1;exact((Zab hr).sl (by omega)).mono (Nat.zero_le _)
theorem St.intsR {w0 w:World} {L:List Ent} (h:St w0 w L) (i:Nat) {e:Nat} {v:Value} {xs:List Int} {n:Nat} (hx:L[i]? = some (Ent.row e 1 v n (intCells xs))):Ints 0 w v xs:=by
 have hr:=h.row i hx;have e1:n=xs.length:=by have:=hr.1;simp at this;omega
 subst e1;exact((Zab hr).sl (by omega)).mono (Nat.zero_le _)
theorem ZjC {w:World} {B e n:Nat} {v:Value} {xs:List Bool} (hr:w.ownsRow B e 1 v n (boolCells xs)):Bools 0 w v xs:=by
 have e1:n=xs.length:=by have:=hr.1;simp at this;omega
 subst e1;exact((Zab hr).sl (by omega)).mono (Nat.zero_le _)
theorem ZaX {w:World} {B e n:Nat} {v:Value} {xs:List Bool} (hr:w.ownsRow B e 1 v n (boolCells xs)):Bools B w v xs:=by
 have e1:n=xs.length:=by have:=hr.1;simp at this;omega
 subst e1;exact(Zab hr).sl (by omega)
theorem St.rowAt {w0 w:World} {L:List Ent} (h:St w0 w L) (i:Nat) {es e g n cap:Nat} {vs:List Value} {css:List (List Value)} (hx:L[i]? = some (Ent.rows es e (.slice (some ⟨g,0,none⟩) n cap) vs css)) (hn:css.length=n) {k:Nat} (hk:k<n) :
  ∃ a c,w.cell? ⟨g,k,none⟩=some (.slice a (css.getD k []).length c)∧w.ownsRow w0.heap.size e 1 (.slice a (css.getD k []).length c) (css.getD k []).length (css.getD k [])∧(css.getD k []).length≤c∧c≤9223372036854775807∧n≤cap∧cap≤9223372036854775807∧g<w.heap.size:=by
 obtain⟨p1,p2,-⟩:=h.rows i hx;subst hn;have hv:vs.length=css.length:=by have:=p1.1;omega
 have h2:=p2 k hk;have hc:=p1.cellAt k (by omega);have hgl:=(p1.lt g rfl).2
 obtain⟨a,c,hva,h3,h4⟩:∃ a c,vs.getD k undef = .slice a (css.getD k []).length c∧(css.getD k []).length≤c∧c≤9223372036854775807:=by
  rcases h2.2 with⟨h5,h6⟩|⟨g',cap',cur,h5,-,-,h6,h7,-⟩
  ·exact⟨none,0,by rw[h5,h6],by omega,by omega⟩
  exact⟨_,_,h5,h6,h7⟩
 rw[hva] at h2;refine⟨a,c,?_,h2,h3,h4,?_⟩
 ·rw[hc,← hva];simp[show k<vs.length by omega]
 rcases p1.2 with⟨h5,-⟩|⟨g',cap',cur,h5,-,-,h6,h7,-⟩
 ·cases h5
 simp only[Value.slice.injEq,true_and] at h5;obtain⟨-,rfl⟩:=h5;exact⟨h6,h7,hgl⟩
theorem Zlz (xs ys:List Bool) (n:Nat) (v1 v2:Value) (w:World) (hx:xs.length=n) (hy:ys.length=n) (h1:Bools 0 w v1 xs) (h2:Bools 0 w v2 ys) (r:Bool) (hr:decide (xs=ys)=r) :
  Calls Tryz.prog 169 #[v1,v2] w fun e w'=>e = .returned (.bool r)∧Below w.heap.size w w':=by
 obtain⟨a1,c1,rfl,hc1,hm1,hr1⟩:=h1.form;obtain⟨a2,c2,rfl,hc2,hm2,hr2⟩:=h2.form;rw[hx] at hc1 hr1;rw[hy] at hc2 hr2;rw[hx,hy];replace hx:=qh hx;have Hhy:=qh hy;clear hy;replace hr:=qh hr;clear h1 h2
 go_enter Tryz.func169, Tryz.ntmps169
 go_wp2
 go_loopw [4,5] (fun r i wr=>∃ k:Nat,k≤n∧i = .int .i64 k∧xs.take k=ys.take k∧Below w.heap.size w wr) (fun _ i _=>n-(intOf i).toNat)
 case atStart=>exact⟨0,Nat.zero_le _,rfl,rfl,Below.refl _ _⟩
 case round =>
  obtain⟨k,hk,rfl,htk,hb⟩:=hrel;have Hhtk:=qh htk;clear htk;by_cases hlt:k<n
  ·obtain⟨b1,o1,rfl,-,hbl1,hcs1⟩:=hr1 (by omega);obtain⟨b2,o2,rfl,-,hbl2,hcs2⟩:=hr2 (by omega);have k1:=(bcell hb b1 (o1+k) hbl1).trans (hcs1 k hlt);have k2:=(bcell hb b2 (o2+k) hbl2).trans (hcs2 k hlt);obtain⟨p,hp⟩:=eI (xs.getD k false);obtain⟨q,hq⟩:=eI (ys.getD k false);rw[← hp] at k1;rw[← hq] at k2;replace hp:=qh hp;have Hhq:=qh hq;clear hq;replace hb:=qh hb;clear hcs1 hcs2 hr1 hr2;by_cases hpq:p=q
   ·have g1:(p != q)=false:=by simpa using hpq
    have g2:(!(p==q))=false:=by simpa using hpq
    have Hhpq:=qh hpq;clear hpq;go_wp2
    go_quiet (fail)
    go_wp2;go_roundw
    case rel=>exact⟨k+1,by omega,by go_num,Zfa (d:=false) (by rw[hx.out];exact hlt) (by rw[Hhy.out];exact hlt) Hhtk.out (by rw[← hp.out,← Hhq.out];exact Hhpq.out),below_drewN hb.out _⟩
    case measure=>simp[intOf];omega
   have g1:(p != q)=true:=by simpa using hpq
   have g2:(!(p==q))=true:=by simpa using hpq
   have Hhpq:=qh hpq;clear hpq;go_wp2
   go_quiet (fail)
   go_wp2;go_ret;exact⟨by rw[← hr.out,decide_eq_false (Zhs (k:=k) (d:=false) (by rw[← hp.out,← Hhq.out];exact Hhpq.out))];rfl,below_drewN hb.out _⟩
  obtain rfl:k=n:=by omega
  replace hb:=qh hb;clear hr1 hr2;go_wp2;go_ret;refine⟨?_,hb.out⟩;have h:=Hhtk.out;rw[List.take_of_length_le (by rw[hx.out];exact Nat.le_refl _),List.take_of_length_le (by rw[Hhy.out];exact Nat.le_refl _)] at h;rw[← hr.out,decide_eq_true h];rfl
def Ziq (S:List (List Bool)) (x:List Bool):Int:=if x∈S then(Zai S x:Int) else -1
theorem ZkS {S:List (List Bool)} {x:List Bool} {k:Nat} (hk:k<S.length) (hn:x ∉ S.take k) (h:S.getD k []=x):Ziq S x=(k:Int):=by
 have hm:x∈S:=by rw[← h];exact memD hk
 have hp:S.take k++[x] <+: S:=by rw[← h,show S.getD k []=S[k] from by simp[hk],← List.take_succ_eq_append_getElem hk];exact List.take_prefix _ _
 have hi:=ZfQ hp hn;unfold Ziq;rw[if_pos hm,hi];simp;omega
theorem ZhD {S:List (List Bool)} {x:List Bool} (h:x ∉ S):Ziq S x = -1:=by unfold Ziq;rw[if_neg h]
theorem ZhO {α:Type} {S:List α} {k:Nat} (hk:k<S.length) (x:α) {d:α} (h:x∈S.take (k+1)):x∈S.take k∨x=S.getD k d:=by
 rw[List.take_succ_eq_append_getElem hk,List.mem_append,List.mem_singleton] at h;rcases h with h|h
 ·exact Or.inl h
 right;rw[h];simp[hk]
theorem ZlA (S:List (List Bool)) (x:List Bool) (n:Nat) (v1 v2:Value) (w:World) (hS:∀ y∈S,y.length=n) (hx:x.length=n) (hl:S.length≤1000000) (h1:BoolSS 0 w v1 S) (h2:Bools 0 w v2 x) :
  Calls Tryz.prog 168 #[v1,v2] w fun e w'=>e = .returned (.int .i64 (Ziq S x))∧Below w.heap.size w w':=by
 obtain⟨a1,c1,rfl,hc1,hm1,hr1⟩:=h1.form;have H2:=qh h2;obtain⟨a2,c2,rfl,hc2,hm2,-⟩:=h2.form;replace hS:=qh hS;have Hhx:=qh hx;clear hx;clear h1 h2
 go_enter Tryz.func168, Tryz.ntmps168
 go_wp2
 go_loopw [4,5] (fun r i wr=>∃ k:Nat,k≤S.length∧i = .int .i64 k∧x ∉ S.take k∧Below w.heap.size w wr) (fun _ i _=>S.length-(intOf i).toNat)
 case atStart=>exact⟨0,Nat.zero_le _,rfl,by simp,Below.refl _ _⟩
 case round =>
  obtain⟨k,hk,rfl,htk,hb⟩:=hrel;have Hhtk:=qh htk;clear htk;by_cases hlt:k<S.length
  ·obtain⟨b1,o1,rfl,hbl1,hcs1⟩:=hr1 (by omega);obtain⟨a3,c3,k1,hrow⟩:=hcs1 k hlt;replace k1:=(bcell hb b1 (o1+k) hbl1).trans k1;have hrow':=hrow.below hb;have hyl:=hS.out _ (memD (d:=[]) hlt);have hin:=fun h=>ZhO (d:=[]) hlt x h
   obtain⟨y,hy⟩:=eI (S.getD k []);rw[← hy] at k1 hrow' hyl hin;have Hhrow':=qh hrow';clear hrow';have Hhyl:=qh hyl;clear hyl;have Hhin:=qh hin;clear hin;have Hhy:=qh hy;clear hy;have Hhb:=qh hb;clear hb;clear hcs1 hr1 hrow;cases hd:decide (y=x)
   all_goals
    have Hhd:=qh hd;clear hd;go_wp2_with fail;refine(Zlz y x n _ _ _ Hhyl.out Hhx.out Hhrow'.out (H2.out.below Hhb.out) _ Hhd.out).mono ?_;rintro e w2 ⟨rfl,hb2⟩;have hb3:=Hhb.out.trans (hb2.mono Hhb.out.size);have Hhb3:=qh hb3;clear hb3;clear hb2;go_wp2
   ·go_roundw
    case rel=>exact⟨k+1,by omega,by go_num,fun h=>by rcases Hhin.out h with h|h;exact Hhtk.out h;exact of_decide_eq_false Hhd.out h.symm,Hhb3.out⟩
    case measure=>simp[intOf];omega
   go_ret;exact⟨ZeL (by rw[ZkS hlt Hhtk.out (by rw[← Hhy.out];exact of_decide_eq_true Hhd.out)]),Hhb3.out⟩
  obtain rfl:k=S.length:=by omega
  have Hhb:=qh hb;clear hb;clear hr1;go_wp2;go_ret;refine⟨ZeL (by rw[ZhD];have h:=Hhtk.out;rwa [List.take_length] at h),Hhb.out⟩
end Go.Proofs.YtncekbbhgipdlaaGreat
