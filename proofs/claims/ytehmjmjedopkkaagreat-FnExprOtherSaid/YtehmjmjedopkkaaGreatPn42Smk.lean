/-
  The walks over the reference's l20Long and l20Finite: a text; an automaton of few words.
  Condition: the reader stands over bytes.
-/
import Derived.Test.YtehmjmjedopkkaaGreatPn40Wsx
import Derived.Test.YtehmjmjedopkkaaGreatPn41Jg
set_option maxHeartbeats 8000000
set_option maxRecDepth 100000
namespace Go.Proofs.YtehmjmjedopkkaaGreat
open Go.RowKit
theorem ZiL {l:List Nat} (h:isT l) (k:Nat):isT (l.take k):=fun b hb=>h b (List.mem_of_mem_take hb)
theorem Tryz.infoTx2:(Tryz.prog.info? 9).map (fun i=>(i.zero,i.size,i.bytes))=some (some (.string ⟨#[]⟩),1,16):=by kernel_rfl
def DfaK (E:Ent) (v:Value) (D:DfaD):Prop:=∀ (w0 w:World) (L:List Ent) (i:Nat),St w0 w L→L[i]? = some E→DfaR 0 w v D
theorem Zgw (bs:List Nat) (vb:Value) (b p nn:Nat) (w0 w:World) (X:Ent) (hb:Bytes 0 w0 vb bs) (hlen:bs.length≤2000) (hp:p≤50000) (hnn:nn≤10000) (hS:St w0 w [RdE b vb p,X]) :
  Calls Tryz.prog 45 #[.pointer (some ⟨b,0,none⟩),.int .i64 ((nn:Nat):Int)] w fun e w'=>∃ (p':Nat) (D:DfaD) (a1:Option Addr) (c1:Nat) (a2:Option Addr) (c2:Nat) (E:Ent),p'≤p+2000∧SmallD D∧DfaK E (.agg #[.slice a1 D.next.length c1,.slice a2 D.ends.length c2]) D∧e = .returned (.agg #[.slice a1 D.next.length c1,.slice a2 D.ends.length c2])∧St w0 w' [RdE b vb p',X,E]:=by
 have Hb:=qh hb
 have hS0:St w0 _ ([RdE b vb p]++[X,Ent.box w.heap.size #[.slice none 0 0,.slice none 0 0] 32]):=hS.alloc w.heap.size rfl #[.slice none 0 0,.slice none 0 0] 32
 have HS0:=qh hS0
 obtain⟨i0,hi,hz0,hz1,hz2⟩:=info_parts Tryz.infoTx2
 have Hhi:=qh hi;clear hi
 replace hz0:=qh hz0
 have Hhz1:=qh hz1;clear hz1
 have Hhz2:=qh hz2;clear hz2
 -- the last part: some other automaton
 have hfin:∀ (u:World) (q:Nat),q≤p+500→St w0 u [RdE b vb q,X,Ent.box w.heap.size #[.slice none 0 0,.slice none 0 0] 32]→Calls Tryz.prog 83 #[.pointer (some ⟨b,0,none⟩),.int .i64 ((nn:Nat):Int)] u fun e w'=>∃ (D:DfaD) (a1:Option Addr) (c1:Nat) (a2:Option Addr) (c2:Nat) (q':Nat) (E:Ent),q'≤q+1000∧SmallD D∧DfaK E (.agg #[.slice a1 D.next.length c1,.slice a2 D.ends.length c2]) D∧e = .returned (.agg #[.slice a1 D.next.length c1,.slice a2 D.ends.length c2])∧St w0 w' [RdE b vb q',X,Ent.box w.heap.size #[.slice none 0 0,.slice none 0 0] 32,E]:=fun u q hq hSu=>by
  refine(Zlg bs vb b q nn w0 u _ Hb.out hlen (by omega) hnn (St.pack (A:=[RdE b vb q]) (R:=[X,Ent.box w.heap.size #[.slice none 0 0,.slice none 0 0] 32]) hSu)).mono ?_
  rintro e w' ⟨D,q',a1,a2,c1,c2,vs,E,hq',hsm,rfl,hh,hSp⟩
  exact⟨D,a1,c1,a2,c2,q',E,hq',hsm,fun w0 w L i hS hi=>hh.r hS i hi,rfl,(St.unpack (A:=[RdE b vb q]) (A':=[RdE b vb q',E]) (R:=[X,Ent.box w.heap.size #[.slice none 0 0,.slice none 0 0] 32]) hSu (hSp.pick [0,2,1] (by decide))).pick [0,2,3,1] (by decide)⟩
 have Hfin:=qh hfin
 clear hb hS hS0 hfin
 go_enter Tryz.func45, Tryz.ntmps45
 go_wp2_with fail
 refine(Zaz bs vb b p 2 w0 _ _ Hb.out hlen (by omega) (by omega) (by omega) (St.pack (A:=[RdE b vb p]) (R:=[X,Ent.box w.heap.size #[.slice none 0 0,.slice none 0 0] 32]) HS0.out)).mono ?_
 rintro e w1 ⟨z,hz,rfl,hSp⟩
 have HS1:Hid (St w0 w1 [RdE b vb (p+1),X,Ent.box w.heap.size #[.slice none 0 0,.slice none 0 0] 32]):=qh (St.unpack (A:=[RdE b vb p]) (A':=[RdE b vb (p+1)]) (R:=[X,Ent.box w.heap.size #[.slice none 0 0,.slice none 0 0] 32]) HS0.out hSp)
 clear hSp HS0
 obtain rfl|rfl:z=1∨z=0:=by omega
 ·go_wp2_with fail
  refine(Hfin.out _ (p+1) (by omega) HS1.out).mono ?_
  rintro e w2 ⟨D9,a1,c1,a2,c2,q',E9,hq',hsm9,hK9,rfl,hS2⟩
  have HS2:=qh hS2
  have f0:=HS2.out.fr 2 0 rfl
  have f1:=HS2.out.fr 2 1 rfl
  have k0:=HS2.out.cell (v:=.slice none 0 0) 2 0 rfl rfl
  have k1:=HS2.out.cell (v:=.slice none 0 0) 2 1 rfl rfl
  clear hS2 HS1
  go_wp2
  have hq:=(HS2.out.set 2 rfl 0 (.slice a1 D9.next.length c1)).set 2 rfl 1 (.slice a2 D9.ends.length c2)
  have q0:=hq.cell (v:=.slice a1 D9.next.length c1) 2 0 rfl rfl
  have q1:=hq.cell (v:=.slice a2 D9.ends.length c2) 2 1 rfl rfl
  refine bodyPost_ret (v:=.agg #[.slice a1 D9.next.length c1,.slice a2 D9.ends.length c2]) (by simp[results,Tryz.results45,go_sem,q0,q1]) rfl ?_
  exact⟨q',D9,a1,c1,a2,c2,E9,by omega,hsm9,hK9,rfl,hq.pick [0,1,3] (by decide)⟩
 ·go_wp2_with fail
  have hSr:St w0 _ ([RdE b vb (p+1)]++[X,Ent.box w.heap.size #[.slice none 0 0,.slice none 0 0] 32,Ent.row 9 1 (.slice (some ⟨w1.heap.size,0,none⟩) 0 0) 0 []]):=HS1.out.newRow0 9 1
  have HSr:=qh hSr
  clear hSr
  refine(Zaz bs vb b (p+1) 4 w0 _ _ Hb.out hlen (by omega) (by omega) (by omega) (St.pack (A:=[RdE b vb (p+1)]) (R:=[X,Ent.box w.heap.size #[.slice none 0 0,.slice none 0 0] 32,Ent.row 9 1 (.slice (some ⟨w1.heap.size,0,none⟩) 0 0) 0 []]) HSr.out)).mono ?_
  rintro e w2 ⟨k0,hk0,rfl,hSp⟩
  have HS2:Hid (St w0 w2 [RdE b vb (p+1+1),X,Ent.box w.heap.size #[.slice none 0 0,.slice none 0 0] 32,Ent.row 9 1 (.slice (some ⟨w1.heap.size,0,none⟩) 0 0) 0 []]):=qh (St.unpack (A:=[RdE b vb (p+1)]) (A':=[RdE b vb (p+1+1)]) (R:=[X,Ent.box w.heap.size #[.slice none 0 0,.slice none 0 0] 32,Ent.row 9 1 (.slice (some ⟨w1.heap.size,0,none⟩) 0 0) 0 []]) HSr.out hSp)
  clear hSp HSr HS1
  go_wp2_with fail
  go_loopw [5,6] (fun sv iv wr=>∃ (k q c:Nat) (a:Option Addr) (ls:List (List Nat)),iv = .int .i64 (k:Int)∧sv = .slice a ls.length c∧k+ls.length≤4∧q≤p+2+20*ls.length∧(∀ l∈ls,isT l∧l.length≤10)∧St w0 wr [RdE b vb q,X,Ent.box w.heap.size #[.slice none 0 0,.slice none 0 0] 32,Ent.row 9 1 (.slice a ls.length c) ls.length (strC ls)]) (fun _ iv _=>(intOf iv).toNat)
  case atStart=>exact⟨k0,p+1+1,0,_,[],rfl,rfl,by simp;omega,by simp,(by simp),HS2.out⟩
  case round =>
   obtain⟨k,q,c,a,ls,rfl,rfl,hk,hq,hls,hS⟩:=hrel
   have HS3:=qh hS
   have Hls:=qh hls
   clear hS hls HS2
   by_cases h0:k=0
   ·subst h0
    have hok:okTs ls:=⟨by omega,Hls.out⟩
    have hT:Txts _ (.slice a ls.length c) ls:=((Zaa (HS3.out.row 3 rfl)).sl (by omega)).mono (Nat.zero_le _)
    have hws:=fun (u:World) (h:Txts u (.slice a ls.length c) ls)=>Zer ls (.slice a ls.length c) u hok h
    unfold RWs at hws
    have hE60:(wsR ls).length≤100:=by
     unfold wsR
     split
     ·rename_i h
      cases hn:ls.length with
      | zero=>show(1:Nat)≤100;omega
      | succ n=>exact Nat.le_trans (ZlF h (k:=n) (by omega)).2 (by omega)
     ·exact Nat.zero_le _
    obtain⟨E,hE⟩:=eI (wsR ls)
    obtain⟨ok,hokk⟩:=eI (wsOk ls)
    rw[← hE] at hws hE60
    rw[← hokk] at hws
    have Hws:=qh hws
    have hq500:q≤p+500:=by omega
    replace hT:=qh hT
    replace hE:=qh hE
    have Hhokk:=qh hokk;clear hokk
    clear hws hok
    go_wp2_with fail
    refine(Hws.out _ hT.out).mono ?_
    rintro e w4 ⟨aE,cE,rfl,hS⟩
    have HQ:=qh (Zam (hS.row 0 rfl))
    have HS4:Hid (St w0 w4 [RdE b vb q,X,Ent.box w.heap.size #[.slice none 0 0,.slice none 0 0] 32]):=qh ((HS3.out.call hS.bel).pick [0,1,2] (by decide))
    clear hS hT HS3
    cases ok with
    | false =>
     go_wp2_with fail
     refine(Hfin.out _ (q) (by omega) HS4.out).mono ?_
     rintro e w9 ⟨D9,a1,c1,a2,c2,q',E9,hq',hsm9,hK9,rfl,hS9⟩
     have HS9:=qh hS9
     have f0:=HS9.out.fr 2 0 rfl
     have f1:=HS9.out.fr 2 1 rfl
     have k0:=HS9.out.cell (v:=.slice none 0 0) 2 0 rfl rfl
     have k1:=HS9.out.cell (v:=.slice none 0 0) 2 1 rfl rfl
     clear hS9 HS4
     go_wp2
     have hq:=(HS9.out.set 2 rfl 0 (.slice a1 D9.next.length c1)).set 2 rfl 1 (.slice a2 D9.ends.length c2)
     have q0:=hq.cell (v:=.slice a1 D9.next.length c1) 2 0 rfl rfl
     have q1:=hq.cell (v:=.slice a2 D9.ends.length c2) 2 1 rfl rfl
     refine bodyPost_ret (v:=.agg #[.slice a1 D9.next.length c1,.slice a2 D9.ends.length c2]) (by simp[results,Tryz.results45,go_sem,q0,q1]) rfl ?_
     exact⟨q',D9,a1,c1,a2,c2,E9,by omega,hsm9,hK9,rfl,hq.pick [0,1,3] (by decide)⟩
    | true =>
     obtain⟨K,hK⟩:∃ K,K=40:=⟨40,rfl⟩
     obtain⟨o,ho⟩:=Zfo K E
     have hsp:=fun (v:Value) (u:World) h=>Zci K hK E o ho v u (by omega) h
     unfold RO at hsp
     obtain⟨D,hD⟩:=eJ (o.getD Za8)
     obtain⟨fb,hfb⟩:=eJ (o.isSome)
     rw[hD,hfb] at hsp
     have hsmD:fb=true→SmallD D:=fun h=>Zfy ((Zi1 hK ho hD hfb).2 h).2.1
     have Hsp:=qh hsp
     clear hsp hD hfb ho hK
     go_wp2_with fail
     refine(Hsp.out _ _ HQ.out).mono ?_
     rintro e w5 ⟨x1,y1,x2,y2,rfl,hdr,hb5⟩
     have HS5:=qh ((HS4.out.dfaV hb5 hdr).alloc w5.heap.size rfl #[.slice x1 D.next.length y1,.slice x2 D.ends.length y2] 32)
     clear hb5 hdr HS4 HQ
     cases fb with
     | false =>
      have HS6:Hid (St w0 _ [RdE b vb q,X,Ent.box w.heap.size #[.slice none 0 0,.slice none 0 0] 32]):=qh (HS5.out.pick [0,1,2] (by decide))
      clear HS5
      go_wp2_with fail
      refine(Hfin.out _ (q) (by omega) HS6.out).mono ?_
      rintro e w9 ⟨D9,a1,c1,a2,c2,q',E9,hq',hsm9,hK9,rfl,hS9⟩
      have HS9:=qh hS9
      have f0:=HS9.out.fr 2 0 rfl
      have f1:=HS9.out.fr 2 1 rfl
      have k0:=HS9.out.cell (v:=.slice none 0 0) 2 0 rfl rfl
      have k1:=HS9.out.cell (v:=.slice none 0 0) 2 1 rfl rfl
      clear hS9 HS6
      go_wp2
      have hq:=(HS9.out.set 2 rfl 0 (.slice a1 D9.next.length c1)).set 2 rfl 1 (.slice a2 D9.ends.length c2)
      have q0:=hq.cell (v:=.slice a1 D9.next.length c1) 2 0 rfl rfl
      have q1:=hq.cell (v:=.slice a2 D9.ends.length c2) 2 1 rfl rfl
      refine bodyPost_ret (v:=.agg #[.slice a1 D9.next.length c1,.slice a2 D9.ends.length c2]) (by simp[results,Tryz.results45,go_sem,q0,q1]) rfl ?_
      exact⟨q',D9,a1,c1,a2,c2,E9,by omega,hsm9,hK9,rfl,hq.pick [0,1,3] (by decide)⟩
     | true =>
      have hsm:=hsmD rfl
      have e0:=HS5.out.cell (v:=.slice x1 D.next.length y1) 4 0 rfl rfl
      have e1:=HS5.out.cell (v:=.slice x2 D.ends.length y2) 4 1 rfl rfl
      have f0:=HS5.out.fr 2 0 rfl
      have f1:=HS5.out.fr 2 1 rfl
      have k0:=HS5.out.cell (v:=.slice none 0 0) 2 0 rfl rfl
      have k1:=HS5.out.cell (v:=.slice none 0 0) 2 1 rfl rfl
      go_wp2
      have hq:=(HS5.out.set 2 rfl 0 (.slice x1 D.next.length y1)).set 2 rfl 1 (.slice x2 D.ends.length y2)
      have q0:=hq.cell (v:=.slice x1 D.next.length y1) 2 0 rfl rfl
      have q1:=hq.cell (v:=.slice x2 D.ends.length y2) 2 1 rfl rfl
      refine bodyPost_ret (v:=.agg #[.slice x1 D.next.length y1,.slice x2 D.ends.length y2]) (by simp[results,Tryz.results45,go_sem,q0,q1]) rfl ?_
      exact⟨q,D,x1,y1,x2,y2,_,by omega,hsm,fun w0 w L i hS hi=>hS.dfaVr i hi,rfl,hq.pick [0,1,3] (by decide)⟩
   ·have hkI:0<(k:Int):=by omega
    have hwk:IntKind.i64.wrap ((k:Int)-1)=(k:Int)-1:=IntWalk.i64_in _ (by omega)
    go_wp2_with fail
    refine(ZiC bs vb b q 0 w0 _ _ Hb.out hlen (by omega) (by omega) (St.pack (A:=[RdE b vb q]) (R:=[X,Ent.box w.heap.size #[.slice none 0 0,.slice none 0 0] 32,Ent.row 9 1 (.slice a ls.length c) ls.length (strC ls)]) HS3.out)).mono ?_
    rintro e w5 ⟨l,q',ht,hl,hq',rfl,hSp⟩
    have hS5:St w0 w5 ([RdE b vb q',X,Ent.box w.heap.size #[.slice none 0 0,.slice none 0 0] 32,Ent.row 9 1 (.slice a ls.length c) ls.length (strC ls)]):=St.unpack (A:=[RdE b vb q]) (A':=[RdE b vb q']) (R:=[X,Ent.box w.heap.size #[.slice none 0 0,.slice none 0 0] 32,Ent.row 9 1 (.slice a ls.length c) ls.length (strC ls)]) HS3.out hSp
    have hsz:=ZcS l
    obtain⟨n0,hn0⟩:=eI (l.length)
    obtain⟨u,hut,hx⟩:∃ u,(isT u∧u.length≤10)∧((n0≤4∧(txB l).extract 0 n0=txB u)∨(¬ n0≤4∧(txB l).extract 0 4=txB u)):=by
     by_cases h4:n0≤4
     ·exact⟨l.take n0,⟨ZiL ht _,by rw[List.length_take];omega⟩,.inl ⟨h4,Zj0 l n0⟩⟩
     ·exact⟨l.take 4,⟨ZiL ht _,by rw[List.length_take];omega⟩,.inr ⟨h4,Zj0 l 4⟩⟩
    rw[← hn0] at hsz hl
    have HS6:=qh (hS5.alloc w5.heap.size rfl #[.string (txB u)] 9)
    have Hhut:=qh hut;clear hut
    have Hhn0:=qh hn0;clear hn0
    clear hS5 hSp ht HS3
    rcases hx with⟨h4,hx⟩|⟨h4,hx⟩
    ·have h4I:(n0:Int)≤4:=by omega
     have hmin:min (n0:Int) 4=(n0:Int):=by omega
     go_wp2_with (at_builtin;refine Zaj _ rfl _ _ _ rfl _ 9 i0 (.string ⟨#[]⟩) 1 16 Tryz.underlying101 Hhi.out hz0.out Hhz1.out Hhz2.out rfl (by omega) _ ls.length _ rfl (HS6.out.row 3 rfl) _ 1 [.string (txB u)] rfl ((Zaa ((HS6.out.boxrow 4 1 1 [.string (txB u)] rfl rfl (by unfold maxLen;omega)).row 4 rfl)).sl (by omega) |>.mono (Nat.zero_le _)) ZoD (by unfold maxLen;omega) (by omega) HS6.out.size ?_;intro a7 c7 w7 hown hgrow hat;have hS:=(HS6.out.appS 3 rfl hown hgrow hat).pick [0,1,2,3] (by decide);have HS7:=qh hS;clear hown hgrow hat hS)
     go_roundw
     case rel =>
      refine⟨k-1,q',c7,a7,ls++[u],?_,by rw[List.length_append];rfl,?_,?_,?_,?_⟩
      ·congr 1;omega
      ·rw[List.length_append,List.length_singleton];omega
      ·rw[List.length_append,List.length_singleton];omega
      ·intro x hx
       rcases List.mem_append.1 hx with h|h
       ·exact Hls.out x h
       ·rw[List.mem_singleton.1 h];exact Hhut.out
      ·have e:strC (ls++[u])=strC ls++[.string (txB u)]:=by simp[strC]
       rw[e,List.length_append]
       exact HS7.out
     case measure=>simp[intOf]<;>omega
    ·have h4I:¬ (n0:Int)≤4:=by omega
     have hmin:min (n0:Int) 4=4:=by omega
     go_wp2_with (at_builtin;refine Zaj _ rfl _ _ _ rfl _ 9 i0 (.string ⟨#[]⟩) 1 16 Tryz.underlying101 Hhi.out hz0.out Hhz1.out Hhz2.out rfl (by omega) _ ls.length _ rfl (HS6.out.row 3 rfl) _ 1 [.string (txB u)] rfl ((Zaa ((HS6.out.boxrow 4 1 1 [.string (txB u)] rfl rfl (by unfold maxLen;omega)).row 4 rfl)).sl (by omega) |>.mono (Nat.zero_le _)) ZoD (by unfold maxLen;omega) (by omega) HS6.out.size ?_;intro a7 c7 w7 hown hgrow hat;have hS:=(HS6.out.appS 3 rfl hown hgrow hat).pick [0,1,2,3] (by decide);have HS7:=qh hS;clear hown hgrow hat hS)
     go_roundw
     case rel =>
      refine⟨k-1,q',c7,a7,ls++[u],?_,by rw[List.length_append];rfl,?_,?_,?_,?_⟩
      ·congr 1;omega
      ·rw[List.length_append,List.length_singleton];omega
      ·rw[List.length_append,List.length_singleton];omega
      ·intro x hx
       rcases List.mem_append.1 hx with h|h
       ·exact Hls.out x h
       ·rw[List.mem_singleton.1 h];exact Hhut.out
      ·have e:strC (ls++[u])=strC ls++[.string (txB u)]:=by simp[strC]
       rw[e,List.length_append]
       exact HS7.out
     case measure=>simp[intOf]<;>omega
theorem Zmg (bs:List Nat) (v:Value) (w:World) (hb:Bytes 0 w v bs) (hlen:bs.length≤100000000) :
  Calls Tryz.prog 24 #[v] w fun e w'=>∃ vb bs',bs'.length≤2000∧(∀ u:World,Bytes 0 u v bs→Bytes 0 u vb bs')∧e = .returned (.pointer (some ⟨w.heap.size,0,none⟩))∧St w w' [RdE w.heap.size vb 0]:=by
 obtain⟨a,c,rfl,hc1,hc2,-⟩:=hb.form;have Hb:=qh hb;clear hb;by_cases h2:2000<bs.length
 ·have q1:(2000:Int)<bs.length:=by omega
  have q2:(2000:Int)≤c:=by omega
  have hS:=(St.start w).alloc _ rfl #[.slice a 2000 c,.int .i64 0] 77;have HS:=qh hS;clear hS
  go_enter Tryz.func24, Tryz.ntmps24
  go_wp2;go_ret;exact⟨_,bs.take 2000,by rw[List.length_take];omega,fun u h=>h.take (by omega),rfl,HS.out⟩
 have q1:(2000<(bs.length:Int))=False:=by simp;omega
 have hS:=(St.start w).alloc _ rfl #[.slice a bs.length c,.int .i64 0] 77;have HS:=qh hS;have h2:bs.length≤2000:=by omega
 clear hS
 go_enter Tryz.func24, Tryz.ntmps24
 go_wp2;go_ret;exact⟨_,bs,h2,fun u h=>h,rfl,HS.out⟩
def ZpG (w:World) (e:Ending) (w':World):Prop:=∃ (D:DfaD) (a1 a2:Option Addr) (c1 c2:Nat),SmallD D∧e = .returned (.agg #[.slice a1 D.next.length c1,.slice a2 D.ends.length c2])∧DfaR 0 w' (.agg #[.slice a1 D.next.length c1,.slice a2 D.ends.length c2]) D∧Below w.heap.size w w'
theorem ZgG (bs:List Nat) (v:Value) (w:World) (hb:Bytes 0 w v bs) (hlen:bs.length≤100000000) :
  Calls Tryz.prog 14 #[v] w fun e w'=>ZpG w e w':=by
 have hS0:=(St.start w).alloc _ rfl #[.slice none 0 0,.slice none 0 0] 32;have Hb:=qh hb;replace hS0:=qh hS0;clear hb
 go_enter Tryz.func14, Tryz.ntmps14
 go_wp2_with fail;refine(Zmg bs v _ (Hb.out.below hS0.out.bel) hlen).mono ?_;rintro e w1 ⟨vb,bs',hl',hB,rfl,hS'⟩;obtain⟨b,hbb⟩:=eI ((w.alloc (.cells #[.slice none 0 0,.slice none 0 0] 32)).heap.size);rw[← hbb] at hS';rw[← hbb];have hB1:=hB w Hb.out;have HB:=qh hB1;have HS1:=qh ((hS0.out.cat hS').pick [1,0] (by decide));have Hhbb:=qh hbb;clear hbb;clear hS' hB hB1;go_wp2_with fail;refine(Zaz bs' vb b 0 2 w w1 _ HB.out hl' (by omega) (by omega) (by omega) HS1.out).mono ?_;rintro e w2 ⟨z,hz,rfl,hS2⟩;have HS2:=qh hS2;clear hS2 HS1
 have hfin:∀ (u:World) (q:Nat) (L:List Ent),q≤5000→St w u [RdE b vb q,Ent.box w.heap.size #[.slice none 0 0,.slice none 0 0] 32]→Calls Tryz.prog 45 #[.pointer (some ⟨b,0,none⟩),.int .i64 9] u fun e w'=>∃ (D:DfaD) (a1:Option Addr) (c1:Nat) (a2:Option Addr) (c2:Nat) (E:Ent) (q':Nat),SmallD D∧DfaK E (.agg #[.slice a1 D.next.length c1,.slice a2 D.ends.length c2]) D∧e = .returned (.agg #[.slice a1 D.next.length c1,.slice a2 D.ends.length c2])∧St w w' [RdE b vb q',Ent.box w.heap.size #[.slice none 0 0,.slice none 0 0] 32,E]:=fun u q _ hq hS =>
  (Zgw bs' vb b q 9 w u _ HB.out hl' (by omega) (by omega) hS).mono fun e w' ⟨p',D,a1,c1,a2,c2,E,_,h1,h2,h3,h4⟩=>⟨D,a1,c1,a2,c2,E,p',h1,h2,h3,h4⟩
 have Hfin:=qh hfin;clear hfin;obtain rfl|rfl:z=1∨z=0:=by omega
 ·go_wp2_with fail;refine(Hfin.out _ _ [] (by omega) HS2.out).mono ?_;rintro e w9 ⟨D,a1,c1,a2,c2,E,q',hsm,hK,rfl,hS9⟩;have HS9:=qh hS9;have f0:=HS9.out.fr 1 0 rfl;have f1:=HS9.out.fr 1 1 rfl;have k0:=HS9.out.cell (v:=.slice none 0 0) 1 0 rfl rfl;have k1:=HS9.out.cell (v:=.slice none 0 0) 1 1 rfl rfl;clear hS9 HS2;go_wp2;have hq:=(HS9.out.set 1 rfl 0 (.slice a1 D.next.length c1)).set 1 rfl 1 (.slice a2 D.ends.length c2);have q0:=hq.cell (v:=.slice a1 D.next.length c1) 1 0 rfl rfl;have q1:=hq.cell (v:=.slice a2 D.ends.length c2) 1 1 rfl rfl;refine bodyPost_ret (v:=.agg #[.slice a1 D.next.length c1,.slice a2 D.ends.length c2]) (by simp[results,Tryz.results14,go_sem,q0,q1]) rfl ?_;exact⟨D,a1,a2,c1,c2,hsm,rfl,hK _ _ _ 2 hq rfl,hq.bel⟩
 go_wp2_with fail;refine(Zaz bs' vb b _ 2 w w2 _ HB.out hl' (by omega) (by omega) (by omega) HS2.out).mono ?_;rintro e w3 ⟨k,hk,rfl,hS3⟩;have HS3:=qh hS3;obtain⟨d,hd⟩:∃ d:Nat,d=1+k:=⟨_,rfl⟩;have hwd:IntKind.i64.wrap (1+(k:Int))=(d:Int):=by rw[IntWalk.i64_in _ (by omega)];omega
 have hFG:FG d≤1000:=by
  obtain rfl|rfl:d=1∨d=2:=by omega
  ·decide
  decide
 have hFL:FL d≤1000:=by
  obtain rfl|rfl:d=1∨d=2:=by omega
  ·decide
  decide
 have Hhd:=qh hd;clear hd;clear hS3 HS2;go_wp2_with fail;refine(Zki bs' vb b w HB.out hl' d (by have:=Hhd.out;omega) true _ _ _ (by omega) HS3.out).mono ?_;rintro e w4 ⟨a,c,es,p4,he1,hel,hp4,rfl,hS4⟩;have HS4:Hid (St w w4 [RdE b vb p4,Ent.box w.heap.size #[.slice none 0 0,.slice none 0 0] 32,Ent.row 55 2 (.slice a es.length c) es.length (es.flatMap Zab)]):=qh hS4;have HQ:=qh (Zam (HS4.out.row 2 rfl));obtain⟨K,hK⟩:∃ K,K=40:=⟨40,rfl⟩;obtain⟨o,ho⟩:=Zfo K es;have hsp:=fun (v:Value) (u:World) h=>Zci K hK es o ho v u (by omega) h
 unfold RO at hsp;obtain⟨D,hD⟩:=eJ (o.getD Za8);obtain⟨fb,hfb⟩:=eJ (o.isSome);rw[hD,hfb] at hsp;have hsmD:fb=true→SmallD D:=fun h=>Zfy ((Zi1 hK ho hD hfb).2 h).2.1
 have Hsp:=qh hsp;clear hsp hD hfb ho hK hS4 HS3;go_wp2_with fail;refine(Hsp.out _ _ HQ.out).mono ?_;rintro e w5 ⟨x1,y1,x2,y2,rfl,hdr,hb5⟩;have HS5:=qh (((HS4.out.dfaV hb5 hdr).alloc w5.heap.size rfl #[.slice x1 D.next.length y1,.slice x2 D.ends.length y2] 32).pick [0,1,3,4] (by decide));clear hb5 hdr HS4 HQ;cases fb with
 | false =>have HS6:Hid (St w _ [RdE b vb p4,Ent.box w.heap.size #[.slice none 0 0,.slice none 0 0] 32]):=qh (HS5.out.pick [0,1] (by decide));clear HS5;go_wp2_with fail;refine(Hfin.out _ _ [] (by omega) HS6.out).mono ?_;rintro e w9 ⟨D,a1,c1,a2,c2,E,q',hsm,hK,rfl,hS9⟩;have HS9:=qh hS9;have f0:=HS9.out.fr 1 0 rfl;have f1:=HS9.out.fr 1 1 rfl;have k0:=HS9.out.cell (v:=.slice none 0 0) 1 0 rfl rfl;have k1:=HS9.out.cell (v:=.slice none 0 0) 1 1 rfl rfl;clear hS9 HS6;go_wp2;have hq:=(HS9.out.set 1 rfl 0 (.slice a1 D.next.length c1)).set 1 rfl 1 (.slice a2 D.ends.length c2);have q0:=hq.cell (v:=.slice a1 D.next.length c1) 1 0 rfl rfl;have q1:=hq.cell (v:=.slice a2 D.ends.length c2) 1 1 rfl rfl;refine bodyPost_ret (v:=.agg #[.slice a1 D.next.length c1,.slice a2 D.ends.length c2]) (by simp[results,Tryz.results14,go_sem,q0,q1]) rfl ?_;exact⟨D,a1,a2,c1,c2,hsm,rfl,hK _ _ _ 2 hq rfl,hq.bel⟩
 | true =>have hsm:=hsmD rfl;have e0:=HS5.out.cell (v:=.slice x1 D.next.length y1) 3 0 rfl rfl;have e1:=HS5.out.cell (v:=.slice x2 D.ends.length y2) 3 1 rfl rfl;have f0:=HS5.out.fr 1 0 rfl;have f1:=HS5.out.fr 1 1 rfl;have k0:=HS5.out.cell (v:=.slice none 0 0) 1 0 rfl rfl;have k1:=HS5.out.cell (v:=.slice none 0 0) 1 1 rfl rfl;go_wp2;have hq:=(HS5.out.set 1 rfl 0 (.slice x1 D.next.length y1)).set 1 rfl 1 (.slice x2 D.ends.length y2);have q0:=hq.cell (v:=.slice x1 D.next.length y1) 1 0 rfl rfl;have q1:=hq.cell (v:=.slice x2 D.ends.length y2) 1 1 rfl rfl;refine bodyPost_ret (v:=.agg #[.slice x1 D.next.length y1,.slice x2 D.ends.length y2]) (by simp[results,Tryz.results14,go_sem,q0,q1]) rfl ?_;exact⟨D,x1,x2,y1,y2,hsm,rfl,hq.dfaVr 2 rfl,hq.bel⟩
def Ze3 (x y:Ex):Ex:=if x = .zero∨y = .zero then .zero else if x = .one then y else if y = .one then x else .join x y
def ZgF (x y:Ex):Ex:=if x = .zero∨x=y then y else if y = .zero then x else .alt x y
def Ze0 (x:Ex):Ex:=if x = .zero∨x = .one then .one else match x with
 | .star a => .star a
 | x => .star x
theorem Zdx (x y:Ex) (w:List Nat):memE (.join x y) w↔∃ u v,w=u++v∧memE x u∧memE y v:=Iff.rfl
theorem Zf3 (x y:Ex) (w:List Nat):memE (Ze3 x y) w↔memE (.join x y) w:=by
 unfold Ze3;by_cases h1:x = .zero∨y = .zero
 ·rw[if_pos h1,Zdx];refine⟨fun h=>h.elim,?_⟩;rintro⟨u,v,-,hu,hv⟩;rcases h1 with rfl|rfl
  ·exact hu
  exact hv
 rw[if_neg h1];by_cases h2:x = .one
 ·rw[if_pos h2,Zdx];subst h2;constructor
  ·intro h;exact⟨[],w,rfl,rfl,h⟩
  rintro⟨u,v,rfl,hu,hv⟩;have hu:u=[]:=hu;rw[hu];exact hv
 rw[if_neg h2];by_cases h3:y = .one
 ·rw[if_pos h3,Zdx];subst h3;constructor
  ·intro h;exact⟨w,[],(List.append_nil w).symm,h,rfl⟩
  rintro⟨u,v,rfl,hu,hv⟩;have hv:v=[]:=hv;rw[hv,List.append_nil];exact hu
 rw[if_neg h3]
theorem Zec (x y:Ex) (w:List Nat):memE (ZgF x y) w↔memE x w∨memE y w:=by
 unfold ZgF;by_cases h1:x = .zero∨x=y
 ·rw[if_pos h1];refine⟨.inr,?_⟩;rintro(h|h)
  ·rcases h1 with rfl|rfl
   ·exact h.elim
   exact h
  exact h
 rw[if_neg h1];by_cases h2:y = .zero
 ·rw[if_pos h2];subst h2;exact⟨.inl,fun h=>h.elim id fun h=>h.elim⟩
 rw[if_neg h2];exact Iff.rfl
theorem ZlT {w:List Nat} {L:List Nat→Prop} (hL:∀ u,L u→u=[]):StarL L w↔w=[]:=by
 constructor
 ·rintro⟨ws,rfl,hw⟩
  induction ws with
  | nil=>rfl
  | cons u ws ih =>rw[List.flatten_cons,hL u (hw u (List.mem_cons_self ..)),ih fun x hx=>hw x (List.mem_cons_of_mem _ hx)];rfl
 rintro rfl;exact⟨[],rfl,by simp⟩
theorem ZkU {L:List Nat→Prop} {w:List Nat}:StarL (StarL L) w↔StarL L w:=by
 constructor
 ·rintro⟨ws,rfl,hw⟩
  induction ws with
  | nil=>exact⟨[],rfl,by simp⟩
  | cons u ws ih =>
   obtain⟨us,hu,h1⟩:=hw u (List.mem_cons_self ..);obtain⟨vs,hv,h2⟩:=ih fun x hx=>hw x (List.mem_cons_of_mem _ hx)
   refine⟨us++vs,?_,fun x hx => ?_⟩
   ·rw[List.flatten_cons,List.flatten_append,hu,hv]
   rcases List.mem_append.1 hx with h|h
   ·exact h1 x h
   exact h2 x h
 intro h;exact⟨[w],by simp,by simpa using h⟩
theorem ZlP (x:Ex) (w:List Nat):memE (Ze0 x) w↔memE (.star x) w:=by
 unfold Ze0;by_cases h1:x = .zero∨x = .one
 ·rw[if_pos h1];refine(ZlT (L:=memE x) fun u hu => ?_).symm;rcases h1 with rfl|rfl
  ·exact hu.elim
  exact hu
 rw[if_neg h1]
 split
 ·exact ZkU.symm
 exact Iff.rfl
def isK (es:List (Int × Int)) (k:Int):Bool:=decide (es.length=1)&&decide ((es.getD 0 (0,0)).1=k)
theorem ZmK (t:Ex) (k:Int) (hk:k=1∨k=2):isK t.post k=true↔(k=1∧t = .zero)∨(k=2∧t = .one):=by
 have two:∀ (a b:List (Int × Int)) (p:Int × Int),1≤a.length→1≤b.length→isK (a++b++[p]) k=false:=fun a b p h1 h2=>by unfold isK;rw[decide_eq_false (by rw[List.length_append,List.length_append,List.length_singleton];omega),Bool.false_and]
 have one:∀ (a:List (Int × Int)) (p:Int × Int),1≤a.length→isK (a++[p]) k=false:=fun a p h1=>by unfold isK;rw[decide_eq_false (by rw[List.length_append,List.length_singleton];omega),Bool.false_and]
 have no:∀ t:Ex,t ≠ .zero→t ≠ .one→isK t.post k=false→(isK t.post k=true↔(k=1∧t = .zero)∨(k=2∧t = .one)):=fun t h1 h2 h3=>by rw[h3];exact⟨fun h=>(by cases h),fun h=>h.elim (fun h=>absurd h.2 h1) fun h=>absurd h.2 h2⟩
 cases t with
 | zero =>
  rcases hk with rfl|rfl
  ·exact⟨fun _ => .inl ⟨rfl,rfl⟩,fun _=>rfl⟩
  exact⟨fun h=>absurd h (by decide),fun h=>h.elim (fun h=>absurd h.1 (by decide)) fun h=>(by cases h.2)⟩
 | one =>
  rcases hk with rfl|rfl
  ·exact⟨fun h=>absurd h (by decide),fun h=>h.elim (fun h=>(by cases h.2)) fun h=>absurd h.1 (by decide)⟩
  exact⟨fun _ => .inr ⟨rfl,rfl⟩,fun _=>rfl⟩
 | ltr c =>refine no _ (by simp) (by simp) ?_;unfold isK;rw[decide_eq_false (p:=(((Ex.ltr c).post).getD 0 (0,0)).1=k) (by show ¬ (3:Int)=k;omega),Bool.and_false]
 | join a b=>exact no _ (by simp) (by simp) (two _ _ _ (ZaC a) (ZaC b))
 | alt a b=>exact no _ (by simp) (by simp) (two _ _ _ (ZaC a) (ZaC b))
 | both a b=>exact no _ (by simp) (by simp) (two _ _ _ (ZaC a) (ZaC b))
 | neg a=>exact no _ (by simp) (by simp) (one _ _ (ZaC a))
 | star a=>exact no _ (by simp) (by simp) (one _ _ (ZaC a))
theorem Zd0 (es:List (Int × Int)) (k:Int) (v:Value) (w:World) (h:Pairs 0 w v es) (r:Bool) (hr:isK es k=r) :
  Calls Tryz.prog 126 #[v,.int .i64 k] w fun e w'=>e = .returned (.bool r)∧w=w':=by
 obtain⟨a,c,rfl,hc1,hc2,hrd⟩:=h.form;clear h;unfold isK at hr;by_cases h1:es.length=1
 ·rw[decide_eq_true h1,Bool.true_and] at hr;obtain⟨b,o,rfl,-,hbl,hcs⟩:=hrd (by omega);have g1:=(hcs 0 (by omega)).1;obtain⟨p,hp⟩:=eI ((es.getD 0 (0,0)).1);rw[← hp] at g1 hr;have g1':w.cell? ⟨b,o,none⟩=some (.int .i64 p):=g1;obtain⟨n,hn⟩:=eI (es.length);rw[← hn] at h1 hc1;rw[← hn];subst h1;replace hn:=qh hn;have Hhp:=qh hp;clear hp;clear hcs hrd g1;by_cases hpk:p=k
  ·rw[decide_eq_true hpk] at hr;subst hr hpk
   go_enter Tryz.func126, Tryz.ntmps126
   go_wp2;go_ret;exact⟨ZaP (by simp),rfl⟩
  rw[decide_eq_false hpk] at hr;subst hr;obtain⟨q1,q2,q3,q4⟩:=Zan hpk
  go_enter Tryz.func126, Tryz.ntmps126
  go_wp2;go_ret;exact⟨rfl,rfl⟩
 rw[decide_eq_false h1,Bool.false_and] at hr;subst hr;have h1I:¬ (es.length:Int)=1:=by omega
 obtain⟨q1,q2,q3,q4⟩:=Zan h1I;clear hrd
 go_enter Tryz.func126, Tryz.ntmps126
 go_wp2;go_ret;exact⟨rfl,rfl⟩
theorem Zle (xs ys:List (Int × Int)) (v1 v2:Value) (w:World) (hl:xs.length≤100000) (h1:Pairs 0 w v1 xs) (h2:Pairs 0 w v2 ys) :
  Calls Tryz.prog 127 #[v1,v2] w fun e w'=>e = .returned (.bool (decide (xs=ys)))∧Below w.heap.size w w':=by
 obtain⟨a1,c1,rfl,hc1,hc2,hr1⟩:=h1.form;obtain⟨a2,c2,rfl,hd1,hd2,hr2⟩:=h2.form;have Hr1:=qh hr1;have Hr2:=qh hr2;clear h1 h2 hr1 hr2;by_cases hln:xs.length=ys.length
 ·obtain⟨n,hn⟩:=eI (xs.length);have hn2:n=ys.length:=hn.trans hln;rw[← hn] at hc1 Hr1 hl ⊢;rw[← hn2] at hd1 Hr2 ⊢;replace hn:=qh hn;have Hhn2:=qh hn2;clear hn2;clear hln
  go_enter Tryz.func127, Tryz.ntmps127
  go_wp2
  go_loopw [5] (fun vi wr=>∃ i:Nat,vi = .int .i64 (i:Int)∧i≤n∧(∀ j,j<i→xs.getD j (0,0)=ys.getD j (0,0))∧Below w.heap.size w wr) (fun vi _=>n-(intOf vi).toNat)
  case atStart=>exact⟨0,rfl,Nat.zero_le _,fun j hj=>by omega,Below.refl _ _⟩
  case round =>
   obtain⟨i,rfl,hi,hsm,hb⟩:=hrel;have Hb:=qh hb;have Hsm:=qh hsm;clear hb hsm;by_cases hlt:i<n
   ·have hi1:(i:Int)<(n:Int):=by omega
    have hw1:IntKind.i64.wrap ((i:Int)+1)=(i:Int)+1:=IntWalk.i64_in _ (by omega);obtain⟨b1,o1,rfl,-,hl1,g1⟩:=Hr1.out (by omega);obtain⟨b2,o2,rfl,-,hl2,g2⟩:=Hr2.out (by omega);have k1:=(bcell Hb.out b1 _ hl1).trans (g1 i hlt).1;have k2:=(bcell Hb.out b1 _ hl1).trans (g1 i hlt).2;have k3:=(bcell Hb.out b2 _ hl2).trans (g2 i hlt).1;have k4:=(bcell Hb.out b2 _ hl2).trans (g2 i hlt).2;by_cases he:xs.getD i (0,0)=ys.getD i (0,0)
    ·rw[← he] at k3 k4;obtain⟨p,hp⟩:=eI (xs.getD i (0,0));rw[← hp] at k1 k2 k3 k4;obtain⟨x,y⟩:=p;simp only at k1 k2 k3 k4;have Hhp:=qh hp;clear hp;replace he:=qh he;clear g1 g2;go_wp2
     go_region
     go_wp2;go_roundw
     case rel =>
      refine⟨i+1,by simp,by omega,fun j hj => ?_,Hb.out.drew⟩;by_cases hji:j<i
      ·exact Hsm.out j hji
      obtain rfl:j=i:=by omega
      exact he.out
     case measure=>simp[intOf];omega
    have hne:decide (xs=ys)=false:=decide_eq_false fun h=>he (by rw[h])
    obtain⟨p,hp⟩:=eI (xs.getD i (0,0));obtain⟨q,hq⟩:=eI (ys.getD i (0,0));rw[← hp] at k1 k2 he;rw[← hq] at k3 k4 he;obtain⟨x,y⟩:=p;obtain⟨x',y'⟩:=q;simp only at k1 k2 k3 k4;have Hhne:=qh hne;clear hne;have Hhp:=qh hp;clear hp;have Hhq:=qh hq;clear hq;clear g1 g2;by_cases hx:x=x'
    ·have hy:y≠y':=fun h=>he (by rw[hx,h])
     subst hx;obtain⟨q1,q2,q3,q4⟩:=Zan hy;replace he:=qh he;go_wp2
     go_region
     go_wp2;go_ret;exact⟨ZaP Hhne.out.symm,Hb.out.drew⟩
    obtain⟨q1,q2,q3,q4⟩:=Zan hx;replace he:=qh he;go_wp2
    go_region
    go_wp2;go_ret;exact⟨ZaP Hhne.out.symm,Hb.out.drew⟩
   obtain rfl:i=n:=by omega
   have hi1:¬ (i:Int)<(i:Int):=by omega
   have hy:decide (xs=ys)=true:=decide_eq_true (List.ext_getElem (by rw[← hn.out,← Hhn2.out]) fun j h1 h2=>by
    have:=Hsm.out j (by rw[hn.out];exact h1)
    rwa [List.getD_eq_getElem?_getD,List.getElem?_eq_getElem h1,List.getD_eq_getElem?_getD,List.getElem?_eq_getElem h2] at this)
   have Hhy:=qh hy;clear hy;go_wp2;go_ret;exact⟨ZaP Hhy.out.symm,Hb.out⟩
 have hne:decide (xs=ys)=false:=decide_eq_false fun h=>hln (by rw[h])
 have hnI:¬ (xs.length:Int)=(ys.length:Int):=by omega
 obtain⟨q1,q2,q3,q4⟩:=Zan hnI;have Hhne:=qh hne;clear hne
 go_enter Tryz.func127, Tryz.ntmps127
 go_wp2;go_ret;exact⟨ZaP Hhne.out.symm,Below.refl _ _⟩
end Go.Proofs.YtehmjmjedopkkaaGreat
