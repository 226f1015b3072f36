/-
  The walks over the reference's l20Long and l20Finite: a text; an automaton of few words.
  Condition: the reader stands over bytes.
-/
import Derived.Test.YtehmjmjedopkkaaGreatPo28Wsx
import Derived.Test.YtehmjmjedopkkaaGreatPo29Jg
set_option maxHeartbeats 16000000
set_option maxRecDepth 100000
namespace Go.Proofs.YtehmjmjedopkkaaGreat
open Go.RowKit
theorem Zjs {l:List Nat} (h:isT l) (k:Nat):isT (l.take k):=fun b hb=>h b (List.mem_of_mem_take hb)
theorem Tryz.infoTx2:(Tryz.prog.info? 9).map (fun i=>(i.zero,i.size,i.bytes))=some (some (.string ⟨#[]⟩),1,16):=by kernel_rfl
def DfaK (E:Ent) (v:Value) (D:DfaD):Prop:=∀ (w0 w:World) (L:List Ent) (i:Nat),St w0 w L→L[i]? = some E→DfaR 0 w v D
theorem Zg3 (bs:List Nat) (vb:Value) (b p nn:Nat) (w0 w:World) (X:Ent) (hb:Bytes 0 w0 vb bs) (hlen:bs.length≤2000) (hp:p≤50000) (hnn:nn≤10000) (hS:St w0 w [RdE b vb p,X]) :
  Calls Tryz.prog 45 #[.pointer (some ⟨b,0,none⟩),.int .i64 ((nn:Nat):Int)] w fun e w'=>∃ (p':Nat) (D:DfaD) (a1:Option Addr) (c1:Nat) (a2:Option Addr) (c2:Nat) (E:Ent),p'≤p+2000∧SmallD D∧DfaK E (.agg #[.slice a1 D.next.length c1,.slice a2 D.ends.length c2]) D∧e = .returned (.agg #[.slice a1 D.next.length c1,.slice a2 D.ends.length c2])∧St w0 w' [RdE b vb p',X,E]:=by
 have Hb:=qh hb
 have hS0:St w0 _ ([RdE b vb p]++[X,Ent.box w.heap.size #[.slice none 0 0,.slice none 0 0] 32]):=hS.alloc w.heap.size rfl #[.slice none 0 0,.slice none 0 0] 32
 have HS0:=qh hS0
 obtain⟨i0,hi,hz0,hz1,hz2⟩:=info_parts Tryz.infoTx2
 have Hhi:=qh hi;clear hi
 replace hz0:=qh hz0
 have Hhz1:=qh hz1;clear hz1
 have Hhz2:=qh hz2;clear hz2
 -- the last part: some other automaton
 have hfin:∀ (u:World) (q:Nat),q≤p+500→St w0 u [RdE b vb q,X,Ent.box w.heap.size #[.slice none 0 0,.slice none 0 0] 32]→Calls Tryz.prog 83 #[.pointer (some ⟨b,0,none⟩),.int .i64 ((nn:Nat):Int)] u fun e w'=>∃ (D:DfaD) (a1:Option Addr) (c1:Nat) (a2:Option Addr) (c2:Nat) (q':Nat) (E:Ent),q'≤q+1000∧SmallD D∧DfaK E (.agg #[.slice a1 D.next.length c1,.slice a2 D.ends.length c2]) D∧e = .returned (.agg #[.slice a1 D.next.length c1,.slice a2 D.ends.length c2])∧St w0 w' [RdE b vb q',X,Ent.box w.heap.size #[.slice none 0 0,.slice none 0 0] 32,E]:=fun u q hq hSu=>by
  refine(Zmc bs vb b q nn w0 u _ Hb.out hlen (by omega) hnn (St.pack (A:=[RdE b vb q]) (R:=[X,Ent.box w.heap.size #[.slice none 0 0,.slice none 0 0] 32]) hSu)).mono ?_
  rintro e w' ⟨D,q',a1,a2,c1,c2,vs,E,hq',hsm,rfl,hh,hSp⟩
  exact⟨D,a1,c1,a2,c2,q',E,hq',hsm,fun w0 w L i hS hi=>hh.r hS i hi,rfl,(St.unpack (A:=[RdE b vb q]) (A':=[RdE b vb q',E]) (R:=[X,Ent.box w.heap.size #[.slice none 0 0,.slice none 0 0] 32]) hSu (hSp.pick [0,2,1] (by decide))).pick [0,2,3,1] (by decide)⟩
 have Hfin:=qh hfin
 clear hb hS hS0 hfin
 go_enter Tryz.func45, Tryz.ntmps45
 go_wp2_with fail
 refine(ZaB bs vb b p 2 w0 _ _ Hb.out hlen (by omega) (by omega) (by omega) (St.pack (A:=[RdE b vb p]) (R:=[X,Ent.box w.heap.size #[.slice none 0 0,.slice none 0 0] 32]) HS0.out)).mono ?_
 rintro e w1 ⟨z,hz,rfl,hSp⟩
 have HS1:Hid (St w0 w1 [RdE b vb (p+1),X,Ent.box w.heap.size #[.slice none 0 0,.slice none 0 0] 32]):=qh (St.unpack (A:=[RdE b vb p]) (A':=[RdE b vb (p+1)]) (R:=[X,Ent.box w.heap.size #[.slice none 0 0,.slice none 0 0] 32]) HS0.out hSp)
 clear hSp HS0
 obtain rfl|rfl:z=1∨z=0:=by omega
 ·go_wp2_with fail
  refine(Hfin.out _ (p+1) (by omega) HS1.out).mono ?_
  rintro e w2 ⟨D9,a1,c1,a2,c2,q',E9,hq',hsm9,hK9,rfl,hS2⟩
  have HS2:=qh hS2
  have f0:=HS2.out.fr 2 0 rfl
  have f1:=HS2.out.fr 2 1 rfl
  have k0:=HS2.out.cell (v:=.slice none 0 0) 2 0 rfl rfl
  have k1:=HS2.out.cell (v:=.slice none 0 0) 2 1 rfl rfl
  clear hS2 HS1
  go_wp2
  have hq:=(HS2.out.set 2 rfl 0 (.slice a1 D9.next.length c1)).set 2 rfl 1 (.slice a2 D9.ends.length c2)
  have q0:=hq.cell (v:=.slice a1 D9.next.length c1) 2 0 rfl rfl
  have q1:=hq.cell (v:=.slice a2 D9.ends.length c2) 2 1 rfl rfl
  refine bodyPost_ret (v:=.agg #[.slice a1 D9.next.length c1,.slice a2 D9.ends.length c2]) (by simp[results,Tryz.results45,go_sem,q0,q1]) rfl ?_
  exact⟨q',D9,a1,c1,a2,c2,E9,by omega,hsm9,hK9,rfl,hq.pick [0,1,3] (by decide)⟩
 ·go_wp2_with fail
  have hSr:St w0 _ ([RdE b vb (p+1)]++[X,Ent.box w.heap.size #[.slice none 0 0,.slice none 0 0] 32,Ent.row 9 1 (.slice (some ⟨w1.heap.size,0,none⟩) 0 0) 0 []]):=HS1.out.newRow0 9 1
  have HSr:=qh hSr
  clear hSr
  refine(ZaB bs vb b (p+1) 4 w0 _ _ Hb.out hlen (by omega) (by omega) (by omega) (St.pack (A:=[RdE b vb (p+1)]) (R:=[X,Ent.box w.heap.size #[.slice none 0 0,.slice none 0 0] 32,Ent.row 9 1 (.slice (some ⟨w1.heap.size,0,none⟩) 0 0) 0 []]) HSr.out)).mono ?_
  rintro e w2 ⟨k0,hk0,rfl,hSp⟩
  have HS2:Hid (St w0 w2 [RdE b vb (p+1+1),X,Ent.box w.heap.size #[.slice none 0 0,.slice none 0 0] 32,Ent.row 9 1 (.slice (some ⟨w1.heap.size,0,none⟩) 0 0) 0 []]):=qh (St.unpack (A:=[RdE b vb (p+1)]) (A':=[RdE b vb (p+1+1)]) (R:=[X,Ent.box w.heap.size #[.slice none 0 0,.slice none 0 0] 32,Ent.row 9 1 (.slice (some ⟨w1.heap.size,0,none⟩) 0 0) 0 []]) HSr.out hSp)
  clear hSp HSr HS1
  go_wp2_with fail
  go_loopw [5,6] (fun sv iv wr=>∃ (k q c:Nat) (a:Option Addr) (ls:List (List Nat)),iv = .int .i64 (k:Int)∧sv = .slice a ls.length c∧k+ls.length≤4∧q≤p+2+20*ls.length∧(∀ l∈ls,isT l∧l.length≤10)∧St w0 wr [RdE b vb q,X,Ent.box w.heap.size #[.slice none 0 0,.slice none 0 0] 32,Ent.row 9 1 (.slice a ls.length c) ls.length (strC ls)]) (fun _ iv _=>(intOf iv).toNat)
  case atStart=>exact⟨k0,p+1+1,0,_,[],rfl,rfl,by simp;omega,by simp,(by simp),HS2.out⟩
  case round =>
   obtain⟨k,q,c,a,ls,rfl,rfl,hk,hq,hls,hS⟩:=hrel
   have HS3:=qh hS
   have Hls:=qh hls
   clear hS hls HS2
   by_cases h0:k=0
   ·subst h0
    have hok:okTs ls:=⟨by omega,Hls.out⟩
    have hT:Txts _ (.slice a ls.length c) ls:=((Zaa (HS3.out.row 3 rfl)).sl (by omega)).mono (Nat.zero_le _)
    have hws:=fun (u:World) (h:Txts u (.slice a ls.length c) ls)=>ZeS ls (.slice a ls.length c) u hok h
    unfold RWs at hws
    have hE60:(wsR ls).length≤100:=by
     unfold wsR
     split
     ·rename_i h
      cases hn:ls.length with
      | zero=>show(1:Nat)≤100;omega
      | succ n=>exact Nat.le_trans (ZmF h (k:=n) (by omega)).2 (by omega)
     ·exact Nat.zero_le _
    obtain⟨E,hE⟩:=eI (wsR ls)
    obtain⟨ok,hokk⟩:=eI (wsOk ls)
    rw[← hE] at hws hE60
    rw[← hokk] at hws
    have Hws:=qh hws
    have hq500:q≤p+500:=by omega
    replace hT:=qh hT
    replace hE:=qh hE
    have Hhokk:=qh hokk;clear hokk
    clear hws hok
    go_wp2_with fail
    refine(Hws.out _ hT.out).mono ?_
    rintro e w4 ⟨aE,cE,rfl,hS⟩
    have HQ:=qh (Zar (hS.row 0 rfl))
    have HS4:Hid (St w0 w4 [RdE b vb q,X,Ent.box w.heap.size #[.slice none 0 0,.slice none 0 0] 32]):=qh ((HS3.out.call hS.bel).pick [0,1,2] (by decide))
    clear hS hT HS3
    cases ok with
    | false =>
     go_wp2_with fail
     refine(Hfin.out _ (q) (by omega) HS4.out).mono ?_
     rintro e w9 ⟨D9,a1,c1,a2,c2,q',E9,hq',hsm9,hK9,rfl,hS9⟩
     have HS9:=qh hS9
     have f0:=HS9.out.fr 2 0 rfl
     have f1:=HS9.out.fr 2 1 rfl
     have k0:=HS9.out.cell (v:=.slice none 0 0) 2 0 rfl rfl
     have k1:=HS9.out.cell (v:=.slice none 0 0) 2 1 rfl rfl
     clear hS9 HS4
     go_wp2
     have hq:=(HS9.out.set 2 rfl 0 (.slice a1 D9.next.length c1)).set 2 rfl 1 (.slice a2 D9.ends.length c2)
     have q0:=hq.cell (v:=.slice a1 D9.next.length c1) 2 0 rfl rfl
     have q1:=hq.cell (v:=.slice a2 D9.ends.length c2) 2 1 rfl rfl
     refine bodyPost_ret (v:=.agg #[.slice a1 D9.next.length c1,.slice a2 D9.ends.length c2]) (by simp[results,Tryz.results45,go_sem,q0,q1]) rfl ?_
     exact⟨q',D9,a1,c1,a2,c2,E9,by omega,hsm9,hK9,rfl,hq.pick [0,1,3] (by decide)⟩
    | true =>
     obtain⟨K,hK⟩:∃ K,K=40:=⟨40,rfl⟩
     obtain⟨o,ho⟩:=ZfS K E
     have hsp:=fun (v:Value) (u:World) h=>ZcA K hK E o ho v u (by omega) h
     unfold RO at hsp
     obtain⟨D,hD⟩:=eJ (o.getD Zbg)
     obtain⟨fb,hfb⟩:=eJ (o.isSome)
     rw[hD,hfb] at hsp
     have hsmD:fb=true→SmallD D:=fun h=>Zf5 ((ZjI hK ho hD hfb).2 h).2.1
     have Hsp:=qh hsp
     clear hsp hD hfb ho hK
     go_wp2_with fail
     refine(Hsp.out _ _ HQ.out).mono ?_
     rintro e w5 ⟨x1,y1,x2,y2,rfl,hdr,hb5⟩
     have HS5:=qh ((HS4.out.dfaV hb5 hdr).alloc w5.heap.size rfl #[.slice x1 D.next.length y1,.slice x2 D.ends.length y2] 32)
     clear hb5 hdr HS4 HQ
     cases fb with
     | false =>
      have HS6:Hid (St w0 _ [RdE b vb q,X,Ent.box w.heap.size #[.slice none 0 0,.slice none 0 0] 32]):=qh (HS5.out.pick [0,1,2] (by decide))
      clear HS5
      go_wp2_with fail
      refine(Hfin.out _ (q) (by omega) HS6.out).mono ?_
      rintro e w9 ⟨D9,a1,c1,a2,c2,q',E9,hq',hsm9,hK9,rfl,hS9⟩
      have HS9:=qh hS9
      have f0:=HS9.out.fr 2 0 rfl
      have f1:=HS9.out.fr 2 1 rfl
      have k0:=HS9.out.cell (v:=.slice none 0 0) 2 0 rfl rfl
      have k1:=HS9.out.cell (v:=.slice none 0 0) 2 1 rfl rfl
      clear hS9 HS6
      go_wp2
      have hq:=(HS9.out.set 2 rfl 0 (.slice a1 D9.next.length c1)).set 2 rfl 1 (.slice a2 D9.ends.length c2)
      have q0:=hq.cell (v:=.slice a1 D9.next.length c1) 2 0 rfl rfl
      have q1:=hq.cell (v:=.slice a2 D9.ends.length c2) 2 1 rfl rfl
      refine bodyPost_ret (v:=.agg #[.slice a1 D9.next.length c1,.slice a2 D9.ends.length c2]) (by simp[results,Tryz.results45,go_sem,q0,q1]) rfl ?_
      exact⟨q',D9,a1,c1,a2,c2,E9,by omega,hsm9,hK9,rfl,hq.pick [0,1,3] (by decide)⟩
     | true =>
      have hsm:=hsmD rfl
      have e0:=HS5.out.cell (v:=.slice x1 D.next.length y1) 4 0 rfl rfl
      have e1:=HS5.out.cell (v:=.slice x2 D.ends.length y2) 4 1 rfl rfl
      have f0:=HS5.out.fr 2 0 rfl
      have f1:=HS5.out.fr 2 1 rfl
      have k0:=HS5.out.cell (v:=.slice none 0 0) 2 0 rfl rfl
      have k1:=HS5.out.cell (v:=.slice none 0 0) 2 1 rfl rfl
      go_wp2
      have hq:=(HS5.out.set 2 rfl 0 (.slice x1 D.next.length y1)).set 2 rfl 1 (.slice x2 D.ends.length y2)
      have q0:=hq.cell (v:=.slice x1 D.next.length y1) 2 0 rfl rfl
      have q1:=hq.cell (v:=.slice x2 D.ends.length y2) 2 1 rfl rfl
      refine bodyPost_ret (v:=.agg #[.slice x1 D.next.length y1,.slice x2 D.ends.length y2]) (by simp[results,Tryz.results45,go_sem,q0,q1]) rfl ?_
      exact⟨q,D,x1,y1,x2,y2,_,by omega,hsm,fun w0 w L i hS hi=>hS.dfaVr i hi,rfl,hq.pick [0,1,3] (by decide)⟩
   ·have hkI:0<(k:Int):=by omega
    have hwk:IntKind.i64.wrap ((k:Int)-1)=(k:Int)-1:=IntWalk.i64_in _ (by omega)
    go_wp2_with fail
    refine(Zfj bs vb b q 0 w0 _ _ Hb.out hlen (by omega) (by omega) (St.pack (A:=[RdE b vb q]) (R:=[X,Ent.box w.heap.size #[.slice none 0 0,.slice none 0 0] 32,Ent.row 9 1 (.slice a ls.length c) ls.length (strC ls)]) HS3.out)).mono ?_
    rintro e w5 ⟨l,q',ht,hl,hq',rfl,hSp⟩
    have hS5:St w0 w5 ([RdE b vb q',X,Ent.box w.heap.size #[.slice none 0 0,.slice none 0 0] 32,Ent.row 9 1 (.slice a ls.length c) ls.length (strC ls)]):=St.unpack (A:=[RdE b vb q]) (A':=[RdE b vb q']) (R:=[X,Ent.box w.heap.size #[.slice none 0 0,.slice none 0 0] 32,Ent.row 9 1 (.slice a ls.length c) ls.length (strC ls)]) HS3.out hSp
    have hsz:=Zcj l
    obtain⟨n0,hn0⟩:=eI (l.length)
    obtain⟨u,hut,hx⟩:∃ u,(isT u∧u.length≤10)∧((n0≤4∧(txB l).extract 0 n0=txB u)∨(¬ n0≤4∧(txB l).extract 0 4=txB u)):=by
     by_cases h4:n0≤4
     ·exact⟨l.take n0,⟨Zjs ht _,by rw[List.length_take];omega⟩,.inl ⟨h4,ZkU l n0⟩⟩
     ·exact⟨l.take 4,⟨Zjs ht _,by rw[List.length_take];omega⟩,.inr ⟨h4,ZkU l 4⟩⟩
    rw[← hn0] at hsz hl
    have HS6:=qh (hS5.alloc w5.heap.size rfl #[.string (txB u)] 9)
    have Hhut:=qh hut;clear hut
    have Hhn0:=qh hn0;clear hn0
    clear hS5 hSp ht HS3
    rcases hx with⟨h4,hx⟩|⟨h4,hx⟩
    ·have h4I:(n0:Int)≤4:=by omega
     have hmin:min (n0:Int) 4=(n0:Int):=by omega
     go_wp2_with (at_builtin;refine Zal _ rfl _ _ _ rfl _ 9 i0 (.string ⟨#[]⟩) 1 16 Tryz.underlying101 Hhi.out hz0.out Hhz1.out Hhz2.out rfl (by omega) _ ls.length _ rfl (HS6.out.row 3 rfl) _ 1 [.string (txB u)] rfl ((Zaa ((HS6.out.boxrow 4 1 1 [.string (txB u)] rfl rfl (by unfold maxLen;omega)).row 4 rfl)).sl (by omega) |>.mono (Nat.zero_le _)) ZpZ (by unfold maxLen;omega) (by omega) HS6.out.size ?_;intro a7 c7 w7 hown hgrow hat;have hS:=(HS6.out.appS 3 rfl hown hgrow hat).pick [0,1,2,3] (by decide);have HS7:=qh hS;clear hown hgrow hat hS)
     go_roundw
     case rel =>
      refine⟨k-1,q',c7,a7,ls++[u],?_,by rw[List.length_append];rfl,?_,?_,?_,?_⟩
      ·congr 1;omega
      ·rw[List.length_append,List.length_singleton];omega
      ·rw[List.length_append,List.length_singleton];omega
      ·intro x hx
       rcases List.mem_append.1 hx with h|h
       ·exact Hls.out x h
       ·rw[List.mem_singleton.1 h];exact Hhut.out
      ·have e:strC (ls++[u])=strC ls++[.string (txB u)]:=by simp[strC]
       rw[e,List.length_append]
       exact HS7.out
     case measure=>simp[intOf]<;>omega
    ·have h4I:¬ (n0:Int)≤4:=by omega
     have hmin:min (n0:Int) 4=4:=by omega
     go_wp2_with (at_builtin;refine Zal _ rfl _ _ _ rfl _ 9 i0 (.string ⟨#[]⟩) 1 16 Tryz.underlying101 Hhi.out hz0.out Hhz1.out Hhz2.out rfl (by omega) _ ls.length _ rfl (HS6.out.row 3 rfl) _ 1 [.string (txB u)] rfl ((Zaa ((HS6.out.boxrow 4 1 1 [.string (txB u)] rfl rfl (by unfold maxLen;omega)).row 4 rfl)).sl (by omega) |>.mono (Nat.zero_le _)) ZpZ (by unfold maxLen;omega) (by omega) HS6.out.size ?_;intro a7 c7 w7 hown hgrow hat;have hS:=(HS6.out.appS 3 rfl hown hgrow hat).pick [0,1,2,3] (by decide);have HS7:=qh hS;clear hown hgrow hat hS)
     go_roundw
     case rel =>
      refine⟨k-1,q',c7,a7,ls++[u],?_,by rw[List.length_append];rfl,?_,?_,?_,?_⟩
      ·congr 1;omega
      ·rw[List.length_append,List.length_singleton];omega
      ·rw[List.length_append,List.length_singleton];omega
      ·intro x hx
       rcases List.mem_append.1 hx with h|h
       ·exact Hls.out x h
       ·rw[List.mem_singleton.1 h];exact Hhut.out
      ·have e:strC (ls++[u])=strC ls++[.string (txB u)]:=by simp[strC]
       rw[e,List.length_append]
       exact HS7.out
     case measure=>simp[intOf]<;>omega
theorem Znm (bs:List Nat) (v:Value) (w:World) (hb:Bytes 0 w v bs) (hlen:bs.length≤100000000) :
  Calls Tryz.prog 24 #[v] w fun e w'=>∃ vb bs',bs'.length≤2000∧(∀ u:World,Bytes 0 u v bs→Bytes 0 u vb bs')∧e = .returned (.pointer (some ⟨w.heap.size,0,none⟩))∧St w w' [RdE w.heap.size vb 0]:=by
 obtain⟨a,c,rfl,hc1,hc2,-⟩:=hb.form;have Hb:=qh hb;clear hb;by_cases h2:2000<bs.length
 ·have q1:(2000:Int)<bs.length:=by omega
  have q2:(2000:Int)≤c:=by omega
  have hS:=(St.start w).alloc _ rfl #[.slice a 2000 c,.int .i64 0] 77;have HS:=qh hS;clear hS
  go_enter Tryz.func24, Tryz.ntmps24
  go_wp2;go_ret;exact⟨_,bs.take 2000,by rw[List.length_take];omega,fun u h=>h.take (by omega),rfl,HS.out⟩
 have q1:(2000<(bs.length:Int))=False:=by simp;omega
 have hS:=(St.start w).alloc _ rfl #[.slice a bs.length c,.int .i64 0] 77;have HS:=qh hS;have h2:bs.length≤2000:=by omega
 clear hS
 go_enter Tryz.func24, Tryz.ntmps24
 go_wp2;go_ret;exact⟨_,bs,h2,fun u h=>h,rfl,HS.out⟩
def Zrg (w:World) (e:Ending) (w':World):Prop:=∃ (D:DfaD) (a1 a2:Option Addr) (c1 c2:Nat),SmallD D∧e = .returned (.agg #[.slice a1 D.next.length c1,.slice a2 D.ends.length c2])∧DfaR 0 w' (.agg #[.slice a1 D.next.length c1,.slice a2 D.ends.length c2]) D∧Below w.heap.size w w'
theorem Zhf (bs:List Nat) (v:Value) (w:World) (hb:Bytes 0 w v bs) (hlen:bs.length≤100000000) :
  Calls Tryz.prog 14 #[v] w fun e w'=>Zrg w e w':=by
 have hS0:=(St.start w).alloc _ rfl #[.slice none 0 0,.slice none 0 0] 32;have Hb:=qh hb;replace hS0:=qh hS0;clear hb
 go_enter Tryz.func14, Tryz.ntmps14
 go_wp2_with fail;refine(Znm bs v _ (Hb.out.below hS0.out.bel) hlen).mono ?_;rintro e w1 ⟨vb,bs',hl',hB,rfl,hS'⟩;obtain⟨b,hbb⟩:=eI ((w.alloc (.cells #[.slice none 0 0,.slice none 0 0] 32)).heap.size);rw[← hbb] at hS';rw[← hbb];have hB1:=hB w Hb.out;have HB:=qh hB1;have HS1:=qh ((hS0.out.cat hS').pick [1,0] (by decide));have Hhbb:=qh hbb;clear hbb;clear hS' hB hB1;go_wp2_with fail;refine(ZaB bs' vb b 0 2 w w1 _ HB.out hl' (by omega) (by omega) (by omega) HS1.out).mono ?_;rintro e w2 ⟨z,hz,rfl,hS2⟩;have HS2:=qh hS2;clear hS2 HS1
 have hfin:∀ (u:World) (q:Nat) (L:List Ent),q≤5000→St w u [RdE b vb q,Ent.box w.heap.size #[.slice none 0 0,.slice none 0 0] 32]→Calls Tryz.prog 45 #[.pointer (some ⟨b,0,none⟩),.int .i64 9] u fun e w'=>∃ (D:DfaD) (a1:Option Addr) (c1:Nat) (a2:Option Addr) (c2:Nat) (E:Ent) (q':Nat),SmallD D∧DfaK E (.agg #[.slice a1 D.next.length c1,.slice a2 D.ends.length c2]) D∧e = .returned (.agg #[.slice a1 D.next.length c1,.slice a2 D.ends.length c2])∧St w w' [RdE b vb q',Ent.box w.heap.size #[.slice none 0 0,.slice none 0 0] 32,E]:=fun u q _ hq hS =>
  (Zg3 bs' vb b q 9 w u _ HB.out hl' (by omega) (by omega) hS).mono fun e w' ⟨p',D,a1,c1,a2,c2,E,_,h1,h2,h3,h4⟩=>⟨D,a1,c1,a2,c2,E,p',h1,h2,h3,h4⟩
 have Hfin:=qh hfin;clear hfin;obtain rfl|rfl:z=1∨z=0:=by omega
 ·go_wp2_with fail;refine(Hfin.out _ _ [] (by omega) HS2.out).mono ?_;rintro e w9 ⟨D,a1,c1,a2,c2,E,q',hsm,hK,rfl,hS9⟩;have HS9:=qh hS9;have f0:=HS9.out.fr 1 0 rfl;have f1:=HS9.out.fr 1 1 rfl;have k0:=HS9.out.cell (v:=.slice none 0 0) 1 0 rfl rfl;have k1:=HS9.out.cell (v:=.slice none 0 0) 1 1 rfl rfl;clear hS9 HS2;go_wp2;have hq:=(HS9.out.set 1 rfl 0 (.slice a1 D.next.length c1)).set 1 rfl 1 (.slice a2 D.ends.length c2);have q0:=hq.cell (v:=.slice a1 D.next.length c1) 1 0 rfl rfl;have q1:=hq.cell (v:=.slice a2 D.ends.length c2) 1 1 rfl rfl;refine bodyPost_ret (v:=.agg #[.slice a1 D.next.length c1,.slice a2 D.ends.length c2]) (by simp[results,Tryz.results14,go_sem,q0,q1]) rfl ?_;exact⟨D,a1,a2,c1,c2,hsm,rfl,hK _ _ _ 2 hq rfl,hq.bel⟩
 go_wp2_with fail;refine(ZaB bs' vb b _ 2 w w2 _ HB.out hl' (by omega) (by omega) (by omega) HS2.out).mono ?_;rintro e w3 ⟨k,hk,rfl,hS3⟩;have HS3:=qh hS3;obtain⟨d,hd⟩:∃ d:Nat,d=1+k:=⟨_,rfl⟩;have hwd:IntKind.i64.wrap (1+(k:Int))=(d:Int):=by rw[IntWalk.i64_in _ (by omega)];omega
 have hFG:FG d≤1000:=by
  obtain rfl|rfl:d=1∨d=2:=by omega
  ·decide
  decide
 have hFL:FL d≤1000:=by
  obtain rfl|rfl:d=1∨d=2:=by omega
  ·decide
  decide
 have Hhd:=qh hd;clear hd;clear hS3 HS2;go_wp2_with fail;refine(Zla bs' vb b w HB.out hl' d (by have:=Hhd.out;omega) true _ _ _ (by omega) HS3.out).mono ?_;rintro e w4 ⟨a,c,es,p4,he1,hel,hp4,rfl,hS4⟩;have HS4:Hid (St w w4 [RdE b vb p4,Ent.box w.heap.size #[.slice none 0 0,.slice none 0 0] 32,Ent.row 55 2 (.slice a es.length c) es.length (es.flatMap Zab)]):=qh hS4;have HQ:=qh (Zar (HS4.out.row 2 rfl));obtain⟨K,hK⟩:∃ K,K=40:=⟨40,rfl⟩;obtain⟨o,ho⟩:=ZfS K es;have hsp:=fun (v:Value) (u:World) h=>ZcA K hK es o ho v u (by omega) h
 unfold RO at hsp;obtain⟨D,hD⟩:=eJ (o.getD Zbg);obtain⟨fb,hfb⟩:=eJ (o.isSome);rw[hD,hfb] at hsp;have hsmD:fb=true→SmallD D:=fun h=>Zf5 ((ZjI hK ho hD hfb).2 h).2.1
 have Hsp:=qh hsp;clear hsp hD hfb ho hK hS4 HS3;go_wp2_with fail;refine(Hsp.out _ _ HQ.out).mono ?_;rintro e w5 ⟨x1,y1,x2,y2,rfl,hdr,hb5⟩;have HS5:=qh (((HS4.out.dfaV hb5 hdr).alloc w5.heap.size rfl #[.slice x1 D.next.length y1,.slice x2 D.ends.length y2] 32).pick [0,1,3,4] (by decide));clear hb5 hdr HS4 HQ;cases fb with
 | false =>have HS6:Hid (St w _ [RdE b vb p4,Ent.box w.heap.size #[.slice none 0 0,.slice none 0 0] 32]):=qh (HS5.out.pick [0,1] (by decide));clear HS5;go_wp2_with fail;refine(Hfin.out _ _ [] (by omega) HS6.out).mono ?_;rintro e w9 ⟨D,a1,c1,a2,c2,E,q',hsm,hK,rfl,hS9⟩;have HS9:=qh hS9;have f0:=HS9.out.fr 1 0 rfl;have f1:=HS9.out.fr 1 1 rfl;have k0:=HS9.out.cell (v:=.slice none 0 0) 1 0 rfl rfl;have k1:=HS9.out.cell (v:=.slice none 0 0) 1 1 rfl rfl;clear hS9 HS6;go_wp2;have hq:=(HS9.out.set 1 rfl 0 (.slice a1 D.next.length c1)).set 1 rfl 1 (.slice a2 D.ends.length c2);have q0:=hq.cell (v:=.slice a1 D.next.length c1) 1 0 rfl rfl;have q1:=hq.cell (v:=.slice a2 D.ends.length c2) 1 1 rfl rfl;refine bodyPost_ret (v:=.agg #[.slice a1 D.next.length c1,.slice a2 D.ends.length c2]) (by simp[results,Tryz.results14,go_sem,q0,q1]) rfl ?_;exact⟨D,a1,a2,c1,c2,hsm,rfl,hK _ _ _ 2 hq rfl,hq.bel⟩
 | true =>have hsm:=hsmD rfl;have e0:=HS5.out.cell (v:=.slice x1 D.next.length y1) 3 0 rfl rfl;have e1:=HS5.out.cell (v:=.slice x2 D.ends.length y2) 3 1 rfl rfl;have f0:=HS5.out.fr 1 0 rfl;have f1:=HS5.out.fr 1 1 rfl;have k0:=HS5.out.cell (v:=.slice none 0 0) 1 0 rfl rfl;have k1:=HS5.out.cell (v:=.slice none 0 0) 1 1 rfl rfl;go_wp2;have hq:=(HS5.out.set 1 rfl 0 (.slice x1 D.next.length y1)).set 1 rfl 1 (.slice x2 D.ends.length y2);have q0:=hq.cell (v:=.slice x1 D.next.length y1) 1 0 rfl rfl;have q1:=hq.cell (v:=.slice x2 D.ends.length y2) 1 1 rfl rfl;refine bodyPost_ret (v:=.agg #[.slice x1 D.next.length y1,.slice x2 D.ends.length y2]) (by simp[results,Tryz.results14,go_sem,q0,q1]) rfl ?_;exact⟨D,x1,x2,y1,y2,hsm,rfl,hq.dfaVr 2 rfl,hq.bel⟩
def Zfv (x y:Ex):Ex:=if x = .zero∨y = .zero then .zero else if x = .one then y else if y = .one then x else .join x y
def Zhe (x y:Ex):Ex:=if x = .zero∨x=y then y else if y = .zero then x else .alt x y
def Zfs (x:Ex):Ex:=if x = .zero∨x = .one then .one else match x with
 | .star a => .star a
 | x => .star x
theorem ZdR (x y:Ex) (w:List Nat):memE (.join x y) w↔∃ u v,w=u++v∧memE x u∧memE y v:=Iff.rfl
theorem Zgz (x y:Ex) (w:List Nat):memE (Zfv x y) w↔memE (.join x y) w:=by
 unfold Zfv;by_cases h1:x = .zero∨y = .zero
 ·rw[if_pos h1,ZdR];refine⟨fun h=>h.elim,?_⟩;rintro⟨u,v,-,hu,hv⟩;rcases h1 with rfl|rfl
  ·exact hu
  exact hv
 rw[if_neg h1];by_cases h2:x = .one
 ·rw[if_pos h2,ZdR];subst h2;constructor
  ·intro h;exact⟨[],w,rfl,rfl,h⟩
  rintro⟨u,v,rfl,hu,hv⟩;have hu:u=[]:=hu;rw[hu];exact hv
 rw[if_neg h2];by_cases h3:y = .one
 ·rw[if_pos h3,ZdR];subst h3;constructor
  ·intro h;exact⟨w,[],(List.append_nil w).symm,h,rfl⟩
  rintro⟨u,v,rfl,hu,hv⟩;have hv:v=[]:=hv;rw[hv,List.append_nil];exact hu
 rw[if_neg h3]
theorem ZeD (x y:Ex) (w:List Nat):memE (Zhe x y) w↔memE x w∨memE y w:=by
 unfold Zhe;by_cases h1:x = .zero∨x=y
 ·rw[if_pos h1];refine⟨.inr,?_⟩;rintro(h|h)
  ·rcases h1 with rfl|rfl
   ·exact h.elim
   exact h
  exact h
 rw[if_neg h1];by_cases h2:y = .zero
 ·rw[if_pos h2];subst h2;exact⟨.inl,fun h=>h.elim id fun h=>h.elim⟩
 rw[if_neg h2];exact Iff.rfl
theorem ZmV {w:List Nat} {L:List Nat→Prop} (hL:∀ u,L u→u=[]):StarL L w↔w=[]:=by
 constructor
 ·rintro⟨ws,rfl,hw⟩
  induction ws with
  | nil=>rfl
  | cons u ws ih =>rw[List.flatten_cons,hL u (hw u (List.mem_cons_self ..)),ih fun x hx=>hw x (List.mem_cons_of_mem _ hx)];rfl
 rintro rfl;exact⟨[],rfl,by simp⟩
theorem ZlO {L:List Nat→Prop} {w:List Nat}:StarL (StarL L) w↔StarL L w:=by
 constructor
 ·rintro⟨ws,rfl,hw⟩
  induction ws with
  | nil=>exact⟨[],rfl,by simp⟩
  | cons u ws ih =>
   obtain⟨us,hu,h1⟩:=hw u (List.mem_cons_self ..);obtain⟨vs,hv,h2⟩:=ih fun x hx=>hw x (List.mem_cons_of_mem _ hx)
   refine⟨us++vs,?_,fun x hx => ?_⟩
   ·rw[List.flatten_cons,List.flatten_append,hu,hv]
   rcases List.mem_append.1 hx with h|h
   ·exact h1 x h
   exact h2 x h
 intro h;exact⟨[w],by simp,by simpa using h⟩
theorem ZmR (x:Ex) (w:List Nat):memE (Zfs x) w↔memE (.star x) w:=by
 unfold Zfs;by_cases h1:x = .zero∨x = .one
 ·rw[if_pos h1];refine(ZmV (L:=memE x) fun u hu => ?_).symm;rcases h1 with rfl|rfl
  ·exact hu.elim
  exact hu
 rw[if_neg h1]
 split
 ·exact ZlO.symm
 exact Iff.rfl
def isK (es:List (Int × Int)) (k:Int):Bool:=decide (es.length=1)&&decide ((es.getD 0 (0,0)).1=k)
theorem ZnU (t:Ex) (k:Int) (hk:k=1∨k=2):isK t.post k=true↔(k=1∧t = .zero)∨(k=2∧t = .one):=by
 have two:∀ (a b:List (Int × Int)) (p:Int × Int),1≤a.length→1≤b.length→isK (a++b++[p]) k=false:=fun a b p h1 h2=>by unfold isK;rw[decide_eq_false (by rw[List.length_append,List.length_append,List.length_singleton];omega),Bool.false_and]
 have one:∀ (a:List (Int × Int)) (p:Int × Int),1≤a.length→isK (a++[p]) k=false:=fun a p h1=>by unfold isK;rw[decide_eq_false (by rw[List.length_append,List.length_singleton];omega),Bool.false_and]
 have no:∀ t:Ex,t ≠ .zero→t ≠ .one→isK t.post k=false→(isK t.post k=true↔(k=1∧t = .zero)∨(k=2∧t = .one)):=fun t h1 h2 h3=>by rw[h3];exact⟨fun h=>(by cases h),fun h=>h.elim (fun h=>absurd h.2 h1) fun h=>absurd h.2 h2⟩
 cases t with
 | zero =>
  rcases hk with rfl|rfl
  ·exact⟨fun _ => .inl ⟨rfl,rfl⟩,fun _=>rfl⟩
  exact⟨fun h=>absurd h (by decide),fun h=>h.elim (fun h=>absurd h.1 (by decide)) fun h=>(by cases h.2)⟩
 | one =>
  rcases hk with rfl|rfl
  ·exact⟨fun h=>absurd h (by decide),fun h=>h.elim (fun h=>(by cases h.2)) fun h=>absurd h.1 (by decide)⟩
  exact⟨fun _ => .inr ⟨rfl,rfl⟩,fun _=>rfl⟩
 | ltr c =>refine no _ (by simp) (by simp) ?_;unfold isK;rw[decide_eq_false (p:=(((Ex.ltr c).post).getD 0 (0,0)).1=k) (by show ¬ (3:Int)=k;omega),Bool.and_false]
 | join a b=>exact no _ (by simp) (by simp) (two _ _ _ (ZaE a) (ZaE b))
 | alt a b=>exact no _ (by simp) (by simp) (two _ _ _ (ZaE a) (ZaE b))
 | both a b=>exact no _ (by simp) (by simp) (two _ _ _ (ZaE a) (ZaE b))
 | neg a=>exact no _ (by simp) (by simp) (one _ _ (ZaE a))
 | star a=>exact no _ (by simp) (by simp) (one _ _ (ZaE a))
theorem Zep (es:List (Int × Int)) (k:Int) (v:Value) (w:World) (h:Pairs 0 w v es) (r:Bool) (hr:isK es k=r) :
  Calls Tryz.prog 126 #[v,.int .i64 k] w fun e w'=>e = .returned (.bool r)∧w=w':=by
 obtain⟨a,c,rfl,hc1,hc2,hrd⟩:=h.form;clear h;unfold isK at hr;by_cases h1:es.length=1
 ·rw[decide_eq_true h1,Bool.true_and] at hr;obtain⟨b,o,rfl,-,hbl,hcs⟩:=hrd (by omega);have g1:=(hcs 0 (by omega)).1;obtain⟨p,hp⟩:=eI ((es.getD 0 (0,0)).1);rw[← hp] at g1 hr;have g1':w.cell? ⟨b,o,none⟩=some (.int .i64 p):=g1;obtain⟨n,hn⟩:=eI (es.length);rw[← hn] at h1 hc1;rw[← hn];subst h1;replace hn:=qh hn;have Hhp:=qh hp;clear hp;clear hcs hrd g1;by_cases hpk:p=k
  ·rw[decide_eq_true hpk] at hr;subst hr hpk
   go_enter Tryz.func126, Tryz.ntmps126
   go_wp2;go_ret;exact⟨ZaS (by simp),rfl⟩
  rw[decide_eq_false hpk] at hr;subst hr;obtain⟨q1,q2,q3,q4⟩:=Zap hpk
  go_enter Tryz.func126, Tryz.ntmps126
  go_wp2;go_ret;exact⟨rfl,rfl⟩
 rw[decide_eq_false h1,Bool.false_and] at hr;subst hr;have h1I:¬ (es.length:Int)=1:=by omega
 obtain⟨q1,q2,q3,q4⟩:=Zap h1I;clear hrd
 go_enter Tryz.func126, Tryz.ntmps126
 go_wp2;go_ret;exact⟨rfl,rfl⟩
theorem Zma (xs ys:List (Int × Int)) (v1 v2:Value) (w:World) (hl:xs.length≤100000) (h1:Pairs 0 w v1 xs) (h2:Pairs 0 w v2 ys) :
  Calls Tryz.prog 127 #[v1,v2] w fun e w'=>e = .returned (.bool (decide (xs=ys)))∧Below w.heap.size w w':=by
 obtain⟨a1,c1,rfl,hc1,hc2,hr1⟩:=h1.form;obtain⟨a2,c2,rfl,hd1,hd2,hr2⟩:=h2.form;have Hr1:=qh hr1;have Hr2:=qh hr2;clear h1 h2 hr1 hr2;by_cases hln:xs.length=ys.length
 ·obtain⟨n,hn⟩:=eI (xs.length);have hn2:n=ys.length:=hn.trans hln;rw[← hn] at hc1 Hr1 hl ⊢;rw[← hn2] at hd1 Hr2 ⊢;replace hn:=qh hn;have Hhn2:=qh hn2;clear hn2;clear hln
  go_enter Tryz.func127, Tryz.ntmps127
  go_wp2
  go_loopw [5] (fun vi wr=>∃ i:Nat,vi = .int .i64 (i:Int)∧i≤n∧(∀ j,j<i→xs.getD j (0,0)=ys.getD j (0,0))∧Below w.heap.size w wr) (fun vi _=>n-(intOf vi).toNat)
  case atStart=>exact⟨0,rfl,Nat.zero_le _,fun j hj=>by omega,Below.refl _ _⟩
  case round =>
   obtain⟨i,rfl,hi,hsm,hb⟩:=hrel;have Hb:=qh hb;have Hsm:=qh hsm;clear hb hsm;by_cases hlt:i<n
   ·have hi1:(i:Int)<(n:Int):=by omega
    have hw1:IntKind.i64.wrap ((i:Int)+1)=(i:Int)+1:=IntWalk.i64_in _ (by omega);obtain⟨b1,o1,rfl,-,hl1,g1⟩:=Hr1.out (by omega);obtain⟨b2,o2,rfl,-,hl2,g2⟩:=Hr2.out (by omega);have k1:=(bcell Hb.out b1 _ hl1).trans (g1 i hlt).1;have k2:=(bcell Hb.out b1 _ hl1).trans (g1 i hlt).2;have k3:=(bcell Hb.out b2 _ hl2).trans (g2 i hlt).1;have k4:=(bcell Hb.out b2 _ hl2).trans (g2 i hlt).2;by_cases he:xs.getD i (0,0)=ys.getD i (0,0)
    ·rw[← he] at k3 k4;obtain⟨p,hp⟩:=eI (xs.getD i (0,0));rw[← hp] at k1 k2 k3 k4;obtain⟨x,y⟩:=p;simp only at k1 k2 k3 k4;have Hhp:=qh hp;clear hp;replace he:=qh he;clear g1 g2;go_wp2
     go_region
     go_wp2;go_roundw
     case rel =>
      refine⟨i+1,by simp,by omega,fun j hj => ?_,Hb.out.drew⟩;by_cases hji:j<i
      ·exact Hsm.out j hji
      obtain rfl:j=i:=by omega
      exact he.out
     case measure=>simp[intOf];omega
    have hne:decide (xs=ys)=false:=decide_eq_false fun h=>he (by rw[h])
    obtain⟨p,hp⟩:=eI (xs.getD i (0,0));obtain⟨q,hq⟩:=eI (ys.getD i (0,0));rw[← hp] at k1 k2 he;rw[← hq] at k3 k4 he;obtain⟨x,y⟩:=p;obtain⟨x',y'⟩:=q;simp only at k1 k2 k3 k4;have Hhne:=qh hne;clear hne;have Hhp:=qh hp;clear hp;have Hhq:=qh hq;clear hq;clear g1 g2;by_cases hx:x=x'
    ·have hy:y≠y':=fun h=>he (by rw[hx,h])
     subst hx;obtain⟨q1,q2,q3,q4⟩:=Zap hy;replace he:=qh he;go_wp2
     go_region
     go_wp2;go_ret;exact⟨ZaS Hhne.out.symm,Hb.out.drew⟩
    obtain⟨q1,q2,q3,q4⟩:=Zap hx;replace he:=qh he;go_wp2
    go_region
    go_wp2;go_ret;exact⟨ZaS Hhne.out.symm,Hb.out.drew⟩
   obtain rfl:i=n:=by omega
   have hi1:¬ (i:Int)<(i:Int):=by omega
   have hy:decide (xs=ys)=true:=decide_eq_true (List.ext_getElem (by rw[← hn.out,← Hhn2.out]) fun j h1 h2=>by
    have:=Hsm.out j (by rw[hn.out];exact h1)
    rwa [List.getD_eq_getElem?_getD,List.getElem?_eq_getElem h1,List.getD_eq_getElem?_getD,List.getElem?_eq_getElem h2] at this)
   have Hhy:=qh hy;clear hy;go_wp2;go_ret;exact⟨ZaS Hhy.out.symm,Hb.out⟩
 have hne:decide (xs=ys)=false:=decide_eq_false fun h=>hln (by rw[h])
 have hnI:¬ (xs.length:Int)=(ys.length:Int):=by omega
 obtain⟨q1,q2,q3,q4⟩:=Zap hnI;have Hhne:=qh hne;clear hne
 go_enter Tryz.func127, Tryz.ntmps127
 go_wp2;go_ret;exact⟨ZaS Hhne.out.symm,Below.refl _ _⟩
def PtH (E:Ent) (v:Value) (es:List (Int × Int)):Prop:=∀ w,E.holds w→(∀ k,E.foot k→k<w.heap.size)→Pairs 0 w v es
theorem PtH.r {w0 w:World} {L:List Ent} {E:Ent} {v:Value} {es:List (Int × Int)} (h:PtH E v es) (hS:St w0 w L) (i:Nat) (hx:L[i]? = some E):Pairs 0 w v es :=
 h w (hS.has i _ hx).1 fun k hk=>((hS.has i _ hx).2 k hk).2
def ZdV (es:List (Int × Int)):Int:=(es.getD (es.length-1) (0,0)).1
def mkL (k z:Int) (xs ys:List (Int × Int)):List (Int × Int) :=
 if k=4 then(if isK xs 1=true∨isK ys 1=true then [(1,0)] else if isK xs 2=true then ys else if isK ys 2=true then xs else xs++ys++[(k,z)])
 else if k=5 then(if isK xs 1=true∨xs=ys then ys else if isK ys 1=true then xs else xs++ys++[(k,z)])
 else if k=6 then(if isK xs 1=true∨isK ys 1=true then [(1,0)] else if xs=ys then xs else xs++ys++[(k,z)])
 else if k=7 then(if ZdV xs=7 then xs.take (xs.length-1) else xs++ys++[(k,z)])
 else if k=8 then(if isK xs 1=true∨isK xs 2=true then [(2,0)] else if ZdV xs=8 then xs else xs++ys++[(k,z)])
 else xs++ys++[(k,z)]
def RPr (es:List (Int × Int)) (w:World) (e:Ending) (w':World):Prop:=∃ v,e = .returned v∧Pairs 0 w' v es∧Below w.heap.size w w'
def RPm (M xs ys:List (Int × Int)) (v1 v2:Value) (w:World) (e:Ending) (w':World):Prop:=∃ v F,e = .returned v∧St w w' [F]∧∀ u,Pairs 0 u v1 xs→Pairs 0 u v2 ys→F.holds u→Pairs 0 u v M
theorem ZcH {M xs ys:List (Int × Int)} {v1 v2 v:Value} {w w':World} {L:List Ent} (hS:St w w' L) (h:∀ u,Pairs 0 u v1 xs→Pairs 0 u v2 ys→Pairs 0 u v M):RPm M xs ys v1 v2 w (.returned v) w' :=
 ⟨v,Ent.nil,rfl,(hS.pick [] (by decide)).add (Below.refl _ _) Ent.nil trivial fun k hk=>hk.elim,fun u h1 h2 _=>h u h1 h2⟩
theorem ZcC {M xs ys:List (Int × Int)} {v1 v2 v:Value} {w w':World} {X:Ent} (hS:St w w' [X]) (h:∀ u,X.holds u→Pairs 0 u v M):RPm M xs ys v1 v2 w (.returned v) w':=⟨v,X,rfl,hS,fun u _ _ h3=>h u h3⟩
theorem Zkt (k z:Int) (xs ys:List (Int × Int)) (v1 v2:Value) (w:World) (hl1:xs.length≤10000) (hl2:ys.length≤10000) (hne:k=7∨k=8→1≤xs.length) (h1:Pairs 0 w v1 xs) (h2:Pairs 0 w v2 ys) :
  Calls Tryz.prog 91 #[.agg #[.int .i64 k,.int .i64 z],v1,v2] w fun e w'=>RPm (mkL k z xs ys) xs ys v1 v2 w e w':=by
 obtain⟨xa,xc,rfl,hx1,hx2,hxr⟩:=h1.form;obtain⟨ya,yc,rfl,hy1,hy2,hyr⟩:=h2.form;obtain⟨i0,hi,hz0,hz1,hz2⟩:=info_parts Tryz.infoPt;obtain⟨nx,hnx⟩:∃ n,n=xs.length:=⟨_,rfl⟩;obtain⟨ny,hny⟩:∃ n,n=ys.length:=⟨_,rfl⟩;have hnl:nx+ny+1=(xs++ys++[(k,z)]).length:=by rw[List.length_append,List.length_append,hnx,hny];rfl
 rw[← hnx] at hx1 hl1 h1 hxr;rw[← hny] at hy1 hl2 h2 hyr;rw[← hnx,← hny];rw[← hnx] at hne;have HS:=qh ((((St.start w).alloc w.heap.size rfl #[.int .i64 k,.int .i64 z] 55).alloc (w.heap.size+1) (by simp) #[.int .i64 1,.int .i64 0] 55).alloc (w.heap.size+1+1) (by simp) #[.int .i64 2,.int .i64 0] 55);have HX:Hid (Sl 0 w (.slice xa nx xc) nx 2 (xs.flatMap Zab)):=qh (by have:=h1;unfold Pairs at this;rw[← hnx] at this;exact this);have HY:Hid (Sl 0 w (.slice ya ny yc) ny 2 (ys.flatMap Zab)):=qh (by have:=h2;unfold Pairs at this;rw[← hny] at this;exact this);have H1:=qh h1;have H2:=qh h2;have Hxr:=qh hxr;have Hne:=qh hne;have Hhi:=qh hi;clear hi;replace hz0:=qh hz0;have Hhz1:=qh hz1;clear hz1;have Hhz2:=qh hz2;clear hz2;replace hnx:=qh hnx;have Hhny:=qh hny;clear hny;replace hnl:=qh hnl;clear h1 h2 hxr hyr hne
 go_enter Tryz.func91, Tryz.ntmps91
 go_upto_region 3 with fail
 obtain⟨W,hW⟩:=eI (((w.alloc (.cells #[.int .i64 k,.int .i64 z] 55)).alloc (.cells #[.int .i64 1,.int .i64 0] 55)).alloc (.cells #[.int .i64 2,.int .i64 0] 55));rw[← hW] at HS ⊢;clear hW;have e0:=HS.out.cell (v:=.int .i64 k) 0 0 rfl rfl;have e1:=HS.out.cell (v:=.int .i64 z) 0 1 rfl rfl
 go_upto_block 0 with fail
 go_cut [] from 15 to 97 (fun wc=>mkL k z xs ys=xs++ys++[(k,z)]∧St w wc [Ent.box w.heap.size #[.int .i64 k,.int .i64 z] 55,Ent.box (w.heap.size+1) #[.int .i64 1,.int .i64 0] 55,Ent.box (w.heap.size+1+1) #[.int .i64 2,.int .i64 0] 55])
 case first =>
  obtain⟨rx1,rx1'⟩:∃ r,isK xs 1=r:=⟨_,rfl⟩;obtain⟨rx2,rx2'⟩:∃ r,isK xs 2=r:=⟨_,rfl⟩;obtain⟨ry1,ry1'⟩:∃ r,isK ys 1=r:=⟨_,rfl⟩;obtain⟨ry2,ry2'⟩:∃ r,isK ys 2=r:=⟨_,rfl⟩;obtain⟨rs,rs'⟩:∃ r,decide (xs=ys)=r:=⟨_,rfl⟩;have Hx1:=qh (Zep xs 1 (.slice xa nx xc) W (H1.out.below HS.out.bel) rx1 rx1');have Hx2:=qh (Zep xs 2 (.slice xa nx xc) W (H1.out.below HS.out.bel) rx2 rx2');have Hy1:=qh (Zep ys 1 (.slice ya ny yc) W (H2.out.below HS.out.bel) ry1 ry1');have Hy2:=qh (Zep ys 2 (.slice ya ny yc) W (H2.out.below HS.out.bel) ry2 ry2');have hsm:=Zma xs ys (.slice xa nx xc) (.slice ya ny yc) W (by rw[← hnx.out];omega) (H1.out.below HS.out.bel) (H2.out.below HS.out.bel);rw[rs'] at hsm;have Hsm:=qh hsm;have Hyw:=qh (fun (u:World) (hb:Below w.heap.size w u)=>Zep ys 1 (.slice ya ny yc) u (H2.out.below hb) ry1 ry1');have Hhrx1:=qh rx1';have Hhrx2:=qh rx2';have Hhry1:=qh ry1';have Hhry2:=qh ry2';have Hhrs:Hid ((xs=ys)=(rs=true)):=qh (by rw[← rs',decide_eq_true_eq]);clear rx1' rx2' ry1' ry2' rs' hsm;by_cases h4:k=4
  ·subst h4;cases rx1 with
   | true =>
    have hm:mkL 4 z xs ys=[(1,0)]:=by simp[mkL,Hhrx1.out]
    have Hhm:=qh hm;clear hm
    as_aux_lemma =>
    go_wp2_with (first|(go_at_call 126;with_reducible refine(Hx1.out).mono ?_;rintro e w' ⟨rfl,rfl⟩)|(go_at_call 126;with_reducible refine(Hx2.out).mono ?_;rintro e w' ⟨rfl,rfl⟩)|(go_at_call 126;with_reducible refine(Hy1.out).mono ?_;rintro e w' ⟨rfl,rfl⟩)|(go_at_call 126;with_reducible refine(Hy2.out).mono ?_;rintro e w' ⟨rfl,rfl⟩));go_ret;rw[Hhm.out];exact ZcC ((HS.out.boxrow 1 1 2 [.int .i64 1,.int .i64 0] rfl rfl (by unfold maxLen;omega)).pick [1] (by decide)) fun u h=>Zar (xs:=[(1,0)]) h
   | false =>
    cases ry1 with
    | true =>
     have hm:mkL 4 z xs ys=[(1,0)]:=by simp[mkL,Hhrx1.out,Hhry1.out]
     have Hhm:=qh hm;clear hm
     as_aux_lemma =>
     go_wp2_with (first|(go_at_call 126;with_reducible refine(Hx1.out).mono ?_;rintro e w' ⟨rfl,rfl⟩)|(go_at_call 126;with_reducible refine(Hx2.out).mono ?_;rintro e w' ⟨rfl,rfl⟩)|(go_at_call 126;with_reducible refine(Hy1.out).mono ?_;rintro e w' ⟨rfl,rfl⟩)|(go_at_call 126;with_reducible refine(Hy2.out).mono ?_;rintro e w' ⟨rfl,rfl⟩));go_ret;rw[Hhm.out];exact ZcC ((HS.out.boxrow 1 1 2 [.int .i64 1,.int .i64 0] rfl rfl (by unfold maxLen;omega)).pick [1] (by decide)) fun u h=>Zar (xs:=[(1,0)]) h
    | false =>
     cases rx2 with
     | true =>
      have hm:mkL 4 z xs ys=ys:=by simp[mkL,Hhrx1.out,Hhry1.out,Hhrx2.out]
      have Hhm:=qh hm;clear hm
      as_aux_lemma =>
      go_wp2_with (first|(go_at_call 126;with_reducible refine(Hx1.out).mono ?_;rintro e w' ⟨rfl,rfl⟩)|(go_at_call 126;with_reducible refine(Hx2.out).mono ?_;rintro e w' ⟨rfl,rfl⟩)|(go_at_call 126;with_reducible refine(Hy1.out).mono ?_;rintro e w' ⟨rfl,rfl⟩)|(go_at_call 126;with_reducible refine(Hy2.out).mono ?_;rintro e w' ⟨rfl,rfl⟩));go_ret;rw[Hhm.out];exact ZcH HS.out fun u _ h=>h
     | false =>
      cases ry2 with
      | true =>
       have hm:mkL 4 z xs ys=xs:=by simp[mkL,Hhrx1.out,Hhry1.out,Hhrx2.out,Hhry2.out]
       have Hhm:=qh hm;clear hm
       as_aux_lemma =>
       go_wp2_with (first|(go_at_call 126;with_reducible refine(Hx1.out).mono ?_;rintro e w' ⟨rfl,rfl⟩)|(go_at_call 126;with_reducible refine(Hx2.out).mono ?_;rintro e w' ⟨rfl,rfl⟩)|(go_at_call 126;with_reducible refine(Hy1.out).mono ?_;rintro e w' ⟨rfl,rfl⟩)|(go_at_call 126;with_reducible refine(Hy2.out).mono ?_;rintro e w' ⟨rfl,rfl⟩));go_ret;rw[Hhm.out];exact ZcH HS.out fun u h _=>h
      | false =>
       have hm:mkL 4 z xs ys=xs++ys++[(4,z)]:=by simp[mkL,Hhrx1.out,Hhry1.out,Hhrx2.out,Hhry2.out]
       have Hhm:=qh hm;clear hm
       as_aux_lemma =>
       go_wp2_with (first|(go_at_call 126;with_reducible refine(Hx1.out).mono ?_;rintro e w' ⟨rfl,rfl⟩)|(go_at_call 126;with_reducible refine(Hx2.out).mono ?_;rintro e w' ⟨rfl,rfl⟩)|(go_at_call 126;with_reducible refine(Hy1.out).mono ?_;rintro e w' ⟨rfl,rfl⟩)|(go_at_call 126;with_reducible refine(Hy2.out).mono ?_;rintro e w' ⟨rfl,rfl⟩));go_meet;exact⟨Hhm.out,HS.out⟩
  by_cases h5:k=5
  ·subst h5;cases rx1 with
   | true =>
    have hm:mkL 5 z xs ys=ys:=by simp[mkL,Hhrx1.out]
    have Hhm:=qh hm;clear hm
    as_aux_lemma =>
    go_wp2_with (first|(go_at_call 126;with_reducible refine(Hx1.out).mono ?_;rintro e w' ⟨rfl,rfl⟩)|(go_at_call 126;with_reducible refine(Hx2.out).mono ?_;rintro e w' ⟨rfl,rfl⟩)|(go_at_call 126;with_reducible refine(Hy1.out).mono ?_;rintro e w' ⟨rfl,rfl⟩)|(go_at_call 126;with_reducible refine(Hy2.out).mono ?_;rintro e w' ⟨rfl,rfl⟩));go_ret;rw[Hhm.out];exact ZcH HS.out fun u _ h=>h
   | false =>
    cases rs with
    | true =>
     have hm:mkL 5 z xs ys=ys:=by simp[mkL,Hhrx1.out,Hhrs.out]
     have Hhm:=qh hm;clear hm
     as_aux_lemma =>
     go_wp2_with (first|(go_at_call 126;with_reducible refine(Hx1.out).mono ?_;rintro e w' ⟨rfl,rfl⟩)|(go_at_call 126;with_reducible refine(Hx2.out).mono ?_;rintro e w' ⟨rfl,rfl⟩)|(go_at_call 126;with_reducible refine(Hy1.out).mono ?_;rintro e w' ⟨rfl,rfl⟩)|(go_at_call 126;with_reducible refine(Hy2.out).mono ?_;rintro e w' ⟨rfl,rfl⟩)|(go_at_call 127;refine(Hsm.out).mono ?_;rintro e w3 ⟨rfl,hb3⟩;have HS3:=qh (HS.out.call hb3);clear hb3)|(go_at_call 126;refine(Hyw.out _ HS3.out.bel).mono ?_;rintro e w' ⟨rfl,rfl⟩));go_ret;rw[Hhm.out];exact ZcH HS3.out fun u _ h=>h
    | false =>
     cases ry1 with
     | true =>
      have hm:mkL 5 z xs ys=xs:=by simp[mkL,Hhrx1.out,Hhrs.out,Hhry1.out]
      have Hhm:=qh hm;clear hm
      as_aux_lemma =>
      go_wp2_with (first|(go_at_call 126;with_reducible refine(Hx1.out).mono ?_;rintro e w' ⟨rfl,rfl⟩)|(go_at_call 126;with_reducible refine(Hx2.out).mono ?_;rintro e w' ⟨rfl,rfl⟩)|(go_at_call 126;with_reducible refine(Hy1.out).mono ?_;rintro e w' ⟨rfl,rfl⟩)|(go_at_call 126;with_reducible refine(Hy2.out).mono ?_;rintro e w' ⟨rfl,rfl⟩)|(go_at_call 127;refine(Hsm.out).mono ?_;rintro e w3 ⟨rfl,hb3⟩;have HS3:=qh (HS.out.call hb3);clear hb3)|(go_at_call 126;refine(Hyw.out _ HS3.out.bel).mono ?_;rintro e w' ⟨rfl,rfl⟩));go_ret;rw[Hhm.out];exact ZcH HS3.out fun u h _=>h
     | false =>
      have hm:mkL 5 z xs ys=xs++ys++[(5,z)]:=by simp[mkL,Hhrx1.out,Hhrs.out,Hhry1.out]
      have Hhm:=qh hm;clear hm
      as_aux_lemma =>
      go_wp2_with (first|(go_at_call 126;with_reducible refine(Hx1.out).mono ?_;rintro e w' ⟨rfl,rfl⟩)|(go_at_call 126;with_reducible refine(Hx2.out).mono ?_;rintro e w' ⟨rfl,rfl⟩)|(go_at_call 126;with_reducible refine(Hy1.out).mono ?_;rintro e w' ⟨rfl,rfl⟩)|(go_at_call 126;with_reducible refine(Hy2.out).mono ?_;rintro e w' ⟨rfl,rfl⟩)|(go_at_call 127;refine(Hsm.out).mono ?_;rintro e w3 ⟨rfl,hb3⟩;have HS3:=qh (HS.out.call hb3);clear hb3)|(go_at_call 126;refine(Hyw.out _ HS3.out.bel).mono ?_;rintro e w' ⟨rfl,rfl⟩));go_meet;exact⟨Hhm.out,HS3.out⟩
  by_cases h6:k=6
  ·subst h6;cases rx1 with
   | true =>
    have hm:mkL 6 z xs ys=[(1,0)]:=by simp[mkL,Hhrx1.out]
    have Hhm:=qh hm;clear hm
    as_aux_lemma =>
    go_wp2_with (first|(go_at_call 126;with_reducible refine(Hx1.out).mono ?_;rintro e w' ⟨rfl,rfl⟩)|(go_at_call 126;with_reducible refine(Hx2.out).mono ?_;rintro e w' ⟨rfl,rfl⟩)|(go_at_call 126;with_reducible refine(Hy1.out).mono ?_;rintro e w' ⟨rfl,rfl⟩)|(go_at_call 126;with_reducible refine(Hy2.out).mono ?_;rintro e w' ⟨rfl,rfl⟩));go_ret;rw[Hhm.out];exact ZcC ((HS.out.boxrow 1 1 2 [.int .i64 1,.int .i64 0] rfl rfl (by unfold maxLen;omega)).pick [1] (by decide)) fun u h=>Zar (xs:=[(1,0)]) h
   | false =>
    cases ry1 with
    | true =>
     have hm:mkL 6 z xs ys=[(1,0)]:=by simp[mkL,Hhrx1.out,Hhry1.out]
     have Hhm:=qh hm;clear hm
     as_aux_lemma =>
     go_wp2_with (first|(go_at_call 126;with_reducible refine(Hx1.out).mono ?_;rintro e w' ⟨rfl,rfl⟩)|(go_at_call 126;with_reducible refine(Hx2.out).mono ?_;rintro e w' ⟨rfl,rfl⟩)|(go_at_call 126;with_reducible refine(Hy1.out).mono ?_;rintro e w' ⟨rfl,rfl⟩)|(go_at_call 126;with_reducible refine(Hy2.out).mono ?_;rintro e w' ⟨rfl,rfl⟩));go_ret;rw[Hhm.out];exact ZcC ((HS.out.boxrow 1 1 2 [.int .i64 1,.int .i64 0] rfl rfl (by unfold maxLen;omega)).pick [1] (by decide)) fun u h=>Zar (xs:=[(1,0)]) h
    | false =>
     cases rs with
     | true =>
      have hm:mkL 6 z xs ys=xs:=by simp[mkL,Hhrx1.out,Hhry1.out,Hhrs.out]
      have Hhm:=qh hm;clear hm
      as_aux_lemma =>
      go_wp2_with (first|(go_at_call 126;with_reducible refine(Hx1.out).mono ?_;rintro e w' ⟨rfl,rfl⟩)|(go_at_call 126;with_reducible refine(Hx2.out).mono ?_;rintro e w' ⟨rfl,rfl⟩)|(go_at_call 126;with_reducible refine(Hy1.out).mono ?_;rintro e w' ⟨rfl,rfl⟩)|(go_at_call 126;with_reducible refine(Hy2.out).mono ?_;rintro e w' ⟨rfl,rfl⟩)|(go_at_call 127;refine(Hsm.out).mono ?_;rintro e w3 ⟨rfl,hb3⟩;have HS3:=qh (HS.out.call hb3);clear hb3)|(go_at_call 126;refine(Hyw.out _ HS3.out.bel).mono ?_;rintro e w' ⟨rfl,rfl⟩));go_ret;rw[Hhm.out];exact ZcH HS3.out fun u h _=>h
     | false =>
      have hm:mkL 6 z xs ys=xs++ys++[(6,z)]:=by simp[mkL,Hhrx1.out,Hhry1.out,Hhrs.out]
      have Hhm:=qh hm;clear hm
      as_aux_lemma =>
      go_wp2_with (first|(go_at_call 126;with_reducible refine(Hx1.out).mono ?_;rintro e w' ⟨rfl,rfl⟩)|(go_at_call 126;with_reducible refine(Hx2.out).mono ?_;rintro e w' ⟨rfl,rfl⟩)|(go_at_call 126;with_reducible refine(Hy1.out).mono ?_;rintro e w' ⟨rfl,rfl⟩)|(go_at_call 126;with_reducible refine(Hy2.out).mono ?_;rintro e w' ⟨rfl,rfl⟩)|(go_at_call 127;refine(Hsm.out).mono ?_;rintro e w3 ⟨rfl,hb3⟩;have HS3:=qh (HS.out.call hb3);clear hb3)|(go_at_call 126;refine(Hyw.out _ HS3.out.bel).mono ?_;rintro e w' ⟨rfl,rfl⟩));go_meet;exact⟨Hhm.out,HS3.out⟩
  by_cases h7:k=7
  ·subst h7;obtain⟨b,o,rfl,-,hbl,hcs⟩:=Hxr.out (by have:=Hne.out (by omega);omega);have hnp:1≤nx:=Hne.out (by omega);have g:=(hcs (nx-1) (by omega)).1;obtain⟨m,hm'⟩:∃ m,nx=m+1:=⟨nx-1,by omega⟩;have hL:(xs.getD (nx-1) (0,0)).1=ZdV xs:=by rw[hnx.out];rfl
   rw[hL] at g;obtain⟨L,hLL⟩:=eJ (ZdV xs);rw[hLL] at g;rw[show nx-1=m by omega] at g;have g':=(bcell HS.out.bel b _ hbl).trans g;have hmI:(nx:Int)-1=(m:Int):=by omega
   have hmw:IntKind.i64.wrap (m:Int)=(m:Int):=IntWalk.i64_in _ (by omega);have hm2:(m:Int)<(nx:Int):=by omega
   have HhLL:=qh hLL;clear hLL;have Hhm':=qh hm';clear hm';replace hL:=qh hL;clear g hcs;by_cases hLk:L=7
   ·subst hLk;have hm:mkL 7 z xs ys=xs.take (xs.length-1):=by simp[mkL,HhLL.out]
    have Hhm:=qh hm;clear hm
    as_aux_lemma =>
    go_wp2_with (first|(go_at_call 126;with_reducible refine(Hx1.out).mono ?_;rintro e w' ⟨rfl,rfl⟩)|(go_at_call 126;with_reducible refine(Hx2.out).mono ?_;rintro e w' ⟨rfl,rfl⟩)|(go_at_call 126;with_reducible refine(Hy1.out).mono ?_;rintro e w' ⟨rfl,rfl⟩)|(go_at_call 126;with_reducible refine(Hy2.out).mono ?_;rintro e w' ⟨rfl,rfl⟩));go_ret;rw[Hhm.out];exact ZcH HS.out fun u h1 _=>by have h:=h1.take (n:=m) (by have h1:=hnx.out;have h2:=Hhm'.out;omega);rw[← hnx.out,Hhm'.out];exact h
   obtain⟨q1,q2,q3,q4⟩:=Zap hLk;have HhLk:=qh hLk;clear hLk;have hm:mkL 7 z xs ys=xs++ys++[(7,z)]:=by simp[mkL,HhLL.out,HhLk.out]
   have Hhm:=qh hm;clear hm
   as_aux_lemma =>
   go_wp2_with (first|(go_at_call 126;with_reducible refine(Hx1.out).mono ?_;rintro e w' ⟨rfl,rfl⟩)|(go_at_call 126;with_reducible refine(Hx2.out).mono ?_;rintro e w' ⟨rfl,rfl⟩)|(go_at_call 126;with_reducible refine(Hy1.out).mono ?_;rintro e w' ⟨rfl,rfl⟩)|(go_at_call 126;with_reducible refine(Hy2.out).mono ?_;rintro e w' ⟨rfl,rfl⟩));go_meet;exact⟨Hhm.out,HS.out⟩
  by_cases h8:k=8
  ·subst h8;cases rx1 with
   | true =>
    have hm:mkL 8 z xs ys=[(2,0)]:=by simp[mkL,Hhrx1.out]
    have Hhm:=qh hm;clear hm
    as_aux_lemma =>
    go_wp2_with (first|(go_at_call 126;with_reducible refine(Hx1.out).mono ?_;rintro e w' ⟨rfl,rfl⟩)|(go_at_call 126;with_reducible refine(Hx2.out).mono ?_;rintro e w' ⟨rfl,rfl⟩)|(go_at_call 126;with_reducible refine(Hy1.out).mono ?_;rintro e w' ⟨rfl,rfl⟩)|(go_at_call 126;with_reducible refine(Hy2.out).mono ?_;rintro e w' ⟨rfl,rfl⟩));go_ret;rw[Hhm.out];exact ZcC ((HS.out.boxrow 2 1 2 [.int .i64 2,.int .i64 0] rfl rfl (by unfold maxLen;omega)).pick [2] (by decide)) fun u h=>Zar (xs:=[(2,0)]) h
   | false =>
    cases rx2 with
    | true =>
     have hm:mkL 8 z xs ys=[(2,0)]:=by simp[mkL,Hhrx1.out,Hhrx2.out]
     have Hhm:=qh hm;clear hm
     as_aux_lemma =>
     go_wp2_with (first|(go_at_call 126;with_reducible refine(Hx1.out).mono ?_;rintro e w' ⟨rfl,rfl⟩)|(go_at_call 126;with_reducible refine(Hx2.out).mono ?_;rintro e w' ⟨rfl,rfl⟩)|(go_at_call 126;with_reducible refine(Hy1.out).mono ?_;rintro e w' ⟨rfl,rfl⟩)|(go_at_call 126;with_reducible refine(Hy2.out).mono ?_;rintro e w' ⟨rfl,rfl⟩));go_ret;rw[Hhm.out];exact ZcC ((HS.out.boxrow 2 1 2 [.int .i64 2,.int .i64 0] rfl rfl (by unfold maxLen;omega)).pick [2] (by decide)) fun u h=>Zar (xs:=[(2,0)]) h
    | false =>
     obtain⟨b,o,rfl,-,hbl,hcs⟩:=Hxr.out (by have:=Hne.out (by omega);omega);have hnp:1≤nx:=Hne.out (by omega);have g:=(hcs (nx-1) (by omega)).1;obtain⟨m,hm'⟩:∃ m,nx=m+1:=⟨nx-1,by omega⟩;have hL:(xs.getD (nx-1) (0,0)).1=ZdV xs:=by rw[hnx.out];rfl
     rw[hL] at g;obtain⟨L,hLL⟩:=eJ (ZdV xs);rw[hLL] at g;rw[show nx-1=m by omega] at g;have g':=(bcell HS.out.bel b _ hbl).trans g;have hmI:(nx:Int)-1=(m:Int):=by omega
     have hmw:IntKind.i64.wrap (m:Int)=(m:Int):=IntWalk.i64_in _ (by omega);have hm2:(m:Int)<(nx:Int):=by omega
     have HhLL:=qh hLL;clear hLL;have Hhm':=qh hm';clear hm';replace hL:=qh hL;clear g hcs;by_cases hLk:L=8
     ·subst hLk;have hm:mkL 8 z xs ys=xs:=by simp[mkL,Hhrx1.out,Hhrx2.out,HhLL.out]
      have Hhm:=qh hm;clear hm
      as_aux_lemma =>
      go_wp2_with (first|(go_at_call 126;with_reducible refine(Hx1.out).mono ?_;rintro e w' ⟨rfl,rfl⟩)|(go_at_call 126;with_reducible refine(Hx2.out).mono ?_;rintro e w' ⟨rfl,rfl⟩)|(go_at_call 126;with_reducible refine(Hy1.out).mono ?_;rintro e w' ⟨rfl,rfl⟩)|(go_at_call 126;with_reducible refine(Hy2.out).mono ?_;rintro e w' ⟨rfl,rfl⟩));go_ret;rw[Hhm.out];exact ZcH HS.out fun u h _=>h
     obtain⟨q1,q2,q3,q4⟩:=Zap hLk;have HhLk:=qh hLk;clear hLk;have hm:mkL 8 z xs ys=xs++ys++[(8,z)]:=by simp[mkL,Hhrx1.out,Hhrx2.out,HhLL.out,HhLk.out]
     have Hhm:=qh hm;clear hm
     as_aux_lemma =>
     go_wp2_with (first|(go_at_call 126;with_reducible refine(Hx1.out).mono ?_;rintro e w' ⟨rfl,rfl⟩)|(go_at_call 126;with_reducible refine(Hx2.out).mono ?_;rintro e w' ⟨rfl,rfl⟩)|(go_at_call 126;with_reducible refine(Hy1.out).mono ?_;rintro e w' ⟨rfl,rfl⟩)|(go_at_call 126;with_reducible refine(Hy2.out).mono ?_;rintro e w' ⟨rfl,rfl⟩));go_meet;exact⟨Hhm.out,HS.out⟩
  obtain⟨a4,b4,c4,d4⟩:=Zap h4;obtain⟨a5,b5,c5,d5⟩:=Zap h5;obtain⟨a6,b6,c6,d6⟩:=Zap h6;obtain⟨a7,b7,c7,d7⟩:=Zap h7;obtain⟨a8,b8,c8,d8⟩:=Zap h8;replace h4:=qh h4;have Hh5:=qh h5;clear h5;have Hh6:=qh h6;clear h6;have Hh7:=qh h7;clear h7;have Hh8:=qh h8;clear h8;have hm:mkL k z xs ys=xs++ys++[(k,z)]:=by simp[mkL,h4.out,Hh5.out,Hh6.out,Hh7.out,Hh8.out]
  have Hhm:=qh hm;clear hm
  as_aux_lemma =>
  go_wp2_with (first|(go_at_call 126;with_reducible refine(Hx1.out).mono ?_;rintro e w' ⟨rfl,rfl⟩)|(go_at_call 126;with_reducible refine(Hx2.out).mono ?_;rintro e w' ⟨rfl,rfl⟩)|(go_at_call 126;with_reducible refine(Hy1.out).mono ?_;rintro e w' ⟨rfl,rfl⟩)|(go_at_call 126;with_reducible refine(Hy2.out).mono ?_;rintro e w' ⟨rfl,rfl⟩));go_meet;exact⟨Hhm.out,HS.out⟩
 case rest =>
  obtain⟨hdf,hSc⟩:=hcut;have HSc:=qh hSc;have Hhdf:=qh hdf;clear hdf;clear hSc HS;go_wp2;refine wp_region_any (by kernel_rfl) ?_
  refine Zao (fun A listed a w'=>∃ (l0 l1 l2 l3 l4 l5 l6 l7 l8:Bool) (b7:Nat) (g1:Option Addr) (d1:Nat) (g2:Option Addr) (d2:Nat) (b8:Nat) (g3:Option Addr) (d3:Nat),listed=#[l0,l1,l2,l3,l4,l5,l6,l7,l8]∧(l2=true→l0=true∧l1=true)∧(l4=true→l2=true∧l3=true)∧(l6=true→l5=true)∧(l7=true→l4=true∧l6=true)∧(l8=true→l7=true) ∧
    a=⟨(((((((((A.tmps.setIfInBounds 98 (if l0=true then .slice (some ⟨b7,0,none⟩) 0 0 else A.tmps.getD 98 undef)).setIfInBounds 99 (if l1=true then .slice xa nx xc else A.tmps.getD 99 undef)).setIfInBounds 100 (if l2=true then .slice g1 nx d1 else A.tmps.getD 100 undef)).setIfInBounds 101 (if l3=true then .slice ya ny yc else A.tmps.getD 101 undef)).setIfInBounds 102 (if l4=true then .slice g2 (nx+ny) d2 else A.tmps.getD 102 undef)).setIfInBounds 103 (if l5=true then .agg #[.int .i64 k,.int .i64 z] else A.tmps.getD 103 undef)).setIfInBounds 104 (if l6=true then .slice (some ⟨b8,0,none⟩) 1 1 else A.tmps.getD 104 undef)).setIfInBounds 105 (if l7=true then .slice g3 (nx+ny+1) d3 else A.tmps.getD 105 undef)).setIfInBounds 6 (if l8=true then .slice g3 (nx+ny+1) d3 else A.tmps.getD 6 undef)),A.defers⟩ ∧
    St w w' [Ent.box w.heap.size #[.int .i64 k,.int .i64 z] 55,(if l0=true then(if l2=true then(if l4=true then(if l7=true then Ent.row 55 2 (.slice g3 (nx+ny+1) d3) (nx+ny+1) ((xs.flatMap Zab)++(ys.flatMap Zab)++[.int .i64 k,.int .i64 z]) else Ent.row 55 2 (.slice g2 (nx+ny) d2) (nx+ny) ((xs.flatMap Zab)++(ys.flatMap Zab))) else Ent.row 55 2 (.slice g1 nx d1) nx (xs.flatMap Zab)) else Ent.row 55 2 (.slice (some ⟨b7,0,none⟩) 0 0) 0 []) else Ent.nil),(if l6=true then Ent.row 55 2 (.slice (some ⟨b8,0,none⟩) 1 1) 1 [.int .i64 k,.int .i64 z] else Ent.nil)]) ?_ ?_ ?_
  ·rintro listed a w' ⟨l0,l1,l2,l3,l4,l5,l6,l7,l8,b7,g1,d1,g2,d2,b8,g3,d3,rfl,hd2,hd4,hd6,hd7,hd8,rfl,hS⟩ i hi;obtain⟨hun,o,ho,hall⟩:=mem_ready.1 hi;have hlt:=(Array.getElem?_eq_some_iff.1 ho).1;refine wpOp_step ho (fun K hK => ?_);clear hi;have HS:=qh hS;clear hS;simp only[w_1,w_2,w_3,w_4,w_5,w_6,w_7,w_8];obtain h|h|h|h|h|h|h|h|h:i=0∨i=1∨i=2∨i=3∨i=4∨i=5∨i=6∨i=7∨i=8:=by simp at hlt;omega
   all_goals subst h
   all_goals simp only[w_5,w_6,w_7,w_9] at ho
   all_goals subst ho
   all_goals simp[Region.binds] at hun hall
   ·subst hun;obtain rfl:l2=false:=offL hd2 rfl;obtain rfl:l4=false:=offL hd4 rfl;obtain rfl:l7=false:=offL hd7 rfl;obtain rfl:l8=false:=by cases l8 with|false=>rfl|true=>simpa using hd8 rfl
    have hS2:=((HS.out.alloc _ rfl #[] 55).boxrow 3 0 2 [] rfl rfl (Nat.zero_le _)).pick [0,3,2] (by decide);have HhS2:=qh hS2;clear hS2;go_simp;exact hK _ _ ⟨_,_,_,_,_,_,_,_,_,_,g1,d1,g2,d2,b8,g3,d3,rfl,by simp,by simp,hd6,by simp,by simp,(by simp),HhS2.out⟩
   ·subst hun;obtain rfl:l2=false:=offR hd2 rfl;obtain rfl:l4=false:=offL hd4 rfl;obtain rfl:l7=false:=offL hd7 rfl;obtain rfl:l8=false:=by cases l8 with|false=>rfl|true=>simpa using hd8 rfl
    go_simp;exact hK _ _ ⟨_,_,_,_,_,_,_,_,_,b7,g1,d1,g2,d2,b8,g3,d3,rfl,by simp,by simp,hd6,by simp,by simp,(by simp),HS.out⟩
   ·obtain⟨rfl,rfl⟩:=hall;subst hun;obtain rfl:l4=false:=offL hd4 rfl;obtain rfl:l7=false:=offL hd7 rfl;obtain rfl:l8=false:=by cases l8 with|false=>rfl|true=>simpa using hd8 rfl
    refine Zbo (a:=⟨_,_⟩) _ (by rfl) _ _ _ (by rfl) w.heap.size 55 i0 (.agg #[.int .i64 0,.int .i64 0]) 2 16 Tryz.underlying23 Hhi.out hz0.out Hhz1.out Hhz2.out (by rfl) (by omega) (.slice (some ⟨b7,0,none⟩) 0 0) (0) ([]) (by rfl) (HS.out.row 1 rfl) (.slice xa nx xc) (nx) ((xs.flatMap Zab)) (by rfl) (HX.out.below HS.out.bel) Zdu (by unfold maxLen;omega) (by omega) HS.out.size ?_;intro a9 c9 w6 hown6 hgrow6 hat6;have hS6:=HS.out.appS 1 rfl hown6 hgrow6 hat6
    (try simp only[Nat.zero_add,List.nil_append] at hS6)
    (try simp only[Nat.zero_add])
    have HS6:=qh hS6;clear hown6 hgrow6 hat6 hS6;go_simp;exact hK _ _ ⟨_,_,_,_,_,_,_,_,_,b7,a9,c9,g2,d2,b8,g3,d3,rfl,by simp,by simp,hd6,by simp,by simp,(by simp),HS6.out⟩
   ·subst hun;obtain rfl:l4=false:=offR hd4 rfl;obtain rfl:l7=false:=offL hd7 rfl;obtain rfl:l8=false:=by cases l8 with|false=>rfl|true=>simpa using hd8 rfl
    go_simp;exact hK _ _ ⟨_,_,_,_,_,_,_,_,_,b7,g1,d1,g2,d2,b8,g3,d3,rfl,hd2,by simp,hd6,by simp,by simp,(by simp),HS.out⟩
   ·obtain⟨rfl,rfl,-⟩:=hall;subst hun;obtain⟨rfl,rfl⟩:=hd2 rfl;obtain rfl:l7=false:=offL hd7 rfl;obtain rfl:l8=false:=by cases l8 with|false=>rfl|true=>simpa using hd8 rfl
    refine Zbo (a:=⟨_,_⟩) _ (by rfl) _ _ _ (by rfl) w.heap.size 55 i0 (.agg #[.int .i64 0,.int .i64 0]) 2 16 Tryz.underlying23 Hhi.out hz0.out Hhz1.out Hhz2.out (by rfl) (by omega) (.slice g1 nx d1) (nx) ((xs.flatMap Zab)) (by rfl) (HS.out.row 1 rfl) (.slice ya ny yc) (ny) ((ys.flatMap Zab)) (by rfl) (HY.out.below HS.out.bel) Zdu (by unfold maxLen;omega) (by omega) HS.out.size ?_;intro a9 c9 w6 hown6 hgrow6 hat6;have hS6:=HS.out.appS 1 rfl hown6 hgrow6 hat6
    (try simp only[] at hS6)
    (try simp only[])
    have HS6:=qh hS6;clear hown6 hgrow6 hat6 hS6;go_simp;exact hK _ _ ⟨_,_,_,_,_,_,_,_,_,b7,g1,d1,a9,c9,b8,g3,d3,rfl,by simp,by simp,hd6,by simp,by simp,(by simp),HS6.out⟩
   ·subst hun;obtain rfl:l6=false:=by cases l6 with|false=>rfl|true=>simpa using hd6 rfl
    obtain rfl:l7=false:=offR hd7 rfl;obtain rfl:l8=false:=by cases l8 with|false=>rfl|true=>simpa using hd8 rfl
    have e0:=HS.out.cell (v:=.int .i64 k) 0 0 rfl rfl;have e1:=HS.out.cell (v:=.int .i64 z) 0 1 rfl rfl;go_simp;exact hK _ _ ⟨_,_,_,_,_,_,_,_,_,b7,g1,d1,g2,d2,b8,g3,d3,rfl,hd2,hd4,by simp,by simp,by simp,(by simp),HS.out⟩
   ·obtain rfl:=hall;subst hun;obtain rfl:l7=false:=offR hd7 rfl;obtain rfl:l8=false:=by cases l8 with|false=>rfl|true=>simpa using hd8 rfl
    have hS2:=((HS.out.alloc _ rfl #[.int .i64 k,.int .i64 z] 55).boxrow 3 1 2 [.int .i64 k,.int .i64 z] rfl rfl (by unfold maxLen;omega)).pick [0,1,3] (by decide);have HhS2:=qh hS2;clear hS2;go_simp;exact hK _ _ ⟨_,_,_,_,_,_,_,_,_,b7,g1,d1,g2,d2,_,g3,d3,rfl,hd2,hd4,by simp,by simp,by simp,(by simp),HhS2.out⟩
   ·obtain⟨rfl,rfl,-⟩:=hall;subst hun;obtain⟨rfl,rfl⟩:=hd4 rfl;obtain rfl:=hd6 rfl;obtain⟨rfl,rfl⟩:=hd2 rfl;obtain rfl:l8=false:=by cases l8 with|false=>rfl|true=>simpa using hd8 rfl
    refine Zbo (a:=⟨_,_⟩) _ (by rfl) _ _ _ (by rfl) w.heap.size 55 i0 (.agg #[.int .i64 0,.int .i64 0]) 2 16 Tryz.underlying23 Hhi.out hz0.out Hhz1.out Hhz2.out (by rfl) (by omega) (.slice g2 (nx+ny) d2) (nx+ny) ((xs.flatMap Zab)++(ys.flatMap Zab)) (by rfl) (HS.out.row 1 rfl) (.slice (some ⟨b8,0,none⟩) 1 1) (1) ([.int .i64 k,.int .i64 z]) (by rfl) ((Zaa (HS.out.row 2 rfl)).sl (by omega) |>.mono (Nat.zero_le _)) ZeX (by unfold maxLen;omega) (by omega) HS.out.size ?_;intro a9 c9 w6 hown6 hgrow6 hat6;have hS6:=HS.out.appS 1 rfl hown6 hgrow6 hat6
    (try simp only[] at hS6)
    (try simp only[])
    have HS6:=qh hS6;clear hown6 hgrow6 hat6 hS6;go_simp;exact hK _ _ ⟨_,_,_,_,_,_,_,_,_,b7,g1,d1,g2,d2,b8,a9,c9,rfl,by simp,by simp,by simp,by simp,by simp,(by simp),HS6.out⟩
   obtain⟨rfl,rfl,rfl,rfl,rfl,rfl,rfl,rfl,-⟩:=hall;subst hun;go_simp;exact hK _ _ ⟨_,_,_,_,_,_,_,_,_,b7,g1,d1,g2,d2,b8,g3,d3,rfl,by simp,by simp,by simp,by simp,by simp,(by simp),HS.out⟩
  ·rintro listed a w' ⟨l0,l1,l2,l3,l4,l5,l6,l7,l8,b7,g1,d1,g2,d2,b8,g3,d3,rfl,hd2,hd4,hd6,hd7,hd8,rfl,hS⟩ hr;obtain⟨rfl,rfl,rfl,rfl,rfl,rfl,rfl,rfl,rfl,-⟩:=zA (ZaG (by kernel_rfl) rfl hr) rfl;clear hr hd2 hd4 hd6 hd7 hd8;simp only[↓reduceIte] at hS ⊢;simp only[w_1,w_2,w_3];have HSf:=qh hS;clear hS;go_wp2;go_ret;rw[Hhdf.out];refine ZcC (HSf.out.pick [1] (by decide)) fun u hr => ?_
   have hr:u.ownsRow 0 55 2 (.slice g3 (nx+ny+1) d3) (nx+ny+1) ((xs.flatMap Zab)++(ys.flatMap Zab)++[.int .i64 k,.int .i64 z]):=hr;rw[← List.flatMap_append,show([.int .i64 k,.int .i64 z]:List Value)=[(k,z)].flatMap Zab from rfl,← List.flatMap_append,hnl.out] at hr;rw[hnl.out];exact Zar hr
  refine⟨false,false,false,false,false,false,false,false,false,0,none,0,none,0,0,none,0,rfl,by simp,by simp,by simp,by simp,by simp,(by simp),?_⟩;exact HSc.out.drew.pick [0,3,4] (by decide)
theorem Zmb (k z:Int) (xs ys:List (Int × Int)) (v1 v2:Value) (w:World) (hl1:xs.length≤10000) (hl2:ys.length≤10000) (hne:k=7∨k=8→1≤xs.length) (h1:Pairs 0 w v1 xs) (h2:Pairs 0 w v2 ys) :
  Calls Tryz.prog 91 #[.agg #[.int .i64 k,.int .i64 z],v1,v2] w fun e w'=>RPr (mkL k z xs ys) w e w':=by
 refine(Zkt k z xs ys v1 v2 w hl1 hl2 hne h1 h2).mono ?_;rintro e w' ⟨v,F,rfl,hS,hF⟩;exact⟨v,rfl,hF w' (h1.below hS.bel) (h2.below hS.bel) (hS.has 0 F rfl).1,hS.bel⟩
end Go.Proofs.YtehmjmjedopkkaaGreat
