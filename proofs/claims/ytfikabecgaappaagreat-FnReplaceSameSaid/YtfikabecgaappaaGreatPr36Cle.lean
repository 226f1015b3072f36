/-
  The walks over the reference's l20Long and l20Finite: a text; an automaton of few words.
  Condition: the reader stands over bytes.
-/
import Derived.Test.YtfikabecgaappaaGreatPr29Wsx
import Derived.Test.YtfikabecgaappaaGreatPr35Jg
set_option maxHeartbeats 8000000
set_option maxRecDepth 100000
namespace Go.Proofs.YtfikabecgaappaaGreat
open Go.RowKit
theorem Zmo (u:List Nat) (v:ByteArray) (lv:List Nat) (hv:v=txB lv) (hu:u.length≤1000) (hl:lv.length≤1000):(∀ w':World,(Op.stringOp .add (txB u) v).run Tryz.prog w' = .ok (.string (txB (u++lv))) w')∧¬ 9223372036854775807<(txB u).size+v.size:=by subst hv;rw[← Zdi];exact Zio u (txB lv) hu (by rw[ZaE];exact hl)
theorem ZdT {u v:List Nat} (h:isT u) (h':isT v):isT (u++v):=fun b hb=>by
 rcases List.mem_append.1 hb with hb|hb
 ·exact h b hb
 exact h' b hb
theorem Zh2 {l:List Nat} (h:isT l) (k:Nat):isT (l.take k):=fun b hb=>h b (List.mem_of_mem_take hb)
theorem Zop:isT [100]:=fun b hb=>by rw[List.mem_singleton] at hb;subst hb;decide
theorem Zoq:isT (List.replicate 31 97):=fun b hb=>by rw[List.mem_replicate] at hb;rw[hb.2];decide
theorem ZiQ (bs:List Nat) (vb:Value) (b p n:Nat) (w0 w:World) (X:Ent) (hb:Bytes 0 w0 vb bs) (hlen:bs.length≤2000) (hp:p≤700000) (hn1:n≤10000) (hS:St w0 w [RdE b vb p,X]) :
  Calls Tryz.prog 69 #[.pointer (some ⟨b,0,none⟩),.int .i64 ((n:Nat):Int)] w fun e w'=>∃ (l:List Nat) (p':Nat),isT l∧l.length≤200∧p'≤p+100∧e = .returned (.string (txB l))∧St w0 w' [RdE b vb p',X]:=by
 have Hb:=qh hb;have HS0:=qh hS;clear hb hS
 go_enter Tryz.func69, Tryz.ntmps69
 go_wp2_with fail;refine(ZbN bs vb b p 0 w0 _ X Hb.out hlen (by omega) (by omega) HS0.out).mono ?_;rintro e w1 ⟨l1,p1,ht1,hl1,hp1,rfl,hS1⟩;have HS1:=qh hS1;have Hht1:=qh ht1;clear ht1;clear hS1 HS0;go_wp2_with fail;refine(ZbN bs vb b p1 0 w0 _ X Hb.out hlen (by omega) (by omega) HS1.out).mono ?_;rintro e w2 ⟨l2,p2,ht2,hl2,hp2,rfl,hS2⟩;have HS2:=qh hS2;obtain⟨a1,a2⟩:=Zmo l1 (txB l2) l2 rfl (by omega) (by omega);replace ht2:=qh ht2;clear hS2 HS1;go_wp2_with fail;refine(ZbN bs vb b p2 0 w0 _ X Hb.out hlen (by omega) (by omega) HS2.out).mono ?_;rintro e w3 ⟨l3,p3,ht3,hl3,hp3,rfl,hS3⟩;have HS3:=qh hS3;have ht:isT (l1++l2++l3):=ZdT (ZdT Hht1.out ht2.out) ht3;have hll:(l1++l2++l3).length≤30:=by rw[List.length_append,List.length_append];omega
 obtain⟨a3,a4⟩:=Zmo (l1++l2) (txB l3) l3 rfl (by rw[List.length_append];omega) (by omega);obtain⟨s,hs⟩:=eI (l1++l2++l3);rw[← hs] at a3 ht hll;replace hs:=qh hs;have Hht:=qh ht;clear ht;clear hS3 HS2 ht3;go_wp2_with fail;refine(Zg3 bs vb b p3 n w0 _ X Hb.out hlen (by omega) hn1 HS3.out).mono ?_;rintro e w4 ⟨q,p4,hp4,rfl,hS4⟩;have HS4:=qh hS4;clear hS4 HS3 a1 a2 a3 a4;cases q with
 | false =>go_wp2;go_ret;exact⟨s,p4,Hht.out,by omega,by omega,rfl,HS4.out⟩
 | true =>
  obtain⟨a1,a2⟩:=Zmo s ⟨#[100]⟩ [100] rfl (by omega) (by simp);obtain⟨a3,a4⟩:=Zmo s (txB s) s rfl (by omega) (by omega);obtain⟨a5,a6⟩:=Zmo (s++s) ⟨#[97,97,97,97,97,97,97,97,97,97,97,97,97,97,97,97,97,97,97,97,97,97,97,97,97,97,97,97,97,97,97]⟩ (List.replicate 31 97) rfl (by rw[List.length_append];omega) (by simp);obtain⟨x1,hx1⟩:∃ x,x=s++[100]:=⟨_,rfl⟩;obtain⟨x2,hx2⟩:∃ x,x=s++s:=⟨_,rfl⟩;rw[← hx1] at a1;rw[← hx2] at a3 a5 a6;obtain⟨x3,hx3⟩:∃ x,x=x2++List.replicate 31 97:=⟨_,rfl⟩;rw[← hx3] at a5;have hS5:St w0 _ ([RdE b vb p4]++[X,Ent.box w4.heap.size #[.string (txB x1),.string (txB x3)] 9]):=HS4.out.alloc w4.heap.size rfl #[.string (txB x1),.string (txB x3)] 9;have HS5:=qh hS5;have ht1:isT x1∧x1.length≤200:=by rw[hx1];exact⟨ZdT Hht.out Zop,by rw[List.length_append,List.length_singleton];omega⟩
  have ht3:isT x3∧x3.length≤200:=by rw[hx3,hx2];exact⟨ZdT (ZdT Hht.out Hht.out) Zoq,by rw[List.length_append,List.length_append,List.length_replicate];omega⟩
  have Hhx1:=qh hx1;clear hx1;have Hhx2:=qh hx2;clear hx2;have Hhx3:=qh hx3;clear hx3;have Hht1:=qh ht1;clear ht1;have Hht3:=qh ht3;clear ht3;clear hS5;go_wp2_with fail;refine(Zax bs vb b p4 2 w0 _ _ Hb.out hlen (by omega) (by omega) (by omega) (St.pack (A:=[RdE b vb p4]) (R:=[X,Ent.box w4.heap.size #[.string (txB x1),.string (txB x3)] 9]) HS5.out)).mono ?_;rintro e w5 ⟨z,hz,rfl,hSp⟩;have HS6:Hid (St w0 w5 [RdE b vb (p4+1),X,Ent.box w4.heap.size #[.string (txB x1),.string (txB x3)] 9]):=qh (St.unpack (A:=[RdE b vb p4]) (A':=[RdE b vb (p4+1)]) (R:=[X,Ent.box w4.heap.size #[.string (txB x1),.string (txB x3)] 9]) HS5.out hSp);have e0:=HS6.out.cell (v:=.string (txB x1)) 2 0 rfl rfl;have e1:=HS6.out.cell (v:=.string (txB x3)) 2 1 rfl rfl;clear hSp HS5 HS4 a1 a2 a3 a4 a5 a6;obtain rfl|rfl:z=0∨z=1:=by omega
  ·go_wp2;go_ret;exact⟨x1,_,Hht1.out.1,Hht1.out.2,by omega,rfl,HS6.out.pick [0,1] (by decide)⟩
  go_wp2;go_ret;exact⟨x3,_,Hht3.out.1,Hht3.out.2,by omega,rfl,HS6.out.pick [0,1] (by decide)⟩
theorem Tryz.infoTx2:(Tryz.prog.info? 9).map (fun i=>(i.zero,i.size,i.bytes))=some (some (.string ⟨#[]⟩),1,16):=by kernel_rfl
def RAg (e:Ending):Prop:=∃ (a1:Option Addr) (l1 c1:Nat) (a2:Option Addr) (l2 c2:Nat),e = .returned (.agg #[.slice a1 l1 c1,.slice a2 l2 c2])
theorem Zg7 (bs:List Nat) (vb:Value) (b p nn:Nat) (w0 w:World) (X:Ent) (hb:Bytes 0 w0 vb bs) (hlen:bs.length≤2000) (hp:p≤50000) (hnn:nn≤10000) (hS:St w0 w [RdE b vb p,X]) :
  Calls Tryz.prog 68 #[.pointer (some ⟨b,0,none⟩),.int .i64 ((nn:Nat):Int)] w fun e w'=>∃ p':Nat,p'≤p+2000∧RAg e∧St w0 w' [RdE b vb p',X]:=by
 have Hb:=qh hb
 have hS0:St w0 _ ([RdE b vb p]++[X,Ent.box w.heap.size #[.slice none 0 0,.slice none 0 0] 37]):=hS.alloc w.heap.size rfl #[.slice none 0 0,.slice none 0 0] 37
 have HS0:=qh hS0
 obtain⟨i0,hi,hz0,hz1,hz2⟩:=info_parts Tryz.infoTx2
 replace hi:=qh hi
 have Hhz0:=qh hz0;clear hz0
 have Hhz1:=qh hz1;clear hz1
 have Hhz2:=qh hz2;clear hz2
 -- the last part: some other automaton
 have hfin:∀ (u:World) (q:Nat),q≤p+500→St w0 u [RdE b vb q,X,Ent.box w.heap.size #[.slice none 0 0,.slice none 0 0] 37]→Calls Tryz.prog 117 #[.pointer (some ⟨b,0,none⟩),.int .i64 ((nn:Nat):Int)] u fun e w'=>∃ (a1:Option Addr) (l1 c1:Nat) (a2:Option Addr) (l2 c2:Nat) (q':Nat),q'≤q+1000∧e = .returned (.agg #[.slice a1 l1 c1,.slice a2 l2 c2])∧St w0 w' [RdE b vb q',X,Ent.box w.heap.size #[.slice none 0 0,.slice none 0 0] 37]:=fun u q hq hSu=>by
  refine(Zkc bs vb b q nn w0 u _ Hb.out hlen (by omega) hnn (St.pack (A:=[RdE b vb q]) (R:=[X,Ent.box w.heap.size #[.slice none 0 0,.slice none 0 0] 37]) hSu)).mono ?_
  rintro e w' ⟨D,q',a1,a2,c1,c2,vs,E,hq',-,rfl,-,hSp⟩
  exact⟨a1,_,c1,a2,_,c2,q',hq',rfl,St.unpack (A:=[RdE b vb q]) (A':=[RdE b vb q']) (R:=[X,Ent.box w.heap.size #[.slice none 0 0,.slice none 0 0] 37]) hSu (hSp.pick [0,1] (by decide))⟩
 have Hfin:=qh hfin
 clear hb hS hS0 hfin
 go_enter Tryz.func68, Tryz.ntmps68
 go_wp2_with fail
 refine(Zax bs vb b p 2 w0 _ _ Hb.out hlen (by omega) (by omega) (by omega) (St.pack (A:=[RdE b vb p]) (R:=[X,Ent.box w.heap.size #[.slice none 0 0,.slice none 0 0] 37]) HS0.out)).mono ?_
 rintro e w1 ⟨z,hz,rfl,hSp⟩
 have HS1:Hid (St w0 w1 [RdE b vb (p+1),X,Ent.box w.heap.size #[.slice none 0 0,.slice none 0 0] 37]):=qh (St.unpack (A:=[RdE b vb p]) (A':=[RdE b vb (p+1)]) (R:=[X,Ent.box w.heap.size #[.slice none 0 0,.slice none 0 0] 37]) HS0.out hSp)
 clear hSp HS0
 obtain rfl|rfl:z=1∨z=0:=by omega
 ·go_wp2_with fail
  refine(Hfin.out _ (p+1) (by omega) HS1.out).mono ?_
  rintro e w2 ⟨a1,l1,c1,a2,l2,c2,q',hq',rfl,hS2⟩
  have HS2:=qh hS2
  have f0:=HS2.out.fr 2 0 rfl
  have f1:=HS2.out.fr 2 1 rfl
  have k0:=HS2.out.cell (v:=.slice none 0 0) 2 0 rfl rfl
  have k1:=HS2.out.cell (v:=.slice none 0 0) 2 1 rfl rfl
  clear hS2 HS1
  go_wp2
  have hq:=(HS2.out.set 2 rfl 0 (.slice a1 l1 c1)).set 2 rfl 1 (.slice a2 l2 c2)
  have q0:=hq.cell (v:=.slice a1 l1 c1) 2 0 rfl rfl
  have q1:=hq.cell (v:=.slice a2 l2 c2) 2 1 rfl rfl
  refine bodyPost_ret (v:=.agg #[.slice a1 l1 c1,.slice a2 l2 c2]) (by simp[results,Tryz.results68,go_sem,q0,q1]) rfl ?_
  exact⟨q',by omega,⟨a1,l1,c1,a2,l2,c2,rfl⟩,hq.pick [0,1] (by decide)⟩
 ·go_wp2_with fail
  have hSr:St w0 _ ([RdE b vb (p+1)]++[X,Ent.box w.heap.size #[.slice none 0 0,.slice none 0 0] 37,Ent.row 9 1 (.slice (some ⟨w1.heap.size,0,none⟩) 0 0) 0 []]):=HS1.out.newRow0 9 1
  have HSr:=qh hSr
  clear hSr
  refine(Zax bs vb b (p+1) 4 w0 _ _ Hb.out hlen (by omega) (by omega) (by omega) (St.pack (A:=[RdE b vb (p+1)]) (R:=[X,Ent.box w.heap.size #[.slice none 0 0,.slice none 0 0] 37,Ent.row 9 1 (.slice (some ⟨w1.heap.size,0,none⟩) 0 0) 0 []]) HSr.out)).mono ?_
  rintro e w2 ⟨k0,hk0,rfl,hSp⟩
  have HS2:Hid (St w0 w2 [RdE b vb (p+1+1),X,Ent.box w.heap.size #[.slice none 0 0,.slice none 0 0] 37,Ent.row 9 1 (.slice (some ⟨w1.heap.size,0,none⟩) 0 0) 0 []]):=qh (St.unpack (A:=[RdE b vb (p+1)]) (A':=[RdE b vb (p+1+1)]) (R:=[X,Ent.box w.heap.size #[.slice none 0 0,.slice none 0 0] 37,Ent.row 9 1 (.slice (some ⟨w1.heap.size,0,none⟩) 0 0) 0 []]) HSr.out hSp)
  clear hSp HSr HS1
  go_wp2_with fail
  go_loopw [5,6] (fun sv iv wr=>∃ (k q c:Nat) (a:Option Addr) (ls:List (List Nat)),iv = .int .i64 (k:Int)∧sv = .slice a ls.length c∧k+ls.length≤4∧q≤p+2+20*ls.length∧(∀ l∈ls,isT l∧l.length≤10)∧St w0 wr [RdE b vb q,X,Ent.box w.heap.size #[.slice none 0 0,.slice none 0 0] 37,Ent.row 9 1 (.slice a ls.length c) ls.length (strC ls)]) (fun _ iv _=>(intOf iv).toNat)
  case atStart=>exact⟨k0,p+1+1,0,_,[],rfl,rfl,by simp;omega,by simp,(by simp),HS2.out⟩
  case round =>
   obtain⟨k,q,c,a,ls,rfl,rfl,hk,hq,hls,hS⟩:=hrel
   have HS3:=qh hS
   have Hls:=qh hls
   clear hS hls HS2
   by_cases h0:k=0
   ·subst h0
    have hok:okTs ls:=⟨by omega,Hls.out⟩
    have hT:Txts _ (.slice a ls.length c) ls:=((Zaa (HS3.out.row 3 rfl)).sl (by omega)).mono (Nat.zero_le _)
    have hws:=fun (u:World) (h:Txts u (.slice a ls.length c) ls)=>Zed ls (.slice a ls.length c) u hok h
    unfold RWs at hws
    have hE60:(wsR ls).length≤100:=by
     unfold wsR
     split
     ·rename_i h
      cases hn:ls.length with
      | zero=>show(1:Nat)≤100;omega
      | succ n=>exact Nat.le_trans (Zku h (k:=n) (by omega)).2 (by omega)
     ·exact Nat.zero_le _
    obtain⟨E,hE⟩:=eI (wsR ls)
    obtain⟨ok,hokk⟩:=eI (wsOk ls)
    rw[← hE] at hws hE60
    rw[← hokk] at hws
    have Hws:=qh hws
    have hq500:q≤p+500:=by omega
    replace hT:=qh hT
    replace hE:=qh hE
    have Hhokk:=qh hokk;clear hokk
    clear hws hok
    go_wp2_with fail
    refine(Hws.out _ hT.out).mono ?_
    rintro e w4 ⟨aE,cE,rfl,hS⟩
    have HQ:=qh (ZaG (hS.row 0 rfl))
    have HS4:Hid (St w0 w4 [RdE b vb q,X,Ent.box w.heap.size #[.slice none 0 0,.slice none 0 0] 37]):=qh ((HS3.out.call hS.bel).pick [0,1,2] (by decide))
    clear hS hT HS3
    cases ok with
    | false =>
     go_wp2_with fail
     refine(Hfin.out _ (q) (by omega) HS4.out).mono ?_
     rintro e w9 ⟨a1,l1,c1,a2,l2,c2,q',hq',rfl,hS9⟩
     have HS9:=qh hS9
     have f0:=HS9.out.fr 2 0 rfl
     have f1:=HS9.out.fr 2 1 rfl
     have k0:=HS9.out.cell (v:=.slice none 0 0) 2 0 rfl rfl
     have k1:=HS9.out.cell (v:=.slice none 0 0) 2 1 rfl rfl
     clear hS9 HS4
     go_wp2
     have hq:=(HS9.out.set 2 rfl 0 (.slice a1 l1 c1)).set 2 rfl 1 (.slice a2 l2 c2)
     have q0:=hq.cell (v:=.slice a1 l1 c1) 2 0 rfl rfl
     have q1:=hq.cell (v:=.slice a2 l2 c2) 2 1 rfl rfl
     refine bodyPost_ret (v:=.agg #[.slice a1 l1 c1,.slice a2 l2 c2]) (by simp[results,Tryz.results68,go_sem,q0,q1]) rfl ?_
     exact⟨q',by omega,⟨a1,l1,c1,a2,l2,c2,rfl⟩,hq.pick [0,1] (by decide)⟩
    | true =>
     obtain⟨K,hK⟩:∃ K,K=40:=⟨40,rfl⟩
     obtain⟨o,ho⟩:=Zhs K E
     have hsp:=fun (v:Value) (u:World) h=>Zcb K hK E o ho v u (by omega) h
     unfold RO at hsp
     obtain⟨D,hD⟩:=eJ (o.getD Zbc)
     obtain⟨fb,hfb⟩:=eJ (o.isSome)
     rw[hD,hfb] at hsp
     have Hsp:=qh hsp
     clear hsp hD hfb ho hK
     go_wp2_with fail
     refine(Hsp.out _ _ HQ.out).mono ?_
     rintro e w5 ⟨x1,y1,x2,y2,rfl,-,hb5⟩
     have HS5:=qh ((HS4.out.call hb5).alloc w5.heap.size rfl #[.slice x1 D.next.length y1,.slice x2 D.ends.length y2] 37)
     clear hb5 HS4 HQ
     cases fb with
     | false =>
      have HS6:Hid (St w0 _ [RdE b vb q,X,Ent.box w.heap.size #[.slice none 0 0,.slice none 0 0] 37]):=qh (HS5.out.pick [0,1,2] (by decide))
      clear HS5
      go_wp2_with fail
      refine(Hfin.out _ (q) (by omega) HS6.out).mono ?_
      rintro e w9 ⟨a1,l1,c1,a2,l2,c2,q',hq',rfl,hS9⟩
      have HS9:=qh hS9
      have f0:=HS9.out.fr 2 0 rfl
      have f1:=HS9.out.fr 2 1 rfl
      have k0:=HS9.out.cell (v:=.slice none 0 0) 2 0 rfl rfl
      have k1:=HS9.out.cell (v:=.slice none 0 0) 2 1 rfl rfl
      clear hS9 HS6
      go_wp2
      have hq:=(HS9.out.set 2 rfl 0 (.slice a1 l1 c1)).set 2 rfl 1 (.slice a2 l2 c2)
      have q0:=hq.cell (v:=.slice a1 l1 c1) 2 0 rfl rfl
      have q1:=hq.cell (v:=.slice a2 l2 c2) 2 1 rfl rfl
      refine bodyPost_ret (v:=.agg #[.slice a1 l1 c1,.slice a2 l2 c2]) (by simp[results,Tryz.results68,go_sem,q0,q1]) rfl ?_
      exact⟨q',by omega,⟨a1,l1,c1,a2,l2,c2,rfl⟩,hq.pick [0,1] (by decide)⟩
     | true =>
      have e0:=HS5.out.cell (v:=.slice x1 D.next.length y1) 3 0 rfl rfl
      have e1:=HS5.out.cell (v:=.slice x2 D.ends.length y2) 3 1 rfl rfl
      have f0:=HS5.out.fr 2 0 rfl
      have f1:=HS5.out.fr 2 1 rfl
      have k0:=HS5.out.cell (v:=.slice none 0 0) 2 0 rfl rfl
      have k1:=HS5.out.cell (v:=.slice none 0 0) 2 1 rfl rfl
      go_wp2
      have hq:=(HS5.out.set 2 rfl 0 (.slice x1 D.next.length y1)).set 2 rfl 1 (.slice x2 D.ends.length y2)
      have q0:=hq.cell (v:=.slice x1 D.next.length y1) 2 0 rfl rfl
      have q1:=hq.cell (v:=.slice x2 D.ends.length y2) 2 1 rfl rfl
      refine bodyPost_ret (v:=.agg #[.slice x1 D.next.length y1,.slice x2 D.ends.length y2]) (by simp[results,Tryz.results68,go_sem,q0,q1]) rfl ?_
      exact⟨q,by omega,⟨_,_,_,_,_,_,rfl⟩,hq.pick [0,1] (by decide)⟩
   ·have hkI:0<(k:Int):=by omega
    have hwk:IntKind.i64.wrap ((k:Int)-1)=(k:Int)-1:=IntWalk.i64_in _ (by omega)
    go_wp2_with fail
    refine(ZbN bs vb b q 0 w0 _ _ Hb.out hlen (by omega) (by omega) (St.pack (A:=[RdE b vb q]) (R:=[X,Ent.box w.heap.size #[.slice none 0 0,.slice none 0 0] 37,Ent.row 9 1 (.slice a ls.length c) ls.length (strC ls)]) HS3.out)).mono ?_
    rintro e w5 ⟨l,q',ht,hl,hq',rfl,hSp⟩
    have hS5:St w0 w5 ([RdE b vb q',X,Ent.box w.heap.size #[.slice none 0 0,.slice none 0 0] 37,Ent.row 9 1 (.slice a ls.length c) ls.length (strC ls)]):=St.unpack (A:=[RdE b vb q]) (A':=[RdE b vb q']) (R:=[X,Ent.box w.heap.size #[.slice none 0 0,.slice none 0 0] 37,Ent.row 9 1 (.slice a ls.length c) ls.length (strC ls)]) HS3.out hSp
    have hsz:=ZaE l
    obtain⟨n0,hn0⟩:=eI (l.length)
    obtain⟨u,hut,hx⟩:∃ u,(isT u∧u.length≤10)∧((n0≤4∧(txB l).extract 0 n0=txB u)∨(¬ n0≤4∧(txB l).extract 0 4=txB u)):=by
     by_cases h4:n0≤4
     ·exact⟨l.take n0,⟨Zh2 ht _,by rw[List.length_take];omega⟩,.inl ⟨h4,ZeZ l n0⟩⟩
     ·exact⟨l.take 4,⟨Zh2 ht _,by rw[List.length_take];omega⟩,.inr ⟨h4,ZeZ l 4⟩⟩
    rw[← hn0] at hsz hl
    have HS6:=qh (hS5.alloc w5.heap.size rfl #[.string (txB u)] 9)
    have Hhut:=qh hut;clear hut
    have Hhn0:=qh hn0;clear hn0
    clear hS5 hSp ht HS3
    rcases hx with⟨h4,hx⟩|⟨h4,hx⟩
    ·have h4I:(n0:Int)≤4:=by omega
     go_wp2_with (at_builtin;refine Zal _ rfl _ _ _ rfl _ 9 i0 (.string ⟨#[]⟩) 1 16 Tryz.underlying113 hi.out Hhz0.out Hhz1.out Hhz2.out rfl (by omega) _ ls.length _ rfl (HS6.out.row 3 rfl) _ 1 [.string (txB u)] rfl ((Zaa ((HS6.out.boxrow 4 1 1 [.string (txB u)] rfl rfl (by unfold maxLen;omega)).row 4 rfl)).sl (by omega) |>.mono (Nat.zero_le _)) Znz (by unfold maxLen;omega) (by omega) HS6.out.size ?_;intro a7 c7 w7 hown hgrow hat;have hS:=(HS6.out.appS 3 rfl hown hgrow hat).pick [0,1,2,3] (by decide);have HS7:=qh hS;clear hown hgrow hat hS)
     go_roundw
     case rel =>
      refine⟨k-1,q',c7,a7,ls++[u],?_,by rw[List.length_append];rfl,?_,?_,?_,?_⟩
      ·congr 1;omega
      ·rw[List.length_append,List.length_singleton];omega
      ·rw[List.length_append,List.length_singleton];omega
      ·intro x hx
       rcases List.mem_append.1 hx with h|h
       ·exact Hls.out x h
       ·rw[List.mem_singleton.1 h];exact Hhut.out
      ·have e:strC (ls++[u])=strC ls++[.string (txB u)]:=by simp[strC]
       rw[e,List.length_append]
       exact HS7.out
     case measure=>simp[intOf]<;>omega
    ·have h4I:¬ (n0:Int)≤4:=by omega
     go_wp2_with (at_builtin;refine Zal _ rfl _ _ _ rfl _ 9 i0 (.string ⟨#[]⟩) 1 16 Tryz.underlying113 hi.out Hhz0.out Hhz1.out Hhz2.out rfl (by omega) _ ls.length _ rfl (HS6.out.row 3 rfl) _ 1 [.string (txB u)] rfl ((Zaa ((HS6.out.boxrow 4 1 1 [.string (txB u)] rfl rfl (by unfold maxLen;omega)).row 4 rfl)).sl (by omega) |>.mono (Nat.zero_le _)) Znz (by unfold maxLen;omega) (by omega) HS6.out.size ?_;intro a7 c7 w7 hown hgrow hat;have hS:=(HS6.out.appS 3 rfl hown hgrow hat).pick [0,1,2,3] (by decide);have HS7:=qh hS;clear hown hgrow hat hS)
     go_roundw
     case rel =>
      refine⟨k-1,q',c7,a7,ls++[u],?_,by rw[List.length_append];rfl,?_,?_,?_,?_⟩
      ·congr 1;omega
      ·rw[List.length_append,List.length_singleton];omega
      ·rw[List.length_append,List.length_singleton];omega
      ·intro x hx
       rcases List.mem_append.1 hx with h|h
       ·exact Hls.out x h
       ·rw[List.mem_singleton.1 h];exact Hhut.out
      ·have e:strC (ls++[u])=strC ls++[.string (txB u)]:=by simp[strC]
       rw[e,List.length_append]
       exact HS7.out
     case measure=>simp[intOf]<;>omega
theorem Zk8 (bs:List Nat) (v:Value) (w:World) (hb:Bytes 0 w v bs) (hlen:bs.length≤100000000) :
  Calls Tryz.prog 29 #[v] w fun e w'=>∃ vb bs',bs'.length≤2000∧(∀ u:World,Bytes 0 u v bs→Bytes 0 u vb bs')∧e = .returned (.pointer (some ⟨w.heap.size,0,none⟩))∧St w w' [RdE w.heap.size vb 0]:=by
 obtain⟨a,c,rfl,hc1,hc2,-⟩:=hb.form;have Hb:=qh hb;clear hb;by_cases h2:2000<bs.length
 ·have q1:(2000:Int)<bs.length:=by omega
  have q2:(2000:Int)≤c:=by omega
  have hS:=(St.start w).alloc _ rfl #[.slice a 2000 c,.int .i64 0] 105;have HS:=qh hS;clear hS
  go_enter Tryz.func29, Tryz.ntmps29
  go_wp2;go_ret;exact⟨_,bs.take 2000,by rw[List.length_take];omega,fun u h=>h.take (by omega),rfl,HS.out⟩
 have q1:(2000<(bs.length:Int))=False:=by simp;omega
 have hS:=(St.start w).alloc _ rfl #[.slice a bs.length c,.int .i64 0] 105;have HS:=qh hS;have h2:bs.length≤2000:=by omega
 clear hS
 go_enter Tryz.func29, Tryz.ntmps29
 go_wp2;go_ret;exact⟨_,bs,h2,fun u h=>h,rfl,HS.out⟩
theorem ZfQ (bs:List Nat) (v:Value) (w:World) (hb:Bytes 0 w v bs) (hlen:bs.length≤100000000) :
  Calls Tryz.prog 24 #[v] w fun e w'=>∃ s:List Nat,isT s∧s.length≤200∧∃ (a1:Option Addr) (z1 c1:Nat) (a2:Option Addr) (z2 c2:Nat) (x:Value),e = .returned (.tuple #[.agg #[.slice a1 z1 c1,.slice a2 z2 c2],.string (txB s),x])∧Below w.heap.size w w':=by
 have HS0:=qh ((St.start w).alloc w.heap.size rfl #[.slice none 0 0,.slice none 0 0] 37);have Hb0:=qh hb;have Hb:=qh (hb.below HS0.out.bel);clear hb
 go_enter Tryz.func24, Tryz.ntmps24
 go_wp2_with fail;refine(Zk8 bs v _ Hb.out hlen).mono ?_;rintro e w1 ⟨vb,bs',hl',hB,rfl,hS'⟩;have hB1:=hB w Hb0.out;have HB:=qh hB1;have HS1:Hid (St w w1 [RdE (w.alloc (.cells #[.slice none 0 0,.slice none 0 0] 37)).heap.size vb 0,Ent.box w.heap.size #[.slice none 0 0,.slice none 0 0] 37]):=qh ((HS0.out.cat hS').pick [1,0] (by decide));obtain⟨b,hbz⟩:=eI ((w.alloc (.cells #[.slice none 0 0,.slice none 0 0] 37)).heap.size);rw[← hbz] at HS1 ⊢;clear hS' hB hB1 Hb Hb0 HS0 hbz;go_wp2_with fail;refine(Zg7 bs' vb b 0 14 w w1 _ HB.out hl' (by omega) (by omega) HS1.out).mono ?_;rintro e w2 ⟨p',hp',⟨a1,z1,c1,a2,z2,c2,rfl⟩,hS2⟩;have hS2':St w _ ([RdE b vb p']++[Ent.box w.heap.size #[.slice none 0 0,.slice none 0 0] 37,Ent.box w2.heap.size #[.slice a1 z1 c1,.slice a2 z2 c2] 37]):=hS2.alloc w2.heap.size rfl #[.slice a1 z1 c1,.slice a2 z2 c2] 37;have HS2:=qh hS2';clear hS2 hS2' HS1;go_wp2_with fail;refine(ZiQ bs' vb b p' 14 w _ _ HB.out hl' (by omega) (by omega) (St.pack (A:=[RdE b vb p']) (R:=[Ent.box w.heap.size #[.slice none 0 0,.slice none 0 0] 37,Ent.box w2.heap.size #[.slice a1 z1 c1,.slice a2 z2 c2] 37]) HS2.out)).mono ?_;rintro e w3 ⟨s,p2,hts,hsl,hp2,rfl,hSp⟩
 have HS3:Hid (St w w3 [RdE b vb p2,Ent.box w.heap.size #[.slice none 0 0,.slice none 0 0] 37,Ent.box w2.heap.size #[.slice a1 z1 c1,.slice a2 z2 c2] 37]):=qh (St.unpack (A:=[RdE b vb p']) (A':=[RdE b vb p2]) (R:=[Ent.box w.heap.size #[.slice none 0 0,.slice none 0 0] 37,Ent.box w2.heap.size #[.slice a1 z1 c1,.slice a2 z2 c2] 37]) HS2.out hSp);replace hts:=qh hts;clear hSp HS2;go_wp2_with fail;refine(ZbN bs' vb b p2 14 w _ _ HB.out hl' (by omega) (by omega) (St.pack (A:=[RdE b vb p2]) (R:=[Ent.box w.heap.size #[.slice none 0 0,.slice none 0 0] 37,Ent.box w2.heap.size #[.slice a1 z1 c1,.slice a2 z2 c2] 37]) HS3.out)).mono ?_;rintro e w4 ⟨l,p3,htl,hll,hp3,rfl,hSp⟩;have HS4:Hid (St w w4 [RdE b vb p3,Ent.box w.heap.size #[.slice none 0 0,.slice none 0 0] 37,Ent.box w2.heap.size #[.slice a1 z1 c1,.slice a2 z2 c2] 37]):=qh (St.unpack (A:=[RdE b vb p2]) (A':=[RdE b vb p3]) (R:=[Ent.box w.heap.size #[.slice none 0 0,.slice none 0 0] 37,Ent.box w2.heap.size #[.slice a1 z1 c1,.slice a2 z2 c2] 37]) HS3.out hSp);have HS5:Hid (St w w4 [Ent.box w.heap.size #[.slice none 0 0,.slice none 0 0] 37,Ent.box w2.heap.size #[.slice a1 z1 c1,.slice a2 z2 c2] 37]):=qh (HS4.out.pick [1,2] (by decide));have hsz:=ZaE l;obtain⟨n0,hn0⟩:=eI (l.length);rw[← hn0] at hsz hll;clear hSp HS3 HS4 htl;go_wp2;by_cases h4:n0≤3
 ·have h4I:(n0:Int)≤3:=by omega
  have hx:=ZeZ l n0;obtain⟨u,hu⟩:=eI (l.take n0);rw[← hu] at hx;replace hn0:=qh hn0;have Hhu:=qh hu;clear hu;refine wp_region_any (by kernel_rfl) ?_
  refine Zas (fun A listed a w'=>∃ (l0 l1 l2 l3 l4 l5 l6 l7 l8 l9:Bool) ,listed=#[l0,l1,l2,l3,l4,l5,l6,l7,l8,l9] ∧
    a=⟨(((((((((A.tmps.setIfInBounds 17 (if l0=true then .agg #[.slice a1 z1 c1,.slice a2 z2 c2] else A.tmps.getD 17 undef)).setIfInBounds 18 (if l1=true then .string (txB s) else A.tmps.getD 18 undef)).setIfInBounds 19 (if l2=true then .string (txB l) else A.tmps.getD 19 undef)).setIfInBounds 20 (if l3=true then .string (txB l) else A.tmps.getD 20 undef)).setIfInBounds 21 (if l4=true then .int .i64 (n0:Int) else A.tmps.getD 21 undef)).setIfInBounds 22 (if l5=true then .int .i64 (n0:Int) else A.tmps.getD 22 undef)).setIfInBounds 23 (if l6=true then .string (txB u) else A.tmps.getD 23 undef)).setIfInBounds 3 (if l8=true then .string (txB s) else A.tmps.getD 3 undef)).setIfInBounds 4 (if l9=true then .string (txB u) else A.tmps.getD 4 undef)),A.defers⟩ ∧
    St w w' [(if l7=true then Ent.box w.heap.size #[.slice a1 z1 c1,.slice a2 z2 c2] 37 else Ent.box w.heap.size #[.slice none 0 0,.slice none 0 0] 37),Ent.box w2.heap.size #[.slice a1 z1 c1,.slice a2 z2 c2] 37]) ?_ ?_ ?_
  ·rintro listed a w' ⟨l0,l1,l2,l3,l4,l5,l6,l7,l8,l9,rfl,rfl,hS⟩ i hi;obtain⟨hun,o,ho,hall⟩:=mem_ready.1 hi;have hlt:=(Array.getElem?_eq_some_iff.1 ho).1;refine wpOp_step ho (fun K hK => ?_);clear hi;have HS:=qh hS;clear hS;simp only[List.setIfInBounds_toArray,List.set_cons_zero,List.set_cons_succ,Array.getD_eq_getD_getElem?,List.getElem?_toArray,List.getElem?_cons_zero,List.getElem?_cons_succ,Option.getD_some];obtain h|h|h|h|h|h|h|h|h|h:i=0∨i=1∨i=2∨i=3∨i=4∨i=5∨i=6∨i=7∨i=8∨i=9:=by simp at hlt;omega
   all_goals subst h
   all_goals simp only[List.getElem?_toArray,List.getElem?_cons_zero,List.getElem?_cons_succ,Option.some.injEq] at ho
   all_goals subst ho
   all_goals simp[Region.binds] at hun hall
   ·subst hun;have e0:=HS.out.cell (v:=.slice a1 z1 c1) 1 0 rfl rfl;have e1:=HS.out.cell (v:=.slice a2 z2 c2) 1 1 rfl rfl;go_simp;exact hK _ _ ⟨true,l1,l2,l3,l4,l5,l6,l7,l8,l9,rfl,(by simp<;>omega),HS.out⟩
   ·subst hun;go_simp;exact hK _ _ ⟨l0,true,l2,l3,l4,l5,l6,l7,l8,l9,rfl,(by simp<;>omega),HS.out⟩
   ·subst hun;go_simp;exact hK _ _ ⟨l0,l1,true,l3,l4,l5,l6,l7,l8,l9,rfl,(by simp<;>omega),HS.out⟩
   ·subst hun;go_simp;exact hK _ _ ⟨l0,l1,l2,true,l4,l5,l6,l7,l8,l9,rfl,(by simp<;>omega),HS.out⟩
   ·obtain rfl:=hall;subst hun;go_simp;exact hK _ _ ⟨l0,l1,l2,true,true,l5,l6,l7,l8,l9,rfl,(by simp<;>omega),HS.out⟩
   ·obtain rfl:=hall;subst hun;go_simp;exact hK _ _ ⟨l0,l1,l2,l3,true,true,l6,l7,l8,l9,rfl,(by simp<;>omega),HS.out⟩
   ·obtain⟨rfl,rfl⟩:=hall;subst hun;go_simp;exact hK _ _ ⟨l0,l1,true,l3,l4,true,true,l7,l8,l9,rfl,(by simp<;>omega),HS.out⟩
   ·obtain rfl:=hall;subst hun;have f0:=HS.out.fr 0 0 rfl;have k0:=HS.out.cell (v:=.slice none 0 0) 0 0 rfl rfl;have f1:=HS.out.fr 0 1 rfl;have k1:=HS.out.cell (v:=.slice none 0 0) 0 1 rfl rfl;go_simp;exact hK _ _ ⟨true,l1,l2,l3,l4,l5,l6,true,l8,l9,rfl,(by simp),((HS.out.set 0 rfl 0 (.slice a1 z1 c1)).set 0 rfl 1 (.slice a2 z2 c2))⟩
   ·obtain⟨rfl,rfl,rfl,-⟩:=hall;subst hun;go_simp;exact hK _ _ ⟨true,true,l2,l3,l4,l5,l6,true,true,l9,rfl,(by simp<;>omega),HS.out⟩
   obtain⟨rfl,rfl,rfl,rfl,rfl,rfl,rfl,rfl,-,rfl,-⟩:=hall;subst hun;go_simp;exact hK _ _ ⟨true,true,true,true,true,true,true,true,true,true,rfl,(by simp<;>omega),HS.out⟩
  ·rintro listed a w' ⟨l0,l1,l2,l3,l4,l5,l6,l7,l8,l9,rfl,rfl,hS⟩ hr;have hall:=Za5 (by kernel_rfl) rfl hr;obtain rfl:l0=true:=by simpa using hall 0 (by simp)
   obtain rfl:l1=true:=by simpa using hall 1 (by simp)
   obtain rfl:l2=true:=by simpa using hall 2 (by simp)
   obtain rfl:l3=true:=by simpa using hall 3 (by simp)
   obtain rfl:l4=true:=by simpa using hall 4 (by simp)
   obtain rfl:l5=true:=by simpa using hall 5 (by simp)
   obtain rfl:l6=true:=by simpa using hall 6 (by simp)
   obtain rfl:l7=true:=by simpa using hall 7 (by simp)
   obtain rfl:l8=true:=by simpa using hall 8 (by simp)
   obtain rfl:l9=true:=by simpa using hall 9 (by simp)
   clear hall hr ;simp only[↓reduceIte] at hS ⊢;simp only[List.setIfInBounds_toArray,List.set_cons_zero,List.set_cons_succ];have HSf:=qh hS;clear hS;have q0:=HSf.out.cell (v:=.slice a1 z1 c1) 0 0 rfl rfl;have q1:=HSf.out.cell (v:=.slice a2 z2 c2) 0 1 rfl rfl;go_wp2;refine bodyPost_ret (v:=.tuple #[.agg #[.slice a1 z1 c1,.slice a2 z2 c2],.string (txB s),.string (txB u)]) (by simp[results,Tryz.results24,go_sem,q0,q1]) rfl ?_
   first|exact⟨s,hts.out,hsl,a1,z1,c1,a2,z2,c2,_,rfl,HSf.out.bel⟩|exact⟨s,hts.out,hsl,⟨a1,z1,c1,a2,z2,c2,_,rfl⟩,HSf.out.bel⟩
  refine⟨false,false,false,false,false,false,false,false,false,false,rfl,(by simp),?_⟩;exact HS5.out.drew.pick [0,1] (by decide)
 have h4I:¬ (n0:Int)≤3:=by omega
 have h3I:(3:Int)≤(n0:Int):=by omega
 have hx:=ZeZ l 3;obtain⟨u,hu⟩:=eI (l.take 3);rw[← hu] at hx;replace hn0:=qh hn0;have Hhu:=qh hu;clear hu;refine wp_region_any (by kernel_rfl) ?_
 refine Zas (fun A listed a w'=>∃ (l0 l1 l2 l3 l4 l5 l6 l7 l8 l9:Bool) ,listed=#[l0,l1,l2,l3,l4,l5,l6,l7,l8,l9] ∧
   a=⟨(((((((((A.tmps.setIfInBounds 17 (if l0=true then .agg #[.slice a1 z1 c1,.slice a2 z2 c2] else A.tmps.getD 17 undef)).setIfInBounds 18 (if l1=true then .string (txB s) else A.tmps.getD 18 undef)).setIfInBounds 19 (if l2=true then .string (txB l) else A.tmps.getD 19 undef)).setIfInBounds 20 (if l3=true then .string (txB l) else A.tmps.getD 20 undef)).setIfInBounds 21 (if l4=true then .int .i64 (n0:Int) else A.tmps.getD 21 undef)).setIfInBounds 22 (if l5=true then .int .i64 3 else A.tmps.getD 22 undef)).setIfInBounds 23 (if l6=true then .string (txB u) else A.tmps.getD 23 undef)).setIfInBounds 3 (if l8=true then .string (txB s) else A.tmps.getD 3 undef)).setIfInBounds 4 (if l9=true then .string (txB u) else A.tmps.getD 4 undef)),A.defers⟩ ∧
   St w w' [(if l7=true then Ent.box w.heap.size #[.slice a1 z1 c1,.slice a2 z2 c2] 37 else Ent.box w.heap.size #[.slice none 0 0,.slice none 0 0] 37),Ent.box w2.heap.size #[.slice a1 z1 c1,.slice a2 z2 c2] 37]) ?_ ?_ ?_
 ·rintro listed a w' ⟨l0,l1,l2,l3,l4,l5,l6,l7,l8,l9,rfl,rfl,hS⟩ i hi;obtain⟨hun,o,ho,hall⟩:=mem_ready.1 hi;have hlt:=(Array.getElem?_eq_some_iff.1 ho).1;refine wpOp_step ho (fun K hK => ?_);clear hi;have HS:=qh hS;clear hS;simp only[List.setIfInBounds_toArray,List.set_cons_zero,List.set_cons_succ,Array.getD_eq_getD_getElem?,List.getElem?_toArray,List.getElem?_cons_zero,List.getElem?_cons_succ,Option.getD_some];obtain h|h|h|h|h|h|h|h|h|h:i=0∨i=1∨i=2∨i=3∨i=4∨i=5∨i=6∨i=7∨i=8∨i=9:=by simp at hlt;omega
  all_goals subst h
  all_goals simp only[List.getElem?_toArray,List.getElem?_cons_zero,List.getElem?_cons_succ,Option.some.injEq] at ho
  all_goals subst ho
  all_goals simp[Region.binds] at hun hall
  ·subst hun;have e0:=HS.out.cell (v:=.slice a1 z1 c1) 1 0 rfl rfl;have e1:=HS.out.cell (v:=.slice a2 z2 c2) 1 1 rfl rfl;go_simp;exact hK _ _ ⟨true,l1,l2,l3,l4,l5,l6,l7,l8,l9,rfl,(by simp<;>omega),HS.out⟩
  ·subst hun;go_simp;exact hK _ _ ⟨l0,true,l2,l3,l4,l5,l6,l7,l8,l9,rfl,(by simp<;>omega),HS.out⟩
  ·subst hun;go_simp;exact hK _ _ ⟨l0,l1,true,l3,l4,l5,l6,l7,l8,l9,rfl,(by simp<;>omega),HS.out⟩
  ·subst hun;go_simp;exact hK _ _ ⟨l0,l1,l2,true,l4,l5,l6,l7,l8,l9,rfl,(by simp<;>omega),HS.out⟩
  ·obtain rfl:=hall;subst hun;go_simp;exact hK _ _ ⟨l0,l1,l2,true,true,l5,l6,l7,l8,l9,rfl,(by simp<;>omega),HS.out⟩
  ·obtain rfl:=hall;subst hun;go_simp;exact hK _ _ ⟨l0,l1,l2,l3,true,true,l6,l7,l8,l9,rfl,(by simp<;>omega),HS.out⟩
  ·obtain⟨rfl,rfl⟩:=hall;subst hun;go_simp;exact hK _ _ ⟨l0,l1,true,l3,l4,true,true,l7,l8,l9,rfl,(by simp<;>omega),HS.out⟩
  ·obtain rfl:=hall;subst hun;have f0:=HS.out.fr 0 0 rfl;have k0:=HS.out.cell (v:=.slice none 0 0) 0 0 rfl rfl;have f1:=HS.out.fr 0 1 rfl;have k1:=HS.out.cell (v:=.slice none 0 0) 0 1 rfl rfl;go_simp;exact hK _ _ ⟨true,l1,l2,l3,l4,l5,l6,true,l8,l9,rfl,(by simp),((HS.out.set 0 rfl 0 (.slice a1 z1 c1)).set 0 rfl 1 (.slice a2 z2 c2))⟩
  ·obtain⟨rfl,rfl,rfl,-⟩:=hall;subst hun;go_simp;exact hK _ _ ⟨true,true,l2,l3,l4,l5,l6,true,true,l9,rfl,(by simp<;>omega),HS.out⟩
  obtain⟨rfl,rfl,rfl,rfl,rfl,rfl,rfl,rfl,-,rfl,-⟩:=hall;subst hun;go_simp;exact hK _ _ ⟨true,true,true,true,true,true,true,true,true,true,rfl,(by simp<;>omega),HS.out⟩
 ·rintro listed a w' ⟨l0,l1,l2,l3,l4,l5,l6,l7,l8,l9,rfl,rfl,hS⟩ hr;have hall:=Za5 (by kernel_rfl) rfl hr;obtain rfl:l0=true:=by simpa using hall 0 (by simp)
  obtain rfl:l1=true:=by simpa using hall 1 (by simp)
  obtain rfl:l2=true:=by simpa using hall 2 (by simp)
  obtain rfl:l3=true:=by simpa using hall 3 (by simp)
  obtain rfl:l4=true:=by simpa using hall 4 (by simp)
  obtain rfl:l5=true:=by simpa using hall 5 (by simp)
  obtain rfl:l6=true:=by simpa using hall 6 (by simp)
  obtain rfl:l7=true:=by simpa using hall 7 (by simp)
  obtain rfl:l8=true:=by simpa using hall 8 (by simp)
  obtain rfl:l9=true:=by simpa using hall 9 (by simp)
  clear hall hr ;simp only[↓reduceIte] at hS ⊢;simp only[List.setIfInBounds_toArray,List.set_cons_zero,List.set_cons_succ];have HSf:=qh hS;clear hS;have q0:=HSf.out.cell (v:=.slice a1 z1 c1) 0 0 rfl rfl;have q1:=HSf.out.cell (v:=.slice a2 z2 c2) 0 1 rfl rfl;go_wp2;refine bodyPost_ret (v:=.tuple #[.agg #[.slice a1 z1 c1,.slice a2 z2 c2],.string (txB s),.string (txB u)]) (by simp[results,Tryz.results24,go_sem,q0,q1]) rfl ?_
  first|exact⟨s,hts.out,hsl,a1,z1,c1,a2,z2,c2,_,rfl,HSf.out.bel⟩|exact⟨s,hts.out,hsl,⟨a1,z1,c1,a2,z2,c2,_,rfl⟩,HSf.out.bel⟩
 refine⟨false,false,false,false,false,false,false,false,false,false,rfl,(by simp),?_⟩;exact HS5.out.drew.pick [0,1] (by decide)
theorem ZaX (t:Int) (B:Nat) (w:World) (hB:w.heap.size=B):Calls Tryz.prog 136 #[.int .i64 t] w fun e w'=>e = .returned (.slice (some ⟨B,0,none⟩) 3 3)∧w'=w.alloc (.cells #[.int .i64 t,.int .i64 t,.int .i64 t] 3):=by
 subst hB
 go_enter Tryz.func136, Tryz.ntmps136
 go_wp2;go_ret;exact⟨rfl,rfl⟩
theorem Zbg {w0 w:World} {L:List Ent} (h:St w0 w L) (i:Nat) {e:Nat} {v:Value} {n:Nat} {l:List Int} (hx:L[i]? = some (Ent.row e 1 v n (intCells l))):Ints w0.heap.size w v l:=by
 have h2:=h.row i hx;have hn:n=l.length:=by have:=h2.1;simp[intCells] at this;omega
 subst hn;exact(Zaa h2).sl (by omega)
theorem Zfh {w0 w:World} {L:List Ent} (h:St w0 w L) (i:Nat) {e:Nat} {v:Value} {n:Nat} {cs:List Value} (hx:L[i]? = some (Ent.row e 1 v n cs)):Sl w0.heap.size w v n 1 cs:=(Zaa (h.row i hx)).sl (by omega)
theorem Zde {w0 w:World} {L:List Ent} (h:St w0 w L) (i:Nat) {e:Nat} {v:Value} {n:Nat} {l:List Bool} (hx:L[i]? = some (Ent.row e 1 v n (boolCells l))):Bools w0.heap.size w v l:=by
 have h2:=h.row i hx;have hn:n=l.length:=by have:=h2.1;simp[boolCells] at this;omega
 subst hn;exact(Zaa h2).sl (by omega)
theorem Zhg (w:World):Calls Tryz.prog 93 #[.agg #[.int .i64 1,.int .i64 0]] w fun e w'=>RDs ZdM w e w':=by
 have hS0:=((St.start w).alloc _ rfl #[.int .i64 1,.int .i64 0] 57).alloc (w.heap.size+1) (by simp) #[.slice none 0 0,.slice none 0 0] 37;replace hS0:=qh hS0
 go_enter Tryz.func93, Tryz.ntmps93
 have e0:=hS0.out.cell (v:=.int .i64 1) 0 0 rfl rfl;go_wp2_with fail;refine(ZaX 0 (w.heap.size+1+1) _ (by simp)).mono ?_;rintro e w1 ⟨rfl,rfl⟩;clear e0;go_wp2;have hq:=(((((St.start w).alloc _ rfl #[.int .i64 1,.int .i64 0] 57).alloc (w.heap.size+1) (by simp) #[.slice (some ⟨w.heap.size+1+1+1,0,none⟩) 1 1,.slice (some ⟨w.heap.size+1+1+1+1,0,none⟩) 1 1] 37).alloc (w.heap.size+1+1) (by simp) #[.int .i64 0,.int .i64 0,.int .i64 0] 3).alloc (w.heap.size+1+1+1) (by simp) #[.slice (some ⟨w.heap.size+1+1,0,none⟩) 3 3] 26).alloc (w.heap.size+1+1+1+1) (by simp) #[.bool false] 4;refine bodyPost_ret (v:=.agg #[.slice (some ⟨w.heap.size+1+1+1,0,none⟩) 1 1,.slice (some ⟨w.heap.size+1+1+1+1,0,none⟩) 1 1]) (by simp[results,Tryz.results93,go_sem]) rfl ?_;have hr:=((hq.boxrow 2 3 1 (intCells [0,0,0]) rfl rfl (by decide)).boxrow 3 1 1 [.slice (some ⟨w.heap.size+1+1,0,none⟩) 3 3] rfl rfl (by decide)).boxrow 4 1 1 (boolCells [false]) rfl rfl (by decide);refine⟨_,_,_,_,rfl,⟨_,_,rfl,⟨_,Zfh hr 3 rfl,fun i hi => ?_⟩,Zde hr 4 rfl⟩,hq.bel⟩;obtain rfl:i=0:=by have:i<1:=hi;omega
 exact Zbg hr 2 rfl
theorem Zhf (w:World):Calls Tryz.prog 93 #[.agg #[.int .i64 2,.int .i64 0]] w fun e w'=>RDs oneD w e w':=by
 have hS0:=((St.start w).alloc _ rfl #[.int .i64 2,.int .i64 0] 57).alloc (w.heap.size+1) (by simp) #[.slice none 0 0,.slice none 0 0] 37;replace hS0:=qh hS0
 go_enter Tryz.func93, Tryz.ntmps93
 have e0:=hS0.out.cell (v:=.int .i64 2) 0 0 rfl rfl;go_wp2_with fail;refine(ZaX 1 (w.heap.size+1+1) _ (by simp)).mono ?_;rintro e w1 ⟨rfl,rfl⟩;go_wp2_with fail;refine(ZaX 1 (w.heap.size+1+1+1) _ (by simp)).mono ?_;rintro e w1 ⟨rfl,rfl⟩;clear e0;go_wp2;have hq:=((((((St.start w).alloc _ rfl #[.int .i64 2,.int .i64 0] 57).alloc (w.heap.size+1) (by simp) #[.slice (some ⟨w.heap.size+1+1+1+1,0,none⟩) 2 2,.slice (some ⟨w.heap.size+1+1+1+1+1,0,none⟩) 2 2] 37).alloc (w.heap.size+1+1) (by simp) #[.int .i64 1,.int .i64 1,.int .i64 1] 3).alloc (w.heap.size+1+1+1) (by simp) #[.int .i64 1,.int .i64 1,.int .i64 1] 3).alloc (w.heap.size+1+1+1+1) (by simp) #[.slice (some ⟨w.heap.size+1+1,0,none⟩) 3 3,.slice (some ⟨w.heap.size+1+1+1,0,none⟩) 3 3] 26).alloc (w.heap.size+1+1+1+1+1) (by simp) #[.bool true,.bool false] 4;refine bodyPost_ret (v:=.agg #[.slice (some ⟨w.heap.size+1+1+1+1,0,none⟩) 2 2,.slice (some ⟨w.heap.size+1+1+1+1+1,0,none⟩) 2 2]) (by simp[results,Tryz.results93,go_sem]) rfl ?_;have hr:=(((hq.boxrow 2 3 1 (intCells [1,1,1]) rfl rfl (by decide)).boxrow 3 3 1 (intCells [1,1,1]) rfl rfl (by decide)).boxrow 4 2 1 [.slice (some ⟨w.heap.size+1+1,0,none⟩) 3 3,.slice (some ⟨w.heap.size+1+1+1,0,none⟩) 3 3] rfl rfl (by decide)).boxrow 5 2 1 (boolCells [true,false]) rfl rfl (by decide);refine⟨_,_,_,_,rfl,⟨_,_,rfl,⟨_,Zfh hr 4 rfl,fun i hi => ?_⟩,Zde hr 5 rfl⟩,hq.bel⟩;have hi:i<2:=hi;obtain rfl|rfl:i=0∨i=1:=by omega
 ·exact Zbg hr 2 rfl
 exact Zbg hr 3 rfl
theorem Zgb (D:DfaD) (hD:minD ⟨[[1,2,2],[2,2,2],[2,2,2]],[false,true,false]⟩=D) (w:World):Calls Tryz.prog 93 #[.agg #[.int .i64 3,.int .i64 0]] w fun e w'=>RDs D w e w':=by
 have hS0:=((St.start w).alloc _ rfl #[.int .i64 3,.int .i64 0] 57).alloc (w.heap.size+1) (by simp) #[.slice none 0 0,.slice none 0 0] 37;have hok:Zae [[1,2,2],[2,2,2],[2,2,2]] [false,true,false]=true:=by decide
 replace hS0:=qh hS0;replace hD:=qh hD;have Hhok:=qh hok;clear hok
 go_enter Tryz.func93, Tryz.ntmps93
 have e0:=hS0.out.cell (v:=.int .i64 3) 0 0 rfl rfl;have e1:=hS0.out.cell (v:=.int .i64 0) 0 1 rfl rfl;go_wp2_with fail;refine(ZaX 2 (w.heap.size+1+1) _ (by simp)).mono ?_;rintro e w1 ⟨rfl,rfl⟩;go_wp2_with fail;refine(ZaX 2 (w.heap.size+1+1+1) _ (by simp)).mono ?_;rintro e w1 ⟨rfl,rfl⟩;go_wp2_with fail;refine(ZaX 2 (w.heap.size+1+1+1+1) _ (by simp)).mono ?_;rintro e w1 ⟨rfl,rfl⟩;have hS3:=((((hS0.out.alloc (w.heap.size+1+1) (by simp) #[.int .i64 1,.int .i64 2,.int .i64 2] 3).alloc (w.heap.size+1+1+1) (by simp) #[.int .i64 2,.int .i64 2,.int .i64 2] 3).alloc (w.heap.size+1+1+1+1) (by simp) #[.int .i64 2,.int .i64 2,.int .i64 2] 3).alloc (w.heap.size+1+1+1+1+1) (by simp) #[.slice (some ⟨w.heap.size+1+1,0,none⟩) 3 3,.slice (some ⟨w.heap.size+1+1+1,0,none⟩) 3 3,.slice (some ⟨w.heap.size+1+1+1+1,0,none⟩) 3 3] 26).alloc (w.heap.size+1+1+1+1+1+1) (by simp) #[.bool false,.bool true,.bool false] 4;have hr:=((((hS3.boxrow 2 3 1 (intCells [1,2,2]) rfl rfl (by decide)).boxrow 3 3 1 (intCells [2,2,2]) rfl rfl (by decide)).boxrow 4 3 1 (intCells [2,2,2]) rfl rfl (by decide)).boxrow 5 3 1 [.slice (some ⟨w.heap.size+1+1,0,none⟩) 3 3,.slice (some ⟨w.heap.size+1+1+1,0,none⟩) 3 3,.slice (some ⟨w.heap.size+1+1+1+1,0,none⟩) 3 3] rfl rfl (by decide)).boxrow 6 3 1 (boolCells [false,true,false]) rfl rfl (by decide)
 have hR:DfaR 0 _ (.agg #[.slice (some ⟨w.heap.size+1+1+1+1+1,0,none⟩) 3 3,.slice (some ⟨w.heap.size+1+1+1+1+1+1,0,none⟩) 3 3]) ⟨[[1,2,2],[2,2,2],[2,2,2]],[false,true,false]⟩:=⟨_,_,rfl,⟨_,(Zfh hr 5 rfl).mono (Nat.zero_le _),fun i hi=>by
  have hi:i<3:=hi;obtain rfl|rfl|rfl:i=0∨i=1∨i=2:=by omega
  ·exact Sl.mono (Zbg hr 2 rfl) (Nat.zero_le _)
  ·exact Sl.mono (Zbg hr 3 rfl) (Nat.zero_le _)
  exact Sl.mono (Zbg hr 4 rfl) (Nat.zero_le _)⟩,Sl.mono (Zde hr 6 rfl) (Nat.zero_le _)⟩
 have HS3:=qh hS3;have HR:=qh hR;clear hS3 hr hR e0 e1;go_wp2_with fail;refine(ZbC _ _ _ Hhok.out HR.out).mono ?_;rintro e w5 ⟨a1,c1,a2,c2,rfl,hown,hb5⟩;rw[hD.out] at hown;rw[hD.out];have HS4:=qh (HS3.out.call hb5);have HDr:=qh hown.r;have hB1:=(HS3.out.boxlt 1 rfl).2;have hsz:=HS3.out.size;have f0:=HS4.out.fr 1 0 rfl;have f1:=HS4.out.fr 1 1 rfl;have k0:=HS4.out.cell (v:=.slice none 0 0) 1 0 rfl rfl;have k1:=HS4.out.cell (v:=.slice none 0 0) 1 1 rfl rfl;clear hown hb5;go_wp2;have hq:=(HS4.out.set 1 rfl 0 (.slice a1 D.next.length c1)).set 1 rfl 1 (.slice a2 D.ends.length c2);have q0:=hq.cell (v:=.slice a1 D.next.length c1) 1 0 rfl rfl;have q1:=hq.cell (v:=.slice a2 D.ends.length c2) 1 1 rfl rfl;refine bodyPost_ret (v:=.agg #[.slice a1 D.next.length c1,.slice a2 D.ends.length c2]) (by simp[results,Tryz.results93,go_sem,q0,q1]) rfl ?_;exact⟨a1,c1,a2,c2,rfl,((HDr.out.far hB1 0 _).far hB1 1 _).mono hsz,hq.bel⟩
theorem Zga (D:DfaD) (hD:minD ⟨[[2,1,2],[2,2,2],[2,2,2]],[false,true,false]⟩=D) (w:World):Calls Tryz.prog 93 #[.agg #[.int .i64 3,.int .i64 1]] w fun e w'=>RDs D w e w':=by
 have hS0:=((St.start w).alloc _ rfl #[.int .i64 3,.int .i64 1] 57).alloc (w.heap.size+1) (by simp) #[.slice none 0 0,.slice none 0 0] 37;have hok:Zae [[2,1,2],[2,2,2],[2,2,2]] [false,true,false]=true:=by decide
 replace hS0:=qh hS0;replace hD:=qh hD;have Hhok:=qh hok;clear hok
 go_enter Tryz.func93, Tryz.ntmps93
 have e0:=hS0.out.cell (v:=.int .i64 3) 0 0 rfl rfl;have e1:=hS0.out.cell (v:=.int .i64 1) 0 1 rfl rfl;go_wp2_with fail;refine(ZaX 2 (w.heap.size+1+1) _ (by simp)).mono ?_;rintro e w1 ⟨rfl,rfl⟩;go_wp2_with fail;refine(ZaX 2 (w.heap.size+1+1+1) _ (by simp)).mono ?_;rintro e w1 ⟨rfl,rfl⟩;go_wp2_with fail;refine(ZaX 2 (w.heap.size+1+1+1+1) _ (by simp)).mono ?_;rintro e w1 ⟨rfl,rfl⟩;have hS3:=((((hS0.out.alloc (w.heap.size+1+1) (by simp) #[.int .i64 2,.int .i64 1,.int .i64 2] 3).alloc (w.heap.size+1+1+1) (by simp) #[.int .i64 2,.int .i64 2,.int .i64 2] 3).alloc (w.heap.size+1+1+1+1) (by simp) #[.int .i64 2,.int .i64 2,.int .i64 2] 3).alloc (w.heap.size+1+1+1+1+1) (by simp) #[.slice (some ⟨w.heap.size+1+1,0,none⟩) 3 3,.slice (some ⟨w.heap.size+1+1+1,0,none⟩) 3 3,.slice (some ⟨w.heap.size+1+1+1+1,0,none⟩) 3 3] 26).alloc (w.heap.size+1+1+1+1+1+1) (by simp) #[.bool false,.bool true,.bool false] 4;have hr:=((((hS3.boxrow 2 3 1 (intCells [2,1,2]) rfl rfl (by decide)).boxrow 3 3 1 (intCells [2,2,2]) rfl rfl (by decide)).boxrow 4 3 1 (intCells [2,2,2]) rfl rfl (by decide)).boxrow 5 3 1 [.slice (some ⟨w.heap.size+1+1,0,none⟩) 3 3,.slice (some ⟨w.heap.size+1+1+1,0,none⟩) 3 3,.slice (some ⟨w.heap.size+1+1+1+1,0,none⟩) 3 3] rfl rfl (by decide)).boxrow 6 3 1 (boolCells [false,true,false]) rfl rfl (by decide)
 have hR:DfaR 0 _ (.agg #[.slice (some ⟨w.heap.size+1+1+1+1+1,0,none⟩) 3 3,.slice (some ⟨w.heap.size+1+1+1+1+1+1,0,none⟩) 3 3]) ⟨[[2,1,2],[2,2,2],[2,2,2]],[false,true,false]⟩:=⟨_,_,rfl,⟨_,(Zfh hr 5 rfl).mono (Nat.zero_le _),fun i hi=>by
  have hi:i<3:=hi;obtain rfl|rfl|rfl:i=0∨i=1∨i=2:=by omega
  ·exact Sl.mono (Zbg hr 2 rfl) (Nat.zero_le _)
  ·exact Sl.mono (Zbg hr 3 rfl) (Nat.zero_le _)
  exact Sl.mono (Zbg hr 4 rfl) (Nat.zero_le _)⟩,Sl.mono (Zde hr 6 rfl) (Nat.zero_le _)⟩
 have HS3:=qh hS3;have HR:=qh hR;clear hS3 hr hR e0 e1;go_wp2_with fail;refine(ZbC _ _ _ Hhok.out HR.out).mono ?_;rintro e w5 ⟨a1,c1,a2,c2,rfl,hown,hb5⟩;rw[hD.out] at hown;rw[hD.out];have HS4:=qh (HS3.out.call hb5);have HDr:=qh hown.r;have hB1:=(HS3.out.boxlt 1 rfl).2;have hsz:=HS3.out.size;have f0:=HS4.out.fr 1 0 rfl;have f1:=HS4.out.fr 1 1 rfl;have k0:=HS4.out.cell (v:=.slice none 0 0) 1 0 rfl rfl;have k1:=HS4.out.cell (v:=.slice none 0 0) 1 1 rfl rfl;clear hown hb5;go_wp2;have hq:=(HS4.out.set 1 rfl 0 (.slice a1 D.next.length c1)).set 1 rfl 1 (.slice a2 D.ends.length c2);have q0:=hq.cell (v:=.slice a1 D.next.length c1) 1 0 rfl rfl;have q1:=hq.cell (v:=.slice a2 D.ends.length c2) 1 1 rfl rfl;refine bodyPost_ret (v:=.agg #[.slice a1 D.next.length c1,.slice a2 D.ends.length c2]) (by simp[results,Tryz.results93,go_sem,q0,q1]) rfl ?_;exact⟨a1,c1,a2,c2,rfl,((HDr.out.far hB1 0 _).far hB1 1 _).mono hsz,hq.bel⟩
theorem Zf9 (D:DfaD) (hD:minD ⟨[[2,2,1],[2,2,2],[2,2,2]],[false,true,false]⟩=D) (w:World):Calls Tryz.prog 93 #[.agg #[.int .i64 3,.int .i64 2]] w fun e w'=>RDs D w e w':=by
 have hS0:=((St.start w).alloc _ rfl #[.int .i64 3,.int .i64 2] 57).alloc (w.heap.size+1) (by simp) #[.slice none 0 0,.slice none 0 0] 37;have hok:Zae [[2,2,1],[2,2,2],[2,2,2]] [false,true,false]=true:=by decide
 replace hS0:=qh hS0;replace hD:=qh hD;have Hhok:=qh hok;clear hok
 go_enter Tryz.func93, Tryz.ntmps93
 have e0:=hS0.out.cell (v:=.int .i64 3) 0 0 rfl rfl;have e1:=hS0.out.cell (v:=.int .i64 2) 0 1 rfl rfl;go_wp2_with fail;refine(ZaX 2 (w.heap.size+1+1) _ (by simp)).mono ?_;rintro e w1 ⟨rfl,rfl⟩;go_wp2_with fail;refine(ZaX 2 (w.heap.size+1+1+1) _ (by simp)).mono ?_;rintro e w1 ⟨rfl,rfl⟩;go_wp2_with fail;refine(ZaX 2 (w.heap.size+1+1+1+1) _ (by simp)).mono ?_;rintro e w1 ⟨rfl,rfl⟩;have hS3:=((((hS0.out.alloc (w.heap.size+1+1) (by simp) #[.int .i64 2,.int .i64 2,.int .i64 1] 3).alloc (w.heap.size+1+1+1) (by simp) #[.int .i64 2,.int .i64 2,.int .i64 2] 3).alloc (w.heap.size+1+1+1+1) (by simp) #[.int .i64 2,.int .i64 2,.int .i64 2] 3).alloc (w.heap.size+1+1+1+1+1) (by simp) #[.slice (some ⟨w.heap.size+1+1,0,none⟩) 3 3,.slice (some ⟨w.heap.size+1+1+1,0,none⟩) 3 3,.slice (some ⟨w.heap.size+1+1+1+1,0,none⟩) 3 3] 26).alloc (w.heap.size+1+1+1+1+1+1) (by simp) #[.bool false,.bool true,.bool false] 4;have hr:=((((hS3.boxrow 2 3 1 (intCells [2,2,1]) rfl rfl (by decide)).boxrow 3 3 1 (intCells [2,2,2]) rfl rfl (by decide)).boxrow 4 3 1 (intCells [2,2,2]) rfl rfl (by decide)).boxrow 5 3 1 [.slice (some ⟨w.heap.size+1+1,0,none⟩) 3 3,.slice (some ⟨w.heap.size+1+1+1,0,none⟩) 3 3,.slice (some ⟨w.heap.size+1+1+1+1,0,none⟩) 3 3] rfl rfl (by decide)).boxrow 6 3 1 (boolCells [false,true,false]) rfl rfl (by decide)
 have hR:DfaR 0 _ (.agg #[.slice (some ⟨w.heap.size+1+1+1+1+1,0,none⟩) 3 3,.slice (some ⟨w.heap.size+1+1+1+1+1+1,0,none⟩) 3 3]) ⟨[[2,2,1],[2,2,2],[2,2,2]],[false,true,false]⟩:=⟨_,_,rfl,⟨_,(Zfh hr 5 rfl).mono (Nat.zero_le _),fun i hi=>by
  have hi:i<3:=hi;obtain rfl|rfl|rfl:i=0∨i=1∨i=2:=by omega
  ·exact Sl.mono (Zbg hr 2 rfl) (Nat.zero_le _)
  ·exact Sl.mono (Zbg hr 3 rfl) (Nat.zero_le _)
  exact Sl.mono (Zbg hr 4 rfl) (Nat.zero_le _)⟩,Sl.mono (Zde hr 6 rfl) (Nat.zero_le _)⟩
 have HS3:=qh hS3;have HR:=qh hR;clear hS3 hr hR e0 e1;go_wp2_with fail;refine(ZbC _ _ _ Hhok.out HR.out).mono ?_;rintro e w5 ⟨a1,c1,a2,c2,rfl,hown,hb5⟩;rw[hD.out] at hown;rw[hD.out];have HS4:=qh (HS3.out.call hb5);have HDr:=qh hown.r;have hB1:=(HS3.out.boxlt 1 rfl).2;have hsz:=HS3.out.size;have f0:=HS4.out.fr 1 0 rfl;have f1:=HS4.out.fr 1 1 rfl;have k0:=HS4.out.cell (v:=.slice none 0 0) 1 0 rfl rfl;have k1:=HS4.out.cell (v:=.slice none 0 0) 1 1 rfl rfl;clear hown hb5;go_wp2;have hq:=(HS4.out.set 1 rfl 0 (.slice a1 D.next.length c1)).set 1 rfl 1 (.slice a2 D.ends.length c2);have q0:=hq.cell (v:=.slice a1 D.next.length c1) 1 0 rfl rfl;have q1:=hq.cell (v:=.slice a2 D.ends.length c2) 1 1 rfl rfl;refine bodyPost_ret (v:=.agg #[.slice a1 D.next.length c1,.slice a2 D.ends.length c2]) (by simp[results,Tryz.results93,go_sem,q0,q1]) rfl ?_;exact⟨a1,c1,a2,c2,rfl,((HDr.out.far hB1 0 _).far hB1 1 _).mono hsz,hq.bel⟩
theorem Zh3 (k l:Int) (w:World) (hok:pOk (k,l)=true) (h0:Zah (k,l)=0) (D:DfaD) (hD:ZhX (k,l)=D):Calls Tryz.prog 93 #[.agg #[.int .i64 k,.int .i64 l]] w fun e w'=>RDs D w e w':=by
 have hk:(k=1∧l=0)∨(k=2∧l=0)∨(k=3∧0≤l∧l≤2):=by
  unfold Zah at h0;rw[if_pos hok] at h0;simp only[pOk,inB,Bool.and_eq_true,Bool.or_eq_true,decide_eq_true_eq,Bool.not_eq_true',decide_eq_false_iff_not] at hok
  split at h0
  ·omega
  split at h0<;>omega
 subst hD;rcases hk with⟨rfl,rfl⟩|⟨rfl,rfl⟩|⟨rfl,h1,h2⟩
 ·exact Zhg w
 ·exact Zhf w
 obtain⟨c,rfl⟩:∃ c:Nat,l=(c:Int):=⟨l.toNat,by omega⟩;obtain rfl|rfl|rfl:c=0∨c=1∨c=2:=by omega
 ·exact Zgb _ rfl w
 ·exact Zga _ rfl w
 exact Zf9 _ rfl w
end Go.Proofs.YtfikabecgaappaaGreat
