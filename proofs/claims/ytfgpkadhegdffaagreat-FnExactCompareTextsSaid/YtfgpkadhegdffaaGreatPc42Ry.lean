/-
  The walk over the reference's FirstExtra.
  Conditions: the automata read as such.
-/
import Derived.Test.YtfgpkadhegdffaaGreatRows
import Derived.Test.YtfgpkadhegdffaaGreatPc41L16e
set_option maxHeartbeats 8000000
set_option maxRecDepth 100000
namespace Go.Proofs.YtfgpkadhegdffaaGreat
open Go.RowKit Go.Maps
theorem ZhH (a b:DfaD) (v1 v2:Value) (w:World) (hda:Zae a.next a.ends=true) (hdb:Zae b.next b.ends=true) (h1:DfaR 0 w v1 a) (h2:DfaR 0 w v2 b) :
  Calls Tryz.prog 87 #[v1,v2,.int .i64 2] w fun e w'=>e=ZaH (hitX a b)∧Below w.heap.size w w':=ZhJ ZiE rfl a b v1 v2 w hda hdb h1 h2
theorem Zbh (a b:DfaD) (v1 v2:Value) (w:World) (h1:DfaR 0 w v1 a) (h2:DfaR 0 w v2 b) (o:Option (List Nat)) (ho:feO a b=o) :
  Calls Tryz.prog 47 #[v1,v2] w fun e w'=>e=ZaH o∧Below w.heap.size w w':=by
 obtain⟨u1,u2,rfl,g1,g2⟩:=h1;obtain⟨u3,u4,rfl,g3,g4⟩:=h2;have hb2:Below w.heap.size w ((w.alloc (.cells #[u1,u2] 25)).alloc (.cells #[u3,u4] 25)):=((Below.refl _ _).alloc (Nat.le_refl _) _).alloc (by simp) _;have H1:Hid (DfaR 0 ((w.alloc (.cells #[u1,u2] 25)).alloc (.cells #[u3,u4] 25)) (.agg #[u1,u2]) a):=qh ⟨_,_,rfl,g1.below hb2,g2.below hb2⟩;have H2:Hid (DfaR 0 ((w.alloc (.cells #[u1,u2] 25)).alloc (.cells #[u3,u4] 25)) (.agg #[u3,u4]) b):=qh ⟨_,_,rfl,g3.below hb2,g4.below hb2⟩;have x0:Bx ((w.alloc (.cells #[u1,u2] 25)).alloc (.cells #[u3,u4] 25)) w.heap.size #[u1,u2] 25:=(Bx.new w _ _).alloc _;have x1:Bx ((w.alloc (.cells #[u1,u2] 25)).alloc (.cells #[u3,u4] 25)) (w.heap.size+1) #[u3,u4] 25:=by simpa using Bx.new (w.alloc (.cells #[u1,u2] 25)) #[u3,u4] 25
 obtain⟨s,hs⟩:=ZaU (hitX a b);have Hhb2:=qh hb2;clear hb2;replace hs:=qh hs;replace ho:=qh ho;have Hx0:=qh x0;clear x0;have Hx1:=qh x1;clear x1;clear g1 g2 g3 g4;cases hda:Zae a.next a.ends
 all_goals
  replace hda:=qh hda
  go_enter Tryz.func47, Tryz.ntmps47
  go_wp2_with fail;refine(ZbW a _ _ H1.out _ hda.out).mono ?_;rintro e w1 ⟨rfl,hb1⟩;have y0:=Hx0.out.below hb1 Hx0.out.lt;have y1:=Hx1.out.below hb1 Hx1.out.lt;have c0:=y1.cell 0;have c1:=y1.cell 1;simp only[List.getElem?_toArray,List.getElem?_cons_zero,List.getElem?_cons_succ] at c0 c1;have hbw:=Hhb2.out.trans (hb1.mono Hhb2.out.size);have R1:=qh (H1.out.below hb1);have R2:=qh (H2.out.below hb1);replace hb1:=qh hb1;have Hhbw:=qh hbw;clear hbw;have Hy0:=qh y0;clear y0;have Hy1:=qh y1;clear y1
 ·go_wp2
  go_ret2
  exact⟨by rw[← ho.out,feO,hda.out];rfl,Hhbw.out⟩
 cases hdb:Zae b.next b.ends
 all_goals
  have Hhdb:=qh hdb;clear hdb;go_wp2_with fail;refine(ZbW b _ _ R2.out _ Hhdb.out).mono ?_;rintro e w2 ⟨rfl,hb2⟩;have z0:=Hy0.out.below hb2 Hy0.out.lt;have z1:=Hy1.out.below hb2 Hy1.out.lt;have hbv:=Hhbw.out.trans (hb2.mono Hhbw.out.size);have Q1:=qh (R1.out.below hb2);have Q2:=qh (R2.out.below hb2);have e0:=z0.cell 0;have e1:=z0.cell 1;have e2:=z1.cell 0;have e3:=z1.cell 1;simp only[List.getElem?_toArray,List.getElem?_cons_zero,List.getElem?_cons_succ] at e0 e1 e2 e3;have Hhb2:=qh hb2;clear hb2;have Hhbv:=qh hbv;clear hbv;have Hz0:=qh z0;clear z0;have Hz1:=qh z1;clear z1;clear c0 c1
 ·go_wp2
  go_ret2
  exact⟨by rw[← ho.out,feO,hda.out,Hhdb.out];rfl,Hhbv.out⟩
 go_wp2_with fail;refine(ZhH a b _ _ _ hda.out Hhdb.out Q1.out Q2.out).mono ?_;rintro e w3 ⟨he,hb3⟩;rw[hs.out] at he;subst he;have hbx:=Hhbv.out.trans (hb3.mono Hhbv.out.size);have Hhbx:=qh hbx;clear hbx;clear hb3;go_wp2
 go_ret2
 refine⟨?_,Hhbx.out⟩;rw[← ho.out,feO,hda.out,Hhdb.out,if_pos (by rfl),hs.out];rfl
end Go.Proofs.YtfgpkadhegdffaaGreat
namespace Go.Proofs.YtfgpkadhegdffaaGreat
def StarL (L:List Nat→Prop) (w:List Nat):Prop:=∃ ws:List (List Nat),w=ws.flatten∧∀ u∈ws,L u
theorem StarL.nil {L:List Nat→Prop}:StarL L []:=⟨[],rfl,by simp⟩
theorem StarL.cons {L:List Nat→Prop} {u w:List Nat} (h:L u) (h':StarL L w):StarL L (u++w):=by
 obtain⟨ws,rfl,hw⟩:=h'
 exact⟨u::ws,rfl,fun x hx=>by
  rcases List.mem_cons.1 hx with rfl|hx
  ·exact h
  exact hw x hx⟩
theorem StarL.first {L:List Nat→Prop} {w:List Nat} (h:StarL L w):w=[]∨∃ u v,u≠[]∧w=u++v∧L u∧StarL L v:=by
 obtain⟨ws,rfl,hs⟩:=h
 induction ws with
 | nil=>exact .inl rfl
 | cons u ws ih =>
  by_cases hu:u=[]
  ·subst hu;exact ih fun x hx=>hs x (by simp[hx])
  exact .inr ⟨u,ws.flatten,hu,rfl,hs u (by simp),ws,rfl,fun x hx=>hs x (by simp[hx])⟩
end Go.Proofs.YtfgpkadhegdffaaGreat
namespace Go.Proofs.YtfgpkadhegdffaaGreat
open Go.RowKit
theorem Zmx {K:Nat} (hK:K=40) {es:List (Int × Int)} {D:DfaD} (h:Zk8 K es (some D)):Zae D.next D.ends=true∧minQ D=D:=by
 have hok:=ZnB hK h;refine⟨hok,?_⟩;obtain⟨-,t,-,hc⟩|⟨-,h⟩:=h
 ·unfold minQ;rw[if_pos hok];exact Zh4 hK t hc
 cases h
theorem Zmw {K:Nat} (hK:K=40) {es:List (Int × Int)} {o:Option DfaD} (h:Zk8 K es o) {D:DfaD} {fb:Bool} (hD:o.getD ZaT=D) (hfb:o.isSome=fb):(fb=false→D.next.length=0)∧(fb=true→o=some D∧Zae D.next D.ends=true∧minQ D=D):=by
 cases o with
 | none=>subst hD;exact⟨fun _=>rfl,fun e=>(by rw[e] at hfb;cases hfb)⟩
 | some d =>obtain rfl:d=D:=hD;exact⟨fun e=>(by rw[e] at hfb;cases hfb),fun _=>⟨rfl,Zmx hK h⟩⟩
theorem Zel {K:Nat} (hK:K=40) {q:Option (List (Int × Int))} {o:Option DfaD} (h:Zi8 K q o) {D:DfaD} {fb:Bool} (hD:o.getD ZaT=D) (hfb:o.isSome=fb):(fb=false→D.next.length=0)∧(fb=true→o=some D∧Zae D.next D.ends=true∧minQ D=D):=by
 rcases h with⟨-,rfl⟩|⟨es,-,-,h⟩
 ·subst hD;exact⟨fun _=>rfl,fun e=>(by rw[e] at hfb;cases hfb)⟩
 exact Zmw hK h hD hfb
end Go.Proofs.YtfgpkadhegdffaaGreat
namespace Go.Proofs.YtfgpkadhegdffaaGreat
open Go.RowKit Go.Maps
def cmpR (A B:DfaD) (f:Bool):Int × ByteArray:=if f=true then(match hitP A B with|none=>(0,{ data:=#[] })|some l=>(if (feO A B).isSome=false then 1 else if (feO B A).isSome=false then 2 else 3,wdB l)) else(4,{ data:=#[] })
theorem ZdG (K:Nat) (hK:K=40) (s t:List Nat) (oa ob:Option DfaD) (hoa:Zi8 K (Zbu s) oa) (hob:Zi8 K (Zbu t) ob) (r:Int × ByteArray) (hr:cmpR (oa.getD ZaT) (ob.getD ZaT) (oa.isSome&&ob.isSome)=r) (w:World) (hs:isT s) (ht:isT t) :
  Calls Tryz.prog 18 #[.string (txB s),.string (txB t)] w fun e w'=>e = .returned (.tuple #[.int .i64 r.1,.string r.2])∧Below w.heap.size w w':=by
 have hca:=fun (u:World)=>Zcr K hK s oa hoa u hs
 have hcb:=fun (u:World)=>Zcr K hK t ob hob u ht
 obtain⟨A,hA⟩:=eJ (oa.getD ZaT);obtain⟨B,hB⟩:=eJ (ob.getD ZaT);obtain⟨fa,hfa⟩:∃ f,oa.isSome=f:=⟨_,rfl⟩;obtain⟨fb,hfb⟩:∃ f,ob.isSome=f:=⟨_,rfl⟩;have hA2:oa.getD zeD=A:=hA;have hB2:ob.getD zeD=B:=hB;have hya:=(Zel hK hoa hA hfa).2;have hyb:=(Zel hK hob hB hfb).2;rw[hA,hB,hfa,hfb] at hr;rw[hA2,hfa] at hca;rw[hB2,hfb] at hcb;obtain⟨s1,hs1⟩:=ZaU (feO A B);obtain⟨s2,hs2⟩:=ZaU (feO B A);obtain⟨i1,hi1⟩:∃ i,(feO A B).isSome=i:=⟨_,rfl⟩;obtain⟨i2,hi2⟩:∃ i,(feO B A).isSome=i:=⟨_,rfl⟩;have Hs1:=qh hs1;have Hs2:=qh hs2;have Hi1:=qh hi1;have Hi2:=qh hi2;have Hca:=qh hca;have Hcb:=qh hcb;have Hr:=qh hr;have Hya:=qh hya;have Hyb:=qh hyb;clear hca hcb hA hB hA2 hB2 hfa hfb hr hya hyb hs1 hs2 hi1 hi2 hoa hob hK
 go_enter Tryz.func18, Tryz.ntmps18
 go_wp2_with fail;refine(Hca.out _).mono ?_;rintro e w2 ⟨⟨g1,c1,g2,c2,rfl,hx⟩,hb⟩;have HS2:=qh (((St.start w).call hb).alloc _ rfl #[.slice g1 A.next.length c1,.slice g2 A.ends.length c2] 25);have HA2:=qh (((hx.r).mono (Nat.zero_le _)).below ((Below.refl w2.heap.size w2).alloc (Nat.le_refl _) (.cells #[.slice g1 A.next.length c1,.slice g2 A.ends.length c2] 25)));clear hb hx;go_wp2_with fail;refine(Hcb.out _).mono ?_;rintro e w3 ⟨⟨x1,y1,x2,y2,rfl,hx⟩,hb⟩;have HS3:=qh ((HS2.out.call hb).alloc _ rfl #[.slice x1 B.next.length y1,.slice x2 B.ends.length y2] 25);have HA3:=qh ((HA2.out.below hb).below ((Below.refl w3.heap.size w3).alloc (Nat.le_refl _) (.cells #[.slice x1 B.next.length y1,.slice x2 B.ends.length y2] 25)));have HB3:=qh (((hx.r).mono (Nat.zero_le _)).below ((Below.refl w3.heap.size w3).alloc (Nat.le_refl _) (.cells #[.slice x1 B.next.length y1,.slice x2 B.ends.length y2] 25)));clear hb hx HA2 HS2;cases fa
 ·go_wp2;refine bodyPost_ret (v:=.tuple #[.int .i64 4,.string { data:=#[] }]) (by simp[results,Tryz.results18,go_sem]) rfl ⟨?_,HS3.out.bel⟩;rw[← Hr.out];rfl
 cases fb
 ·go_wp2;refine bodyPost_ret (v:=.tuple #[.int .i64 4,.string { data:=#[] }]) (by simp[results,Tryz.results18,go_sem]) rfl ⟨?_,HS3.out.bel⟩;rw[← Hr.out];rfl
 have HoA:=qh (Hya.out rfl).2.1;have HoB:=qh (Hyb.out rfl).2.1;have a0:=HS3.out.cell (v:=.slice g1 A.next.length c1) 0 0 rfl rfl;have a1:=HS3.out.cell (v:=.slice g2 A.ends.length c2) 0 1 rfl rfl;have b0:=HS3.out.cell (v:=.slice x1 B.next.length y1) 1 0 rfl rfl;have b1:=HS3.out.cell (v:=.slice x2 B.ends.length y2) 1 1 rfl rfl;go_wp2_with fail;refine(Zk1 A B _ _ _ HoA.out HoB.out HA3.out HB3.out).mono ?_;rintro e w4 ⟨he,hb⟩;have HS4:=qh (HS3.out.call hb);have HA4:=qh (HA3.out.below hb);have HB4:=qh (HB3.out.below hb);clear hb a0 a1 b0 b1;cases hp:hitP A B with
 | none =>rw[hp] at he;unfold ZaH at he;simp only at he;subst he;have Hhp:=qh hp;clear hp;go_wp2;refine bodyPost_ret (v:=.tuple #[.int .i64 0,.string { data:=#[] }]) (by simp[results,Tryz.results18,go_sem]) rfl ⟨?_,HS4.out.bel⟩;rw[← Hr.out,cmpR,Hhp.out];rfl
 | some l =>
  rw[hp] at he;unfold ZaH at he;simp only at he;subst he;have Hhp:=qh hp;clear hp;have a0:=HS4.out.cell (v:=.slice g1 A.next.length c1) 0 0 rfl rfl;have a1:=HS4.out.cell (v:=.slice g2 A.ends.length c2) 0 1 rfl rfl;have b0:=HS4.out.cell (v:=.slice x1 B.next.length y1) 1 0 rfl rfl;have b1:=HS4.out.cell (v:=.slice x2 B.ends.length y2) 1 1 rfl rfl;go_wp2_with fail;refine(ZcA A B _ _ _ HA4.out HB4.out _ rfl).mono ?_;rintro e w5 ⟨he,hb⟩;rw[Hs1.out,Hi1.out] at he;subst he;have HS5:=qh (HS4.out.call hb);have HA5:=qh (HA4.out.below hb);have HB5:=qh (HB4.out.below hb);clear hb a0 a1 b0 b1;have a0:=HS5.out.cell (v:=.slice g1 A.next.length c1) 0 0 rfl rfl;have a1:=HS5.out.cell (v:=.slice g2 A.ends.length c2) 0 1 rfl rfl;have b0:=HS5.out.cell (v:=.slice x1 B.next.length y1) 1 0 rfl rfl;have b1:=HS5.out.cell (v:=.slice x2 B.ends.length y2) 1 1 rfl rfl;go_wp2_with fail;refine(ZcA B A _ _ _ HB5.out HA5.out _ rfl).mono ?_;rintro e w6 ⟨he,hb⟩;rw[Hs2.out,Hi2.out] at he;subst he;have HS6:=qh (HS5.out.call hb);clear hb a0 a1 b0 b1;cases i1
  ·go_wp2;refine bodyPost_ret (v:=.tuple #[.int .i64 1,.string (wdB l)]) (by simp[results,Tryz.results18,go_sem]) rfl ⟨?_,HS6.out.bel⟩;rw[← Hr.out,cmpR,Hhp.out];simp[Hi1.out,Hi2.out]
  cases i2
  ·go_wp2;refine bodyPost_ret (v:=.tuple #[.int .i64 2,.string (wdB l)]) (by simp[results,Tryz.results18,go_sem]) rfl ⟨?_,HS6.out.bel⟩;rw[← Hr.out,cmpR,Hhp.out];simp[Hi1.out,Hi2.out]
  go_wp2;refine bodyPost_ret (v:=.tuple #[.int .i64 3,.string (wdB l)]) (by simp[results,Tryz.results18,go_sem]) rfl ⟨?_,HS6.out.bel⟩;rw[← Hr.out,cmpR,Hhp.out];simp[Hi1.out,Hi2.out]
theorem ZdF (K:Nat) (hK:K=40) (s t:List Nat) (oa ob:Option DfaD) (hoa:Zi8 K (Zbu s) oa) (hob:Zi8 K (Zbu t) ob) (r:Int × ByteArray) (hr:cmpR (oa.getD ZaT) (ob.getD ZaT) (oa.isSome&&ob.isSome)=r) (w:World) (hs:isT s) (ht:isT t) :
  Calls Tryz.prog 17 #[.string (txB s),.string (txB t)] w fun e w'=>e = .returned (.tuple #[.int .i64 r.1,.string r.2])∧Below w.heap.size w w':=by
 have hca:=fun (u:World)=>Zcl K hK s oa hoa u hs
 have hcb:=fun (u:World)=>Zcl K hK t ob hob u ht
 unfold RO at hca hcb;obtain⟨A,hA⟩:=eJ (oa.getD ZaT);obtain⟨B,hB⟩:=eJ (ob.getD ZaT);obtain⟨fa,hfa⟩:∃ f,oa.isSome=f:=⟨_,rfl⟩;obtain⟨fb,hfb⟩:∃ f,ob.isSome=f:=⟨_,rfl⟩;have hA2:oa.getD zeD=A:=hA;have hB2:ob.getD zeD=B:=hB;have hya:=(Zel hK hoa hA hfa).2;have hyb:=(Zel hK hob hB hfb).2;rw[hA,hB,hfa,hfb] at hr;rw[hA,hfa] at hca;rw[hB,hfb] at hcb;obtain⟨s1,hs1⟩:=ZaU (feO A B);obtain⟨s2,hs2⟩:=ZaU (feO B A);obtain⟨i1,hi1⟩:∃ i,(feO A B).isSome=i:=⟨_,rfl⟩;obtain⟨i2,hi2⟩:∃ i,(feO B A).isSome=i:=⟨_,rfl⟩;have Hs1:=qh hs1;have Hs2:=qh hs2;have Hi1:=qh hi1;have Hi2:=qh hi2;have Hca:=qh hca;have Hcb:=qh hcb;have Hr:=qh hr;have Hya:=qh hya;have Hyb:=qh hyb;clear hca hcb hA hB hA2 hB2 hfa hfb hr hya hyb hs1 hs2 hi1 hi2 hoa hob hK
 go_enter Tryz.func17, Tryz.ntmps17
 go_wp2_with fail;refine(Hca.out _).mono ?_;rintro e w2 ⟨g1,c1,g2,c2,rfl,hx,hb⟩;have HS2:=qh (((St.start w).call hb).alloc _ rfl #[.slice g1 A.next.length c1,.slice g2 A.ends.length c2] 25);have HA2:=qh ((hx.mono (Nat.zero_le _)).below ((Below.refl w2.heap.size w2).alloc (Nat.le_refl _) (.cells #[.slice g1 A.next.length c1,.slice g2 A.ends.length c2] 25)));clear hb hx;go_wp2_with fail;refine(Hcb.out _).mono ?_;rintro e w3 ⟨x1,y1,x2,y2,rfl,hx,hb⟩;have HS3:=qh ((HS2.out.call hb).alloc _ rfl #[.slice x1 B.next.length y1,.slice x2 B.ends.length y2] 25);have HA3:=qh ((HA2.out.below hb).below ((Below.refl w3.heap.size w3).alloc (Nat.le_refl _) (.cells #[.slice x1 B.next.length y1,.slice x2 B.ends.length y2] 25)));have HB3:=qh ((hx.mono (Nat.zero_le _)).below ((Below.refl w3.heap.size w3).alloc (Nat.le_refl _) (.cells #[.slice x1 B.next.length y1,.slice x2 B.ends.length y2] 25)));clear hb hx HA2 HS2;cases fa
 ·go_wp2;refine bodyPost_ret (v:=.tuple #[.int .i64 4,.string { data:=#[] }]) (by simp[results,Tryz.results17,go_sem]) rfl ⟨?_,HS3.out.bel⟩;rw[← Hr.out];rfl
 cases fb
 ·go_wp2;refine bodyPost_ret (v:=.tuple #[.int .i64 4,.string { data:=#[] }]) (by simp[results,Tryz.results17,go_sem]) rfl ⟨?_,HS3.out.bel⟩;rw[← Hr.out];rfl
 have HoA:=qh (Hya.out rfl).2.1;have HoB:=qh (Hyb.out rfl).2.1;have hfd:fdO A B=hitP A B:=by unfold fdO;rw[HoA.out,HoB.out];rfl
 have Hfd:=qh hfd;clear hfd;have a0:=HS3.out.cell (v:=.slice g1 A.next.length c1) 0 0 rfl rfl;have a1:=HS3.out.cell (v:=.slice g2 A.ends.length c2) 0 1 rfl rfl;have b0:=HS3.out.cell (v:=.slice x1 B.next.length y1) 1 0 rfl rfl;have b1:=HS3.out.cell (v:=.slice x2 B.ends.length y2) 1 1 rfl rfl;go_wp2_with fail;refine(ZdP A B _ _ _ HA3.out HB3.out _ Hfd.out).mono ?_;rintro e w4 ⟨he,hb⟩;have HS4:=qh (HS3.out.call hb);have HA4:=qh (HA3.out.below hb);have HB4:=qh (HB3.out.below hb);clear hb a0 a1 b0 b1;cases hp:hitP A B with
 | none =>rw[hp] at he;unfold ZaH at he;simp only at he;subst he;have Hhp:=qh hp;clear hp;have a0:=HS4.out.cell (v:=.slice g1 A.next.length c1) 0 0 rfl rfl;have a1:=HS4.out.cell (v:=.slice g2 A.ends.length c2) 0 1 rfl rfl;have b0:=HS4.out.cell (v:=.slice x1 B.next.length y1) 1 0 rfl rfl;have b1:=HS4.out.cell (v:=.slice x2 B.ends.length y2) 1 1 rfl rfl;go_wp2_with fail;refine(Zbh A B _ _ _ HA4.out HB4.out _ rfl).mono ?_;rintro e w5 ⟨he,hb⟩;rw[Hs1.out,Hi1.out] at he;subst he;have HS5:=qh (HS4.out.call hb);have HA5:=qh (HA4.out.below hb);have HB5:=qh (HB4.out.below hb);clear hb a0 a1 b0 b1;have a0:=HS5.out.cell (v:=.slice g1 A.next.length c1) 0 0 rfl rfl;have a1:=HS5.out.cell (v:=.slice g2 A.ends.length c2) 0 1 rfl rfl;have b0:=HS5.out.cell (v:=.slice x1 B.next.length y1) 1 0 rfl rfl;have b1:=HS5.out.cell (v:=.slice x2 B.ends.length y2) 1 1 rfl rfl;go_wp2_with fail;refine(Zbh B A _ _ _ HB5.out HA5.out _ rfl).mono ?_;rintro e w6 ⟨he,hb⟩;rw[Hs2.out,Hi2.out] at he;subst he;have HS6:=qh (HS5.out.call hb);clear hb a0 a1 b0 b1;go_wp2;refine bodyPost_ret (v:=.tuple #[.int .i64 0,.string { data:=#[] }]) (by simp[results,Tryz.results17,go_sem]) rfl ⟨?_,HS6.out.bel⟩;rw[← Hr.out,cmpR,Hhp.out];rfl
 | some l =>
  rw[hp] at he;unfold ZaH at he;simp only at he;subst he;have Hhp:=qh hp;clear hp;have a0:=HS4.out.cell (v:=.slice g1 A.next.length c1) 0 0 rfl rfl;have a1:=HS4.out.cell (v:=.slice g2 A.ends.length c2) 0 1 rfl rfl;have b0:=HS4.out.cell (v:=.slice x1 B.next.length y1) 1 0 rfl rfl;have b1:=HS4.out.cell (v:=.slice x2 B.ends.length y2) 1 1 rfl rfl;go_wp2_with fail;refine(Zbh A B _ _ _ HA4.out HB4.out _ rfl).mono ?_;rintro e w5 ⟨he,hb⟩;rw[Hs1.out,Hi1.out] at he;subst he;have HS5:=qh (HS4.out.call hb);have HA5:=qh (HA4.out.below hb);have HB5:=qh (HB4.out.below hb);clear hb a0 a1 b0 b1;have a0:=HS5.out.cell (v:=.slice g1 A.next.length c1) 0 0 rfl rfl;have a1:=HS5.out.cell (v:=.slice g2 A.ends.length c2) 0 1 rfl rfl;have b0:=HS5.out.cell (v:=.slice x1 B.next.length y1) 1 0 rfl rfl;have b1:=HS5.out.cell (v:=.slice x2 B.ends.length y2) 1 1 rfl rfl;go_wp2_with fail;refine(Zbh B A _ _ _ HB5.out HA5.out _ rfl).mono ?_;rintro e w6 ⟨he,hb⟩;rw[Hs2.out,Hi2.out] at he;subst he;have HS6:=qh (HS5.out.call hb);clear hb a0 a1 b0 b1;cases i1
  ·go_wp2;refine bodyPost_ret (v:=.tuple #[.int .i64 1,.string (wdB l)]) (by simp[results,Tryz.results17,go_sem]) rfl ⟨?_,HS6.out.bel⟩;rw[← Hr.out,cmpR,Hhp.out];simp[Hi1.out,Hi2.out]
  cases i2
  ·go_wp2;refine bodyPost_ret (v:=.tuple #[.int .i64 2,.string (wdB l)]) (by simp[results,Tryz.results17,go_sem]) rfl ⟨?_,HS6.out.bel⟩;rw[← Hr.out,cmpR,Hhp.out];simp[Hi1.out,Hi2.out]
  go_wp2;refine bodyPost_ret (v:=.tuple #[.int .i64 3,.string (wdB l)]) (by simp[results,Tryz.results17,go_sem]) rfl ⟨?_,HS6.out.bel⟩;rw[← Hr.out,cmpR,Hhp.out];simp[Hi1.out,Hi2.out]
end Go.Proofs.YtfgpkadhegdffaaGreat
namespace Go.Proofs.YtfgpkadhegdffaaGreat
open Go.RowKit
theorem Zde (s t:List Nat) (w:World) (hs:isT s) (ht:isT t) :
  Calls Tryz.prog 5 #[.string (txB s),.string (txB t)] w fun e w'=>e = .returned (.bool true)∧Below w.heap.size w w':=by
 have hss:=ZaP s;have hst:=ZaP t;by_cases h1:1048576<(s.length:Int)
 ·go_enter Tryz.func5, Tryz.ntmps5
  go_wp2;go_ret;exact⟨rfl,Below.refl _ _⟩
 by_cases h2:1048576<(t.length:Int)
 ·go_enter Tryz.func5, Tryz.ntmps5
  go_wp2;go_ret;exact⟨rfl,Below.refl _ _⟩
 obtain⟨oa,hoa⟩:=Zkm 40 s;obtain⟨ob,hob⟩:=Zkm 40 t;obtain⟨r,hr⟩:=eJ (cmpR (oa.getD ZaT) (ob.getD ZaT) (oa.isSome&&ob.isSome));have HI:=qh (fun u=>ZdG 40 rfl s t oa ob hoa hob r hr u hs ht);have HS:=qh (fun u=>ZdF 40 rfl s t oa ob hoa hob r hr u hs ht);obtain⟨n,q⟩:=r;have hnn:(n != n)=false:=by simp
 have hqq:(q.toList==q.toList)=true:=by simp
 have hqn:(q.toList != q.toList)=false:=by simp
 clear hr hoa hob
 go_enter Tryz.func5, Tryz.ntmps5
 go_wp2_with fail;refine(HS.out _).mono ?_;rintro e w1 ⟨rfl,hb1⟩;have HB:=qh hb1;clear hb1;go_wp2_with fail;refine(HI.out _).mono ?_;rintro e w2 ⟨rfl,hb2⟩;have HB2:=qh (HB.out.trans (hb2.mono HB.out.size));clear hb2;go_wp2;go_ret;exact⟨rfl,HB2.out⟩
end Go.Proofs.YtfgpkadhegdffaaGreat
namespace Go.Proofs.YtfgpkadhegdffaaGreat
open Go.ChangeShapes Go.WideShapes Go.ChangeAt Go.RowKit Go.Joins
theorem Tryz.own:ownKnob Tryz.prog.godebug=none:=by kernel_rfl
section
variable {H:Type} {enc:TypeId × Value→H} {W:World}
end
end Go.Proofs.YtfgpkadhegdffaaGreat
namespace Go.Proofs.YtfgpkadhegdffaaGreat
open Go.ChangeShapes Go.WideShapes Go.ChangeAt Go.RowKit Go.Joins
section
variable {H:Type} {enc:TypeId × Value→H} {W:World}
end
end Go.Proofs.YtfgpkadhegdffaaGreat
