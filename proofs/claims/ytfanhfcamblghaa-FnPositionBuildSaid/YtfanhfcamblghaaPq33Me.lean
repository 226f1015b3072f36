/-
  The walks over the program's shifted and shiftedMoves.
  Conditions: the lists are readable.
-/
import Derived.Test.YtfanhfcamblghaaPq32Is
set_option maxHeartbeats 8000000
set_option maxRecDepth 100000
namespace Go.Proofs.Ytfanhfcamblghaa
open Go.RowKit
theorem Zfx (w:World) (o o2:Obj):((w.alloc o).alloc o2).heap[w.heap.size+1]? = some o2:=by have:=heap_alloc_new (w.alloc o) o2;simpa only [World.size_alloc] using this
theorem Zdi (xs:List Int) (v:Value) (d:Int) (w:World) (hl:xs.length≤1000) (hx:∀ x∈xs,-1000≤x∧x≤1000) (hd:-1000≤d∧d≤1000) (h:Ints 0 w v xs) :
  Calls Try.prog 142 #[v,.int .i64 d] w fun e w'=>∃ a c,e = .returned (.slice a xs.length c)∧St w w' [Ent.row 3 1 (.slice a xs.length c) xs.length (intCells (xs.map (·+d)))]:=by
 obtain⟨a0,c0,rfl,hc1,hc2,hr⟩:=h.form;obtain⟨j0,hj,hy0,hy1,hy2⟩:=info_parts Try.infoInt;obtain⟨L,hL⟩:=eI (xs.length);have hS0:=(St.start w).nilRow 3 1;rw[← hL] at hl hc1 hr;rw[← hL];obtain⟨hd0,hd1⟩:=hd;have Hr:=qh hr;replace hS0:=qh hS0;replace hL:=qh hL;have Hhx:=qh hx;clear hx;have Hhj:=qh hj;clear hj;have Hhy0:=qh hy0;clear hy0;have Hhy1:=qh hy1;clear hy1;have Hhy2:=qh hy2;clear hy2;clear hr h
 go_enter Try.func142, Try.ntmps142
 go_wp2
 go_loopw [5,10] (fun vo i wr=>∃ (k:Nat) (a:Option Addr) (c:Nat),i = .int .i64 k∧vo = .slice a k c∧k≤L∧St w wr [Ent.row 3 1 (.slice a k c) k (intCells ((xs.take k).map (·+d)))])
  (fun _ i _=>L-(intOf i).toNat)
 case atStart=>exact⟨0,none,0,rfl,rfl,Nat.zero_le _,hS0.out⟩
 case round =>
  obtain⟨k,a,c,rfl,rfl,hk,hS⟩:=hrel;by_cases hlt:k<L
  ·have hlt2:(k:Int)<L:=by omega
   have hkn:k<xs.length:=by have:=hL.out;omega
   obtain⟨b1,o1,rfl,-,hb1,hcs⟩:=Hr.out (by omega);have m0:=hcs k hlt;have hsn:=Za8 (·+d) (d:=0) hkn rfl;have hxx:=Hhx.out _ (memD (d:=0) hkn);obtain⟨p0,hp⟩:∃ p,p=xs.getD k 0:=⟨_,rfl⟩;rw[← hp] at m0 hsn hxx;obtain⟨hp0,hp1⟩:=hxx;have m1:=(bcell hS.bel b1 _ hb1).trans m0;have hw:IntKind.i64.wrap (p0+d)=p0+d:=IntWalk.i64_in _ (by omega);have hSa:=hS.alloc_ (.cells #[.int .i64 (p0+d)] 3);have HSa:=qh hSa;have HRa:=qh (hSa.row 0 rfl);have Hhp:=qh hp;clear hp;have Hhsn:=qh hsn;clear hsn;clear hS hSa hcs m0;go_wp2_with (at_builtin;refine wpList_append_lies _ rfl _ _ _ rfl _ 3 j0 (.int .i64 0) 1 8 Try.underlying26 Hhj.out Hhy0.out Hhy1.out Hhy2.out rfl (by omega) _ k _ rfl HRa.out ⟨wr.heap.size,0,none⟩ 1 1 [.int .i64 (p0+d)] rfl rfl (World.news_of_block (heap_alloc_new wr _)) ZgC (by omega) (by unfold maxLen;omega) (by omega) HSa.out.size _ rfl ?_;intro g6 c6 w6 hown6 hgrow6 hat6 hlt6;have HS6:=qh (HSa.out.app 0 rfl hown6 hgrow6 hat6);clear hown6 hgrow6 hat6 hlt6);go_roundw
   case rel =>refine⟨k+1,some ⟨g6,0,none⟩,c6,by go_num,rfl,by omega,?_⟩;rw[Hhsn.out,Zbc];exact HS6.out
   case measure=>simp[intOf];omega
  obtain rfl:L=k:=by omega
  rw[show xs.take L=xs from List.take_of_length_le (by have:=hL.out;omega)] at hS;have HSe:=qh hS;clear hS;go_wp2;go_ret;exact⟨a,c,rfl,HSe.out⟩
theorem ZcF (p q:NfaD) (S:Nat) (v1 v2 v3 u1 u2 u3:Value) (w:World) (hS40:p.states=(S:Int)) (hS1:S≤40) (hpl:p.moves.length≤1000) (hql:q.moves.length≤1000) (hqm:mvIn 40 q.moves) (hpm:Moves 0 w v1 p.moves) (hq:Moves 0 w u1 q.moves) :
  Calls Try.prog 141 #[.agg #[.int .i64 p.states,v1,v2,v3],.agg #[.int .i64 q.states,u1,u2,u3]] w fun e w'=>∃ a c,e = .returned (.slice a (p.moves.length+q.moves.length) c)∧St w w' [Ent.row 34 3 (.slice a (p.moves.length+q.moves.length) c) (p.moves.length+q.moves.length) ((p.moves++q.moves.map (shM p.states)).flatMap Zab)]:=by
 have hcl:=fun (u:World) (hu:Below w.heap.size w u)=>ZfF p.moves v1 u (by omega) (hpm.below hu)
 obtain⟨av,cv,rfl,hc1,hc2,-⟩:=hpm.form;obtain⟨au,cu,rfl,hd1,hd2,hr⟩:=hq.form;obtain⟨i0,hi,hz0,hz1,hz2⟩:=info_parts Try.infoMv;obtain⟨L1,hL1⟩:∃ L,L=p.moves.length:=⟨_,rfl⟩;obtain⟨L2,hL2⟩:∃ L,L=q.moves.length:=⟨_,rfl⟩;obtain⟨Q,hQ⟩:=eI (q.states);have hS0:=((St.start w).alloc _ rfl #[.int .i64 p.states,.slice av p.moves.length cv,v2,v3] 28).alloc (w.heap.size+1) (by simp) #[.int .i64 q.states,.slice au q.moves.length cu,u2,u3] 28;rw[hS40,← hL1,← hL2,← hQ] at hS0;rw[hS40,← hL1,← hL2,← hQ];rw[← hL1] at hpl hc1 hcl;rw[← hL2] at hql hd1 hr;have e1:=hS0.cell (v:=.slice av L1 cv) 0 1 rfl rfl;have Hcl:=qh hcl;have Hr:=qh hr;replace hS0:=qh hS0;replace hL1:=qh hL1;have HhL2:=qh hL2;clear hL2;have HhS40:=qh hS40;clear hS40;have Hhqm:=qh hqm;clear hqm;have HhQ:=qh hQ;clear hQ;have Hhi:=qh hi;clear hi;have Hhz0:=qh hz0;clear hz0;have Hhz1:=qh hz1;clear hz1;have Hhz2:=qh hz2;clear hz2;clear hcl hr hpm hq
 go_enter Try.func141, Try.ntmps141
 go_wp2_with fail;refine(Hcl.out _ hS0.out.bel).mono ?_;rintro e w1 ⟨am,cm,rfl,hS'⟩;have HS1:=qh (hS0.out.cat hS');clear hS' e1;have e2:=HS1.out.cell (v:=.slice au L2 cu) 1 1 rfl rfl;go_wp2
 go_loopw [5,14] (fun vo i wr=>∃ (k:Nat) (a:Option Addr) (c:Nat),i = .int .i64 k∧vo = .slice a (L1+k) c∧k≤L2∧St w wr [Ent.box w.heap.size #[.int .i64 (S:Int),.slice av L1 cv,v2,v3] 28,Ent.box (w.heap.size+1) #[.int .i64 Q,.slice au L2 cu,u2,u3] 28,Ent.row 34 3 (.slice a (L1+k) c) (L1+k) ((p.moves++(q.moves.take k).map (shM (S:Int))).flatMap Zab)])
  (fun _ i _=>L2-(intOf i).toNat)
 case atStart =>refine⟨0,am,cm,rfl,rfl,Nat.zero_le _,?_⟩;rw[List.take_zero,List.map_nil,List.append_nil];exact HS1.out
 case round =>
  obtain⟨k,a,c,rfl,rfl,hk,hS⟩:=hrel;clear e2;by_cases hlt:k<L2
  ·have hlt2:(k:Int)<L2:=by omega
   have hkn:k<q.moves.length:=by have:=HhL2.out;omega
   obtain⟨b1,o1,rfl,-,hb1,hcs⟩:=Hr.out (by omega);obtain⟨p1,p2,p3⟩:=hcs k hlt;have hsn:=Za8 (shM (S:Int)) (d:=(0,0,0)) hkn rfl;have hxx:=Hhqm.out _ (memD (d:=(0,0,0)) hkn);obtain⟨mm,hmm⟩:=eI (q.moves.getD k (0,0,0));rw[← hmm] at p1 p2 p3 hsn hxx;obtain⟨f,l,t⟩:=mm;simp only at p1 p2 p3 hxx;obtain⟨⟨hf0,hf1⟩,ht0,ht1⟩:=hxx;have m1:=(bcell hS.bel b1 _ hb1).trans p1;have m2:=(bcell hS.bel b1 _ hb1).trans p2;have m3:=(bcell hS.bel b1 _ hb1).trans p3;have hw1:IntKind.i64.wrap (f+(S:Int))=f+(S:Int):=IntWalk.i64_in _ (by omega);have hw2:IntKind.i64.wrap (t+(S:Int))=t+(S:Int):=IntWalk.i64_in _ (by omega);have hSb:=hS.alloc _ rfl #[.int .i64 f,.int .i64 l,.int .i64 t] 34;have e0:=hSb.cell (v:=.int .i64 (S:Int)) 0 0 rfl rfl;have g0:=hSb.cell (v:=.int .i64 f) 3 0 rfl rfl;have g1:=hSb.cell (v:=.int .i64 l) 3 1 rfl rfl;have g2:=hSb.cell (v:=.int .i64 t) 3 2 rfl rfl;have hSa:=hSb.alloc_ (.cells #[.int .i64 (f+(S:Int)),.int .i64 l,.int .i64 (t+(S:Int))] 34);have HSa:=qh hSa;have HRa:=qh (hSa.row 2 rfl);have HHb:=qh (Zfx wr (.cells #[.int .i64 f,.int .i64 l,.int .i64 t] 34) (.cells #[.int .i64 (f+(S:Int)),.int .i64 l,.int .i64 (t+(S:Int))] 34));have HSb:=qh hSb;have Hhmm:=qh hmm;clear hmm;have Hhsn:=qh hsn;clear hsn;clear hS hSa hSb hcs p1 p2 p3
   go_wp2_with (at_builtin;refine wpList_append_lies _ rfl _ _ _ rfl _ 34 i0 (.agg #[.int .i64 0,.int .i64 0,.int .i64 0]) 3 24 Try.underlying25 Hhi.out Hhz0.out Hhz1.out Hhz2.out rfl (by omega) _ (L1+k) _ rfl HRa.out ⟨wr.heap.size+1,0,none⟩ 1 1 [.int .i64 (f+(S:Int)),.int .i64 l,.int .i64 (t+(S:Int))] rfl rfl (World.news_of_block HHb.out) Zf4 (by omega) (by unfold maxLen;omega) (by omega) HSa.out.size _ rfl ?_;intro g6 c6 w6 hown6 hgrow6 hat6 hlt6;have HS6:=qh (HSa.out.app 2 rfl hown6 hgrow6 hat6);clear hown6 hgrow6 hat6 hlt6);go_roundw
   case rel =>refine⟨k+1,some ⟨g6,0,none⟩,c6,by go_num,rfl,by omega,?_⟩;rw[Hhsn.out,← List.append_assoc,List.flatMap_append (xs:=_++_)];exact HS6.out.pick [0,1,2] (by decide)
   case measure=>simp[intOf];omega
  obtain rfl:L2=k:=by omega
  rw[show q.moves.take L2=q.moves from List.take_of_length_le (by have:=HhL2.out;omega)] at hS;have HSe:=qh hS;clear hS;go_wp2;go_ret;exact⟨a,c,rfl,HSe.out.pick [2] (by decide)⟩
def Zb5 (p q:NfaD):NfaD:=⟨(shN q p.states).states,p.moves++(shN q p.states).moves++(p.ends.flatMap fun s=>(shN q p.states).firsts.map fun t=>(s,-1,t)),p.firsts,(shN q p.states).ends⟩
def ZcM (p q:NfaD):NfaD × Bool:=if Zaq p=true∧Zaq q=true then limN (Zb5 p q) else(zeN,false)
def ZdP (p q:NfaD):NfaD:=⟨(shN q p.states).states,p.moves++(shN q p.states).moves,p.firsts++(shN q p.states).firsts,p.ends++(shN q p.states).ends⟩
def ZcN (p q:NfaD):NfaD × Bool:=if Zaq p=true∧Zaq q=true then limN (ZdP p q) else(zeN,false)
theorem Pth.up {ms:List (Int × Int × Int)} (d:Int) {s t:Int} {x:List Nat} (h:Pth ms s x t):Pth (ms.map (shM d)) (s+d) x (t+d) :=
 h.map (·+d) fun m hm => .inl (List.mem_map.2 ⟨m,hm,rfl⟩)
theorem Pth.down {ms:List (Int × Int × Int)} {d:Int} {s t:Int} {x:List Nat} (h:Pth (ms.map (shM d)) s x t):Pth ms (s-d) x (t-d) :=
 h.map (·-d) fun m hm=>by
  obtain⟨y,hy,rfl⟩:=List.mem_map.1 hm;left;have e1:(shM d y).1-d=y.1:=by simp[shM]
  have e2:(shM d y).2.2-d=y.2.2:=by simp[shM]
  simp only[e1,e2];exact hy
theorem Pth.low {ms ns:List (Int × Int × Int)} {d:Int} (h1:∀ m∈ms,m.1<d∧m.2.2<d) (h2:∀ m∈ns,¬ m.1<d) {s t:Int} {x:List Nat} (h:Pth (ms++ns) s x t) (hs:s<d):Pth ms s x t:=by
 induction h with
 | here s=>exact .here s
 | eps hm _ ih =>
  rcases List.mem_append.1 hm with hm|hm
  ·exact .eps hm (ih (h1 _ hm).2)
  exact absurd hs (h2 _ hm)
 | step hm _ ih =>
  rcases List.mem_append.1 hm with hm|hm
  ·exact .step hm (ih (h1 _ hm).2)
  exact absurd hs (h2 _ hm)
theorem Pth.high {ms ns:List (Int × Int × Int)} {d:Int} (h1:∀ m∈ms,m.1<d) (h2:∀ m∈ns,d≤m.2.2) {s t:Int} {x:List Nat} (h:Pth (ms++ns) s x t) (hs:d≤s):Pth ns s x t:=by
 induction h with
 | here s=>exact .here s
 | eps hm _ ih =>
  rcases List.mem_append.1 hm with hm|hm
  ·have:=h1 _ hm;simp only at this;omega
  exact .eps hm (ih (h2 _ hm))
 | step hm _ ih =>
  rcases List.mem_append.1 hm with hm|hm
  ·have:=h1 _ hm;simp only at this;omega
  exact .step hm (ih (h2 _ hm))
theorem Zjv {p q:NfaD} (hp:Zaq p=true) (hq:Zaq q=true) (he:Zaq (ZdP p q)=true) (x:List Nat):accS (ZdP p q) x=(accS p x||accS q x):=by
 obtain⟨a,ha,-,hpm,-,hpf,-,hpe,-⟩:=Zao hp;obtain⟨b,hb,-,hqm,-,hqf,-,hqe,-⟩:=Zao hq;have m1:∀ m∈p.moves,m.1<p.states∧m.2.2<p.states:=fun m hm=>by have:=hpm m hm;omega
 have m2:∀ m∈q.moves.map (shM p.states),p.states≤m.1∧p.states≤m.2.2:=fun m hm=>by obtain⟨y,hy,rfl⟩:=List.mem_map.1 hm;have:=hqm y hy;simp only[shM];omega
 rw[Bool.eq_iff_iff,Bool.or_eq_true,Zbf he,Zbf hp,Zbf hq];constructor
 ·rintro⟨f,hf,e,hee,hw⟩;have hw:Pth (p.moves++q.moves.map (shM p.states)) f x e:=hw;rcases List.mem_append.1 (show f∈p.firsts++q.firsts.map (·+p.states) from hf) with hf|hf
  ·left;have h1:=hpf f hf;have h2:=hw.low m1 (fun m hm=>by have:=m2 m hm;omega) (by omega);have h3:=h2.in hpm h1;rcases List.mem_append.1 (show e∈p.ends++q.ends.map (·+p.states) from hee) with hee|hee
   ·exact⟨f,hf,e,hee,h2⟩
   obtain⟨y,hy,rfl⟩:=List.mem_map.1 hee;have:=hqe y hy;omega
  right;obtain⟨g,hg,rfl⟩:=List.mem_map.1 hf;have h1:=hqf g hg;have h2:=(hw.high (fun m hm=>(m1 m hm).1) (fun m hm=>(m2 m hm).2) (by omega)).down;rw[show g+p.states-p.states=g by omega] at h2;have h3:=h2.in hqm h1;rcases List.mem_append.1 (show e∈p.ends++q.ends.map (·+p.states) from hee) with hee|hee
  ·have:=hpe e hee;omega
  obtain⟨y,hy,rfl⟩:=List.mem_map.1 hee;rw[show y+p.states-p.states=y by omega] at h2;exact⟨g,hg,y,hy,h2⟩
 rintro(⟨f,hf,e,hee,hw⟩|⟨f,hf,e,hee,hw⟩)
 ·exact⟨f,List.mem_append.2 (.inl hf),e,List.mem_append.2 (.inl hee),hw.mono fun m hm=>List.mem_append.2 (.inl hm)⟩
 exact⟨f+p.states,List.mem_append.2 (.inr (List.mem_map.2 ⟨f,hf,rfl⟩)),e+p.states,List.mem_append.2 (.inr (List.mem_map.2 ⟨e,hee,rfl⟩)),(hw.up p.states).mono fun m hm=>List.mem_append.2 (.inr hm)⟩
theorem Pth.cross {p q:NfaD} {a b:Nat} (ha:p.states=(a:Int)) (hpm:mvIn a p.moves) (hqm:mvIn b q.moves) (hpe:inN a p.ends) (hqf:inN b q.firsts) {s t:Int} {x:List Nat} (h:Pth (Zb5 p q).moves s x t) (ht:p.states≤t):(s<p.states→∃ k,k≤x.length∧∃ e∈p.ends,∃ f∈q.firsts,Pth p.moves s (x.take k) e∧Pth q.moves f (x.drop k) (t-p.states))∧(p.states≤s→Pth q.moves (s-p.states) x (t-p.states)):=by
 induction h with
 | here s=>exact⟨fun h=>by omega,fun _ => .here _⟩
 | @eps s' t' u w hm _ ih =>
  obtain⟨i1,i2⟩:=ih ht;rcases List.mem_append.1 hm with hm|hm
  ·rcases List.mem_append.1 hm with hm|hm
   ·have h1:=hpm _ hm;simp only at h1;refine⟨fun h => ?_,fun h=>by omega⟩;obtain⟨k,hk,e,he,f,hf,h2,h3⟩:=i1 (by omega);exact⟨k,hk,e,he,f,hf,.eps hm h2,h3⟩
   obtain⟨y,hy,e⟩:=List.mem_map.1 (show _∈q.moves.map (shM p.states) from hm);have h1:=hqm _ hy
   injection e with e1 e2
   injection e2 with e2 e3
   refine⟨fun h=>by omega,fun h => .eps (t:=t'-p.states) ?_ (i2 (by omega))⟩;rw[← e1,← e3,show y.1+p.states-p.states=y.1 by omega,show y.2.2+p.states-p.states=y.2.2 by omega,← e2];exact hy
  obtain⟨y,hy,e⟩:=List.mem_flatMap.1 hm;obtain⟨z,hz,e⟩:=List.mem_map.1 e;obtain⟨z,hz',rfl⟩:=List.mem_map.1 (show z∈q.firsts.map (·+p.states) from hz)
  injection e with e1 e2
  injection e2 with e2 e3
  have h1:=hpe y hy;have h2:=hqf z hz';refine⟨fun h=>⟨0,Nat.zero_le _,y,hy,z,hz',?_,?_⟩,fun h=>by omega⟩
  ·rw[e1];exact .here _
  have:=i2 (by omega);rw[← e3,show z+p.states-p.states=z by omega] at this;exact this
 | @step s' t' u c w hm _ ih =>
  obtain⟨i1,i2⟩:=ih ht;rcases List.mem_append.1 hm with hm|hm
  ·rcases List.mem_append.1 hm with hm|hm
   ·have h1:=hpm _ hm;simp only at h1;refine⟨fun h => ?_,fun h=>by omega⟩;obtain⟨k,hk,e,he,f,hf,h2,h3⟩:=i1 (by omega);exact⟨k+1,by simp only[List.length_cons];omega,e,he,f,hf,.step hm h2,h3⟩
   obtain⟨y,hy,e⟩:=List.mem_map.1 (show _∈q.moves.map (shM p.states) from hm);have h1:=hqm _ hy
   injection e with e1 e2
   injection e2 with e2 e3
   refine⟨fun h=>by omega,fun h => .step (t:=t'-p.states) ?_ (i2 (by omega))⟩;rw[← e1,← e3,show y.1+p.states-p.states=y.1 by omega,show y.2.2+p.states-p.states=y.2.2 by omega,← e2];exact hy
  obtain⟨y,hy,e⟩:=List.mem_flatMap.1 hm;obtain⟨z,hz,e⟩:=List.mem_map.1 e
  injection e with e1 e2
  injection e2 with e2 e3
  omega
def epsN:NfaD:=⟨1,[],[0],[0]⟩
theorem ZmG:Zaq epsN=true:=by decide
theorem Znh (x:List Nat):accS epsN x=true↔x=[]:=by
 rw[Zbf ZmG];constructor
 ·rintro⟨f,hf,e,he,hw⟩;cases hw with
  | here=>rfl
  | eps h=>cases h
  | step h=>cases h
 rintro rfl;exact⟨0,by simp[epsN],0,by simp[epsN],.here _⟩
def Zcg (p:Int × Int):NfaD:=if p.1=1 then zeN else if p.1=2 then epsN else⟨2,[(0,p.2,1)],[0],[1]⟩
theorem Zh2 (k z:Int) (w:World) (hk:k=1∨k=2∨k=3) :
  Calls Try.prog 61 #[.agg #[.int .i64 k,.int .i64 z]] w fun e w'=>RNfaS (Zcg (k,z)) w e w':=by
 have HS0:=qh (((St.start w).alloc w.heap.size rfl #[.int .i64 k,.int .i64 z] 72).alloc (w.heap.size+1) (by simp) #[.int .i64 0,.slice none 0 0,.slice none 0 0,.slice none 0 0] 28)
 go_enter Try.func61, Try.ntmps61
 go_upto_region 1 with fail
 obtain⟨W,hW⟩:=eI ((w.alloc (.cells #[.int .i64 k,.int .i64 z] 72)).alloc (.cells #[.int .i64 0,.slice none 0 0,.slice none 0 0,.slice none 0 0] 28));rw[← hW] at HS0 ⊢;clear hW;rcases hk with rfl|rfl|rfl
 ·have e:Zcg (1,z)=zeN:=if_pos rfl;replace e:=qh e;have HSA:=qh (HS0.out);have e0:=HS0.out.cell (v:=.int .i64 1) 0 0 rfl rfl;have e1:=HS0.out.cell (v:=.int .i64 z) 0 1 rfl rfl;have f0:=HSA.out.fr 1 0 rfl;have f1:=HSA.out.fr 1 1 rfl;have f2:=HSA.out.fr 1 2 rfl;have f3:=HSA.out.fr 1 3 rfl;have k0:=HSA.out.cell (v:=.int .i64 0) 1 0 rfl rfl;have k1:=HSA.out.cell (v:=.slice none 0 0) 1 1 rfl rfl;have k2:=HSA.out.cell (v:=.slice none 0 0) 1 2 rfl rfl;have k3:=HSA.out.cell (v:=.slice none 0 0) 1 3 rfl rfl;go_wp2;have hq:=((((HSA.out.set 1 rfl 0 (.int .i64 0)).set 1 rfl 1 (.slice none 0 0)).set 1 rfl 2 (.slice none 0 0)).set 1 rfl 3 (.slice none 0 0));have q0:=hq.cell (v:=.int .i64 0) 1 0 rfl rfl;have q1:=hq.cell (v:=.slice none 0 0) 1 1 rfl rfl;have q2:=hq.cell (v:=.slice none 0 0) 1 2 rfl rfl;have q3:=hq.cell (v:=.slice none 0 0) 1 3 rfl rfl;refine bodyPost_ret (v:=.agg #[.int .i64 0,.slice none 0 0,.slice none 0 0,.slice none 0 0]) (by simp[results,Try.results61,go_sem,q0,q1,q2,q3]) rfl ?_;rw[e.out];exact⟨_,_,_,_,_,_,rfl,((((St.start w).call hq.bel).nilRow 34 3).nilRow 3 1).nilRow 3 1⟩
 ·have e:Zcg (2,z)=epsN:=by unfold Zcg;rw[if_neg (by show ¬ (2:Int)=1;omega),if_pos rfl]
  replace e:=qh e;have HSA:=qh ((((HS0.out.alloc (W.heap.size) (by simp) #[.int .i64 0] 3).boxrow 2 1 1 [.int .i64 0] rfl rfl (by unfold maxLen;omega)).alloc (W.heap.size+1) (by simp) #[.int .i64 0] 3).boxrow 3 1 1 [.int .i64 0] rfl rfl (by unfold maxLen;omega));have e0:=HS0.out.cell (v:=.int .i64 2) 0 0 rfl rfl;have e1:=HS0.out.cell (v:=.int .i64 z) 0 1 rfl rfl;have f0:=HSA.out.fr 1 0 rfl;have f1:=HSA.out.fr 1 1 rfl;have f2:=HSA.out.fr 1 2 rfl;have f3:=HSA.out.fr 1 3 rfl;have k0:=HSA.out.cell (v:=.int .i64 0) 1 0 rfl rfl;have k1:=HSA.out.cell (v:=.slice none 0 0) 1 1 rfl rfl;have k2:=HSA.out.cell (v:=.slice none 0 0) 1 2 rfl rfl;have k3:=HSA.out.cell (v:=.slice none 0 0) 1 3 rfl rfl;go_wp2;have hq:=((((HSA.out.set 1 rfl 0 (.int .i64 1)).set 1 rfl 1 (.slice none 0 0)).set 1 rfl 2 (.slice (some ⟨W.heap.size,0,none⟩) 1 1)).set 1 rfl 3 (.slice (some ⟨W.heap.size+1,0,none⟩) 1 1));have q0:=hq.cell (v:=.int .i64 1) 1 0 rfl rfl;have q1:=hq.cell (v:=.slice none 0 0) 1 1 rfl rfl;have q2:=hq.cell (v:=.slice (some ⟨W.heap.size,0,none⟩) 1 1) 1 2 rfl rfl;have q3:=hq.cell (v:=.slice (some ⟨W.heap.size+1,0,none⟩) 1 1) 1 3 rfl rfl;refine bodyPost_ret (v:=.agg #[.int .i64 1,.slice none 0 0,.slice (some ⟨W.heap.size,0,none⟩) 1 1,.slice (some ⟨W.heap.size+1,0,none⟩) 1 1]) (by simp[results,Try.results61,go_sem,q0,q1,q2,q3]) rfl ?_;rw[e.out];exact⟨_,_,_,_,_,_,rfl,(hq.nilRow 34 3).pick [4,2,3] (by decide)⟩
 have e:Zcg (3,z)=⟨2,[(0,z,1)],[0],[1]⟩:=by unfold Zcg;rw[if_neg (by show ¬ (3:Int)=1;omega),if_neg (by show ¬ (3:Int)=2;omega)]
 replace e:=qh e;have HSA:=qh ((((((HS0.out.alloc (W.heap.size) (by simp) #[.int .i64 0,.int .i64 z,.int .i64 1] 34).boxrow 2 1 3 [.int .i64 0,.int .i64 z,.int .i64 1] rfl rfl (by unfold maxLen;omega)).alloc (W.heap.size+1) (by simp) #[.int .i64 0] 3).boxrow 3 1 1 [.int .i64 0] rfl rfl (by unfold maxLen;omega)).alloc (W.heap.size+1+1) (by simp) #[.int .i64 1] 3).boxrow 4 1 1 [.int .i64 1] rfl rfl (by unfold maxLen;omega));have e0:=HS0.out.cell (v:=.int .i64 3) 0 0 rfl rfl;have e1:=HS0.out.cell (v:=.int .i64 z) 0 1 rfl rfl;have f0:=HSA.out.fr 1 0 rfl;have f1:=HSA.out.fr 1 1 rfl;have f2:=HSA.out.fr 1 2 rfl;have f3:=HSA.out.fr 1 3 rfl;have k0:=HSA.out.cell (v:=.int .i64 0) 1 0 rfl rfl;have k1:=HSA.out.cell (v:=.slice none 0 0) 1 1 rfl rfl;have k2:=HSA.out.cell (v:=.slice none 0 0) 1 2 rfl rfl;have k3:=HSA.out.cell (v:=.slice none 0 0) 1 3 rfl rfl;go_wp2;have hq:=((((HSA.out.set 1 rfl 0 (.int .i64 2)).set 1 rfl 1 (.slice (some ⟨W.heap.size,0,none⟩) 1 1)).set 1 rfl 2 (.slice (some ⟨W.heap.size+1,0,none⟩) 1 1)).set 1 rfl 3 (.slice (some ⟨W.heap.size+1+1,0,none⟩) 1 1));have q0:=hq.cell (v:=.int .i64 2) 1 0 rfl rfl;have q1:=hq.cell (v:=.slice (some ⟨W.heap.size,0,none⟩) 1 1) 1 1 rfl rfl;have q2:=hq.cell (v:=.slice (some ⟨W.heap.size+1,0,none⟩) 1 1) 1 2 rfl rfl;have q3:=hq.cell (v:=.slice (some ⟨W.heap.size+1+1,0,none⟩) 1 1) 1 3 rfl rfl
 refine bodyPost_ret (v:=.agg #[.int .i64 2,.slice (some ⟨W.heap.size,0,none⟩) 1 1,.slice (some ⟨W.heap.size+1,0,none⟩) 1 1,.slice (some ⟨W.heap.size+1+1,0,none⟩) 1 1]) (by simp[results,Try.results61,go_sem,q0,q1,q2,q3]) rfl ?_;rw[e.out];exact⟨_,_,_,_,_,_,rfl,hq.pick [2,3,4] (by decide)⟩
theorem Zjm (xs:List Bool) (y:Bool) (p:Nat) (v:Value) (w:World) (h1:Bools 0 w v xs) (hp:p<xs.length) (hy:xs.getD p false=y) (hno:∀ j,j<p→xs.getD j false≠y) :
  Calls Try.prog 145 #[v,.bool y] w fun e w'=>e = .returned (.int .i64 (p:Nat))∧Below w.heap.size w w':=by
 obtain⟨a1,c1,rfl,hc1,hm1,hr1⟩:=h1.form;obtain⟨b1,o1,rfl,-,hbl1,hcs1⟩:=hr1 (by omega);have Hcs:=qh hcs1;have Hno:=qh hno;replace hy:=qh hy;clear hr1 hcs1 hno h1
 go_enter Try.func145, Try.ntmps145
 go_wp2
 go_loopw [4,8] (fun r i wr=>∃ k:Nat,k≤p∧i = .int .i64 k∧Below w.heap.size w wr) (fun _ i _=>p+1-(intOf i).toNat)
 case atStart=>exact⟨0,Nat.zero_le _,rfl,Below.refl _ _⟩
 case round =>
  obtain⟨k,hk,rfl,hb⟩:=hrel;have hkl:(k:Int)<xs.length:=by omega
  have k1:=(bcell hb b1 (o1+k) hbl1).trans (Hcs.out k (by omega));obtain⟨z,hz⟩:=eI (xs.getD k false);rw[← hz] at k1;replace hb:=qh hb;by_cases he:k=p
  ·subst he;have hzy:z=y:=by rw[hz];exact hy.out
   subst hzy;have Hhz:=qh hz;clear hz;go_wp2;go_ret;exact⟨rfl,hb.out⟩
  have hne:z≠y:=by rw[hz];exact Hno.out k (by omega)
  have g1:(y==z)=false:=by simpa using hne.symm
  have g2:(z==y)=false:=by simpa using hne
  have Hhz:=qh hz;clear hz;have Hhne:=qh hne;clear hne;go_wp2;go_roundw
  case rel=>exact⟨k+1,by omega,by go_num,hb.out⟩
  case measure=>simp[intOf];omega
theorem Zjs (xs ys:List Int) (n:Nat) (v1 v2:Value) (w:World) (hx:xs.length=n) (hy:ys.length=n) (h1:Ints 0 w v1 xs) (h2:Ints 0 w v2 ys) (r:Bool) (hr:decide (xs=ys)=r) :
  Calls Try.prog 147 #[v1,v2] w fun e w'=>e = .returned (.bool r)∧Below w.heap.size w w':=by
 obtain⟨a1,c1,rfl,hc1,hm1,hr1⟩:=h1.form;obtain⟨a2,c2,rfl,hc2,hm2,hr2⟩:=h2.form;rw[hx] at hc1 hr1;rw[hy] at hc2 hr2;rw[hx,hy];have hnn:((n:Int) != n)=false:=by simp
 replace hx:=qh hx;have Hhy:=qh hy;clear hy;replace hr:=qh hr;clear h1 h2
 go_enter Try.func147, Try.ntmps147
 go_wp2
 go_loopw [4,13] (fun r i wr=>∃ k:Nat,k≤n∧i = .int .i64 k∧xs.take k=ys.take k∧Below w.heap.size w wr) (fun _ i _=>n-(intOf i).toNat)
 case atStart=>exact⟨0,Nat.zero_le _,rfl,rfl,Below.refl _ _⟩
 case round =>
  obtain⟨k,hk,rfl,htk,hb⟩:=hrel;have Hhtk:=qh htk;clear htk;by_cases hlt:k<n
  ·obtain⟨b1,o1,rfl,-,hbl1,hcs1⟩:=hr1 (by omega);obtain⟨b2,o2,rfl,-,hbl2,hcs2⟩:=hr2 (by omega);have k1:=(bcell hb b1 (o1+k) hbl1).trans (hcs1 k hlt);have k2:=(bcell hb b2 (o2+k) hbl2).trans (hcs2 k hlt);obtain⟨p,hp⟩:=eI (xs.getD k 0);obtain⟨q,hq⟩:=eI (ys.getD k 0);rw[← hp] at k1;rw[← hq] at k2;replace hp:=qh hp;have Hhq:=qh hq;clear hq;replace hb:=qh hb;clear hcs1 hcs2 hr1 hr2;by_cases hpq:p=q
   ·have g1:(p != q)=false:=by simpa using hpq
    have g2:(!(p==q))=false:=by simpa using hpq
    have g3:(p=q)=True:=by simpa using hpq
    have Hhpq:=qh hpq;clear hpq;go_wp2
    go_quiet (fail)
    go_wp2;go_roundw
    case rel=>exact⟨k+1,by omega,by go_num,Zel (d:=0) (by rw[hx.out];exact hlt) (by rw[Hhy.out];exact hlt) Hhtk.out (by rw[← hp.out,← Hhq.out];exact Hhpq.out),below_drewN hb.out _⟩
    case measure=>simp[intOf];omega
   have g1:(p != q)=true:=by simpa using hpq
   have g2:(!(p==q))=true:=by simpa using hpq
   have g3:(p=q)=False:=by simpa using hpq
   have Hhpq:=qh hpq;clear hpq;go_wp2
   go_quiet (fail)
   go_wp2;go_ret;exact⟨by rw[← hr.out,decide_eq_false (Zf6 (k:=k) (d:=0) (by rw[← hp.out,← Hhq.out];exact Hhpq.out))];rfl,below_drewN hb.out _⟩
  obtain rfl:k=n:=by omega
  replace hb:=qh hb;clear hr1 hr2;go_wp2;go_ret;refine⟨?_,hb.out⟩;have h:=Hhtk.out;rw[List.take_of_length_le (by rw[hx.out];exact Nat.le_refl _),List.take_of_length_le (by rw[Hhy.out];exact Nat.le_refl _)] at h;rw[← hr.out,decide_eq_true h];rfl
def Zg3 (n:NfaD):Prop:=0≤n.states∧n.states≤40∧n.moves.length≤400∧n.firsts.length≤40∧n.ends.length≤40
theorem ZeE:Zg3 zeN:=⟨by decide,by decide,by decide,by decide,by decide⟩
theorem Ze4 (n:NfaD):Zg3 (limN n).1:=by
 unfold limN
 split
 ·rename_i h;obtain⟨m,h1,h2,-,h3,-,h4,-,h5⟩:=Zao h;exact⟨by rw[h1];omega,by rw[h1];omega,h3,h4,h5⟩
 exact ZeE
theorem Zi1 (n:NfaD):Zg3 (ZbP n).1:=by
 unfold ZbP
 split
 ·exact Ze4 _
 exact ZeE
theorem Zi2 (a b:NfaD):Zg3 (ZcM a b).1:=by
 unfold ZcM
 split
 ·exact Ze4 _
 exact ZeE
theorem Zi3 (a b:NfaD):Zg3 (ZcN a b).1:=by
 unfold ZcN
 split
 ·exact Ze4 _
 exact ZeE
end Go.Proofs.Ytfanhfcamblghaa
namespace Go.Proofs.Ytfanhfcamblghaa
open Go.RowKit Go.Maps
def Ent.map {α:Type} (kt:Nat) (enc:α→Value) (b:Nat) (M:List (α × Value)):Ent:=⟨fun k=>k=b,fun w=>MapL Try.prog kt enc w b M,fun _ _ h hk=>h.kept (hk b rfl)⟩
section
variable {α:Type} {w0 w w':World} {L:List Ent} {kt:Nat} {enc:α→Value} {b:Nat} {M M':List (α × Value)}
theorem St.map (h:St w0 w L) (i:Nat) (hx:L[i]? = some (Ent.map kt enc b M)):MapL Try.prog kt enc w b M:=(h.has i _ hx).1
theorem St.mapset (h:St w0 w L) (i:Nat) (hx:L[i]? = some (Ent.map kt enc b M)) (hn:MapL Try.prog kt enc w' b M') (hg:w.grownBy w' (some b)):St w0 w' (L.set i (Ent.map kt enc b M')) :=
 h.turn i hx _ hg.os hg.tape hg.output hg.size (fun k hk hne=>hg.block k hk fun e=>hne (show k=b from Option.some.inj e)) hn fun k hk=>by have hk:k=b:=hk;subst hk;exact⟨hn.lt,Or.inl rfl⟩
end
def Zbt (x:Int):Value:=.int .i64 x
theorem ZbD:∀ x y:Int,Zbt x=Zbt y→x=y:=fun x y h=>by simp only[Zbt,Value.int.injEq,true_and] at h;exact h
theorem Try.lawInt:Keyed Try.prog 3:=int_keyed Try.underlying3
theorem Try.keyOfInt (x:Int) (hx:fitI x):∃ l,keyOf Try.prog 3 (Zbt x)=some l:=⟨_,keyOf_int_mk Try.underlying3 (ZmF hx)⟩
theorem ZeD (w:World):(zeroValue 3).run Try.prog w = .ok (.int .i64 0) w:=by kernel_rfl
end Go.Proofs.Ytfanhfcamblghaa
