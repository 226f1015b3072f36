/-
  The walk over the reference's l20Text: some text is drawn.
  Conditions: the reader is at hand, its bytes read as such.
-/
import Derived.Test.YtncekbbhgipdlaaGreatPc20Jy
set_option maxHeartbeats 16000000
set_option maxRecDepth 100000
namespace Go.Proofs.YtncekbbhgipdlaaGreat
open Go.RowKit
theorem Zdf {u v:List Nat} (h:isT u) (B:isT v):isT (u++v):=fun b hb=>by
 rcases List.mem_append.1 hb with hb|hb
 ·exact h b hb
 exact B b hb
theorem addB (x y:ByteArray) (u v:List Nat) (hx:x=txB u) (hy:y=txB v) (hu:u.length≤1000) (B:v.length≤1000) (z:ByteArray) (hz:z=txB (u++v)):(∀ w':World,(Op.stringOp .add x y).run Tryz.prog w' = .ok (.string z) w')∧¬ 9223372036854775807<x.size+y.size:=by subst hx hy hz;rw[← Zik];exact ZsD u (txB v) hu (by rw[ZaE];exact B)
theorem cutH (x z:ByteArray) (s:List Nat) (k:Nat) (hx:x=txB s) (hk:k≤s.length) (hz:z=txB (s.take k)):∀ w':World,(Instr.slice 9 (.string x) none (some (.int .i64 (k:Int))) none).run Tryz.prog w' = .ok (.string z) w':=fun w'=>by subst hx hz;rw[run_slice_string_h w' 9 (txB s) Tryz.underlying9 .i64 k (by omega) (by rw[ZaE];omega),Int.toNat_natCast,Zp3]
theorem cutL (x z:ByteArray) (s:List Nat) (k:Nat) (hx:x=txB s) (hk:k≤s.length) (hz:z=txB (s.drop k)):∀ w':World,(Instr.slice 9 (.string x) (some (.int .i64 (k:Int))) none none).run Tryz.prog w' = .ok (.string z) w':=fun w'=>by subst hx hz;rw[run_slice_string_l w' 9 (txB s) Tryz.underlying9 .i64 k (by omega) (by rw[ZaE];omega),Int.toNat_natCast,Zp4]
theorem Zhx (bs:List Nat) (vb:Value) (b p n:Nat) (w0 w:World) (X:Ent) (hb:Bytes 0 w0 vb bs) (hlen:bs.length≤2000) (hp:p≤700000) (cB:n≤10000) (hS:St w0 w [RdE b vb p,X]) :
  Calls Tryz.prog 26 #[.pointer (some ⟨b,0,none⟩),.int .i64 ((n:Nat):Int)] w fun e w'=>∃ (s:List Nat) (p':Nat),isT s∧s.length≤300∧p'≤p+100∧e = .returned (.string (txB s))∧St w0 w' [RdE b vb p',X]:=by
 have Hb:=qh hb;have J:=qh hS;clear hb hS
 go_enter Tryz.func26, Tryz.ntmps26
 go_wp2_with fail;refine(Zbb bs vb b p 3 w0 _ _ Hb.o hlen (by omega) (by omega) (by omega) J.o).mono ?_;rintro e w1 ⟨k3,cY,rfl,bR⟩;obtain⟨d,hd⟩:∃ d:Nat,(1:Int)+(k3:Int)=((d:Nat):Int):=⟨k3+1,by omega⟩;have bY:IntKind.i64.wrap ((d:Nat):Int)=((d:Nat):Int):=IntWalk.i64_in _ (by omega);have bQ:=qh bR;obtain⟨cA,hfg⟩:=ZjV (d:=d) (by omega);clear bR J;go_wp2_with fail;refine(Zjl bs vb b w0 Hb.o hlen d (by omega) false (p+1) _ X (by omega) bQ.o).mono ?_;rintro e w2 ⟨pa,pc,es,p1,bT,bP,cH,rfl,N⟩;have HP:=qh ((Zoc pa pc es).r N 2 rfl);have bU:=qh N;clear N bQ;go_wp2_with fail;refine(ZaR es _ _ (by omega) HP.o).mono ?_;rintro e w3 ⟨rfl,bV⟩;obtain⟨s,hs⟩:=eJ (ZeJ es);have bI:=ZcO es;have bX:=(ZlR es).2;rw[hs] at bI bX ⊢;have bF:=qh (bU.o.call bV);have S:=qh bI;clear bV bU bI hs HP;go_wp2_with fail;refine(ZrL bs vb b p1 n w0 _ _ Hb.o hlen (by omega) cB (St.pack (A:=[RdE b vb p1]) (R:=[X,Zbw pa pc es]) bF.o)).mono ?_;rintro e w4 ⟨od,p2,bW,rfl,V⟩;have aX:QH (St w0 w4 [RdE b vb p2,X,Zbw pa pc es]):=qh (St.unpack (A:=[RdE b vb p1]) (A':=[RdE b vb p2]) (R:=[X,Zbw pa pc es]) bF.o V);clear V bF;cases od with
 | false =>go_wp2;go_ret;exact⟨s,p2,S.o,by omega,by omega,rfl,aX.o.pick [0,1] (by decide)⟩
 | true =>
  obtain⟨n0,hn0⟩:=eJ (s.length);obtain⟨M,hM⟩:∃ M:Nat,(n0:Int)+1=((M:Nat):Int):=⟨n0+1,by omega⟩;have cX:IntKind.i64.wrap ((M:Nat):Int)=((M:Nat):Int):=IntWalk.i64_in _ (by omega);obtain⟨U,hU⟩:=eI (txB s);have cR:U.size=n0:=by rw[hU,ZaE,hn0]
  rw[← hU];have aY:=qh hn0;clear hn0;have cJ:=qh hU;clear hU;replace hd:=qh hd;have cK:p2≤p+60:=by omega
  have cE:n0≤240:=by have:=aY.o;omega
  have cC:M≤241:=by omega
  clear bY cA hfg bW cH bT bP;go_wp2_with fail;refine(Zbb bs vb b p2 M w0 _ _ Hb.o hlen (by omega) (by omega) (by omega) (St.pack (A:=[RdE b vb p2]) (R:=[X,Zbw pa pc es]) aX.o)).mono ?_;rintro e w5 ⟨G,cD,rfl,V⟩;obtain⟨p3,bS⟩:=eI (p2+1);have cI:QH (St w0 w5 [RdE b vb p3,X,Zbw pa pc es]):=qh (by rw[bS];exact St.unpack (A:=[RdE b vb p2]) (A':=[RdE b vb (p2+1)]) (R:=[X,Zbw pa pc es]) aX.o V);clear V aX;have hn0:=aY.o;have hU:=cJ.o;obtain⟨a1,dB⟩:∃ a1:Nat,(G:Int)+1=((a1:Nat):Int):=⟨G+1,by omega⟩;have cT:IntKind.i64.wrap ((a1:Nat):Int)=((a1:Nat):Int):=IntWalk.i64_in _ (by omega);obtain⟨mm,cV⟩:∃ mm:Nat,min (n0:Int) ((a1:Nat):Int)=((mm:Nat):Int):=⟨min n0 a1,by omega⟩;have dD:mm≤n0:=by omega
  have bE:s.length≤1000:=by omega
  have tl:∀ k,(s.take k).length≤1000:=fun k=>by rw[List.length_take];omega
  have dl:∀ k,(s.drop k).length≤1000:=fun k=>by rw[List.length_drop];omega
  obtain⟨q0,aS⟩:∃ x,x=txB (s.take G):=⟨_,rfl⟩;obtain⟨q2,aW⟩:∃ x,x=txB (s.drop G):=⟨_,rfl⟩;obtain⟨q3,aZ⟩:∃ x,x=txB (s.drop mm):=⟨_,rfl⟩;obtain⟨q1,bJ⟩:∃ x,x=txB (s.take G++[124]):=⟨_,rfl⟩;obtain⟨q4,bB⟩:∃ x,x=txB (s.take G++[42]):=⟨_,rfl⟩;obtain⟨v0,bK⟩:∃ x,x=txB (s++[41]):=⟨_,rfl⟩;obtain⟨v1,aV⟩:∃ x,x=txB ([40]++s):=⟨_,rfl⟩;obtain⟨v2,bH⟩:∃ x,x=txB (s.take G++[124]++s.drop G):=⟨_,rfl⟩;obtain⟨v3,bC⟩:∃ x,x=txB (s.take G++s.drop mm):=⟨_,rfl⟩;obtain⟨v4,bG⟩:∃ x,x=txB ([40]++s++[41]):=⟨_,rfl⟩;obtain⟨v6,bA⟩:∃ x,x=txB (s++[100]):=⟨_,rfl⟩;obtain⟨v7,bL⟩:∃ x,x=txB (s.take G++[42]++s.drop G):=⟨_,rfl⟩;have bD:∀ k c,(s.take k++[c]).length≤1000:=fun k c=>by rw[List.length_append,List.length_take,List.length_singleton];omega
  obtain⟨r0,cS⟩:=addB U { data:=#[41] } s [41] hU rfl bE (by decide) v0 bK;obtain⟨r1,cU⟩:=addB { data:=#[40] } U [40] s rfl hU (by decide) bE v1 aV;obtain⟨r2,cW⟩:=addB q0 { data:=#[124] } (s.take G) [124] aS rfl (tl _) (by decide) q1 bJ;obtain⟨r3,cP⟩:=addB q1 q2 _ _ bJ aW (bD _ _) (dl _) v2 bH;obtain⟨r4,cN⟩:=addB q0 q3 _ _ aS aZ (tl _) (dl _) v3 bC;obtain⟨r5,cM⟩:=addB v1 { data:=#[41] } ([40]++s) [41] aV rfl (by simp;omega) (by decide) v4 bG;obtain⟨r6,cQ⟩:=addB U { data:=#[100] } s [100] hU rfl bE (by decide) v6 bA;obtain⟨r7,dE⟩:=addB q0 { data:=#[42] } (s.take G) [42] aS rfl (tl _) (by decide) q4 bB;obtain⟨r8,dC⟩:=addB q4 q2 _ _ bB aW (bD _ _) (dl _) v7 bL;have c0:=cutH U q0 s G hU (by omega) aS;have c1:=cutL U q2 s G hU (by omega) aW;have c2:=cutL U q3 s mm hU (by omega) aZ;have tT:∀ k,isT (s.take k):=fun k x hx=>S.o x (List.mem_of_mem_take hx)
  have dT:∀ k,isT (s.drop k):=fun k x hx=>S.o x (List.mem_of_mem_drop hx)
  have sT:∀ x,x<256→isT [x]:=fun x hx y hy=>by rw[List.mem_singleton.1 hy];exact hx
  obtain⟨vs,bM,bO⟩:∃ vs:Fin 10→ByteArray,(∀ j:Fin 10,(#[.string v0,.string v1,.string v2,.string v3,.string v4,.string { data:=#[] },.string v6,.string v7,.string { data:=#[97,124,124,98] },.string { data:=#[33] }]:Array Value)[j.val]? = some (.string (vs j)))∧∀ j:Fin 10,∃ z,isT z∧z.length≤300∧vs j=txB z:=by
   have h1:∀ k,(s.take k).length≤240:=fun k=>by rw[List.length_take];omega
   have h2:∀ k,(s.drop k).length≤240:=fun k=>by rw[List.length_drop];omega
   have h3:=h1 G;have h4:=h2 G;have h5:=h2 mm;have h6:(s.take G).length+(s.drop mm).length≤300∨True:=.inr trivial;have h7:G≤s.length:=by omega
   have h8:(s.take G).length=G:=by rw[List.length_take];omega
   have h9:(s.drop G).length=s.length-G:=List.length_drop;have dA:(s.drop mm).length=s.length-mm:=List.length_drop;have cZ:G≤mm:=by omega
   refine⟨fun j=>[v0,v1,v2,v3,v4,{ data:=#[] },v6,v7,{ data:=#[97,124,124,98] },{ data:=#[33] }].getD j.val ⟨#[]⟩,fun j => ?_,fun j => ?_⟩
   ·obtain⟨j,hj⟩:=j;obtain rfl|rfl|rfl|rfl|rfl|rfl|rfl|rfl|rfl|rfl:j=0∨j=1∨j=2∨j=3∨j=4∨j=5∨j=6∨j=7∨j=8∨j=9:=by omega
    all_goals rfl
   obtain⟨j,hj⟩:=j;obtain rfl|rfl|rfl|rfl|rfl|rfl|rfl|rfl|rfl|rfl:j=0∨j=1∨j=2∨j=3∨j=4∨j=5∨j=6∨j=7∨j=8∨j=9:=by omega
   ·exact⟨_,Zdf S.o (sT 41 (by omega)),by simp;omega,bK⟩
   ·exact⟨_,Zdf (sT 40 (by omega)) S.o,by simp;omega,aV⟩
   ·exact⟨_,Zdf (Zdf (tT _) (sT 124 (by omega))) (dT _),by rw[List.length_append,List.length_append,List.length_singleton];omega,bH⟩
   ·exact⟨_,Zdf (tT _) (dT _),by rw[List.length_append];omega,bC⟩
   ·exact⟨_,Zdf (Zdf (sT 40 (by omega)) S.o) (sT 41 (by omega)),by simp;omega,bG⟩
   ·exact⟨[],(fun y hy=>by cases hy),by decide,rfl⟩
   ·exact⟨_,Zdf S.o (sT 100 (by omega)),by simp;omega,bA⟩
   ·exact⟨_,Zdf (Zdf (tT _) (sT 42 (by omega))) (dT _),by rw[List.length_append,List.length_append,List.length_singleton];omega,bL⟩
   ·exact⟨[97,124,124,98],(fun y hy=>by simp at hy;omega),by decide,rfl⟩
   exact⟨[33],sT 33 (by omega),by decide,rfl⟩
  have cG:=qh bM;have bN:=qh (show ∀ (j:Fin 10) (w':World),St w0 w' [RdE b vb (p3+1),X]→∃ (z:List Nat) (p':Nat),isT z∧z.length≤300∧p'≤p+100∧Ending.returned (.string (vs j)) = .returned (.string (txB z))∧St w0 w' [RdE b vb p',X] from fun j w' h=>by obtain⟨z,h1,h2,h3⟩:=bO j;exact⟨z,p3+1,h1,h2,by omega,by rw[h3],h⟩);have cL:p3≤1000000:=by omega
  clear hn0 bS cD bM bO bK aV bH bC bG bA bL aS bJ aW aZ bB hU S tl dl bD tT dT sT;go_wp2;refine wp_region_any (by kernel_rfl) ?_
  refine Zay (fun A listed a w'=>∃ (l0 l1 l2 l3 l4 l5 l6 l7 l8 l9 aG aA g aJ aE Z l aL aR aT aB aD aK u aC aP Y aO m aM aF aH q aQ aI aU T aN O Q P H:Bool) (I:Fin 10) (E:Nat),listed=#[l0,l1,l2,l3,l4,l5,l6,l7,l8,l9,aG,aA,g,aJ,aE,Z,l,aL,aR,aT,aB,aD,aK,u,aC,aP,Y,aO,m,aM,aF,aH,q,aQ,aI,aU,T,aN,O,Q,P,H]∧(Q=true→T=true∧O=true)∧(P=true→O=true)∧(H=true→l0=true∧l2=true∧l4=true∧l8=true∧g=true∧Z=true∧l=true∧u=true∧Y=true∧m=true∧q=true∧O=true) ∧
    a=⟨((((((((((((((((((((((((((((((((((((((((((A.tmps.setIfInBounds 21 (if l0=true then .string U else A.tmps.getD 21 undef)).setIfInBounds 22 (if l1=true then .string v0 else A.tmps.getD 22 undef)).setIfInBounds 23 (if l2=true then .string U else A.tmps.getD 23 undef)).setIfInBounds 24 (if l3=true then .string v1 else A.tmps.getD 24 undef)).setIfInBounds 25 (if l4=true then .string U else A.tmps.getD 25 undef)).setIfInBounds 26 (if l5=true then .int .i64 (G:Int) else A.tmps.getD 26 undef)).setIfInBounds 27 (if l6=true then .string q0 else A.tmps.getD 27 undef)).setIfInBounds 28 (if l7=true then .string q1 else A.tmps.getD 28 undef)).setIfInBounds 29 (if l8=true then .string U else A.tmps.getD 29 undef)).setIfInBounds 30 (if l9=true then .int .i64 (G:Int) else A.tmps.getD 30 undef)).setIfInBounds 31 (if aG=true then .string q2 else A.tmps.getD 31 undef)).setIfInBounds 32 (if aA=true then .string v2 else A.tmps.getD 32 undef)).setIfInBounds 33 (if g=true then .string U else A.tmps.getD 33 undef)).setIfInBounds 34 (if aJ=true then .int .i64 (G:Int) else A.tmps.getD 34 undef)).setIfInBounds 35 (if aE=true then .string q0 else A.tmps.getD 35 undef)).setIfInBounds 36 (if Z=true then .string U else A.tmps.getD 36 undef)).setIfInBounds 37 (if l=true then .string U else A.tmps.getD 37 undef)).setIfInBounds 38 (if aL=true then .int .i64 (n0:Int) else A.tmps.getD 38 undef)).setIfInBounds 39 (if aR=true then .int .i64 (G:Int) else A.tmps.getD 39 undef)).setIfInBounds 40 (if aT=true then .int .i64 ((a1:Nat):Int) else A.tmps.getD 40 undef)).setIfInBounds 41 (if aB=true then .int .i64 ((mm:Nat):Int) else A.tmps.getD 41 undef)).setIfInBounds 42 (if aD=true then .string q3 else A.tmps.getD 42 undef)).setIfInBounds 43 (if aK=true then .string v3 else A.tmps.getD 43 undef)).setIfInBounds 44 (if u=true then .string U else A.tmps.getD 44 undef)).setIfInBounds 45 (if aC=true then .string v1 else A.tmps.getD 45 undef)).setIfInBounds 46 (if aP=true then .string v4 else A.tmps.getD 46 undef)).setIfInBounds 47 (if Y=true then .string U else A.tmps.getD 47 undef)).setIfInBounds 48 (if aO=true then .string v6 else A.tmps.getD 48 undef)).setIfInBounds 49 (if m=true then .string U else A.tmps.getD 49 undef)).setIfInBounds 50 (if aM=true then .int .i64 (G:Int) else A.tmps.getD 50 undef)).setIfInBounds 51 (if aF=true then .string q0 else A.tmps.getD 51 undef)).setIfInBounds 52 (if aH=true then .string q4 else A.tmps.getD 52 undef)).setIfInBounds 53 (if q=true then .string U else A.tmps.getD 53 undef)).setIfInBounds 54 (if aQ=true then .int .i64 (G:Int) else A.tmps.getD 54 undef)).setIfInBounds 55 (if aI=true then .string q2 else A.tmps.getD 55 undef)).setIfInBounds 56 (if aU=true then .string v7 else A.tmps.getD 56 undef)).setIfInBounds 57 (if T=true then .slice (some ⟨E,0,none⟩) 10 10 else A.tmps.getD 57 undef)).setIfInBounds 58 (if aN=true then .pointer (some ⟨b,0,none⟩) else A.tmps.getD 58 undef)).setIfInBounds 59 (if O=true then .int .i64 ((I.val:Nat):Int) else A.tmps.getD 59 undef)).setIfInBounds 60 (if Q=true then .pointer (some ⟨E,I.val,none⟩) else A.tmps.getD 60 undef)).setIfInBounds 61 (if P=true then .string (vs I) else A.tmps.getD 61 undef)).setIfInBounds 5 (if H=true then .string (vs I) else A.tmps.getD 5 undef)),A.defers⟩ ∧
    St w0 w' [(if O=true then RdE b vb (p3+1) else RdE b vb p3),X,Zbw pa pc es,(if T=true then Ent.box E #[.string v0,.string v1,.string v2,.string v3,.string v4,.string { data:=#[] },.string v6,.string v7,.string { data:=#[97,124,124,98] },.string { data:=#[33] }] 9 else Ent.nil)]) ?_ ?_ ?_
  ·rintro listed a w' ⟨l0,l1,l2,l3,l4,l5,l6,l7,l8,l9,aG,aA,g,aJ,aE,Z,l,aL,aR,aT,aB,aD,aK,u,aC,aP,Y,aO,m,aM,aF,aH,q,aQ,aI,aU,T,aN,O,Q,P,H,I,E,rfl,C,D,B,rfl,hS⟩ i hi;obtain⟨F,o,ho,hall⟩:=mem_ready.1 hi;have hlt:=(Array.getElem?_eq_some_iff.1 ho).1;refine wpOp_step ho (fun K L => ?_);clear hi;have J:=qh hS;clear hS;simp only[w_1,w_2,w_3,w_4,w_5,w_6,w_7,w_8];obtain h|h|h|h|h|h|h|h|h|h|h|h|h|h|h|h|h|h|h|h|h|h|h|h|h|h|h|h|h|h|h|h|h|h|h|h|h|h|h|h|h|h:i=0∨i=1∨i=2∨i=3∨i=4∨i=5∨i=6∨i=7∨i=8∨i=9∨i=10∨i=11∨i=12∨i=13∨i=14∨i=15∨i=16∨i=17∨i=18∨i=19∨i=20∨i=21∨i=22∨i=23∨i=24∨i=25∨i=26∨i=27∨i=28∨i=29∨i=30∨i=31∨i=32∨i=33∨i=34∨i=35∨i=36∨i=37∨i=38∨i=39∨i=40∨i=41:=by simp at hlt;omega
   all_goals subst h
   all_goals simp only[w_5,w_6,w_7,w_9] at ho
   all_goals subst ho
   all_goals simp[Region.binds] at F hall
   ·subst F;obtain rfl:H=false:=by cases H with|false=>rfl|true=>simpa using B rfl
    go_simp;exact L _ _ ⟨_,_,_,_,_,_,_,_,_,_,_,_,_,_,_,_,_,_,_,_,_,_,_,_,_,_,_,_,_,_,_,_,_,_,_,_,_,_,_,_,_,_,I,E,rfl,C,D,by simp,(by simp<;>omega),J.o⟩
   ·obtain rfl:=hall;subst F;go_simp;exact L _ _ ⟨_,_,_,_,_,_,_,_,_,_,_,_,_,_,_,_,_,_,_,_,_,_,_,_,_,_,_,_,_,_,_,_,_,_,_,_,_,_,_,_,_,_,I,E,rfl,C,D,B,(by simp<;>omega),J.o⟩
   ·subst F;obtain rfl:H=false:=by cases H with|false=>rfl|true=>simpa using B rfl
    go_simp;exact L _ _ ⟨_,_,_,_,_,_,_,_,_,_,_,_,_,_,_,_,_,_,_,_,_,_,_,_,_,_,_,_,_,_,_,_,_,_,_,_,_,_,_,_,_,_,I,E,rfl,C,D,by simp,(by simp<;>omega),J.o⟩
   ·obtain rfl:=hall;subst F;go_simp;exact L _ _ ⟨_,_,_,_,_,_,_,_,_,_,_,_,_,_,_,_,_,_,_,_,_,_,_,_,_,_,_,_,_,_,_,_,_,_,_,_,_,_,_,_,_,_,I,E,rfl,C,D,B,(by simp<;>omega),J.o⟩
   ·subst F;obtain rfl:H=false:=by cases H with|false=>rfl|true=>simpa using B rfl
    go_simp;exact L _ _ ⟨_,_,_,_,_,_,_,_,_,_,_,_,_,_,_,_,_,_,_,_,_,_,_,_,_,_,_,_,_,_,_,_,_,_,_,_,_,_,_,_,_,_,I,E,rfl,C,D,by simp,(by simp<;>omega),J.o⟩
   ·subst F;go_simp;exact L _ _ ⟨_,_,_,_,_,_,_,_,_,_,_,_,_,_,_,_,_,_,_,_,_,_,_,_,_,_,_,_,_,_,_,_,_,_,_,_,_,_,_,_,_,_,I,E,rfl,C,D,B,(by simp<;>omega),J.o⟩
   ·obtain⟨rfl,rfl⟩:=hall;subst F;go_simp;exact L _ _ ⟨_,_,_,_,_,_,_,_,_,_,_,_,_,_,_,_,_,_,_,_,_,_,_,_,_,_,_,_,_,_,_,_,_,_,_,_,_,_,_,_,_,_,I,E,rfl,C,D,B,(by simp<;>omega),J.o⟩
   ·obtain rfl:=hall;subst F;go_simp;exact L _ _ ⟨_,_,_,_,_,_,_,_,_,_,_,_,_,_,_,_,_,_,_,_,_,_,_,_,_,_,_,_,_,_,_,_,_,_,_,_,_,_,_,_,_,_,I,E,rfl,C,D,B,(by simp<;>omega),J.o⟩
   ·subst F;obtain rfl:H=false:=by cases H with|false=>rfl|true=>simpa using B rfl
    go_simp;exact L _ _ ⟨_,_,_,_,_,_,_,_,_,_,_,_,_,_,_,_,_,_,_,_,_,_,_,_,_,_,_,_,_,_,_,_,_,_,_,_,_,_,_,_,_,_,I,E,rfl,C,D,by simp,(by simp<;>omega),J.o⟩
   ·subst F;go_simp;exact L _ _ ⟨_,_,_,_,_,_,_,_,_,_,_,_,_,_,_,_,_,_,_,_,_,_,_,_,_,_,_,_,_,_,_,_,_,_,_,_,_,_,_,_,_,_,I,E,rfl,C,D,B,(by simp<;>omega),J.o⟩
   ·obtain⟨rfl,rfl⟩:=hall;subst F;go_simp;exact L _ _ ⟨_,_,_,_,_,_,_,_,_,_,_,_,_,_,_,_,_,_,_,_,_,_,_,_,_,_,_,_,_,_,_,_,_,_,_,_,_,_,_,_,_,_,I,E,rfl,C,D,B,(by simp<;>omega),J.o⟩
   ·obtain⟨rfl,rfl⟩:=hall;subst F;go_simp;exact L _ _ ⟨_,_,_,_,_,_,_,_,_,_,_,_,_,_,_,_,_,_,_,_,_,_,_,_,_,_,_,_,_,_,_,_,_,_,_,_,_,_,_,_,_,_,I,E,rfl,C,D,B,(by simp<;>omega),J.o⟩
   ·subst F;obtain rfl:H=false:=by cases H with|false=>rfl|true=>simpa using B rfl
    go_simp;exact L _ _ ⟨_,_,_,_,_,_,_,_,_,_,_,_,_,_,_,_,_,_,_,_,_,_,_,_,_,_,_,_,_,_,_,_,_,_,_,_,_,_,_,_,_,_,I,E,rfl,C,D,by simp,(by simp<;>omega),J.o⟩
   ·subst F;go_simp;exact L _ _ ⟨_,_,_,_,_,_,_,_,_,_,_,_,_,_,_,_,_,_,_,_,_,_,_,_,_,_,_,_,_,_,_,_,_,_,_,_,_,_,_,_,_,_,I,E,rfl,C,D,B,(by simp<;>omega),J.o⟩
   ·obtain⟨rfl,rfl⟩:=hall;subst F;go_simp;exact L _ _ ⟨_,_,_,_,_,_,_,_,_,_,_,_,_,_,_,_,_,_,_,_,_,_,_,_,_,_,_,_,_,_,_,_,_,_,_,_,_,_,_,_,_,_,I,E,rfl,C,D,B,(by simp<;>omega),J.o⟩
   ·subst F;obtain rfl:H=false:=by cases H with|false=>rfl|true=>simpa using B rfl
    go_simp;exact L _ _ ⟨_,_,_,_,_,_,_,_,_,_,_,_,_,_,_,_,_,_,_,_,_,_,_,_,_,_,_,_,_,_,_,_,_,_,_,_,_,_,_,_,_,_,I,E,rfl,C,D,by simp,(by simp<;>omega),J.o⟩
   ·subst F;obtain rfl:H=false:=by cases H with|false=>rfl|true=>simpa using B rfl
    go_simp;exact L _ _ ⟨_,_,_,_,_,_,_,_,_,_,_,_,_,_,_,_,_,_,_,_,_,_,_,_,_,_,_,_,_,_,_,_,_,_,_,_,_,_,_,_,_,_,I,E,rfl,C,D,by simp,(by simp<;>omega),J.o⟩
   ·obtain rfl:=hall;subst F;go_simp;exact L _ _ ⟨_,_,_,_,_,_,_,_,_,_,_,_,_,_,_,_,_,_,_,_,_,_,_,_,_,_,_,_,_,_,_,_,_,_,_,_,_,_,_,_,_,_,I,E,rfl,C,D,B,(by simp<;>omega),J.o⟩
   ·subst F;go_simp;exact L _ _ ⟨_,_,_,_,_,_,_,_,_,_,_,_,_,_,_,_,_,_,_,_,_,_,_,_,_,_,_,_,_,_,_,_,_,_,_,_,_,_,_,_,_,_,I,E,rfl,C,D,B,(by simp<;>omega),J.o⟩
   ·obtain rfl:=hall;subst F;go_simp;exact L _ _ ⟨_,_,_,_,_,_,_,_,_,_,_,_,_,_,_,_,_,_,_,_,_,_,_,_,_,_,_,_,_,_,_,_,_,_,_,_,_,_,_,_,_,_,I,E,rfl,C,D,B,(by simp<;>omega),J.o⟩
   ·obtain⟨rfl,rfl⟩:=hall;subst F;go_simp;exact L _ _ ⟨_,_,_,_,_,_,_,_,_,_,_,_,_,_,_,_,_,_,_,_,_,_,_,_,_,_,_,_,_,_,_,_,_,_,_,_,_,_,_,_,_,_,I,E,rfl,C,D,B,(by simp<;>omega),J.o⟩
   ·obtain⟨rfl,rfl⟩:=hall;subst F;go_simp;exact L _ _ ⟨_,_,_,_,_,_,_,_,_,_,_,_,_,_,_,_,_,_,_,_,_,_,_,_,_,_,_,_,_,_,_,_,_,_,_,_,_,_,_,_,_,_,I,E,rfl,C,D,B,(by simp<;>omega),J.o⟩
   ·obtain⟨rfl,rfl⟩:=hall;subst F;go_simp;exact L _ _ ⟨_,_,_,_,_,_,_,_,_,_,_,_,_,_,_,_,_,_,_,_,_,_,_,_,_,_,_,_,_,_,_,_,_,_,_,_,_,_,_,_,_,_,I,E,rfl,C,D,B,(by simp<;>omega),J.o⟩
   ·subst F;obtain rfl:H=false:=by cases H with|false=>rfl|true=>simpa using B rfl
    go_simp;exact L _ _ ⟨_,_,_,_,_,_,_,_,_,_,_,_,_,_,_,_,_,_,_,_,_,_,_,_,_,_,_,_,_,_,_,_,_,_,_,_,_,_,_,_,_,_,I,E,rfl,C,D,by simp,(by simp<;>omega),J.o⟩
   ·obtain rfl:=hall;subst F;go_simp;exact L _ _ ⟨_,_,_,_,_,_,_,_,_,_,_,_,_,_,_,_,_,_,_,_,_,_,_,_,_,_,_,_,_,_,_,_,_,_,_,_,_,_,_,_,_,_,I,E,rfl,C,D,B,(by simp<;>omega),J.o⟩
   ·obtain rfl:=hall;subst F;go_simp;exact L _ _ ⟨_,_,_,_,_,_,_,_,_,_,_,_,_,_,_,_,_,_,_,_,_,_,_,_,_,_,_,_,_,_,_,_,_,_,_,_,_,_,_,_,_,_,I,E,rfl,C,D,B,(by simp<;>omega),J.o⟩
   ·subst F;obtain rfl:H=false:=by cases H with|false=>rfl|true=>simpa using B rfl
    go_simp;exact L _ _ ⟨_,_,_,_,_,_,_,_,_,_,_,_,_,_,_,_,_,_,_,_,_,_,_,_,_,_,_,_,_,_,_,_,_,_,_,_,_,_,_,_,_,_,I,E,rfl,C,D,by simp,(by simp<;>omega),J.o⟩
   ·obtain rfl:=hall;subst F;go_simp;exact L _ _ ⟨_,_,_,_,_,_,_,_,_,_,_,_,_,_,_,_,_,_,_,_,_,_,_,_,_,_,_,_,_,_,_,_,_,_,_,_,_,_,_,_,_,_,I,E,rfl,C,D,B,(by simp<;>omega),J.o⟩
   ·subst F;obtain rfl:H=false:=by cases H with|false=>rfl|true=>simpa using B rfl
    go_simp;exact L _ _ ⟨_,_,_,_,_,_,_,_,_,_,_,_,_,_,_,_,_,_,_,_,_,_,_,_,_,_,_,_,_,_,_,_,_,_,_,_,_,_,_,_,_,_,I,E,rfl,C,D,by simp,(by simp<;>omega),J.o⟩
   ·subst F;go_simp;exact L _ _ ⟨_,_,_,_,_,_,_,_,_,_,_,_,_,_,_,_,_,_,_,_,_,_,_,_,_,_,_,_,_,_,_,_,_,_,_,_,_,_,_,_,_,_,I,E,rfl,C,D,B,(by simp<;>omega),J.o⟩
   ·obtain⟨rfl,rfl⟩:=hall;subst F;go_simp;exact L _ _ ⟨_,_,_,_,_,_,_,_,_,_,_,_,_,_,_,_,_,_,_,_,_,_,_,_,_,_,_,_,_,_,_,_,_,_,_,_,_,_,_,_,_,_,I,E,rfl,C,D,B,(by simp<;>omega),J.o⟩
   ·obtain rfl:=hall;subst F;go_simp;exact L _ _ ⟨_,_,_,_,_,_,_,_,_,_,_,_,_,_,_,_,_,_,_,_,_,_,_,_,_,_,_,_,_,_,_,_,_,_,_,_,_,_,_,_,_,_,I,E,rfl,C,D,B,(by simp<;>omega),J.o⟩
   ·subst F;obtain rfl:H=false:=by cases H with|false=>rfl|true=>simpa using B rfl
    go_simp;exact L _ _ ⟨_,_,_,_,_,_,_,_,_,_,_,_,_,_,_,_,_,_,_,_,_,_,_,_,_,_,_,_,_,_,_,_,_,_,_,_,_,_,_,_,_,_,I,E,rfl,C,D,by simp,(by simp<;>omega),J.o⟩
   ·subst F;go_simp;exact L _ _ ⟨_,_,_,_,_,_,_,_,_,_,_,_,_,_,_,_,_,_,_,_,_,_,_,_,_,_,_,_,_,_,_,_,_,_,_,_,_,_,_,_,_,_,I,E,rfl,C,D,B,(by simp<;>omega),J.o⟩
   ·obtain⟨rfl,rfl⟩:=hall;subst F;go_simp;exact L _ _ ⟨_,_,_,_,_,_,_,_,_,_,_,_,_,_,_,_,_,_,_,_,_,_,_,_,_,_,_,_,_,_,_,_,_,_,_,_,_,_,_,_,_,_,I,E,rfl,C,D,B,(by simp<;>omega),J.o⟩
   ·obtain⟨rfl,rfl⟩:=hall;subst F;go_simp;exact L _ _ ⟨_,_,_,_,_,_,_,_,_,_,_,_,_,_,_,_,_,_,_,_,_,_,_,_,_,_,_,_,_,_,_,_,_,_,_,_,_,_,_,_,_,_,I,E,rfl,C,D,B,(by simp<;>omega),J.o⟩
   ·obtain⟨rfl,rfl,rfl,rfl,rfl,rfl,rfl⟩:=hall;subst F;obtain rfl:Q=false:=offL C rfl;have N:=(J.o.alloc _ rfl #[.string v0,.string v1,.string v2,.string v3,.string v4,.string { data:=#[] },.string v6,.string v7,.string { data:=#[97,124,124,98] },.string { data:=#[33] }] 9).pick [0,1,2,4] (by decide);replace N:=qh N;go_simp;exact L _ _ ⟨_,_,_,_,_,_,_,_,_,_,_,_,_,_,_,_,_,_,_,_,_,_,_,_,_,_,_,_,_,_,_,_,_,_,_,_,_,_,_,_,_,_,I,_,rfl,by simp,D,B,(by simp<;>omega),N.o⟩
   ·subst F;go_simp;exact L _ _ ⟨_,_,_,_,_,_,_,_,_,_,_,_,_,_,_,_,_,_,_,_,_,_,_,_,_,_,_,_,_,_,_,_,_,_,_,_,_,_,_,_,_,_,I,E,rfl,C,D,B,(by simp<;>omega),J.o⟩
   ·obtain rfl:=hall;subst F;obtain rfl:Q=false:=offR C rfl;obtain rfl:P=false:=by cases P with|false=>rfl|true=>simpa using D rfl
    obtain rfl:H=false:=by cases H with|false=>rfl|true=>simpa using B rfl
    go_simp
    go_at_call 37
    refine(Zbb bs vb b p3 10 w0 _ _ Hb.o hlen (by omega) (by omega) (by omega) (St.pack (A:=[RdE b vb p3]) (R:=[X,Zbw pa pc es,_]) J.o)).mono ?_;rintro e u1 ⟨kk,bZ,rfl,V⟩;have N:=St.unpack (A:=[RdE b vb p3]) (A':=[RdE b vb (p3+1)]) (R:=[X,Zbw pa pc es,_]) J.o V;replace N:=qh N;go_simp;exact L _ _ ⟨_,_,_,_,_,_,_,_,_,_,_,_,_,_,_,_,_,_,_,_,_,_,_,_,_,_,_,_,_,_,_,_,_,_,_,_,_,_,_,_,_,_,⟨kk,bZ⟩,E,rfl,by simp,by simp,by simp,(by simp<;>omega),N.o⟩
   ·obtain⟨rfl,rfl⟩:=hall;subst F;have cO:=I.isLt;have dF:((I.val:Nat):Int)<10:=by omega
    go_simp;exact L _ _ ⟨_,_,_,_,_,_,_,_,_,_,_,_,_,_,_,_,_,_,_,_,_,_,_,_,_,_,_,_,_,_,_,_,_,_,_,_,_,_,_,_,_,_,I,E,rfl,by simp,D,B,(by simp<;>omega),J.o⟩
   ·obtain rfl:=hall;subst F;obtain⟨rfl,rfl⟩:=C rfl;have e0:=J.o.cell (v:=.string (vs I)) 3 I.val rfl (cG.o I);go_simp;exact L _ _ ⟨_,_,_,_,_,_,_,_,_,_,_,_,_,_,_,_,_,_,_,_,_,_,_,_,_,_,_,_,_,_,_,_,_,_,_,_,_,_,_,_,_,_,I,E,rfl,by simp,by simp,B,(by simp<;>omega),J.o⟩
   obtain⟨rfl,rfl,rfl,rfl,rfl,rfl,rfl,rfl,rfl,rfl,rfl,rfl,rfl,rfl,rfl,rfl,rfl,rfl,rfl,rfl,rfl,rfl,rfl,rfl,rfl,rfl,rfl,rfl,rfl,rfl,rfl,rfl,rfl,rfl,rfl,rfl,rfl,rfl,rfl,rfl,-,rfl,-⟩:=hall;subst F;go_simp;exact L _ _ ⟨_,_,_,_,_,_,_,_,_,_,_,_,_,_,_,_,_,_,_,_,_,_,_,_,_,_,_,_,_,_,_,_,_,_,_,_,_,_,_,_,_,_,I,E,rfl,by simp,by simp,by simp,(by simp<;>omega),J.o⟩
  ·rintro listed a w' ⟨l0,l1,l2,l3,l4,l5,l6,l7,l8,l9,aG,aA,g,aJ,aE,Z,l,aL,aR,aT,aB,aD,aK,u,aC,aP,Y,aO,m,aM,aF,aH,q,aQ,aI,aU,T,aN,O,Q,P,H,I,E,rfl,C,D,B,rfl,hS⟩ hr;have hall:=Za1 (by kernel_rfl) rfl hr;obtain rfl:l0=true:=by simpa using hall 0 (by simp<;>omega)
   obtain rfl:l1=true:=by simpa using hall 1 (by simp<;>omega)
   obtain rfl:l2=true:=by simpa using hall 2 (by simp<;>omega)
   obtain rfl:l3=true:=by simpa using hall 3 (by simp<;>omega)
   obtain rfl:l4=true:=by simpa using hall 4 (by simp<;>omega)
   obtain rfl:l5=true:=by simpa using hall 5 (by simp<;>omega)
   obtain rfl:l6=true:=by simpa using hall 6 (by simp<;>omega)
   obtain rfl:l7=true:=by simpa using hall 7 (by simp<;>omega)
   obtain rfl:l8=true:=by simpa using hall 8 (by simp<;>omega)
   obtain rfl:l9=true:=by simpa using hall 9 (by simp<;>omega)
   obtain rfl:aG=true:=by simpa using hall 10 (by simp<;>omega)
   obtain rfl:aA=true:=by simpa using hall 11 (by simp<;>omega)
   obtain rfl:g=true:=by simpa using hall 12 (by simp<;>omega)
   obtain rfl:aJ=true:=by simpa using hall 13 (by simp<;>omega)
   obtain rfl:aE=true:=by simpa using hall 14 (by simp<;>omega)
   obtain rfl:Z=true:=by simpa using hall 15 (by simp<;>omega)
   obtain rfl:l=true:=by simpa using hall 16 (by simp<;>omega)
   obtain rfl:aL=true:=by simpa using hall 17 (by simp<;>omega)
   obtain rfl:aR=true:=by simpa using hall 18 (by simp<;>omega)
   obtain rfl:aT=true:=by simpa using hall 19 (by simp<;>omega)
   obtain rfl:aB=true:=by simpa using hall 20 (by simp<;>omega)
   obtain rfl:aD=true:=by simpa using hall 21 (by simp<;>omega)
   obtain rfl:aK=true:=by simpa using hall 22 (by simp<;>omega)
   obtain rfl:u=true:=by simpa using hall 23 (by simp<;>omega)
   obtain rfl:aC=true:=by simpa using hall 24 (by simp<;>omega)
   obtain rfl:aP=true:=by simpa using hall 25 (by simp<;>omega)
   obtain rfl:Y=true:=by simpa using hall 26 (by simp<;>omega)
   obtain rfl:aO=true:=by simpa using hall 27 (by simp<;>omega)
   obtain rfl:m=true:=by simpa using hall 28 (by simp<;>omega)
   obtain rfl:aM=true:=by simpa using hall 29 (by simp<;>omega)
   obtain rfl:aF=true:=by simpa using hall 30 (by simp<;>omega)
   obtain rfl:aH=true:=by simpa using hall 31 (by simp<;>omega)
   obtain rfl:q=true:=by simpa using hall 32 (by simp<;>omega)
   obtain rfl:aQ=true:=by simpa using hall 33 (by simp<;>omega)
   obtain rfl:aI=true:=by simpa using hall 34 (by simp<;>omega)
   obtain rfl:aU=true:=by simpa using hall 35 (by simp<;>omega)
   obtain rfl:T=true:=by simpa using hall 36 (by simp<;>omega)
   obtain rfl:aN=true:=by simpa using hall 37 (by simp<;>omega)
   obtain rfl:O=true:=by simpa using hall 38 (by simp<;>omega)
   obtain rfl:Q=true:=by simpa using hall 39 (by simp<;>omega)
   obtain rfl:P=true:=by simpa using hall 40 (by simp<;>omega)
   obtain rfl:H=true:=by simpa using hall 41 (by simp<;>omega)
   clear hall hr C D B;simp only[↓reduceIte] at hS ⊢;simp only[w_1,w_2,w_3];have cF:=qh hS;clear hS;go_wp2;go_ret;exact bN.o I _ (cF.o.pick [0,1] (by decide))
  refine⟨false,false,false,false,false,false,false,false,false,false,false,false,false,false,false,false,false,false,false,false,false,false,false,false,false,false,false,false,false,false,false,false,false,false,false,false,false,false,false,false,false,false,0,0,rfl,by simp,by simp,by simp,(by simp<;>omega),?_⟩;exact cI.o.drew.pick [0,1,2,3] (by decide)
end Go.Proofs.YtncekbbhgipdlaaGreat
