/-
  The walk over the reference's l20Text: some text is drawn.
  Conditions: the reader is at hand, its bytes read as such.
-/
import Derived.Test.YtfgpkadhegdffaaPt16Rds
import Derived.Test.YtfgpkadhegdffaaPt21Tz
set_option maxHeartbeats 16000000
set_option maxRecDepth 100000
namespace Go.Proofs.Ytfgpkadhegdffaa
open Go.RowKit
theorem Za6 {u v:List Nat} (h:isT u) (h':isT v):isT (u++v):=fun b hb=>by
 rcases List.mem_append.1 hb with hb|hb
 ·exact h b hb
 exact h' b hb
theorem addB (x y:ByteArray) (u v:List Nat) (hx:x=txB u) (hy:y=txB v) (hu:u.length≤1000) (hv:v.length≤1000) (z:ByteArray) (hz:z=txB (u++v)):(∀ w':World,(Op.stringOp .add x y).run Try.prog w' = .ok (.string z) w')∧¬ 9223372036854775807<x.size+y.size:=by subst hx hy hz;rw[← Zbx];exact ZeF u (txB v) hu (by rw[Zah];exact hv)
theorem cutH (x z:ByteArray) (s:List Nat) (k:Nat) (hx:x=txB s) (hk:k≤s.length) (hz:z=txB (s.take k)):∀ w':World,(Instr.slice 9 (.string x) none (some (.int .i64 (k:Int))) none).run Try.prog w' = .ok (.string z) w':=fun w'=>by subst hx hz;rw[run_slice_string_h w' 9 (txB s) Try.underlying9 .i64 k (by omega) (by rw[Zah];omega),Int.toNat_natCast,ZfX]
theorem cutL (x z:ByteArray) (s:List Nat) (k:Nat) (hx:x=txB s) (hk:k≤s.length) (hz:z=txB (s.drop k)):∀ w':World,(Instr.slice 9 (.string x) (some (.int .i64 (k:Int))) none none).run Try.prog w' = .ok (.string z) w':=fun w'=>by subst hx hz;rw[run_slice_string_l w' 9 (txB s) Try.underlying9 .i64 k (by omega) (by rw[Zah];omega),Int.toNat_natCast,ZfY]
theorem Zee (bs:List Nat) (vb:Value) (b p n:Nat) (w0 w:World) (X:Ent) (hb:Bytes 0 w0 vb bs) (hlen:bs.length≤2000) (hp:p≤700000) (hn1:n≤10000) (hS:St w0 w [RdE b vb p,X]) :
  Calls Try.prog 58 #[.pointer (some ⟨b,0,none⟩),.int .i64 ((n:Nat):Int)] w fun e w'=>∃ (s:List Nat) (p':Nat),isT s∧s.length≤300∧p'≤p+100∧e = .returned (.string (txB s))∧St w0 w' [RdE b vb p',X]:=by
 have Hb:=qh hb;have HS:=qh hS;clear hb hS
 go_enter Try.func58, Try.ntmps58
 go_wp2_with fail;refine(Zap bs vb b p 3 w0 _ _ Hb.out hlen (by omega) (by omega) (by omega) HS.out).mono ?_;rintro e w1 ⟨k3,hk3,rfl,hS1⟩;obtain⟨d,hd⟩:∃ d:Nat,(1:Int)+(k3:Int)=((d:Nat):Int):=⟨k3+1,by omega⟩;have hwd:IntKind.i64.wrap ((d:Nat):Int)=((d:Nat):Int):=IntWalk.i64_in _ (by omega);have HS1:=qh hS1;obtain⟨hfl,hfg⟩:=ZeG (d:=d) (by omega);clear hS1 HS;go_wp2_with fail;refine(Zgl bs vb b w0 Hb.out hlen d (by omega) false (p+1) _ X (by omega) HS1.out).mono ?_;rintro e w2 ⟨pa,pc,es,p1,hes1,hes2,hp1,rfl,hS2⟩;have HP:=qh ((ZgB pa pc es).r hS2 2 rfl);have HS2:=qh hS2;clear hS2 HS1;go_wp2_with fail;refine(ZaT es _ _ (by omega) HP.out).mono ?_;rintro e w3 ⟨rfl,hb3⟩;obtain⟨s,hs⟩:=eJ (ZbL es);have hsT:=Zco es;have hsl:=(Zem es).2;rw[hs] at hsT hsl ⊢;have HS3:=qh (HS2.out.call hb3);have HsT:=qh hsT;clear hb3 HS2 hsT hs HP;go_wp2_with fail;refine(Zfz bs vb b p1 n w0 _ _ Hb.out hlen (by omega) hn1 (St.pack (A:=[RdE b vb p1]) (R:=[X,ZaS pa pc es]) HS3.out)).mono ?_;rintro e w4 ⟨od,p2,hp2,rfl,hSp⟩;have HS4:Hid (St w0 w4 [RdE b vb p2,X,ZaS pa pc es]):=qh (St.unpack (A:=[RdE b vb p1]) (A':=[RdE b vb p2]) (R:=[X,ZaS pa pc es]) HS3.out hSp);clear hSp HS3;cases od with
 | false =>go_wp2;go_ret;exact⟨s,p2,HsT.out,by omega,by omega,rfl,HS4.out.pick [0,1] (by decide)⟩
 | true =>
  obtain⟨n0,hn0⟩:=eJ (s.length);obtain⟨M,hM⟩:∃ M:Nat,(n0:Int)+1=((M:Nat):Int):=⟨n0+1,by omega⟩;have hwM:IntKind.i64.wrap ((M:Nat):Int)=((M:Nat):Int):=IntWalk.i64_in _ (by omega);obtain⟨U,hU⟩:=eI (txB s);have hUs:U.size=n0:=by rw[hU,Zah,hn0]
  rw[← hU];have Hhn0:=qh hn0;clear hn0;have HhU:=qh hU;clear hU;replace hd:=qh hd;have hp2':p2≤p+60:=by omega
  have hn240:n0≤240:=by have:=Hhn0.out;omega
  have hM240:M≤241:=by omega
  clear hwd hfl hfg hp2 hp1 hes1 hes2;go_wp2_with fail;refine(Zap bs vb b p2 M w0 _ _ Hb.out hlen (by omega) (by omega) (by omega) (St.pack (A:=[RdE b vb p2]) (R:=[X,ZaS pa pc es]) HS4.out)).mono ?_;rintro e w5 ⟨at0,hat,rfl,hSp⟩;obtain⟨p3,hp3⟩:=eI (p2+1);have HS5:Hid (St w0 w5 [RdE b vb p3,X,ZaS pa pc es]):=qh (by rw[hp3];exact St.unpack (A:=[RdE b vb p2]) (A':=[RdE b vb (p2+1)]) (R:=[X,ZaS pa pc es]) HS4.out hSp);clear hSp HS4;have hn0:=Hhn0.out;have hU:=HhU.out;obtain⟨a1,ha1⟩:∃ a1:Nat,(at0:Int)+1=((a1:Nat):Int):=⟨at0+1,by omega⟩;have hwa:IntKind.i64.wrap ((a1:Nat):Int)=((a1:Nat):Int):=IntWalk.i64_in _ (by omega);obtain⟨mm,hmm⟩:∃ mm:Nat,min (n0:Int) ((a1:Nat):Int)=((mm:Nat):Int):=⟨min n0 a1,by omega⟩;have hmn:mm≤n0:=by omega
  have hs1:s.length≤1000:=by omega
  have tl:∀ k,(s.take k).length≤1000:=fun k=>by rw[List.length_take];omega
  have dl:∀ k,(s.drop k).length≤1000:=fun k=>by rw[List.length_drop];omega
  obtain⟨q0,hq0⟩:∃ x,x=txB (s.take at0):=⟨_,rfl⟩;obtain⟨q2,hq2⟩:∃ x,x=txB (s.drop at0):=⟨_,rfl⟩;obtain⟨q3,hq3⟩:∃ x,x=txB (s.drop mm):=⟨_,rfl⟩;obtain⟨q1,hq1⟩:∃ x,x=txB (s.take at0++[124]):=⟨_,rfl⟩;obtain⟨q4,hq4⟩:∃ x,x=txB (s.take at0++[42]):=⟨_,rfl⟩;obtain⟨v0,hv0⟩:∃ x,x=txB (s++[41]):=⟨_,rfl⟩;obtain⟨v1,hv1⟩:∃ x,x=txB ([40]++s):=⟨_,rfl⟩;obtain⟨v2,hv2⟩:∃ x,x=txB (s.take at0++[124]++s.drop at0):=⟨_,rfl⟩;obtain⟨v3,hv3⟩:∃ x,x=txB (s.take at0++s.drop mm):=⟨_,rfl⟩;obtain⟨v4,hv4⟩:∃ x,x=txB ([40]++s++[41]):=⟨_,rfl⟩;obtain⟨v6,hv6⟩:∃ x,x=txB (s++[100]):=⟨_,rfl⟩;obtain⟨v7,hv7⟩:∃ x,x=txB (s.take at0++[42]++s.drop at0):=⟨_,rfl⟩;have tl1:∀ k c,(s.take k++[c]).length≤1000:=fun k c=>by rw[List.length_append,List.length_take,List.length_singleton];omega
  obtain⟨r0,n0'⟩:=addB U { data:=#[41] } s [41] hU rfl hs1 (by decide) v0 hv0;obtain⟨r1,n1'⟩:=addB { data:=#[40] } U [40] s rfl hU (by decide) hs1 v1 hv1;obtain⟨r2,n2'⟩:=addB q0 { data:=#[124] } (s.take at0) [124] hq0 rfl (tl _) (by decide) q1 hq1;obtain⟨r3,n3'⟩:=addB q1 q2 _ _ hq1 hq2 (tl1 _ _) (dl _) v2 hv2;obtain⟨r4,n4'⟩:=addB q0 q3 _ _ hq0 hq3 (tl _) (dl _) v3 hv3;obtain⟨r5,n5'⟩:=addB v1 { data:=#[41] } ([40]++s) [41] hv1 rfl (by simp;omega) (by decide) v4 hv4;obtain⟨r6,n6'⟩:=addB U { data:=#[100] } s [100] hU rfl hs1 (by decide) v6 hv6;obtain⟨r7,n7'⟩:=addB q0 { data:=#[42] } (s.take at0) [42] hq0 rfl (tl _) (by decide) q4 hq4;obtain⟨r8,n8'⟩:=addB q4 q2 _ _ hq4 hq2 (tl1 _ _) (dl _) v7 hv7;have c0:=cutH U q0 s at0 hU (by omega) hq0;have c1:=cutL U q2 s at0 hU (by omega) hq2;have c2:=cutL U q3 s mm hU (by omega) hq3;have tT:∀ k,isT (s.take k):=fun k x hx=>HsT.out x (List.mem_of_mem_take hx)
  have dT:∀ k,isT (s.drop k):=fun k x hx=>HsT.out x (List.mem_of_mem_drop hx)
  have sT:∀ x,x<256→isT [x]:=fun x hx y hy=>by rw[List.mem_singleton.1 hy];exact hx
  obtain⟨vs,hvs,hvt⟩:∃ vs:Fin 10→ByteArray,(∀ j:Fin 10,(#[.string v0,.string v1,.string v2,.string v3,.string v4,.string { data:=#[] },.string v6,.string v7,.string { data:=#[97,124,124,98] },.string { data:=#[33] }]:Array Value)[j.val]? = some (.string (vs j)))∧∀ j:Fin 10,∃ z,isT z∧z.length≤300∧vs j=txB z:=by
   have h1:∀ k,(s.take k).length≤240:=fun k=>by rw[List.length_take];omega
   have h2:∀ k,(s.drop k).length≤240:=fun k=>by rw[List.length_drop];omega
   have h3:=h1 at0;have h4:=h2 at0;have h5:=h2 mm;have h6:(s.take at0).length+(s.drop mm).length≤300∨True:=.inr trivial;have h7:at0≤s.length:=by omega
   have h8:(s.take at0).length=at0:=by rw[List.length_take];omega
   have h9:(s.drop at0).length=s.length-at0:=List.length_drop;have h10:(s.drop mm).length=s.length-mm:=List.length_drop;have h11:at0≤mm:=by omega
   refine⟨fun j=>[v0,v1,v2,v3,v4,{ data:=#[] },v6,v7,{ data:=#[97,124,124,98] },{ data:=#[33] }].getD j.val ⟨#[]⟩,fun j => ?_,fun j => ?_⟩
   ·obtain⟨j,hj⟩:=j;obtain rfl|rfl|rfl|rfl|rfl|rfl|rfl|rfl|rfl|rfl:j=0∨j=1∨j=2∨j=3∨j=4∨j=5∨j=6∨j=7∨j=8∨j=9:=by omega
    all_goals rfl
   obtain⟨j,hj⟩:=j;obtain rfl|rfl|rfl|rfl|rfl|rfl|rfl|rfl|rfl|rfl:j=0∨j=1∨j=2∨j=3∨j=4∨j=5∨j=6∨j=7∨j=8∨j=9:=by omega
   ·exact⟨_,Za6 HsT.out (sT 41 (by omega)),by simp;omega,hv0⟩
   ·exact⟨_,Za6 (sT 40 (by omega)) HsT.out,by simp;omega,hv1⟩
   ·exact⟨_,Za6 (Za6 (tT _) (sT 124 (by omega))) (dT _),by rw[List.length_append,List.length_append,List.length_singleton];omega,hv2⟩
   ·exact⟨_,Za6 (tT _) (dT _),by rw[List.length_append];omega,hv3⟩
   ·exact⟨_,Za6 (Za6 (sT 40 (by omega)) HsT.out) (sT 41 (by omega)),by simp;omega,hv4⟩
   ·exact⟨[],(fun y hy=>by cases hy),by decide,rfl⟩
   ·exact⟨_,Za6 HsT.out (sT 100 (by omega)),by simp;omega,hv6⟩
   ·exact⟨_,Za6 (Za6 (tT _) (sT 42 (by omega))) (dT _),by rw[List.length_append,List.length_append,List.length_singleton];omega,hv7⟩
   ·exact⟨[97,124,124,98],(fun y hy=>by simp at hy;omega),by decide,rfl⟩
   exact⟨[33],sT 33 (by omega),by decide,rfl⟩
  have Hvs:=qh hvs;have Hend:=qh (show ∀ (j:Fin 10) (w':World),St w0 w' [RdE b vb (p3+1),X]→∃ (z:List Nat) (p':Nat),isT z∧z.length≤300∧p'≤p+100∧Ending.returned (.string (vs j)) = .returned (.string (txB z))∧St w0 w' [RdE b vb p',X] from fun j w' h=>by obtain⟨z,h1,h2,h3⟩:=hvt j;exact⟨z,p3+1,h1,h2,by omega,by rw[h3],h⟩);have hp3':p3≤1000000:=by omega
  clear hn0 hp3 hat hvs hvt hv0 hv1 hv2 hv3 hv4 hv6 hv7 hq0 hq1 hq2 hq3 hq4 hU HsT tl dl tl1 tT dT sT;go_wp2;refine wp_region_any (by kernel_rfl) ?_
  refine Za9 (fun A listed a w'=>∃ (l0 l1 l2 l3 l4 l5 l6 l7 l8 l9 l10 l11 l12 l13 l14 l15 l16 l17 l18 l19 l20 l21 l22 l23 l24 l25 l26 l27 l28 l29 l30 l31 l32 l33 l34 l35 l36 l37 l38 l39 l40 l41:Bool) (jj:Fin 10) (bn0:Nat),listed=#[l0,l1,l2,l3,l4,l5,l6,l7,l8,l9,l10,l11,l12,l13,l14,l15,l16,l17,l18,l19,l20,l21,l22,l23,l24,l25,l26,l27,l28,l29,l30,l31,l32,l33,l34,l35,l36,l37,l38,l39,l40,l41]∧(l39=true→l36=true∧l38=true)∧(l40=true→l38=true)∧(l41=true→l0=true∧l2=true∧l4=true∧l8=true∧l12=true∧l15=true∧l16=true∧l23=true∧l26=true∧l28=true∧l32=true∧l38=true) ∧
    a=⟨((((((((((((((((((((((((((((((((((((((((((A.tmps.setIfInBounds 21 (if l0=true then .string U else A.tmps.getD 21 undef)).setIfInBounds 22 (if l1=true then .string v0 else A.tmps.getD 22 undef)).setIfInBounds 23 (if l2=true then .string U else A.tmps.getD 23 undef)).setIfInBounds 24 (if l3=true then .string v1 else A.tmps.getD 24 undef)).setIfInBounds 25 (if l4=true then .string U else A.tmps.getD 25 undef)).setIfInBounds 26 (if l5=true then .int .i64 (at0:Int) else A.tmps.getD 26 undef)).setIfInBounds 27 (if l6=true then .string q0 else A.tmps.getD 27 undef)).setIfInBounds 28 (if l7=true then .string q1 else A.tmps.getD 28 undef)).setIfInBounds 29 (if l8=true then .string U else A.tmps.getD 29 undef)).setIfInBounds 30 (if l9=true then .int .i64 (at0:Int) else A.tmps.getD 30 undef)).setIfInBounds 31 (if l10=true then .string q2 else A.tmps.getD 31 undef)).setIfInBounds 32 (if l11=true then .string v2 else A.tmps.getD 32 undef)).setIfInBounds 33 (if l12=true then .string U else A.tmps.getD 33 undef)).setIfInBounds 34 (if l13=true then .int .i64 (at0:Int) else A.tmps.getD 34 undef)).setIfInBounds 35 (if l14=true then .string q0 else A.tmps.getD 35 undef)).setIfInBounds 36 (if l15=true then .string U else A.tmps.getD 36 undef)).setIfInBounds 37 (if l16=true then .string U else A.tmps.getD 37 undef)).setIfInBounds 38 (if l17=true then .int .i64 (n0:Int) else A.tmps.getD 38 undef)).setIfInBounds 39 (if l18=true then .int .i64 (at0:Int) else A.tmps.getD 39 undef)).setIfInBounds 40 (if l19=true then .int .i64 ((a1:Nat):Int) else A.tmps.getD 40 undef)).setIfInBounds 41 (if l20=true then .int .i64 ((mm:Nat):Int) else A.tmps.getD 41 undef)).setIfInBounds 42 (if l21=true then .string q3 else A.tmps.getD 42 undef)).setIfInBounds 43 (if l22=true then .string v3 else A.tmps.getD 43 undef)).setIfInBounds 44 (if l23=true then .string U else A.tmps.getD 44 undef)).setIfInBounds 45 (if l24=true then .string v1 else A.tmps.getD 45 undef)).setIfInBounds 46 (if l25=true then .string v4 else A.tmps.getD 46 undef)).setIfInBounds 47 (if l26=true then .string U else A.tmps.getD 47 undef)).setIfInBounds 48 (if l27=true then .string v6 else A.tmps.getD 48 undef)).setIfInBounds 49 (if l28=true then .string U else A.tmps.getD 49 undef)).setIfInBounds 50 (if l29=true then .int .i64 (at0:Int) else A.tmps.getD 50 undef)).setIfInBounds 51 (if l30=true then .string q0 else A.tmps.getD 51 undef)).setIfInBounds 52 (if l31=true then .string q4 else A.tmps.getD 52 undef)).setIfInBounds 53 (if l32=true then .string U else A.tmps.getD 53 undef)).setIfInBounds 54 (if l33=true then .int .i64 (at0:Int) else A.tmps.getD 54 undef)).setIfInBounds 55 (if l34=true then .string q2 else A.tmps.getD 55 undef)).setIfInBounds 56 (if l35=true then .string v7 else A.tmps.getD 56 undef)).setIfInBounds 57 (if l36=true then .slice (some ⟨bn0,0,none⟩) 10 10 else A.tmps.getD 57 undef)).setIfInBounds 58 (if l37=true then .pointer (some ⟨b,0,none⟩) else A.tmps.getD 58 undef)).setIfInBounds 59 (if l38=true then .int .i64 ((jj.val:Nat):Int) else A.tmps.getD 59 undef)).setIfInBounds 60 (if l39=true then .pointer (some ⟨bn0,jj.val,none⟩) else A.tmps.getD 60 undef)).setIfInBounds 61 (if l40=true then .string (vs jj) else A.tmps.getD 61 undef)).setIfInBounds 5 (if l41=true then .string (vs jj) else A.tmps.getD 5 undef)),A.defers⟩ ∧
    St w0 w' [(if l38=true then RdE b vb (p3+1) else RdE b vb p3),X,ZaS pa pc es,(if l36=true then Ent.box bn0 #[.string v0,.string v1,.string v2,.string v3,.string v4,.string { data:=#[] },.string v6,.string v7,.string { data:=#[97,124,124,98] },.string { data:=#[33] }] 9 else Ent.nil)]) ?_ ?_ ?_
  ·rintro listed a w' ⟨l0,l1,l2,l3,l4,l5,l6,l7,l8,l9,l10,l11,l12,l13,l14,l15,l16,l17,l18,l19,l20,l21,l22,l23,l24,l25,l26,l27,l28,l29,l30,l31,l32,l33,l34,l35,l36,l37,l38,l39,l40,l41,jj,bn0,rfl,hd39,hd40,hd41,rfl,hS⟩ i hi;obtain⟨hun,o,ho,hall⟩:=mem_ready.1 hi;have hlt:=(Array.getElem?_eq_some_iff.1 ho).1;refine wpOp_step ho (fun K hK => ?_);clear hi;have HS:=qh hS;clear hS;simp only[List.setIfInBounds_toArray,List.set_cons_zero,List.set_cons_succ,Array.getD_eq_getD_getElem?,List.getElem?_toArray,List.getElem?_cons_zero,List.getElem?_cons_succ,Option.getD_some];obtain h|h|h|h|h|h|h|h|h|h|h|h|h|h|h|h|h|h|h|h|h|h|h|h|h|h|h|h|h|h|h|h|h|h|h|h|h|h|h|h|h|h:i=0∨i=1∨i=2∨i=3∨i=4∨i=5∨i=6∨i=7∨i=8∨i=9∨i=10∨i=11∨i=12∨i=13∨i=14∨i=15∨i=16∨i=17∨i=18∨i=19∨i=20∨i=21∨i=22∨i=23∨i=24∨i=25∨i=26∨i=27∨i=28∨i=29∨i=30∨i=31∨i=32∨i=33∨i=34∨i=35∨i=36∨i=37∨i=38∨i=39∨i=40∨i=41:=by simp at hlt;omega
   all_goals subst h
   all_goals simp only[List.getElem?_toArray,List.getElem?_cons_zero,List.getElem?_cons_succ,Option.some.injEq] at ho
   all_goals subst ho
   all_goals simp[Region.binds] at hun hall
   ·subst hun;obtain rfl:l41=false:=by cases l41 with|false=>rfl|true=>simpa using hd41 rfl
    go_simp;exact hK _ _ ⟨true,l1,l2,l3,l4,l5,l6,l7,l8,l9,l10,l11,l12,l13,l14,l15,l16,l17,l18,l19,l20,l21,l22,l23,l24,l25,l26,l27,l28,l29,l30,l31,l32,l33,l34,l35,l36,l37,l38,l39,l40,false,jj,bn0,rfl,hd39,hd40,by simp,(by simp<;>omega),HS.out⟩
   ·obtain rfl:=hall;subst hun;go_simp;exact hK _ _ ⟨true,true,l2,l3,l4,l5,l6,l7,l8,l9,l10,l11,l12,l13,l14,l15,l16,l17,l18,l19,l20,l21,l22,l23,l24,l25,l26,l27,l28,l29,l30,l31,l32,l33,l34,l35,l36,l37,l38,l39,l40,l41,jj,bn0,rfl,hd39,hd40,hd41,(by simp<;>omega),HS.out⟩
   ·subst hun;obtain rfl:l41=false:=by cases l41 with|false=>rfl|true=>simpa using hd41 rfl
    go_simp;exact hK _ _ ⟨l0,l1,true,l3,l4,l5,l6,l7,l8,l9,l10,l11,l12,l13,l14,l15,l16,l17,l18,l19,l20,l21,l22,l23,l24,l25,l26,l27,l28,l29,l30,l31,l32,l33,l34,l35,l36,l37,l38,l39,l40,false,jj,bn0,rfl,hd39,hd40,by simp,(by simp<;>omega),HS.out⟩
   ·obtain rfl:=hall;subst hun;go_simp;exact hK _ _ ⟨l0,l1,true,true,l4,l5,l6,l7,l8,l9,l10,l11,l12,l13,l14,l15,l16,l17,l18,l19,l20,l21,l22,l23,l24,l25,l26,l27,l28,l29,l30,l31,l32,l33,l34,l35,l36,l37,l38,l39,l40,l41,jj,bn0,rfl,hd39,hd40,hd41,(by simp<;>omega),HS.out⟩
   ·subst hun;obtain rfl:l41=false:=by cases l41 with|false=>rfl|true=>simpa using hd41 rfl
    go_simp;exact hK _ _ ⟨l0,l1,l2,l3,true,l5,l6,l7,l8,l9,l10,l11,l12,l13,l14,l15,l16,l17,l18,l19,l20,l21,l22,l23,l24,l25,l26,l27,l28,l29,l30,l31,l32,l33,l34,l35,l36,l37,l38,l39,l40,false,jj,bn0,rfl,hd39,hd40,by simp,(by simp<;>omega),HS.out⟩
   ·subst hun;go_simp;exact hK _ _ ⟨l0,l1,l2,l3,l4,true,l6,l7,l8,l9,l10,l11,l12,l13,l14,l15,l16,l17,l18,l19,l20,l21,l22,l23,l24,l25,l26,l27,l28,l29,l30,l31,l32,l33,l34,l35,l36,l37,l38,l39,l40,l41,jj,bn0,rfl,hd39,hd40,hd41,(by simp<;>omega),HS.out⟩
   ·obtain⟨rfl,rfl⟩:=hall;subst hun;go_simp;exact hK _ _ ⟨l0,l1,l2,l3,true,true,true,l7,l8,l9,l10,l11,l12,l13,l14,l15,l16,l17,l18,l19,l20,l21,l22,l23,l24,l25,l26,l27,l28,l29,l30,l31,l32,l33,l34,l35,l36,l37,l38,l39,l40,l41,jj,bn0,rfl,hd39,hd40,hd41,(by simp<;>omega),HS.out⟩
   ·obtain rfl:=hall;subst hun;go_simp;exact hK _ _ ⟨l0,l1,l2,l3,l4,l5,true,true,l8,l9,l10,l11,l12,l13,l14,l15,l16,l17,l18,l19,l20,l21,l22,l23,l24,l25,l26,l27,l28,l29,l30,l31,l32,l33,l34,l35,l36,l37,l38,l39,l40,l41,jj,bn0,rfl,hd39,hd40,hd41,(by simp<;>omega),HS.out⟩
   ·subst hun;obtain rfl:l41=false:=by cases l41 with|false=>rfl|true=>simpa using hd41 rfl
    go_simp;exact hK _ _ ⟨l0,l1,l2,l3,l4,l5,l6,l7,true,l9,l10,l11,l12,l13,l14,l15,l16,l17,l18,l19,l20,l21,l22,l23,l24,l25,l26,l27,l28,l29,l30,l31,l32,l33,l34,l35,l36,l37,l38,l39,l40,false,jj,bn0,rfl,hd39,hd40,by simp,(by simp<;>omega),HS.out⟩
   ·subst hun;go_simp;exact hK _ _ ⟨l0,l1,l2,l3,l4,l5,l6,l7,l8,true,l10,l11,l12,l13,l14,l15,l16,l17,l18,l19,l20,l21,l22,l23,l24,l25,l26,l27,l28,l29,l30,l31,l32,l33,l34,l35,l36,l37,l38,l39,l40,l41,jj,bn0,rfl,hd39,hd40,hd41,(by simp<;>omega),HS.out⟩
   ·obtain⟨rfl,rfl⟩:=hall;subst hun;go_simp;exact hK _ _ ⟨l0,l1,l2,l3,l4,l5,l6,l7,true,true,true,l11,l12,l13,l14,l15,l16,l17,l18,l19,l20,l21,l22,l23,l24,l25,l26,l27,l28,l29,l30,l31,l32,l33,l34,l35,l36,l37,l38,l39,l40,l41,jj,bn0,rfl,hd39,hd40,hd41,(by simp<;>omega),HS.out⟩
   ·obtain⟨rfl,rfl⟩:=hall;subst hun;go_simp;exact hK _ _ ⟨l0,l1,l2,l3,l4,l5,l6,true,l8,l9,true,true,l12,l13,l14,l15,l16,l17,l18,l19,l20,l21,l22,l23,l24,l25,l26,l27,l28,l29,l30,l31,l32,l33,l34,l35,l36,l37,l38,l39,l40,l41,jj,bn0,rfl,hd39,hd40,hd41,(by simp<;>omega),HS.out⟩
   ·subst hun;obtain rfl:l41=false:=by cases l41 with|false=>rfl|true=>simpa using hd41 rfl
    go_simp;exact hK _ _ ⟨l0,l1,l2,l3,l4,l5,l6,l7,l8,l9,l10,l11,true,l13,l14,l15,l16,l17,l18,l19,l20,l21,l22,l23,l24,l25,l26,l27,l28,l29,l30,l31,l32,l33,l34,l35,l36,l37,l38,l39,l40,false,jj,bn0,rfl,hd39,hd40,by simp,(by simp<;>omega),HS.out⟩
   ·subst hun;go_simp;exact hK _ _ ⟨l0,l1,l2,l3,l4,l5,l6,l7,l8,l9,l10,l11,l12,true,l14,l15,l16,l17,l18,l19,l20,l21,l22,l23,l24,l25,l26,l27,l28,l29,l30,l31,l32,l33,l34,l35,l36,l37,l38,l39,l40,l41,jj,bn0,rfl,hd39,hd40,hd41,(by simp<;>omega),HS.out⟩
   ·obtain⟨rfl,rfl⟩:=hall;subst hun;go_simp;exact hK _ _ ⟨l0,l1,l2,l3,l4,l5,l6,l7,l8,l9,l10,l11,true,true,true,l15,l16,l17,l18,l19,l20,l21,l22,l23,l24,l25,l26,l27,l28,l29,l30,l31,l32,l33,l34,l35,l36,l37,l38,l39,l40,l41,jj,bn0,rfl,hd39,hd40,hd41,(by simp<;>omega),HS.out⟩
   ·subst hun;obtain rfl:l41=false:=by cases l41 with|false=>rfl|true=>simpa using hd41 rfl
    go_simp;exact hK _ _ ⟨l0,l1,l2,l3,l4,l5,l6,l7,l8,l9,l10,l11,l12,l13,l14,true,l16,l17,l18,l19,l20,l21,l22,l23,l24,l25,l26,l27,l28,l29,l30,l31,l32,l33,l34,l35,l36,l37,l38,l39,l40,false,jj,bn0,rfl,hd39,hd40,by simp,(by simp<;>omega),HS.out⟩
   ·subst hun;obtain rfl:l41=false:=by cases l41 with|false=>rfl|true=>simpa using hd41 rfl
    go_simp;exact hK _ _ ⟨l0,l1,l2,l3,l4,l5,l6,l7,l8,l9,l10,l11,l12,l13,l14,l15,true,l17,l18,l19,l20,l21,l22,l23,l24,l25,l26,l27,l28,l29,l30,l31,l32,l33,l34,l35,l36,l37,l38,l39,l40,false,jj,bn0,rfl,hd39,hd40,by simp,(by simp<;>omega),HS.out⟩
   ·obtain rfl:=hall;subst hun;go_simp;exact hK _ _ ⟨l0,l1,l2,l3,l4,l5,l6,l7,l8,l9,l10,l11,l12,l13,l14,l15,true,true,l18,l19,l20,l21,l22,l23,l24,l25,l26,l27,l28,l29,l30,l31,l32,l33,l34,l35,l36,l37,l38,l39,l40,l41,jj,bn0,rfl,hd39,hd40,hd41,(by simp<;>omega),HS.out⟩
   ·subst hun;go_simp;exact hK _ _ ⟨l0,l1,l2,l3,l4,l5,l6,l7,l8,l9,l10,l11,l12,l13,l14,l15,l16,l17,true,l19,l20,l21,l22,l23,l24,l25,l26,l27,l28,l29,l30,l31,l32,l33,l34,l35,l36,l37,l38,l39,l40,l41,jj,bn0,rfl,hd39,hd40,hd41,(by simp<;>omega),HS.out⟩
   ·obtain rfl:=hall;subst hun;go_simp;exact hK _ _ ⟨l0,l1,l2,l3,l4,l5,l6,l7,l8,l9,l10,l11,l12,l13,l14,l15,l16,l17,true,true,l20,l21,l22,l23,l24,l25,l26,l27,l28,l29,l30,l31,l32,l33,l34,l35,l36,l37,l38,l39,l40,l41,jj,bn0,rfl,hd39,hd40,hd41,(by simp<;>omega),HS.out⟩
   ·obtain⟨rfl,rfl⟩:=hall;subst hun;go_simp;exact hK _ _ ⟨l0,l1,l2,l3,l4,l5,l6,l7,l8,l9,l10,l11,l12,l13,l14,l15,l16,true,l18,true,true,l21,l22,l23,l24,l25,l26,l27,l28,l29,l30,l31,l32,l33,l34,l35,l36,l37,l38,l39,l40,l41,jj,bn0,rfl,hd39,hd40,hd41,(by simp<;>omega),HS.out⟩
   ·obtain⟨rfl,rfl⟩:=hall;subst hun;go_simp;exact hK _ _ ⟨l0,l1,l2,l3,l4,l5,l6,l7,l8,l9,l10,l11,l12,l13,l14,true,l16,l17,l18,l19,true,true,l22,l23,l24,l25,l26,l27,l28,l29,l30,l31,l32,l33,l34,l35,l36,l37,l38,l39,l40,l41,jj,bn0,rfl,hd39,hd40,hd41,(by simp<;>omega),HS.out⟩
   ·obtain⟨rfl,rfl⟩:=hall;subst hun;go_simp;exact hK _ _ ⟨l0,l1,l2,l3,l4,l5,l6,l7,l8,l9,l10,l11,l12,l13,true,l15,l16,l17,l18,l19,l20,true,true,l23,l24,l25,l26,l27,l28,l29,l30,l31,l32,l33,l34,l35,l36,l37,l38,l39,l40,l41,jj,bn0,rfl,hd39,hd40,hd41,(by simp<;>omega),HS.out⟩
   ·subst hun;obtain rfl:l41=false:=by cases l41 with|false=>rfl|true=>simpa using hd41 rfl
    go_simp;exact hK _ _ ⟨l0,l1,l2,l3,l4,l5,l6,l7,l8,l9,l10,l11,l12,l13,l14,l15,l16,l17,l18,l19,l20,l21,l22,true,l24,l25,l26,l27,l28,l29,l30,l31,l32,l33,l34,l35,l36,l37,l38,l39,l40,false,jj,bn0,rfl,hd39,hd40,by simp,(by simp<;>omega),HS.out⟩
   ·obtain rfl:=hall;subst hun;go_simp;exact hK _ _ ⟨l0,l1,l2,l3,l4,l5,l6,l7,l8,l9,l10,l11,l12,l13,l14,l15,l16,l17,l18,l19,l20,l21,l22,true,true,l25,l26,l27,l28,l29,l30,l31,l32,l33,l34,l35,l36,l37,l38,l39,l40,l41,jj,bn0,rfl,hd39,hd40,hd41,(by simp<;>omega),HS.out⟩
   ·obtain rfl:=hall;subst hun;go_simp;exact hK _ _ ⟨l0,l1,l2,l3,l4,l5,l6,l7,l8,l9,l10,l11,l12,l13,l14,l15,l16,l17,l18,l19,l20,l21,l22,l23,true,true,l26,l27,l28,l29,l30,l31,l32,l33,l34,l35,l36,l37,l38,l39,l40,l41,jj,bn0,rfl,hd39,hd40,hd41,(by simp<;>omega),HS.out⟩
   ·subst hun;obtain rfl:l41=false:=by cases l41 with|false=>rfl|true=>simpa using hd41 rfl
    go_simp;exact hK _ _ ⟨l0,l1,l2,l3,l4,l5,l6,l7,l8,l9,l10,l11,l12,l13,l14,l15,l16,l17,l18,l19,l20,l21,l22,l23,l24,l25,true,l27,l28,l29,l30,l31,l32,l33,l34,l35,l36,l37,l38,l39,l40,false,jj,bn0,rfl,hd39,hd40,by simp,(by simp<;>omega),HS.out⟩
   ·obtain rfl:=hall;subst hun;go_simp;exact hK _ _ ⟨l0,l1,l2,l3,l4,l5,l6,l7,l8,l9,l10,l11,l12,l13,l14,l15,l16,l17,l18,l19,l20,l21,l22,l23,l24,l25,true,true,l28,l29,l30,l31,l32,l33,l34,l35,l36,l37,l38,l39,l40,l41,jj,bn0,rfl,hd39,hd40,hd41,(by simp<;>omega),HS.out⟩
   ·subst hun;obtain rfl:l41=false:=by cases l41 with|false=>rfl|true=>simpa using hd41 rfl
    go_simp;exact hK _ _ ⟨l0,l1,l2,l3,l4,l5,l6,l7,l8,l9,l10,l11,l12,l13,l14,l15,l16,l17,l18,l19,l20,l21,l22,l23,l24,l25,l26,l27,true,l29,l30,l31,l32,l33,l34,l35,l36,l37,l38,l39,l40,false,jj,bn0,rfl,hd39,hd40,by simp,(by simp<;>omega),HS.out⟩
   ·subst hun;go_simp;exact hK _ _ ⟨l0,l1,l2,l3,l4,l5,l6,l7,l8,l9,l10,l11,l12,l13,l14,l15,l16,l17,l18,l19,l20,l21,l22,l23,l24,l25,l26,l27,l28,true,l30,l31,l32,l33,l34,l35,l36,l37,l38,l39,l40,l41,jj,bn0,rfl,hd39,hd40,hd41,(by simp<;>omega),HS.out⟩
   ·obtain⟨rfl,rfl⟩:=hall;subst hun;go_simp;exact hK _ _ ⟨l0,l1,l2,l3,l4,l5,l6,l7,l8,l9,l10,l11,l12,l13,l14,l15,l16,l17,l18,l19,l20,l21,l22,l23,l24,l25,l26,l27,true,true,true,l31,l32,l33,l34,l35,l36,l37,l38,l39,l40,l41,jj,bn0,rfl,hd39,hd40,hd41,(by simp<;>omega),HS.out⟩
   ·obtain rfl:=hall;subst hun;go_simp;exact hK _ _ ⟨l0,l1,l2,l3,l4,l5,l6,l7,l8,l9,l10,l11,l12,l13,l14,l15,l16,l17,l18,l19,l20,l21,l22,l23,l24,l25,l26,l27,l28,l29,true,true,l32,l33,l34,l35,l36,l37,l38,l39,l40,l41,jj,bn0,rfl,hd39,hd40,hd41,(by simp<;>omega),HS.out⟩
   ·subst hun;obtain rfl:l41=false:=by cases l41 with|false=>rfl|true=>simpa using hd41 rfl
    go_simp;exact hK _ _ ⟨l0,l1,l2,l3,l4,l5,l6,l7,l8,l9,l10,l11,l12,l13,l14,l15,l16,l17,l18,l19,l20,l21,l22,l23,l24,l25,l26,l27,l28,l29,l30,l31,true,l33,l34,l35,l36,l37,l38,l39,l40,false,jj,bn0,rfl,hd39,hd40,by simp,(by simp<;>omega),HS.out⟩
   ·subst hun;go_simp;exact hK _ _ ⟨l0,l1,l2,l3,l4,l5,l6,l7,l8,l9,l10,l11,l12,l13,l14,l15,l16,l17,l18,l19,l20,l21,l22,l23,l24,l25,l26,l27,l28,l29,l30,l31,l32,true,l34,l35,l36,l37,l38,l39,l40,l41,jj,bn0,rfl,hd39,hd40,hd41,(by simp<;>omega),HS.out⟩
   ·obtain⟨rfl,rfl⟩:=hall;subst hun;go_simp;exact hK _ _ ⟨l0,l1,l2,l3,l4,l5,l6,l7,l8,l9,l10,l11,l12,l13,l14,l15,l16,l17,l18,l19,l20,l21,l22,l23,l24,l25,l26,l27,l28,l29,l30,l31,true,true,true,l35,l36,l37,l38,l39,l40,l41,jj,bn0,rfl,hd39,hd40,hd41,(by simp<;>omega),HS.out⟩
   ·obtain⟨rfl,rfl⟩:=hall;subst hun;go_simp;exact hK _ _ ⟨l0,l1,l2,l3,l4,l5,l6,l7,l8,l9,l10,l11,l12,l13,l14,l15,l16,l17,l18,l19,l20,l21,l22,l23,l24,l25,l26,l27,l28,l29,l30,true,l32,l33,true,true,l36,l37,l38,l39,l40,l41,jj,bn0,rfl,hd39,hd40,hd41,(by simp<;>omega),HS.out⟩
   ·obtain⟨rfl,rfl,rfl,rfl,rfl,rfl,rfl⟩:=hall;subst hun;obtain rfl:l39=false:=offL hd39 rfl;have hS2:=(HS.out.alloc _ rfl #[.string v0,.string v1,.string v2,.string v3,.string v4,.string { data:=#[] },.string v6,.string v7,.string { data:=#[97,124,124,98] },.string { data:=#[33] }] 9).pick [0,1,2,4] (by decide);replace hS2:=qh hS2;go_simp;exact hK _ _ ⟨l0,true,l2,true,l4,l5,l6,l7,l8,l9,l10,true,l12,l13,l14,l15,l16,l17,l18,l19,l20,l21,true,l23,l24,true,l26,true,l28,l29,l30,l31,l32,l33,l34,true,true,l37,l38,false,l40,l41,jj,_,rfl,by simp,hd40,hd41,(by simp<;>omega),hS2.out⟩
   ·subst hun;go_simp;exact hK _ _ ⟨l0,l1,l2,l3,l4,l5,l6,l7,l8,l9,l10,l11,l12,l13,l14,l15,l16,l17,l18,l19,l20,l21,l22,l23,l24,l25,l26,l27,l28,l29,l30,l31,l32,l33,l34,l35,l36,true,l38,l39,l40,l41,jj,bn0,rfl,hd39,hd40,hd41,(by simp<;>omega),HS.out⟩
   ·obtain rfl:=hall;subst hun;obtain rfl:l39=false:=offR hd39 rfl;obtain rfl:l40=false:=by cases l40 with|false=>rfl|true=>simpa using hd40 rfl
    obtain rfl:l41=false:=by cases l41 with|false=>rfl|true=>simpa using hd41 rfl
    go_simp
    go_at_call 49
    refine(Zap bs vb b p3 10 w0 _ _ Hb.out hlen (by omega) (by omega) (by omega) (St.pack (A:=[RdE b vb p3]) (R:=[X,ZaS pa pc es,_]) HS.out)).mono ?_;rintro e u1 ⟨kk,hkk,rfl,hSp⟩;have hS2:=St.unpack (A:=[RdE b vb p3]) (A':=[RdE b vb (p3+1)]) (R:=[X,ZaS pa pc es,_]) HS.out hSp;replace hS2:=qh hS2;go_simp;exact hK _ _ ⟨l0,l1,l2,l3,l4,l5,l6,l7,l8,l9,l10,l11,l12,l13,l14,l15,l16,l17,l18,l19,l20,l21,l22,l23,l24,l25,l26,l27,l28,l29,l30,l31,l32,l33,l34,l35,l36,true,true,false,false,false,⟨kk,hkk⟩,bn0,rfl,by simp,by simp,by simp,(by simp<;>omega),hS2.out⟩
   ·obtain⟨rfl,rfl⟩:=hall;subst hun;have hjj:=jj.isLt;have hjI:((jj.val:Nat):Int)<10:=by omega
    go_simp;exact hK _ _ ⟨l0,l1,l2,l3,l4,l5,l6,l7,l8,l9,l10,l11,l12,l13,l14,l15,l16,l17,l18,l19,l20,l21,l22,l23,l24,l25,l26,l27,l28,l29,l30,l31,l32,l33,l34,l35,true,l37,true,true,l40,l41,jj,bn0,rfl,by simp,hd40,hd41,(by simp<;>omega),HS.out⟩
   ·obtain rfl:=hall;subst hun;obtain⟨rfl,rfl⟩:=hd39 rfl;have e0:=HS.out.cell (v:=.string (vs jj)) 3 jj.val rfl (Hvs.out jj);go_simp;exact hK _ _ ⟨l0,l1,l2,l3,l4,l5,l6,l7,l8,l9,l10,l11,l12,l13,l14,l15,l16,l17,l18,l19,l20,l21,l22,l23,l24,l25,l26,l27,l28,l29,l30,l31,l32,l33,l34,l35,true,l37,true,true,true,l41,jj,bn0,rfl,by simp,by simp,hd41,(by simp<;>omega),HS.out⟩
   obtain⟨rfl,rfl,rfl,rfl,rfl,rfl,rfl,rfl,rfl,rfl,rfl,rfl,rfl,rfl,rfl,rfl,rfl,rfl,rfl,rfl,rfl,rfl,rfl,rfl,rfl,rfl,rfl,rfl,rfl,rfl,rfl,rfl,rfl,rfl,rfl,rfl,rfl,rfl,rfl,rfl,-,rfl,-⟩:=hall;subst hun;go_simp;exact hK _ _ ⟨true,true,true,true,true,true,true,true,true,true,true,true,true,true,true,true,true,true,true,true,true,true,true,true,true,true,true,true,true,true,true,true,true,true,true,true,true,true,true,true,true,true,jj,bn0,rfl,by simp,by simp,by simp,(by simp<;>omega),HS.out⟩
  ·rintro listed a w' ⟨l0,l1,l2,l3,l4,l5,l6,l7,l8,l9,l10,l11,l12,l13,l14,l15,l16,l17,l18,l19,l20,l21,l22,l23,l24,l25,l26,l27,l28,l29,l30,l31,l32,l33,l34,l35,l36,l37,l38,l39,l40,l41,jj,bn0,rfl,hd39,hd40,hd41,rfl,hS⟩ hr;have hall:=Zbd (by kernel_rfl) rfl hr;obtain rfl:l0=true:=by simpa using hall 0 (by simp<;>omega)
   obtain rfl:l1=true:=by simpa using hall 1 (by simp<;>omega)
   obtain rfl:l2=true:=by simpa using hall 2 (by simp<;>omega)
   obtain rfl:l3=true:=by simpa using hall 3 (by simp<;>omega)
   obtain rfl:l4=true:=by simpa using hall 4 (by simp<;>omega)
   obtain rfl:l5=true:=by simpa using hall 5 (by simp<;>omega)
   obtain rfl:l6=true:=by simpa using hall 6 (by simp<;>omega)
   obtain rfl:l7=true:=by simpa using hall 7 (by simp<;>omega)
   obtain rfl:l8=true:=by simpa using hall 8 (by simp<;>omega)
   obtain rfl:l9=true:=by simpa using hall 9 (by simp<;>omega)
   obtain rfl:l10=true:=by simpa using hall 10 (by simp<;>omega)
   obtain rfl:l11=true:=by simpa using hall 11 (by simp<;>omega)
   obtain rfl:l12=true:=by simpa using hall 12 (by simp<;>omega)
   obtain rfl:l13=true:=by simpa using hall 13 (by simp<;>omega)
   obtain rfl:l14=true:=by simpa using hall 14 (by simp<;>omega)
   obtain rfl:l15=true:=by simpa using hall 15 (by simp<;>omega)
   obtain rfl:l16=true:=by simpa using hall 16 (by simp<;>omega)
   obtain rfl:l17=true:=by simpa using hall 17 (by simp<;>omega)
   obtain rfl:l18=true:=by simpa using hall 18 (by simp<;>omega)
   obtain rfl:l19=true:=by simpa using hall 19 (by simp<;>omega)
   obtain rfl:l20=true:=by simpa using hall 20 (by simp<;>omega)
   obtain rfl:l21=true:=by simpa using hall 21 (by simp<;>omega)
   obtain rfl:l22=true:=by simpa using hall 22 (by simp<;>omega)
   obtain rfl:l23=true:=by simpa using hall 23 (by simp<;>omega)
   obtain rfl:l24=true:=by simpa using hall 24 (by simp<;>omega)
   obtain rfl:l25=true:=by simpa using hall 25 (by simp<;>omega)
   obtain rfl:l26=true:=by simpa using hall 26 (by simp<;>omega)
   obtain rfl:l27=true:=by simpa using hall 27 (by simp<;>omega)
   obtain rfl:l28=true:=by simpa using hall 28 (by simp<;>omega)
   obtain rfl:l29=true:=by simpa using hall 29 (by simp<;>omega)
   obtain rfl:l30=true:=by simpa using hall 30 (by simp<;>omega)
   obtain rfl:l31=true:=by simpa using hall 31 (by simp<;>omega)
   obtain rfl:l32=true:=by simpa using hall 32 (by simp<;>omega)
   obtain rfl:l33=true:=by simpa using hall 33 (by simp<;>omega)
   obtain rfl:l34=true:=by simpa using hall 34 (by simp<;>omega)
   obtain rfl:l35=true:=by simpa using hall 35 (by simp<;>omega)
   obtain rfl:l36=true:=by simpa using hall 36 (by simp<;>omega)
   obtain rfl:l37=true:=by simpa using hall 37 (by simp<;>omega)
   obtain rfl:l38=true:=by simpa using hall 38 (by simp<;>omega)
   obtain rfl:l39=true:=by simpa using hall 39 (by simp<;>omega)
   obtain rfl:l40=true:=by simpa using hall 40 (by simp<;>omega)
   obtain rfl:l41=true:=by simpa using hall 41 (by simp<;>omega)
   clear hall hr hd39 hd40 hd41;simp only[↓reduceIte] at hS ⊢;simp only[List.setIfInBounds_toArray,List.set_cons_zero,List.set_cons_succ];have HSf:=qh hS;clear hS;go_wp2;go_ret;exact Hend.out jj _ (HSf.out.pick [0,1] (by decide))
  refine⟨false,false,false,false,false,false,false,false,false,false,false,false,false,false,false,false,false,false,false,false,false,false,false,false,false,false,false,false,false,false,false,false,false,false,false,false,false,false,false,false,false,false,0,0,rfl,by simp,by simp,by simp,(by simp<;>omega),?_⟩;exact HS5.out.drew.pick [0,1,2,3] (by decide)
end Go.Proofs.Ytfgpkadhegdffaa
