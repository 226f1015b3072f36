/-
  The walks over the reference's l12Join and l12Ends.
  Conditions: the lists ascend; the expression reads as such, and has neither both nor not.
-/
import Derived.Test.YtfanhfcamblghaaPq18Smh
set_option maxHeartbeats 16000000
set_option maxRecDepth 100000
namespace Go.Proofs.Ytfanhfcamblghaa
open Go.RowKit
theorem ZmW {l:List Nat}:∀ u∈natC l,u.oneCell'=true:=fun u hu=>by simp only[natC,intCells,List.mem_map] at hu;obtain⟨x,-,rfl⟩:=hu;rfl
theorem Zed (f:Bool):∀ (t:Ex) (n:Nat),(edP f t n).Pairwise (·<·):=by
 intro t
 induction t with
 | zero=>exact fun _=>List.Pairwise.nil
 | one=>exact fun _=>List.Pairwise.nil
 | ltr c=>exact fun _=>List.pairwise_singleton ..
 | join a b ha hb =>
  intro n;have key:(edP f a n++edP f b (n+a.post.length)).Pairwise (·<·):=List.pairwise_append.2 ⟨ha n,hb _,fun x hx y hy=>by have:=ZaZ f a n x hx;have:=ZaZ f b _ y hy;omega⟩;unfold edP
  split
  ·split
   ·exact key
   exact ha n
  split
  ·exact key
  exact hb _
 | alt a b ha hb =>intro n;exact List.pairwise_append.2 ⟨ha n,hb _,fun x hx y hy=>by have:=ZaZ f a n x hx;have:=ZaZ f b _ y hy;omega⟩
 | both a b ha hb=>exact fun _=>List.Pairwise.nil
 | neg a ha=>exact fun _=>List.Pairwise.nil
 | star a ha=>exact fun n=>ha n
theorem ZfC (f g:Bool) (a b:Ex) (n:Nat):(edP f a n++edP g b (n+a.post.length)).Pairwise (·<·):=List.pairwise_append.2 ⟨Zed f a n,Zed g b _,fun x hx y hy=>by have:=ZaZ f a n x hx;have:=ZaZ g b _ y hy;omega⟩
theorem ZbL (xs ys:List Nat) (hs:(xs++ys).Pairwise (·<·)) (v1 v2:Value) (w:World) (hl1:xs.length≤1000) (hl2:ys.length≤1000) (h1:Ints 0 w v1 (xs.map fun (x:Nat)=>(x:Int))) (h2:Ints 0 w v2 (ys.map fun (x:Nat)=>(x:Int))) :
  Calls Try.prog 92 #[v1,v2] w fun e w'=>ROn (xs++ys) w e w':=by
 obtain⟨a1,c1,rfl,-⟩:=h1.form;obtain⟨a2,c2,rfl,hd1,hd2,hrd⟩:=h2.form;obtain⟨i0,hi,hz0,hz1,hz2⟩:=info_parts Try.infoInt;rw[List.length_map] at hd1 hrd;obtain⟨nx,hnx⟩:∃ n,xs.length=n:=⟨_,rfl⟩;obtain⟨ny,hny⟩:∃ n,ys.length=n:=⟨_,rfl⟩;have H1:Hid (Sl 0 w (.slice a1 nx c1) nx 1 (natC xs)):=qh (by have h:=h1;unfold Ints at h;rw[List.length_map,hnx] at h;exact h);rw[List.length_map,List.length_map,hnx,hny];obtain⟨Z,hZ⟩:=eJ (xs++ys);rw[hZ];replace hZ:=qh hZ;rw[hny] at hd1 hrd hl2;rw[hnx] at hl1;have Hrd:=qh hrd;have HS0:=qh ((St.start w).newRow0 3 1);have HX:=qh (H1.out.below HS0.out.bel);have Hs:=qh hs;have Hhi:=qh hi;clear hi;have Hhz0:=qh hz0;clear hz0;have Hhz1:=qh hz1;clear hz1;have Hhz2:=qh hz2;clear hz2;have Hhnx:=qh hnx;clear hnx;have Hhny:=qh hny;clear hny;clear h1 h2 hrd hs H1
 go_enter Try.func92, Try.ntmps92
 go_wp2_with (at_builtin;refine Zay _ rfl _ _ _ rfl _ 3 i0 (.int .i64 0) 1 8 Try.underlying26 Hhi.out Hhz0.out Hhz1.out Hhz2.out rfl (by omega) _ 0 _ rfl (HS0.out.row 0 rfl) _ nx (natC xs) rfl HX.out ZmW (by unfold maxLen;omega) (by omega) HS0.out.size ?_;intro a3 c3 w3 hown hgrow hat;have hS:=HS0.out.appS 0 rfl hown hgrow hat;simp only[Nat.zero_add,List.nil_append] at hS;(try simp only[Nat.zero_add]);have HS3:=qh hS;clear hown hgrow hat hS)
 go_loopw [5,6] (fun ov i wr=>∃ (k m c:Nat) (a:Option Addr),i = .int .i64 (k:Int)∧ov = .slice a m c∧k≤ny∧m=nx+k∧St w wr [Ent.row 3 1 (.slice a m c) m (natC (xs++ys.take k))])
  (fun _ i _=>ny-(intOf i).toNat)
 case atStart=>exact⟨0,nx,c3,a3,rfl,rfl,Nat.zero_le _,rfl,by rw[List.take_zero,List.append_nil];exact HS3.out⟩
 case round =>
  obtain⟨k,m,c,a,rfl,rfl,hk,hm,hS⟩:=hrel;have HS:=qh hS;have hln:(xs++ys.take k).length=m:=by rw[List.length_append,List.length_take,Hhnx.out,Hhny.out];omega
  have hm1:nx+k≤m:=by omega
  have hm2:m≤nx+k:=by omega
  clear hm;by_cases hlt:k<ny
  ·have hlt2:(k:Int)<ny:=by omega
   obtain⟨b,o,rfl,-,hbl,hcs⟩:=Hrd.out (by omega);have g1:=hcs k hlt;obtain⟨y,hy⟩:=eJ (ys.getD k 0);have hyi:(ys.map fun (x:Nat)=>(x:Int)).getD k 0=(y:Int):=by rw[← hy];simp[List.getD_eq_getElem?_getD];rcases h:ys[k]? with _|z<;>simp
   rw[hyi] at g1;have hcut:ys.take (k+1)=ys.take k++[y]:=by rw[List.take_succ_eq_append_getElem (by rw[Hhny.out];exact hlt),← hy];simp[Hhny.out,hlt]
   have hno:ZcG ((xs++ys.take k).map fun (x:Nat)=>(x:Int)) (y:Int) = -1:=by
    unfold ZcG;rw[if_neg];intro hmem;obtain⟨z,hz,hzy⟩:=List.mem_map.1 hmem;have hzy:z=y:=by have h:(z:Int)=(y:Int):=hzy;omega
    subst hzy;have e:xs++ys=(xs++ys.take k)++(z::ys.drop (k+1)):=by rw[List.append_assoc,← List.singleton_append,← List.append_assoc (ys.take k),← hcut,List.take_append_drop]
    have hs:=Hs.out;rw[e,List.pairwise_append] at hs;exact absurd (hs.2.2 z hz z (List.mem_cons_self ..)) (Nat.lt_irrefl z)
   have k1:=(bcell hS.bel b _ hbl).trans g1;have hnm:=Zea ((xs++ys.take k).map fun (x:Nat)=>(x:Int)) (y:Int) _ wr (by rw[List.length_map,hln];omega) (Zaj (hS.row 0 rfl));rw[hno] at hnm;have Hnm:=qh hnm;have G1:=qh g1;have Hhcut:=qh hcut;clear hcut;have Hhln:=qh hln;clear hln;have Hhy:=qh hy;clear hy;have Hhyi:=qh hyi;clear hyi;clear hS hcs g1 hnm hno;go_wp2_with fail;refine Hnm.out.mono ?_;rintro e w4 ⟨rfl,hb4⟩;have HS4:=qh (HS.out.call hb4);have k2:=(bcell HS4.out.bel b _ hbl).trans G1.out;have HSa:=qh (HS4.out.alloc_ (.cells #[.int .i64 (y:Int)] 3));have HRw:=qh (HSa.out.row 0 rfl);clear hb4 k1;go_wp2_with (at_builtin;refine wpList_append_lies _ rfl _ _ _ rfl _ 3 i0 (.int .i64 0) 1 8 Try.underlying26 Hhi.out Hhz0.out Hhz1.out Hhz2.out rfl (by omega) _ m _ rfl HRw.out ⟨w4.heap.size,0,none⟩ 1 1 [.int .i64 (y:Int)] rfl rfl (World.news_of_block (heap_alloc_new w4 _)) ZbS (by omega) (by unfold maxLen;omega) (by omega) HSa.out.size _ rfl ?_;intro g6 c6 w6 hown6 hgrow6 hat6 hlt6;have HS6:=qh (HSa.out.app 0 rfl hown6 hgrow6 hat6);clear hown6 hgrow6 hat6 hlt6);go_roundw
   case rel =>refine⟨k+1,m+1,c6,some ⟨g6,0,none⟩,by go_num,rfl,by omega,by omega,?_⟩;rw[Hhcut.out,← List.append_assoc,← ZcV];exact HS6.out.pick [0] (by decide)
   case measure=>simp[intOf];omega
  obtain rfl:k=ny:=by omega
  have hst:=Hs.out;rw[List.take_of_length_le (by rw[Hhny.out];omega),hZ.out] at hln hS;rw[hZ.out] at hst;have Hst:=qh hst;have HSz:=qh hS;obtain⟨M,hM⟩:=eJ m;rw[hM] at HSz hln;rw[hM];have hM2:M≤2000:=by omega
  have Hhln:=qh hln;clear hln;clear hS HS hst hlt hM;go_wp2
  go_loopw [7] (fun i wr=>∃ k:Nat,i = .int .i64 (k:Int)∧1≤k∧k≤M+1∧St w wr [Ent.row 3 1 (.slice a M c) M (natC Z)]) (fun i _=>M+1-(intOf i).toNat)
  case atStart=>exact⟨1,rfl,Nat.le_refl _,by omega,HSz.out⟩
  case round =>
   obtain⟨k,rfl,hk1,hk,hS⟩:=hrel;have HS:=qh hS;by_cases hlt:k<M
   ·have hltI:(k:Int)<(M:Int):=by omega
    obtain⟨g,c2,he⟩:=HS.out.rowform 0 rfl (by omega);simp only[Value.slice.injEq,true_and] at he;obtain⟨rfl,rfl⟩:=he;obtain⟨t,hkt⟩:∃ t,k=t+1:=⟨k-1,by omega⟩;have htI:(k:Int)-1=(t:Int):=by omega
    have hwt:IntKind.i64.wrap (t:Int)=(t:Int):=IntWalk.i64_in _ (by omega);have hk0:(0:Int)<(k:Int):=by omega
    have htM:(t:Int)<(M:Int):=by omega
    have htM2:t<M:=by omega
    obtain⟨x,hxd⟩:=eJ (Z.getD t 0);obtain⟨y,hyd⟩:∃ x,Z.getD k 0=x:=⟨_,rfl⟩;have hx:(natC Z)[t]? = some (.int .i64 ((x:Nat):Int)):=by rw[← hxd];exact ZaP (by rw[Hhln.out];omega)
    have hy:(natC Z)[k]? = some (.int .i64 ((y:Nat):Int)):=by rw[← hyd];exact ZaP (by rw[Hhln.out];omega)
    have hxy:x<y:=by have:=List.pairwise_iff_getElem.1 Hst.out t k (by rw[Hhln.out];omega) (by rw[Hhln.out];omega) (by omega);rw[← hxd,← hyd,List.getD_eq_getElem?_getD,List.getD_eq_getElem?_getD,List.getElem?_eq_getElem (by rw[Hhln.out];omega),List.getElem?_eq_getElem (by rw[Hhln.out];omega)];exact this
    have hxyI:¬ (y:Int)<(x:Int):=by omega
    have Hhkt:=qh hkt;clear hkt;have Hhx:=qh hx;clear hx;have Hhy:=qh hy;clear hy;have Hhxy:=qh hxy;clear hxy;clear hS hxd hyd;go_wp2
    go_loopw [8] (fun j wr'=>j = .int .i64 (k:Int)∧wr=wr') (fun _ _=>0)
    case atStart=>exact⟨rfl,rfl⟩
    case round =>
     obtain⟨rfl,rfl⟩:=hrel;go_wp2;refine wp_region_any (by kernel_rfl) ?_
     refine Zaf (fun A listed a w'=>∃ (l0 l1 l2 l3 l4 l5 l6 l7 l8 l9 l10 l11 l12 l13:Bool) ,listed=#[l0,l1,l2,l3,l4,l5,l6,l7,l8,l9,l10,l11,l12,l13] ∧
       a=⟨((((((((((((((A.tmps.setIfInBounds 40 (if l0=true then .int .i64 ((k:Nat):Int) else A.tmps.getD 40 undef)).setIfInBounds 41 (if l1=true then .bool true else A.tmps.getD 41 undef)).setIfInBounds 42 (if l2=true then .bool true else A.tmps.getD 42 undef)).setIfInBounds 43 (if l3=true then .slice (some ⟨g,0,none⟩) M c else A.tmps.getD 43 undef)).setIfInBounds 44 (if l4=true then .int .i64 ((k:Nat):Int) else A.tmps.getD 44 undef)).setIfInBounds 45 (if l5=true then .int .i64 (t:Int) else A.tmps.getD 45 undef)).setIfInBounds 46 (if l6=true then .pointer (some ⟨g,t,none⟩) else A.tmps.getD 46 undef)).setIfInBounds 47 (if l7=true then .int .i64 ((x:Nat):Int) else A.tmps.getD 47 undef)).setIfInBounds 48 (if l8=true then .slice (some ⟨g,0,none⟩) M c else A.tmps.getD 48 undef)).setIfInBounds 49 (if l9=true then .int .i64 ((k:Nat):Int) else A.tmps.getD 49 undef)).setIfInBounds 50 (if l10=true then .pointer (some ⟨g,k,none⟩) else A.tmps.getD 50 undef)).setIfInBounds 51 (if l11=true then .int .i64 ((y:Nat):Int) else A.tmps.getD 51 undef)).setIfInBounds 52 (if l12=true then .bool false else A.tmps.getD 52 undef)).setIfInBounds 53 (if l13=true then .bool false else A.tmps.getD 53 undef)),A.defers⟩ ∧
       St w w' [Ent.row 3 1 (.slice (some ⟨g,0,none⟩) M c) M (natC Z)]) ?_ ?_ ?_
     ·rintro listed a w' ⟨l0,l1,l2,l3,l4,l5,l6,l7,l8,l9,l10,l11,l12,l13,rfl,rfl,hS⟩ i hi;obtain⟨hun,o,ho,hall⟩:=mem_ready.1 hi;have hlt:=(Array.getElem?_eq_some_iff.1 ho).1;refine wpOp_step ho (fun K hK => ?_);clear hi;have HS:=qh hS;clear hS;simp only[List.setIfInBounds_toArray,List.set_cons_zero,List.set_cons_succ,Array.getD_eq_getD_getElem?,List.getElem?_toArray,List.getElem?_cons_zero,List.getElem?_cons_succ,Option.getD_some];obtain h|h|h|h|h|h|h|h|h|h|h|h|h|h:i=0∨i=1∨i=2∨i=3∨i=4∨i=5∨i=6∨i=7∨i=8∨i=9∨i=10∨i=11∨i=12∨i=13:=by simp at hlt;omega
      all_goals subst h
      all_goals simp only[List.getElem?_toArray,List.getElem?_cons_zero,List.getElem?_cons_succ,Option.some.injEq] at ho
      all_goals subst ho
      all_goals simp[Region.binds] at hun hall
      ·subst hun;go_simp;exact hK _ _ ⟨true,l1,l2,l3,l4,l5,l6,l7,l8,l9,l10,l11,l12,l13,rfl,(by simp),HS.out⟩
      ·obtain rfl:=hall;subst hun;go_simp;exact hK _ _ ⟨true,true,l2,l3,l4,l5,l6,l7,l8,l9,l10,l11,l12,l13,rfl,(by simp<;>omega),HS.out⟩
      ·obtain rfl:=hall;subst hun;go_simp;exact hK _ _ ⟨l0,true,true,l3,l4,l5,l6,l7,l8,l9,l10,l11,l12,l13,rfl,(by simp),HS.out⟩
      ·obtain rfl:=hall;subst hun;go_simp;exact hK _ _ ⟨l0,l1,true,true,l4,l5,l6,l7,l8,l9,l10,l11,l12,l13,rfl,(by simp),HS.out⟩
      ·obtain rfl:=hall;subst hun;go_simp;exact hK _ _ ⟨l0,l1,true,l3,true,l5,l6,l7,l8,l9,l10,l11,l12,l13,rfl,(by simp),HS.out⟩
      ·obtain⟨rfl,rfl⟩:=hall;subst hun;go_simp;exact hK _ _ ⟨l0,l1,true,l3,true,true,l6,l7,l8,l9,l10,l11,l12,l13,rfl,(by simp),HS.out⟩
      ·obtain⟨rfl,rfl,rfl⟩:=hall;subst hun;go_simp;exact hK _ _ ⟨l0,l1,true,true,l4,true,true,l7,l8,l9,l10,l11,l12,l13,rfl,(by simp),HS.out⟩
      ·obtain⟨rfl,rfl⟩:=hall;subst hun;have e0:=HS.out.rcell (v:=.int .i64 ((x:Nat):Int)) 0 (t) rfl (by omega) Hhx.out;go_simp;exact hK _ _ ⟨l0,l1,true,l3,l4,l5,true,true,l8,l9,l10,l11,l12,l13,rfl,(by simp),HS.out⟩
      ·obtain rfl:=hall;subst hun;go_simp;exact hK _ _ ⟨l0,l1,true,l3,l4,l5,l6,l7,true,l9,l10,l11,l12,l13,rfl,(by simp),HS.out⟩
      ·obtain rfl:=hall;subst hun;go_simp;exact hK _ _ ⟨l0,l1,true,l3,l4,l5,l6,l7,l8,true,l10,l11,l12,l13,rfl,(by simp),HS.out⟩
      ·obtain⟨rfl,rfl,rfl⟩:=hall;subst hun;go_simp;exact hK _ _ ⟨l0,l1,true,l3,l4,l5,l6,l7,true,true,true,l11,l12,l13,rfl,(by simp),HS.out⟩
      ·obtain⟨rfl,rfl⟩:=hall;subst hun;have e0:=HS.out.rcell (v:=.int .i64 ((y:Nat):Int)) 0 (k) rfl (by omega) Hhy.out;go_simp;exact hK _ _ ⟨l0,l1,true,l3,l4,l5,l6,l7,l8,l9,true,true,l12,l13,rfl,(by simp),HS.out⟩
      ·obtain⟨rfl,rfl,rfl⟩:=hall;subst hun;go_simp;exact hK _ _ ⟨l0,l1,true,l3,l4,l5,l6,true,l8,l9,l10,true,true,l13,rfl,(by simp<;>omega),HS.out⟩
      obtain⟨rfl,rfl⟩:=hall;subst hun;go_simp;exact hK _ _ ⟨l0,l1,true,l3,l4,l5,l6,l7,l8,l9,l10,l11,true,true,rfl,(by simp),HS.out⟩
     ·rintro listed a w' ⟨l0,l1,l2,l3,l4,l5,l6,l7,l8,l9,l10,l11,l12,l13,rfl,rfl,hS⟩ hr;have hall:=Zag (by kernel_rfl) rfl hr;obtain rfl:l0=true:=by simpa using hall 0 (by simp)
      obtain rfl:l1=true:=by simpa using hall 1 (by simp)
      obtain rfl:l2=true:=by simpa using hall 2 (by simp)
      obtain rfl:l3=true:=by simpa using hall 3 (by simp)
      obtain rfl:l4=true:=by simpa using hall 4 (by simp)
      obtain rfl:l5=true:=by simpa using hall 5 (by simp)
      obtain rfl:l6=true:=by simpa using hall 6 (by simp)
      obtain rfl:l7=true:=by simpa using hall 7 (by simp)
      obtain rfl:l8=true:=by simpa using hall 8 (by simp)
      obtain rfl:l9=true:=by simpa using hall 9 (by simp)
      obtain rfl:l10=true:=by simpa using hall 10 (by simp)
      obtain rfl:l11=true:=by simpa using hall 11 (by simp)
      obtain rfl:l12=true:=by simpa using hall 12 (by simp)
      obtain rfl:l13=true:=by simpa using hall 13 (by simp)
      clear hall hr ;simp only[↓reduceIte] at hS ⊢;simp only[List.setIfInBounds_toArray,List.set_cons_zero,List.set_cons_succ];have HS5:=qh hS;clear hS;go_wp2;go_roundw
      case rel=>exact⟨k+1,by go_num,by omega,by omega,HS5.out⟩
      case measure=>simp[intOf];omega
     refine⟨false,false,false,false,false,false,false,false,false,false,false,false,false,false,rfl,(by simp),?_⟩;exact HS.out.drew.pick [0] (by decide)
   have hge:¬ (k:Int)<(M:Int):=by omega
   clear hS;go_wp2;go_ret;refine⟨a,c,by rw[Hhln.out];rfl,?_⟩;rw[Hhln.out];exact HS.out
def RE2 (A B:List Nat) (w:World) (e:Ending) (w':World):Prop:=∃ a1 c1 a2 c2,e = .returned (.tuple #[.slice a1 A.length c1,.slice a2 B.length c2])∧St w w' [Ent.row 3 1 (.slice a1 A.length c1) A.length (natC A),Ent.row 3 1 (.slice a2 B.length c2) B.length (natC B)]
def EndS (t:Ex):Prop:=∀ (n:Nat) (v:Value) (w:World),n+t.post.length≤10000→Pairs 0 w v t.post→Calls Try.prog 41 #[v,.int .i64 (n:Int)] w fun e w'=>RE2 (edP true t n) (edP false t n) w e w'
theorem Zmh :EndS (Ex.zero):=by
 intro n v w hnb h;have h60:(Ex.zero).post.length≤60:=by show 1≤60;decide
 have hok:=Zal _ h60;have Hh:=qh h;have hP:=h;rw[show(Ex.zero).post=(([]:List (Int × Int)))++[(1,0)] from rfl] at hP;obtain⟨bb,off,cap,rfl,hc1,hc2,hbl,hcell⟩:=ZaS hP;obtain⟨m,hm⟩:=eI ((([]:List (Int × Int))).length);rw[← hm] at hc1 hcell Hh;rw[← hm];have hmI:m≤59:=by rw[hm];simp[Ex.post] at h60 ⊢
 have Hcell:=qh hcell;have hw1:IntKind.i64.wrap ((m:Int)+1-1)=(m:Int):=by rw[IntWalk.i64_in _ (by omega)];omega
 replace hm:=qh hm;have Hhok:=qh hok;clear hok;clear h hP hcell
 go_enter Try.func41, Try.ntmps41
 go_wp2_with fail;refine(ZaB _ _ _ Hhok.out Hh.out).mono ?_;rintro e w2 ⟨vx,vy,xs,ys,hsp,rfl,hx,hy,hb2⟩;obtain⟨rfl,rfl⟩:=ZaV Zbx hsp;obtain⟨ax,cx,rfl,-⟩:=hx.form;obtain⟨ay,cy,rfl,-⟩:=hy.form;have HX:=qh hx;have HY:=qh hy;have hS0:=(((((((((St.start w).call hb2).alloc w2.heap.size rfl #[] 3).alloc (w2.heap.size+1) (by simp) #[] 3).alloc (w2.heap.size+1+1) (by simp) #[] 3).alloc (w2.heap.size+1+1+1) (by simp) #[] 3).boxrow 0 0 1 [] rfl rfl (Nat.zero_le _)).boxrow 1 0 1 [] rfl rfl (Nat.zero_le _)).boxrow 2 0 1 [] rfl rfl (Nat.zero_le _)).boxrow 3 0 1 [] rfl rfl (Nat.zero_le _);have HS0:=qh hS0;have HB0:=qh (((((Below.refl w2.heap.size w2).alloc (Nat.le_refl _) (.cells #[] 3)).alloc (by simp) (.cells #[] 3)).alloc (by simp;omega) (.cells #[] 3)).alloc (by simp;omega) (.cells #[] 3));obtain⟨k1,k2⟩:=Hcell.out _ hS0.bel;clear hsp hx hy hb2 hS0;go_wp2
 go_ret2
 exact⟨_,_,_,_,rfl,HS0.out.pick [0,1] (by decide)⟩
theorem Zni :EndS (Ex.one):=by
 intro n v w hnb h;have h60:(Ex.one).post.length≤60:=by show 1≤60;decide
 have hok:=Zal _ h60;have Hh:=qh h;have hP:=h;rw[show(Ex.one).post=(([]:List (Int × Int)))++[(2,0)] from rfl] at hP;obtain⟨bb,off,cap,rfl,hc1,hc2,hbl,hcell⟩:=ZaS hP;obtain⟨m,hm⟩:=eI ((([]:List (Int × Int))).length);rw[← hm] at hc1 hcell Hh;rw[← hm];have hmI:m≤59:=by rw[hm];simp[Ex.post] at h60 ⊢
 have Hcell:=qh hcell;have hw1:IntKind.i64.wrap ((m:Int)+1-1)=(m:Int):=by rw[IntWalk.i64_in _ (by omega)];omega
 replace hm:=qh hm;have Hhok:=qh hok;clear hok;clear h hP hcell
 go_enter Try.func41, Try.ntmps41
 go_wp2_with fail;refine(ZaB _ _ _ Hhok.out Hh.out).mono ?_;rintro e w2 ⟨vx,vy,xs,ys,hsp,rfl,hx,hy,hb2⟩;obtain⟨rfl,rfl⟩:=ZaV Zbw hsp;obtain⟨ax,cx,rfl,-⟩:=hx.form;obtain⟨ay,cy,rfl,-⟩:=hy.form;have HX:=qh hx;have HY:=qh hy;have hS0:=(((((((((St.start w).call hb2).alloc w2.heap.size rfl #[] 3).alloc (w2.heap.size+1) (by simp) #[] 3).alloc (w2.heap.size+1+1) (by simp) #[] 3).alloc (w2.heap.size+1+1+1) (by simp) #[] 3).boxrow 0 0 1 [] rfl rfl (Nat.zero_le _)).boxrow 1 0 1 [] rfl rfl (Nat.zero_le _)).boxrow 2 0 1 [] rfl rfl (Nat.zero_le _)).boxrow 3 0 1 [] rfl rfl (Nat.zero_le _);have HS0:=qh hS0;have HB0:=qh (((((Below.refl w2.heap.size w2).alloc (Nat.le_refl _) (.cells #[] 3)).alloc (by simp) (.cells #[] 3)).alloc (by simp;omega) (.cells #[] 3)).alloc (by simp;omega) (.cells #[] 3));obtain⟨k1,k2⟩:=Hcell.out _ hS0.bel;clear hsp hx hy hb2 hS0;go_wp2
 go_ret2
 exact⟨_,_,_,_,rfl,HS0.out.pick [0,1] (by decide)⟩
theorem Znj (ch:Fin 3) :EndS (Ex.ltr ch):=by
 intro n v w hnb h;have h60:(Ex.ltr ch).post.length≤60:=by show 1≤60;decide
 have hok:=Zal _ h60;have Hh:=qh h;have hP:=h;rw[show(Ex.ltr ch).post=(([]:List (Int × Int)))++[(3,(ch.val:Int))] from rfl] at hP;obtain⟨bb,off,cap,rfl,hc1,hc2,hbl,hcell⟩:=ZaS hP;obtain⟨m,hm⟩:=eI ((([]:List (Int × Int))).length);rw[← hm] at hc1 hcell Hh;rw[← hm];have hmI:m≤59:=by rw[hm];simp[Ex.post] at h60 ⊢
 have Hcell:=qh hcell;have hw1:IntKind.i64.wrap ((m:Int)+1-1)=(m:Int):=by rw[IntWalk.i64_in _ (by omega)];omega
 replace hm:=qh hm;have Hhok:=qh hok;clear hok;have hwn:IntKind.i64.wrap ((n:Int)+((m:Int)+1))=(n:Int)+(m:Int)+1:=by rw[IntWalk.i64_in _ (by omega)];omega
 have hwn1:IntKind.i64.wrap ((n:Int)+(m:Int)+1-1)=(n:Int):=by rw[IntWalk.i64_in _ (by simp[Ex.post] at hnb;omega)];have:=hm.out;simp at this;omega
 clear h hP hcell
 go_enter Try.func41, Try.ntmps41
 go_wp2_with fail;refine(ZaB _ _ _ Hhok.out Hh.out).mono ?_;rintro e w2 ⟨vx,vy,xs,ys,hsp,rfl,hx,hy,hb2⟩;obtain⟨rfl,rfl⟩:=ZaV (Zbk ch) hsp;obtain⟨ax,cx,rfl,-⟩:=hx.form;obtain⟨ay,cy,rfl,-⟩:=hy.form;have HX:=qh hx;have HY:=qh hy;have hS0:=(((((((((St.start w).call hb2).alloc w2.heap.size rfl #[] 3).alloc (w2.heap.size+1) (by simp) #[] 3).alloc (w2.heap.size+1+1) (by simp) #[] 3).alloc (w2.heap.size+1+1+1) (by simp) #[] 3).boxrow 0 0 1 [] rfl rfl (Nat.zero_le _)).boxrow 1 0 1 [] rfl rfl (Nat.zero_le _)).boxrow 2 0 1 [] rfl rfl (Nat.zero_le _)).boxrow 3 0 1 [] rfl rfl (Nat.zero_le _);have HS0:=qh hS0;have HB0:=qh (((((Below.refl w2.heap.size w2).alloc (Nat.le_refl _) (.cells #[] 3)).alloc (by simp) (.cells #[] 3)).alloc (by simp;omega) (.cells #[] 3)).alloc (by simp;omega) (.cells #[] 3));obtain⟨k1,k2⟩:=Hcell.out _ hS0.bel;clear hsp hx hy hb2 hS0;have HS3:=qh (((((HS0.out.pick [] (by decide)).alloc (w2.heap.size+1+1+1+1) (by simp) #[.int .i64 ((n:Int)+(m:Int))] 3).boxrow 0 1 1 [.int .i64 ((n:Int)+(m:Int))] rfl rfl (by unfold maxLen;omega)).alloc (w2.heap.size+1+1+1+1+1) (by simp) #[.int .i64 ((n:Int)+(m:Int))] 3).boxrow 1 1 1 [.int .i64 ((n:Int)+(m:Int))] rfl rfl (by unfold maxLen;omega));go_wp2
 go_ret2
 have hm0:(n:Int)+(m:Int)=(n:Int):=by have:=hm.out;simp at this;omega
 refine⟨_,_,_,_,rfl,?_⟩;have h:=HS3.out;simp only[hm0] at h ⊢;exact h
theorem Zmi (ta:Ex) (h60:(Ex.star ta).post.length≤60) (hta:EndS ta):EndS (Ex.star ta):=by
 intro n v w hnb h;have hok:=Zal _ h60;have Hh:=qh h;have hP:=h;rw[show(Ex.star ta).post=(ta.post)++[(8,0)] from rfl] at hP;obtain⟨bb,off,cap,rfl,hc1,hc2,hbl,hcell⟩:=ZaS hP;obtain⟨m,hm⟩:=eI ((ta.post).length);rw[← hm] at hc1 hcell Hh;rw[← hm];have hmI:m≤59:=by rw[hm];simp[Ex.post] at h60 ⊢;omega
 have Hcell:=qh hcell;have hw1:IntKind.i64.wrap ((m:Int)+1-1)=(m:Int):=by rw[IntWalk.i64_in _ (by omega)];omega
 replace hm:=qh hm;have Hhok:=qh hok;clear hok;obtain⟨PA,hPA⟩:∃ l,edP true ta (n)=l:=⟨_,rfl⟩;obtain⟨QA,hQA⟩:∃ l,edP false ta (n)=l:=⟨_,rfl⟩;have hlPA:=ZaA true ta (n);have hlQA:=ZaA false ta (n);have HTA:=qh (show ∀ (v:Value) (w:World),Pairs 0 w v ta.post→Calls Try.prog 41 #[v,.int .i64 ((n:Nat):Int)] w fun e w'=>RE2 PA QA w e w' from fun v w hp=>by have h9:=hta (n) v w (by simp[Ex.post] at hnb;omega) hp;rw[hPA,hQA] at h9;exact h9);rw[hPA] at hlPA;rw[hQA] at hlQA;have hf1:edP true (.star ta) n=PA:=hPA;have hf2:edP false (.star ta) n=QA:=hQA;rw[hf1,hf2];have hpos:=ZaH ta;obtain⟨la,hla⟩:∃ l,ta.post.length=l:=⟨_,rfl⟩;replace hPA:=qh hPA;have HhQA:=qh hQA;clear hQA;clear h hP hcell hf1 hf2 hta
 go_enter Try.func41, Try.ntmps41
 go_wp2_with fail;refine(ZaB _ _ _ Hhok.out Hh.out).mono ?_;rintro e w2 ⟨vx,vy,xs,ys,hsp,rfl,hx,hy,hb2⟩;obtain⟨rfl,rfl⟩:=Zdv (a:=ta) (p:=(8,0)) Zct hsp;obtain⟨ax,cx,rfl,-⟩:=hx.form;obtain⟨ay,cy,rfl,-⟩:=hy.form;have HX:=qh hx;have HY:=qh hy;have hS0:=(((((((((St.start w).call hb2).alloc w2.heap.size rfl #[] 3).alloc (w2.heap.size+1) (by simp) #[] 3).alloc (w2.heap.size+1+1) (by simp) #[] 3).alloc (w2.heap.size+1+1+1) (by simp) #[] 3).boxrow 0 0 1 [] rfl rfl (Nat.zero_le _)).boxrow 1 0 1 [] rfl rfl (Nat.zero_le _)).boxrow 2 0 1 [] rfl rfl (Nat.zero_le _)).boxrow 3 0 1 [] rfl rfl (Nat.zero_le _);have HS0:=qh hS0;have HB0:=qh (((((Below.refl w2.heap.size w2).alloc (Nat.le_refl _) (.cells #[] 3)).alloc (by simp) (.cells #[] 3)).alloc (by simp;omega) (.cells #[] 3)).alloc (by simp;omega) (.cells #[] 3));obtain⟨k1,k2⟩:=Hcell.out _ hS0.bel;clear hsp hx hy hb2 hS0;have HXr:=qh (HX.out.below HB0.out);rw[hla] at HXr hpos;rw[hla];have hposI:(0:Int)<(la:Int):=by omega
 clear hla;go_wp2_with fail;refine(HTA.out _ _ HXr.out).mono ?_;rintro e w3 ⟨a1,c1,a2,c2,rfl,hS3⟩;have HS3:=qh ((HS0.out.cat hS3).pick [4,5] (by decide));obtain⟨k3,k4⟩:=Hcell.out _ HS3.out.bel;clear hS3 k1 k2;go_wp2
 go_ret2
 exact⟨_,_,_,_,rfl,HS3.out⟩
theorem Znk (ta tb:Ex) (h60:(Ex.alt ta tb).post.length≤60) (hta:EndS ta) (htb:EndS tb):EndS (Ex.alt ta tb):=by
 intro n v w hnb h;have hok:=Zal _ h60;have Hh:=qh h;have hP:=h;rw[show(Ex.alt ta tb).post=(ta.post++tb.post)++[(5,0)] from rfl] at hP;obtain⟨bb,off,cap,rfl,hc1,hc2,hbl,hcell⟩:=ZaS hP;obtain⟨m,hm⟩:=eI ((ta.post++tb.post).length);rw[← hm] at hc1 hcell Hh;rw[← hm];have hmI:m≤59:=by rw[hm];simp[Ex.post] at h60 ⊢;omega
 have Hcell:=qh hcell;have hw1:IntKind.i64.wrap ((m:Int)+1-1)=(m:Int):=by rw[IntWalk.i64_in _ (by omega)];omega
 replace hm:=qh hm;have Hhok:=qh hok;clear hok;obtain⟨la,hla⟩:∃ l,ta.post.length=l:=⟨_,rfl⟩;have hpa:=ZaH ta;have hpb:=ZaH tb;have hss:=fun f g=>ZfC f g ta tb n
 obtain⟨PA,hPA⟩:∃ l,edP true ta (n)=l:=⟨_,rfl⟩;obtain⟨QA,hQA⟩:∃ l,edP false ta (n)=l:=⟨_,rfl⟩;have hlPA:=ZaA true ta (n);have hlQA:=ZaA false ta (n);have HTA:=qh (show ∀ (v:Value) (w:World),Pairs 0 w v ta.post→Calls Try.prog 41 #[v,.int .i64 ((n:Nat):Int)] w fun e w'=>RE2 PA QA w e w' from fun v w hp=>by have h9:=hta (n) v w (by simp[Ex.post] at hnb;omega) hp;rw[hPA,hQA] at h9;exact h9);rw[hPA] at hlPA;rw[hQA] at hlQA;obtain⟨PB,hPB⟩:∃ l,edP true tb (n+ta.post.length)=l:=⟨_,rfl⟩;obtain⟨QB,hQB⟩:∃ l,edP false tb (n+ta.post.length)=l:=⟨_,rfl⟩;have hlPB:=ZaA true tb (n+ta.post.length);have hlQB:=ZaA false tb (n+ta.post.length);have HTB:=qh (show ∀ (v:Value) (w:World),Pairs 0 w v tb.post→Calls Try.prog 41 #[v,.int .i64 ((n+ta.post.length:Nat):Int)] w fun e w'=>RE2 PB QB w e w' from fun v w hp=>by have h9:=htb (n+ta.post.length) v w (by simp[Ex.post] at hnb;omega) hp;rw[hPB,hQB] at h9;exact h9);rw[hPB] at hlPB;rw[hQB] at hlQB;have hal:ta.post.length+tb.post.length≤59:=by simp[Ex.post] at h60;omega
 have hn60:n+ta.post.length≤10000:=by simp[Ex.post] at hnb;omega
 have Hs1:=qh (by have h:=hss true true;rw[hPA,hPB] at h;exact h);have Hs2:=qh (by have h:=hss false false;rw[hQA,hQB] at h;exact h);have hf1:edP true (.alt ta tb) n=PA++PB:=by rw[← hPA,← hPB];rfl
 have hf2:edP false (.alt ta tb) n=QA++QB:=by rw[← hQA,← hQB];rfl
 rw[hf1,hf2];clear hf1 hf2;obtain⟨lb,hlb⟩:∃ l,tb.post.length=l:=⟨_,rfl⟩;rw[hla] at hn60 HTB hal hpa hlPA hlQA;rw[hlb] at hal hpb hlPB hlQB;have hwl:IntKind.i64.wrap ((n:Int)+(la:Int))=(((n+la:Nat)):Int):=by rw[IntWalk.i64_in _ (by omega)];omega
 replace hPA:=qh hPA;have HhQA:=qh hQA;clear hQA;have HhPB:=qh hPB;clear hPB;have HhQB:=qh hQB;clear hQB;clear h hP hcell hss hta htb
 go_enter Try.func41, Try.ntmps41
 go_wp2_with fail;refine(ZaB _ _ _ Hhok.out Hh.out).mono ?_;rintro e w2 ⟨vx,vy,xs,ys,hsp,rfl,hx,hy,hb2⟩;obtain⟨rfl,rfl⟩:=ZbF (a:=ta) (b:=tb) (p:=(5,0)) ZdC hsp;obtain⟨ax,cx,rfl,-⟩:=hx.form;obtain⟨ay,cy,rfl,-⟩:=hy.form;have HX:=qh hx;have HY:=qh hy;have hS0:=(((((((((St.start w).call hb2).alloc w2.heap.size rfl #[] 3).alloc (w2.heap.size+1) (by simp) #[] 3).alloc (w2.heap.size+1+1) (by simp) #[] 3).alloc (w2.heap.size+1+1+1) (by simp) #[] 3).boxrow 0 0 1 [] rfl rfl (Nat.zero_le _)).boxrow 1 0 1 [] rfl rfl (Nat.zero_le _)).boxrow 2 0 1 [] rfl rfl (Nat.zero_le _)).boxrow 3 0 1 [] rfl rfl (Nat.zero_le _);have HS0:=qh hS0;have HB0:=qh (((((Below.refl w2.heap.size w2).alloc (Nat.le_refl _) (.cells #[] 3)).alloc (by simp) (.cells #[] 3)).alloc (by simp;omega) (.cells #[] 3)).alloc (by simp;omega) (.cells #[] 3));obtain⟨k1,k2⟩:=Hcell.out _ hS0.bel;rw[hla] at HX;rw[hlb] at HY;rw[hla,hlb];clear hla hlb;clear hsp hx hy hb2 hS0;have HXr:=qh (HX.out.below HB0.out);have HYr:=qh (HY.out.below HB0.out);have hpaI:(0:Int)<(la:Int):=by omega
 have hpbI:(0:Int)<(lb:Int):=by omega
 go_wp2_with fail;refine(HTA.out _ _ HXr.out).mono ?_;rintro e w3 ⟨a1,c1,a2,c2,rfl,hS3⟩;have HXr3:=qh (HXr.out.below hS3.bel);have HYr3:=qh (HYr.out.below hS3.bel);have HS3:=qh ((HS0.out.cat hS3).pick [4,5] (by decide));clear hS3 k1 k2;go_wp2_with fail;refine(HTB.out _ _ HYr3.out).mono ?_;rintro e w4 ⟨a3,c3,a4,c4,rfl,hS4⟩;have HXr4:=qh (HXr3.out.below hS4.bel);have HYr4:=qh (HYr3.out.below hS4.bel);have HS4:=qh (HS3.out.cat hS4);obtain⟨k3,k4⟩:=Hcell.out _ HS4.out.bel;clear hS4;go_wp2_with fail;refine(ZbL PA PB Hs1.out _ _ _ (by omega) (by omega) (Zaj (HS4.out.row 0 rfl)) (Zaj (HS4.out.row 2 rfl))).mono ?_;rintro e w5 ⟨a5,c5,rfl,hS5⟩;have HS5:=qh (HS4.out.cat hS5);clear hS5;go_wp2_with fail;refine(ZbL QA QB Hs2.out _ _ _ (by omega) (by omega) (Zaj (HS5.out.row 1 rfl)) (Zaj (HS5.out.row 3 rfl))).mono ?_;rintro e w6 ⟨a6,c6,rfl,hS6⟩;have HS6:=qh (HS5.out.cat hS6);clear hS6;go_wp2
 go_ret2
 refine⟨_,_,_,_,?_,HS6.out.pick [4,5] (by decide)⟩;simp only[List.length_append];rfl
theorem Zmj (ta tb:Ex) (h60:(Ex.join ta tb).post.length≤60) (hta:EndS ta) (htb:EndS tb):EndS (Ex.join ta tb):=by
 intro n v w hnb h;have hok:=Zal _ h60;have Hh:=qh h;have hP:=h;rw[show(Ex.join ta tb).post=(ta.post++tb.post)++[(4,0)] from rfl] at hP;obtain⟨bb,off,cap,rfl,hc1,hc2,hbl,hcell⟩:=ZaS hP;obtain⟨m,hm⟩:=eI ((ta.post++tb.post).length);rw[← hm] at hc1 hcell Hh;rw[← hm];have hmI:m≤59:=by rw[hm];simp[Ex.post] at h60 ⊢;omega
 have Hcell:=qh hcell;have hw1:IntKind.i64.wrap ((m:Int)+1-1)=(m:Int):=by rw[IntWalk.i64_in _ (by omega)];omega
 replace hm:=qh hm;have Hhok:=qh hok;clear hok;obtain⟨la,hla⟩:∃ l,ta.post.length=l:=⟨_,rfl⟩;have hpa:=ZaH ta;have hpb:=ZaH tb;have hss:=fun f g=>ZfC f g ta tb n
 obtain⟨PA,hPA⟩:∃ l,edP true ta (n)=l:=⟨_,rfl⟩;obtain⟨QA,hQA⟩:∃ l,edP false ta (n)=l:=⟨_,rfl⟩;have hlPA:=ZaA true ta (n);have hlQA:=ZaA false ta (n);have HTA:=qh (show ∀ (v:Value) (w:World),Pairs 0 w v ta.post→Calls Try.prog 41 #[v,.int .i64 ((n:Nat):Int)] w fun e w'=>RE2 PA QA w e w' from fun v w hp=>by have h9:=hta (n) v w (by simp[Ex.post] at hnb;omega) hp;rw[hPA,hQA] at h9;exact h9);rw[hPA] at hlPA;rw[hQA] at hlQA;obtain⟨PB,hPB⟩:∃ l,edP true tb (n+ta.post.length)=l:=⟨_,rfl⟩;obtain⟨QB,hQB⟩:∃ l,edP false tb (n+ta.post.length)=l:=⟨_,rfl⟩;have hlPB:=ZaA true tb (n+ta.post.length);have hlQB:=ZaA false tb (n+ta.post.length);have HTB:=qh (show ∀ (v:Value) (w:World),Pairs 0 w v tb.post→Calls Try.prog 41 #[v,.int .i64 ((n+ta.post.length:Nat):Int)] w fun e w'=>RE2 PB QB w e w' from fun v w hp=>by have h9:=htb (n+ta.post.length) v w (by simp[Ex.post] at hnb;omega) hp;rw[hPB,hQB] at h9;exact h9);rw[hPB] at hlPB;rw[hQB] at hlQB;have hal:ta.post.length+tb.post.length≤59:=by simp[Ex.post] at h60;omega
 have hn60:n+ta.post.length≤10000:=by simp[Ex.post] at hnb;omega
 have Hs1:=qh (by have h:=hss true true;rw[hPA,hPB] at h;exact h);have Hs2:=qh (by have h:=hss false false;rw[hQA,hQB] at h;exact h);have hf1:edP true (.join ta tb) n=if hasE ta=true then PA++PB else PA:=by rw[← hPA,← hPB];rfl
 have hf2:edP false (.join ta tb) n=if hasE tb=true then QA++QB else QB:=by rw[← hQA,← hQB];rfl
 rw[hf1,hf2];obtain⟨ea,hea⟩:∃ z,hasE ta=z:=⟨_,rfl⟩;obtain⟨eb,heb⟩:∃ z,hasE tb=z:=⟨_,rfl⟩;have HEA:=qh (fun (v:Value) (u:World) h=>Zia ta (by omega) v u h ea hea);have HEB:=qh (fun (v:Value) (u:World) h=>Zia tb (by omega) v u h eb heb);rw[hea,heb];clear hf1 hf2 hea heb;obtain⟨lb,hlb⟩:∃ l,tb.post.length=l:=⟨_,rfl⟩;rw[hla] at hn60 HTB hal hpa hlPA hlQA;rw[hlb] at hal hpb hlPB hlQB;have hwl:IntKind.i64.wrap ((n:Int)+(la:Int))=(((n+la:Nat)):Int):=by rw[IntWalk.i64_in _ (by omega)];omega
 replace hPA:=qh hPA;have HhQA:=qh hQA;clear hQA;have HhPB:=qh hPB;clear hPB;have HhQB:=qh hQB;clear hQB;clear h hP hcell hss hta htb
 go_enter Try.func41, Try.ntmps41
 go_wp2_with fail;refine(ZaB _ _ _ Hhok.out Hh.out).mono ?_;rintro e w2 ⟨vx,vy,xs,ys,hsp,rfl,hx,hy,hb2⟩;obtain⟨rfl,rfl⟩:=ZbF (a:=ta) (b:=tb) (p:=(4,0)) Zcu hsp;obtain⟨ax,cx,rfl,-⟩:=hx.form;obtain⟨ay,cy,rfl,-⟩:=hy.form;have HX:=qh hx;have HY:=qh hy;have hS0:=(((((((((St.start w).call hb2).alloc w2.heap.size rfl #[] 3).alloc (w2.heap.size+1) (by simp) #[] 3).alloc (w2.heap.size+1+1) (by simp) #[] 3).alloc (w2.heap.size+1+1+1) (by simp) #[] 3).boxrow 0 0 1 [] rfl rfl (Nat.zero_le _)).boxrow 1 0 1 [] rfl rfl (Nat.zero_le _)).boxrow 2 0 1 [] rfl rfl (Nat.zero_le _)).boxrow 3 0 1 [] rfl rfl (Nat.zero_le _);have HS0:=qh hS0;have HB0:=qh (((((Below.refl w2.heap.size w2).alloc (Nat.le_refl _) (.cells #[] 3)).alloc (by simp) (.cells #[] 3)).alloc (by simp;omega) (.cells #[] 3)).alloc (by simp;omega) (.cells #[] 3));obtain⟨k1,k2⟩:=Hcell.out _ hS0.bel;rw[hla] at HX;rw[hlb] at HY;rw[hla,hlb];clear hla hlb;clear hsp hx hy hb2 hS0;have HXr:=qh (HX.out.below HB0.out);have HYr:=qh (HY.out.below HB0.out);have hpaI:(0:Int)<(la:Int):=by omega
 have hpbI:(0:Int)<(lb:Int):=by omega
 go_wp2_with fail;refine(HTA.out _ _ HXr.out).mono ?_;rintro e w3 ⟨a1,c1,a2,c2,rfl,hS3⟩;have HXr3:=qh (HXr.out.below hS3.bel);have HYr3:=qh (HYr.out.below hS3.bel);have HS3:=qh ((HS0.out.cat hS3).pick [4,5] (by decide));clear hS3 k1 k2;go_wp2_with fail;refine(HTB.out _ _ HYr3.out).mono ?_;rintro e w4 ⟨a3,c3,a4,c4,rfl,hS4⟩;have HXr4:=qh (HXr3.out.below hS4.bel);have HYr4:=qh (HYr3.out.below hS4.bel);have HS4:=qh (HS3.out.cat hS4);obtain⟨k3,k4⟩:=Hcell.out _ HS4.out.bel;clear hS4;go_wp2_with fail;refine(HEA.out _ _ HXr4.out).mono ?_;rintro e w5 ⟨rfl,hb5⟩;have HS5:=qh (HS4.out.call hb5);have HYr5:=qh (HYr4.out.below hb5);clear hb5;cases ea
 ·go_wp2_with fail;refine(HEB.out _ _ HYr5.out).mono ?_;rintro e w7 ⟨rfl,hb7⟩;have HS7:=qh (HS5.out.call hb7);clear hb7;cases eb
  ·go_wp2
   go_ret2
   refine⟨_,_,_,_,?_,HS7.out.pick [0,3] (by decide)⟩
   first|rfl|(simp only[List.length_append];rfl)|(simp only[if_true,List.length_append];rfl)|(simp[List.length_append];rfl)
  go_wp2_with fail;refine(ZbL QA QB Hs2.out _ _ _ (by omega) (by omega) (Zaj (HS7.out.row 1 rfl)) (Zaj (HS7.out.row 3 rfl))).mono ?_;rintro e w8 ⟨a8,c8,rfl,hS8⟩;have HS8:=qh (HS7.out.cat hS8);clear hS8;go_wp2
  go_ret2
  refine⟨_,_,_,_,?_,HS8.out.pick [0,4] (by decide)⟩
  first|rfl|(simp only[List.length_append];rfl)|(simp only[if_true,List.length_append];rfl)|(simp[List.length_append];rfl)
 go_wp2_with fail;refine(ZbL PA PB Hs1.out _ _ _ (by omega) (by omega) (Zaj (HS5.out.row 0 rfl)) (Zaj (HS5.out.row 2 rfl))).mono ?_;rintro e w6 ⟨a6,c6,rfl,hS6⟩;have HYr6:=qh (HYr5.out.below hS6.bel);have HS6:=qh (HS5.out.cat hS6);clear hS6;go_wp2_with fail;refine(HEB.out _ _ HYr6.out).mono ?_;rintro e w7 ⟨rfl,hb7⟩;have HS7:=qh (HS6.out.call hb7);clear hb7;cases eb
 ·go_wp2
  go_ret2
  refine⟨_,_,_,_,?_,HS7.out.pick [4,3] (by decide)⟩
  first|rfl|(simp only[List.length_append];rfl)|(simp only[if_true,List.length_append];rfl)|(simp[List.length_append];rfl)
 go_wp2_with fail;refine(ZbL QA QB Hs2.out _ _ _ (by omega) (by omega) (Zaj (HS7.out.row 1 rfl)) (Zaj (HS7.out.row 3 rfl))).mono ?_;rintro e w8 ⟨a8,c8,rfl,hS8⟩;have HS8:=qh (HS7.out.cat hS8);clear hS8;go_wp2
 go_ret2
 refine⟨_,_,_,_,?_,HS8.out.pick [4,5] (by decide)⟩
 first|rfl|(simp only[List.length_append];rfl)|(simp only[if_true,List.length_append];rfl)|(simp[List.length_append];rfl)
theorem ZeO:∀ t:Ex,plnE t→t.post.length≤60→EndS t:=by
 intro t
 induction t with
 | zero=>exact fun _ _=>Zmh
 | one=>exact fun _ _=>Zni
 | ltr c=>exact fun _ _=>Znj c
 | join a b ha hb=>exact fun hp h=>Zmj a b h (ha hp.1 (by simp[Ex.post] at h;omega)) (hb hp.2 (by simp[Ex.post] at h;omega))
 | alt a b ha hb=>exact fun hp h=>Znk a b h (ha hp.1 (by simp[Ex.post] at h;omega)) (hb hp.2 (by simp[Ex.post] at h;omega))
 | both a b ha hb=>exact fun hp _=>hp.elim
 | neg a ha=>exact fun hp _=>hp.elim
 | star a ha=>exact fun hp h=>Zmi a h (ha hp (by simp[Ex.post] at h;omega))
end Go.Proofs.Ytfanhfcamblghaa
