/-
  Tables of truth values as the reference keeps them: a slice of slices, each in a block of its own.
  No condition.
-/
import Derived.Test.YtfanhfcamblghaaPq07Ivs
set_option maxHeartbeats 8000000
set_option maxRecDepth 100000
namespace Go.Proofs.Ytfanhfcamblghaa
open Go.RowKit
def TbH (X:Ent) (v:Value) (N:Nat) (T:Nat→Nat→Bool):Prop:=∃ (B c:Nat) (R:Nat→Nat),v = .slice (some ⟨B,0,none⟩) N c∧∀ u,X.holds u→(∀ i,i<N→u.cell? ⟨B,i,none⟩=some (.slice (some ⟨R i,0,none⟩) N N))∧∀ i j,i<N→j<N→u.cell? ⟨R i,j,none⟩=some (.bool (T i j))
theorem TbH.congr {X:Ent} {v:Value} {N:Nat} {T U:Nat→Nat→Bool} (h:TbH X v N T) (hc:∀ i j,i<N→j<N→T i j=U i j):TbH X v N U:=by obtain⟨B,c,R,hv,h1⟩:=h;exact⟨B,c,R,hv,fun u hu=>⟨(h1 u hu).1,fun i j hi hj=>by rw[(h1 u hu).2 i j hi hj,hc i j hi hj]⟩⟩
theorem St.newRow0 {w0 w:World} {L:List Ent} (h:St w0 w L) (T size:Nat):St w0 (w.alloc (.cells #[] T)) (L++[Ent.row T size (.slice (some ⟨w.heap.size,0,none⟩) 0 0) 0 []]):=by have h1:=(h.alloc w.heap.size rfl #[] T).boxrow (b:=w.heap.size) (T:=T) L.length 0 size [] (by simp) (by simp) (by unfold maxLen;omega);simpa using h1
def ROn (l:List Nat) (w:World) (e:Ending) (w':World):Prop:=∃ a c,e = .returned (.slice a l.length c)∧St w w' [Ent.row 3 1 (.slice a l.length c) l.length (natC l)]
def lpF (es:List (Int × Int)):Nat→List Nat
 | 0=>[]
 | k+1=>if (es.getD k (0,0)).1=3 then lpF es k++[k] else lpF es k
def lpL (es:List (Int × Int)):List Nat:=if exOk es=true then lpF es es.length else []
theorem Zfn (es:List (Int × Int)):∀ k,(lpF es k).length≤k
 | 0=>Nat.le_refl _
 | k+1=>by
  have ih:=Zfn es k;unfold lpF
  split
  ·rw[List.length_append];simp;omega
  omega
theorem ZbS {k:IntKind} {x:Int}:∀ u∈[Value.int k x],u.oneCell'=true:=by intro u hu;simp only[List.mem_singleton] at hu;subst hu;rfl
theorem Zbu (es:List (Int × Int)) (v:Value) (w:World) (h:Pairs 0 w v es) :
  Calls Try.prog 13 #[v] w fun e w'=>ROn (lpL es) w e w':=by
 have Hh:=qh h;obtain⟨av,cv,rfl,hc1,hc2,hrd⟩:=h.form;obtain⟨i0,hi,hz0,hz1,hz2⟩:=info_parts Try.infoInt;obtain⟨r,hr⟩:=eJ (exOk es);have HV:=qh (ZaL es _ w h r hr);have hlp:lpL es=if r=true then lpF es es.length else []:=by unfold lpL;rw[hr]
 obtain⟨n,hn⟩:=eI (es.length);rw[← hn] at hc1 hrd HV Hh hlp;rw[← hn];have h60:r=true→n≤60:=fun h1=>by rw[hn];exact(ZaF (hr.trans h1)).2.2.2
 have Hrd:=qh hrd;obtain⟨Z,hZ⟩:=eJ (lpL es);rw[hZ] at hlp;rw[hZ];replace hi:=qh hi;have Hhz0:=qh hz0;clear hz0;have Hhz1:=qh hz1;clear hz1;have Hhz2:=qh hz2;clear hz2;have Hhn:=qh hn;clear hn;replace hZ:=qh hZ;clear h hrd hr
 go_enter Try.func13, Try.ntmps13
 go_wp2_with fail;refine HV.out.mono ?_;rintro e w1 ⟨rfl,hb1⟩;have HS1:=qh ((St.start w).call hb1);clear hb1;cases r with
 | false =>obtain rfl:=hlp;go_wp2;go_ret;exact⟨none,0,rfl,HS1.out.nilRow 3 1⟩
 | true =>
  have hn60:=h60 rfl;rw[if_pos rfl] at hlp;have Hhlp:=qh hlp;clear hlp;clear h60;go_wp2
  go_loopw [3,11] (fun st i wr=>∃ (k m c:Nat) (a:Option Addr),i = .int .i64 (k:Int)∧st = .slice a m c∧k≤n∧(lpF es k).length=m∧St w wr [Ent.row 3 1 (.slice a m c) m (natC (lpF es k))])
   (fun _ i _=>n-(intOf i).toNat)
  case atStart=>exact⟨0,0,0,none,rfl,rfl,Nat.zero_le _,rfl,HS1.out.nilRow 3 1⟩
  case round =>
   obtain⟨k,m,c,a,rfl,rfl,hk,hm,hS⟩:=hrel;by_cases hlt:k<n
   ·have hlt2:(k:Int)<n:=by omega
    obtain⟨b,o,rfl,-,hbl,hcs⟩:=Hrd.out (by omega);obtain⟨g1,g2⟩:=hcs k hlt;have k1:=(bcell hS.bel b _ hbl).trans g1;have k2:=(bcell hS.bel b _ hbl).trans g2;have hstep:lpF es (k+1)=if (es.getD k (0,0)).1=3 then lpF es k++[k] else lpF es k:=rfl;have hml:=Zfn es k;obtain⟨p,hp⟩:=eI (es.getD k (0,0));rw[← hp] at k1 k2 hstep;obtain⟨p1,p2⟩:=p;simp only at k1 k2 hstep;rw[hm] at hml;have hSp:=hS.alloc _ rfl #[.int .i64 p1,.int .i64 p2] 72;have HS:=qh hS;have HSp:=qh hSp;have e0:=HSp.out.cell (v:=.int .i64 p1) 1 0 rfl rfl;have e1:=HSp.out.cell (v:=.int .i64 p2) 1 1 rfl rfl;have Hhp:=qh hp;clear hp;have Hhm:=qh hm;clear hm;clear hS hSp hcs g1 g2;by_cases hp3:p1=3
    ·subst hp3;rw[if_pos rfl] at hstep;have hnw:((wr.alloc (.cells #[.int .i64 3,.int .i64 p2] 72)).alloc (.cells #[.int .i64 (k:Int)] 3)).heap[wr.heap.size+1]? = some (.cells #[.int .i64 (k:Int)] 3):=by rw[show wr.heap.size+1=(wr.alloc (.cells #[.int .i64 3,.int .i64 p2] 72)).heap.size by simp];exact heap_alloc_new _ _
     have Hhnw:=qh hnw;clear hnw;have Hhstep:=qh hstep;clear hstep;have HSa:=qh (HSp.out.alloc_ (.cells #[.int .i64 (k:Int)] 3));have HRw:=qh (HSa.out.row 0 rfl);go_wp2_with (at_builtin;refine wpList_append_lies _ rfl _ _ _ rfl _ 3 i0 (.int .i64 0) 1 8 Try.underlying26 hi.out Hhz0.out Hhz1.out Hhz2.out rfl (by omega) _ m _ rfl HRw.out ⟨wr.heap.size+1,0,none⟩ 1 1 [.int .i64 (k:Int)] rfl rfl (World.news_of_block Hhnw.out) ZbS (by omega) (by unfold maxLen;omega) (by omega) HSa.out.size _ rfl ?_;intro g6 c6 w6 hown6 hgrow6 hat6 hlt6;have HS6:=qh (HSa.out.app 0 rfl hown6 hgrow6 hat6);clear hown6 hgrow6 hat6 hlt6);go_roundw
     case rel =>
      refine⟨k+1,m+1,c6,some ⟨g6,0,none⟩,by go_num,rfl,by omega,?_,?_⟩
      ·rw[Hhstep.out,List.length_append,List.length_singleton,Hhm.out]
      rw[Hhstep.out,← ZcV];exact HS6.out.pick [0] (by decide)
     case measure=>simp[intOf];omega
    rw[if_neg hp3] at hstep;obtain⟨q1,q2,q3,q4⟩:=Zan hp3;have Hhstep:=qh hstep;clear hstep;clear hp3;go_wp2;go_roundw
    case rel =>
     refine⟨k+1,m,c,a,by go_num,rfl,by omega,?_,?_⟩
     ·rw[Hhstep.out,Hhm.out]
     rw[Hhstep.out];exact HSp.out.pick [0] (by decide)
    case measure=>simp[intOf];omega
   obtain rfl:k=n:=by omega
   have HS:=qh hS;have hml:=hm;rw[← Hhlp.out] at hml;have Hhml:=qh hml;clear hml;clear hS hm;go_wp2;go_ret;refine⟨a,c,by rw[Hhml.out];rfl,?_⟩;have h:=HS.out;rw[← Hhlp.out] at h;rw[Hhml.out];exact h
theorem Zbr (es:List (Int × Int)) (v:Value) (w:World) (hlen:es.length≤100) (h:Pairs 0 w v es) :
  Calls Try.prog 38 #[v] w fun e w'=>ROn (lpL es) w e w':=by
 have Hh:=qh h;obtain⟨av,cv,rfl,hc1,hc2,hrd⟩:=h.form;obtain⟨i0,hi,hz0,hz1,hz2⟩:=info_parts Try.infoInt;obtain⟨r,hr⟩:=eJ (exOk es);have HV:=qh (fun (u:World) (hp:Pairs 0 u (.slice av es.length cv) es)=>ZcD es _ u (by omega) hp r hr);have hlp:lpL es=if r=true then lpF es es.length else []:=by unfold lpL;rw[hr]
 have hne:r=true→0<es.length:=fun h1=>(ZaF (hr.trans h1)).2.2.1
 obtain⟨n,hn⟩:=eI (es.length);rw[← hn] at hc1 hrd HV Hh hlp hlen;rw[← hn];have Hrd:=qh hrd;obtain⟨Z,hZ⟩:=eJ (lpL es);rw[hZ] at hlp;rw[hZ];have HS1:=qh ((St.start w).newRow0 3 1);replace hi:=qh hi;have Hhz0:=qh hz0;clear hz0;have Hhz1:=qh hz1;clear hz1;have Hhz2:=qh hz2;clear hz2;have Hhn:=qh hn;clear hn;replace hZ:=qh hZ;have Hhlp:=qh hlp;clear hlp;clear h hrd hr hne
 go_enter Try.func38, Try.ntmps38
 go_wp2
 go_loopw [3,4] (fun st i wr=>∃ (k m c:Nat) (a:Option Addr),i = .int .i64 (k:Int)∧st = .slice a m c∧k≤n∧(r=false→k=0)∧(lpF es k).length=m∧St w wr [Ent.row 3 1 (.slice a m c) m (natC (lpF es k))])
  (fun _ i _=>n-(intOf i).toNat)
 case atStart=>exact⟨0,0,0,_,rfl,rfl,Nat.zero_le _,fun _=>rfl,rfl,HS1.out⟩
 case round =>
  obtain⟨k,m,c,a,rfl,rfl,hk,hrk,hm,hS⟩:=hrel;have HS:=qh hS;by_cases hlt:k<n
  ·have hlt2:(k:Int)<n:=by omega
   go_wp2_with fail;refine(HV.out _ (Hh.out.below HS.out.bel)).mono ?_;rintro e w2 ⟨rfl,hb2⟩;have HS2:=qh (HS.out.call hb2);clear hb2;cases r with
   | false =>
    obtain rfl:=hrk rfl;have hz:Z=[]:=by rw[Hhlp.out];rfl
    subst hz;have hm0:m=0:=hm.symm;subst hm0;clear hS hm;go_wp2;go_ret;exact⟨a,c,rfl,HS2.out⟩
   | true =>
    obtain⟨b,o,rfl,-,hbl,hcs⟩:=Hrd.out (by omega);obtain⟨g1,g2⟩:=hcs k hlt;have k1:=(bcell HS2.out.bel b _ hbl).trans g1;have k2:=(bcell HS2.out.bel b _ hbl).trans g2;have hstep:lpF es (k+1)=if (es.getD k (0,0)).1=3 then lpF es k++[k] else lpF es k:=rfl;have hml:=Zfn es k;obtain⟨p,hp⟩:=eI (es.getD k (0,0));rw[← hp] at k1 k2 hstep;obtain⟨p1,p2⟩:=p;simp only at k1 k2 hstep;rw[hm] at hml;have Hhp:=qh hp;clear hp;have Hhm:=qh hm;clear hm;clear hS hcs g1 g2;by_cases hp3:p1=3
    ·subst hp3;rw[if_pos rfl] at hstep;have Hhstep:=qh hstep;clear hstep;have HSa:=qh (HS2.out.alloc_ (.cells #[.int .i64 (k:Int)] 3));have HRw:=qh (HSa.out.row 0 rfl);go_wp2_with (at_builtin;refine wpList_append_lies _ rfl _ _ _ rfl _ 3 i0 (.int .i64 0) 1 8 Try.underlying26 hi.out Hhz0.out Hhz1.out Hhz2.out rfl (by omega) _ m _ rfl HRw.out ⟨w2.heap.size,0,none⟩ 1 1 [.int .i64 (k:Int)] rfl rfl (World.news_of_block (heap_alloc_new w2 _)) ZbS (by omega) (by unfold maxLen;omega) (by omega) HSa.out.size _ rfl ?_;intro g6 c6 w6 hown6 hgrow6 hat6 hlt6;have HS6:=qh (HSa.out.app 0 rfl hown6 hgrow6 hat6);clear hown6 hgrow6 hat6 hlt6);go_roundw
     case rel =>
      refine⟨k+1,m+1,c6,some ⟨g6,0,none⟩,by go_num,rfl,by omega,(fun h=>by cases h),?_,?_⟩
      ·rw[Hhstep.out,List.length_append,List.length_singleton,Hhm.out]
      rw[Hhstep.out,← ZcV];exact HS6.out.pick [0] (by decide)
     case measure=>simp[intOf];omega
    rw[if_neg hp3] at hstep;obtain⟨q1,q2,q3,q4⟩:=Zan hp3;have Hhstep:=qh hstep;clear hstep;clear hp3;go_wp2;go_roundw
    case rel =>
     refine⟨k+1,m,c,a,by go_num,rfl,by omega,(fun h=>by cases h),?_,?_⟩
     ·rw[Hhstep.out,Hhm.out]
     rw[Hhstep.out];exact HS2.out.pick [0] (by decide)
    case measure=>simp[intOf];omega
  obtain rfl:k=n:=by omega
  have hz:Z=lpF es k:=by
   rw[Hhlp.out];cases r with
   | true=>rfl
   | false =>obtain rfl:=hrk rfl;rfl
  have hml:=hm;rw[← hz] at hml;have Hhml:=qh hml;clear hml;have Hhz:=qh hz;clear hz;clear hS hm hrk hlt;go_wp2;go_ret;refine⟨a,c,by rw[Hhml.out];rfl,?_⟩;have h:=HS.out;rw[← Hhz.out] at h;rw[Hhml.out];exact h
end Go.Proofs.Ytfanhfcamblghaa
namespace Go.Proofs.Ytfanhfcamblghaa
inductive Ex where
 | zero|one|ltr (c:Fin 3)|join (a b:Ex)|alt (a b:Ex)|both (a b:Ex)|neg (a:Ex)|star (a:Ex)
 deriving DecidableEq
def Ex.post:Ex→List (Int × Int)
 | .zero=>[(1,0)]
 | .one=>[(2,0)]
 | .ltr c=>[(3,(c.val:Int))]
 | .join a b=>a.post++b.post++[(4,0)]
 | .alt a b=>a.post++b.post++[(5,0)]
 | .both a b=>a.post++b.post++[(6,0)]
 | .neg a=>a.post++[(7,0)]
 | .star a=>a.post++[(8,0)]
theorem Zbx:Zaa (1,0)=0:=by decide
theorem Zbw:Zaa (2,0)=0:=by decide
theorem Zbk (c:Fin 3):Zaa (3,(c.val:Int))=0:=by
 have:c=0∨c=1∨c=2:=by omega
 rcases this with rfl|rfl|rfl<;>decide
theorem Zcu:Zaa (4,0)=2:=by decide
theorem ZdC:Zaa (5,0)=2:=by decide
theorem Zfe:Zaa (6,0)=2:=by decide
theorem Zg7:Zaa (7,0)=1:=by decide
theorem Zct:Zaa (8,0)=1:=by decide
theorem ZaH:∀ t:Ex,1≤t.post.length:=by intro t;cases t<;>simp[Ex.post]<;>omega
theorem ZbY (xs ys:List (Int × Int)):∀ k,k≤xs.length→dep (xs++ys) k=dep xs k
 | 0,_=>rfl
 | k+1,h=>by
  have ih:=ZbY xs ys k (by omega);have e:(xs++ys).getD k (0,0)=xs.getD k (0,0):=by simp[List.getD_eq_getElem?_getD,List.getElem?_append_left (show k<xs.length by omega)]
  unfold dep;rw[ih,e]
theorem ZfE (xs ys:List (Int × Int)):∀ k,dep (xs++ys) (xs.length+k)=dep xs xs.length+dep ys k
 | 0=>by rw[Nat.add_zero,ZbY xs ys _ (Nat.le_refl _)];simp[dep]
 | k+1=>by
  have ih:=ZfE xs ys k;have e:(xs++ys).getD (xs.length+k) (0,0)=ys.getD k (0,0):=by simp[List.getD_eq_getElem?_getD,List.getElem?_append_right (show xs.length≤xs.length+k by omega)]
  show dep (xs++ys) (xs.length+k)-Zaa ((xs++ys).getD (xs.length+k) (0,0))+1=dep xs xs.length+(dep ys k-Zaa (ys.getD k (0,0))+1);rw[ih,e];omega
theorem ZgO {xs ys:List (Int × Int)} {k:Nat} (h:k<xs.length):(xs++ys).getD k (0,0)=xs.getD k (0,0):=by simp[List.getD_eq_getElem?_getD,List.getElem?_append_left h]
theorem ZfS (xs ys:List (Int × Int)) (k:Nat):(xs++ys).getD (xs.length+k) (0,0)=ys.getD k (0,0):=by simp[List.getD_eq_getElem?_getD,List.getElem?_append_right (show xs.length≤xs.length+k by omega)]
def ZbK (m:Int) (es:List (Int × Int)):Prop:=∀ k,k<es.length→0≤Zaa (es.getD k (0,0))∧Zaa (es.getD k (0,0))≤m+dep es k
theorem ZhZ {m m':Int} {es:List (Int × Int)} (h:ZbK m es) (hm:m≤m'):ZbK m' es:=fun k hk=>by have:=h k hk;omega
theorem Zd7 {m:Int} {xs ys:List (Int × Int)} (h:ZbK m xs) (h':ZbK (m+dep xs xs.length) ys):ZbK m (xs++ys):=fun k hk=>by
 by_cases hx:k<xs.length
 ·rw[ZgO hx,ZbY _ _ _ (by omega)];exact h k hx
 obtain⟨j,rfl⟩:=Nat.exists_eq_add_of_le (Nat.le_of_not_lt hx);rw[ZfS,ZfE];have:=h' j (by simp at hk;omega);omega
theorem Zd6 {m:Int} {p:Int × Int} (h0:0≤Zaa p) (h1:Zaa p≤m):ZbK m [p]:=fun k hk=>by
 obtain rfl:k=0:=by simpa using hk
 simp[dep];omega
theorem Zk2 (p:Int × Int):dep [p] 1=1-Zaa p:=by simp[dep];omega
theorem ZiR (xs:List (Int × Int)) (p:Int × Int):dep (xs++[p]) (xs++[p]).length=dep xs xs.length+(1-Zaa p):=by rw[List.length_append,ZfE];show dep xs xs.length+dep [p] 1=_;rw[Zk2]
theorem Znv (xs ys:List (Int × Int)):dep (xs++ys) (xs++ys).length=dep xs xs.length+dep ys ys.length:=by rw[List.length_append,ZfE]
theorem ZhV:∀ t:Ex,ZbK 0 t.post∧dep t.post t.post.length=1:=by
 intro t;have leaf:∀ p,Zaa p=0→ZbK 0 [p]∧dep [p] [p].length=1:=fun p hp=>⟨Zd6 (by omega) (by omega),by show dep [p] 1=1;rw[Zk2];omega⟩
 have two:∀ (xs ys:List (Int × Int)) p,Zaa p=2→ZbK 0 xs→dep xs xs.length=1→ZbK 0 ys→dep ys ys.length=1→ZbK 0 (xs++ys++[p])∧dep (xs++ys++[p]) (xs++ys++[p]).length=1:=fun xs ys p hp h1 h2 h3 h4=>by have hc:=Znv xs ys;refine⟨Zd7 (Zd7 h1 (ZhZ h3 (by omega))) (Zd6 (by omega) (by omega)),?_⟩;rw[ZiR];omega
 have one:∀ (xs:List (Int × Int)) p,Zaa p=1→ZbK 0 xs→dep xs xs.length=1→ZbK 0 (xs++[p])∧dep (xs++[p]) (xs++[p]).length=1:=fun xs p hp h1 h2=>by refine⟨Zd7 h1 (Zd6 (by omega) (by omega)),?_⟩;rw[ZiR];omega
 induction t with
 | zero=>exact leaf _ Zbx
 | one=>exact leaf _ Zbw
 | ltr c=>exact leaf _ (Zbk c)
 | join a b ha hb=>exact two _ _ _ Zcu ha.1 ha.2 hb.1 hb.2
 | alt a b ha hb=>exact two _ _ _ ZdC ha.1 ha.2 hb.1 hb.2
 | both a b ha hb=>exact two _ _ _ Zfe ha.1 ha.2 hb.1 hb.2
 | neg a ha=>exact one _ _ Zg7 ha.1 ha.2
 | star a ha=>exact one _ _ Zct ha.1 ha.2
theorem Zal (t:Ex) (h:t.post.length≤60):exOk t.post=true:=by obtain⟨h1,h2⟩:=ZhV t;simp only[exOk,exAt,Bool.and_eq_true,List.all_eq_true,List.mem_range,decide_eq_true_eq];refine⟨⟨fun k hk => ?_,h2⟩,h⟩;have:=h1 k hk;omega
theorem Ze3 {α:Type}:∀ (l:List α),1≤l.length→∃ L b,l=L++[b]
 | [],h=>by simp at h
 | [a],_=>⟨[],a,rfl⟩
 | a::b::l,_=>by obtain⟨L,c,h⟩:=Ze3 (b::l) (by simp);exact⟨a::L,c,by rw[h];rfl⟩
def cat (st:List Ex):List (Int × Int):=st.flatMap Ex.post
theorem ZgU (a b:List Ex):cat (a++b)=cat a++cat b:=by simp[cat]
theorem ZfJ (a:Ex):cat [a]=a.post:=by simp[cat]
theorem Ziw {es:List (Int × Int)} (h:ZbK 0 es):∀ k,k≤es.length→∃ st:List Ex,cat st=es.take k∧(st.length:Int)=dep es k
 | 0,_=>⟨[],rfl,rfl⟩
 | k+1,hk=>by
  obtain⟨st,h1,h2⟩:=Ziw h k (by omega);obtain⟨h3,h4⟩:=h k (by omega);have ht:es.take (k+1)=es.take k++[es.getD k (0,0)]:=by rw[List.take_succ_eq_append_getElem (by omega)];simp[show k<es.length by omega]
  have hd:dep es (k+1)=dep es k-Zaa (es.getD k (0,0))+1:=rfl;obtain⟨p,hp⟩:=eI (es.getD k (0,0));rw[← hp] at h3 h4 ht hd;have hok:=ZbI h3;obtain⟨p1,p2⟩:=p;rw[ht,hd,← h1];have leaf:∀ t:Ex,t.post=[(p1,p2)]→Zaa (p1,p2)=0→∃ st':List Ex,cat st'=cat st++[(p1,p2)]∧(st'.length:Int)=dep es k-Zaa (p1,p2)+1:=fun t e0 e1=>⟨st++[t],by rw[ZgU,ZfJ,e0],by simp;omega⟩
  have one:∀ f:Ex→Ex,(∀ a,(f a).post=a.post++[(p1,p2)])→Zaa (p1,p2)=1→∃ st':List Ex,cat st'=cat st++[(p1,p2)]∧(st'.length:Int)=dep es k-Zaa (p1,p2)+1:=fun f e0 e1=>by obtain⟨L,a,rfl⟩:=Ze3 st (by omega);refine⟨L++[f a],by rw[ZgU,ZgU,ZfJ,ZfJ,e0];simp,?_⟩;simp at h2 ⊢;omega
  have two:∀ f:Ex→Ex→Ex,(∀ a b,(f a b).post=a.post++b.post++[(p1,p2)])→Zaa (p1,p2)=2→∃ st':List Ex,cat st'=cat st++[(p1,p2)]∧(st'.length:Int)=dep es k-Zaa (p1,p2)+1:=fun f e0 e1=>by obtain⟨L,b,rfl⟩:=Ze3 st (by omega);obtain⟨L,a,rfl⟩:=Ze3 L (by simp at h2;omega);refine⟨L++[f a b],by simp only[ZgU,ZfJ,e0,List.append_assoc],?_⟩;simp at h2 ⊢;omega
  simp only[pOk,inB,Bool.and_eq_true,Bool.or_eq_true,decide_eq_true_eq,Bool.not_eq_true',decide_eq_false_iff_not] at hok;obtain⟨⟨q1,q2⟩,q3⟩:=hok;have hc:(p1=1∧p2=0)∨(p1=2∧p2=0)∨(p1=3∧0≤p2∧p2≤2)∨(p1=4∧p2=0)∨(p1=5∧p2=0)∨(p1=6∧p2=0)∨(p1=7∧p2=0)∨(p1=8∧p2=0):=by omega
  rcases hc with⟨rfl,rfl⟩|⟨rfl,rfl⟩|⟨rfl,g1,g2⟩|⟨rfl,rfl⟩|⟨rfl,rfl⟩|⟨rfl,rfl⟩|⟨rfl,rfl⟩|⟨rfl,rfl⟩
  ·exact leaf .zero rfl Zbx
  ·exact leaf .one rfl Zbw
  ·obtain⟨c,rfl⟩:=Int.eq_ofNat_of_zero_le g1;exact leaf (.ltr ⟨c,by omega⟩) rfl (Zbk ⟨c,by omega⟩)
  ·exact two .join (fun _ _=>rfl) Zcu
  ·exact two .alt (fun _ _=>rfl) ZdC
  ·exact two .both (fun _ _=>rfl) Zfe
  ·exact one .neg (fun _=>rfl) Zg7
  exact one .star (fun _=>rfl) Zct
theorem parse {es:List (Int × Int)} (h:exOk es=true):∃ t:Ex,t.post=es:=by
 obtain⟨h1,h2,h3,h4⟩:=ZaF h;obtain⟨st,e1,e2⟩:=Ziw (es:=es) (fun k hk=>by have:=h1 k hk;omega) es.length (Nat.le_refl _);rw[h2] at e2;rw[List.take_length] at e1;obtain⟨L,t,rfl⟩:=Ze3 st (by omega)
 have hL:L=[]:=by
  cases L with
  | nil=>rfl
  | cons=>simp at e2;omega
 subst hL;exact⟨t,by simpa [ZfJ] using e1⟩
theorem Zhe (xs:List (Int × Int)) (p:Int × Int):(xs++[p]).getD ((xs++[p]).length-1) (0,0)=p:=by simp[List.getD_eq_getElem?_getD]
theorem ZgV {es:List (Int × Int)} {n a b:Nat} (h:Zbd es n a) (h':Zbd es n b):a=b:=by
 obtain⟨h1,h2,h3⟩:=h;obtain⟨g1,g2,g3⟩:=h';rcases Nat.lt_trichotomy a b with hl|hl|hl
 ·exact absurd g2 (h3 b hl g1)
 ·exact hl
 exact absurd h2 (g3 a hl h1)
theorem Zjb {es:List (Int × Int)} (h:ZbK 0 es) {k:Nat} (h0:0<k) (hk:k≤es.length):1≤dep es k:=Znu (fun j hj=>by have:=h j hj;omega) k h0 hk
theorem ZbF {a b:Ex} {p:Int × Int} (hp:Zaa p=2) {xs ys:List (Int × Int)} (h:splits (a.post++b.post++[p]) xs ys):xs=a.post∧ys=b.post:=by
 obtain⟨-,-,h3⟩:=h;rw[Zhe] at h3;obtain⟨at',hb,rfl,rfl⟩:=h3 hp;obtain⟨a1,a2⟩:=ZhV a;obtain⟨b1,b2⟩:=ZhV b;have hl:(a.post++b.post++[p]).length-1=a.post.length+b.post.length:=by simp
 rw[hl] at hb ⊢
 have hbeg:Zbd (a.post++b.post++[p]) (a.post.length+b.post.length) a.post.length:=by
  have hd:∀ j,j≤b.post.length→dep (a.post++b.post++[p]) (a.post.length+j)=1+dep b.post j:=fun j hj=>by rw[ZbY _ _ _ (by simp;omega),ZfE,a2]
  have h0:=hd 0 (Nat.zero_le _);have hn:=hd b.post.length (Nat.le_refl _);rw[b2] at hn;rw[Nat.add_zero] at h0;refine⟨by have:=ZaH b;omega,by rw[h0,hn];rfl,fun j h1 h2 => ?_⟩;obtain⟨i,rfl⟩:=Nat.exists_eq_add_of_le (Nat.le_of_lt h1);rw[hd i (by omega),hn];have:=Zjb b1 (show 0<i by omega) (by omega);omega
 obtain rfl:=ZgV hb hbeg;constructor
 ·rw[List.append_assoc,List.take_left'];rfl
 rw[List.append_assoc,List.drop_left' rfl,Nat.add_sub_cancel_left,List.take_left' rfl]
theorem Zdv {a:Ex} {p:Int × Int} (hp:Zaa p=1) {xs ys:List (Int × Int)} (h:splits (a.post++[p]) xs ys):xs=a.post∧ys=[]:=by obtain⟨-,h2,-⟩:=h;rw[Zhe] at h2;obtain⟨rfl,rfl⟩:=h2 hp;simp
theorem ZaV {p:Int × Int} (hp:Zaa p=0) {xs ys:List (Int × Int)} (h:splits [p] xs ys):xs=[]∧ys=[]:=h.1 (by simpa using hp)
theorem ZeM {xs ys:List (Int × Int)} {p:Int × Int}:(xs++p::ys).getD xs.length (0,0)=p:=by simp
theorem Zgl {es pre suf:List (Int × Int)} {p:Int × Int} (he:es=pre++p::suf) (hp:Zaa p=0):stkB es (pre.length+1)=stkB es pre.length++[pre.length]:=by
 have h:es.getD pre.length (0,0)=p:=by rw[he];exact ZeM
 rw[Zb6];unfold begB;rw[h,hp];simp
theorem ZjM {es pre xs suf:List (Int × Int)} {p:Int × Int} (he:es=pre++xs++p::suf) (hp:Zaa p=1) (hx:stkB es (pre.length+xs.length)=stkB es pre.length++[pre.length]):stkB es (pre.length+(xs.length+1))=stkB es pre.length++[pre.length]:=by
 have h:es.getD (pre.length+xs.length) (0,0)=p:=by rw[he,← List.length_append];exact ZeM
 rw[← Nat.add_assoc,Zb6];unfold begB;rw[h,hp,hx];simp
theorem ZhI {es pre xs ys suf:List (Int × Int)} {p:Int × Int} (he:es=pre++xs++ys++p::suf) (hp:Zaa p=2) (hx:stkB es (pre.length+xs.length)=stkB es pre.length++[pre.length]) (hy:stkB es (pre.length+xs.length+ys.length)=stkB es (pre.length+xs.length)++[pre.length+xs.length]) :
  stkB es (pre.length+(xs.length+(ys.length+1)))=stkB es pre.length++[pre.length]:=by
 have h:es.getD (pre.length+xs.length+ys.length) (0,0)=p:=by rw[he,← List.length_append,← List.length_append];exact ZeM
 rw[show pre.length+(xs.length+(ys.length+1))=pre.length+xs.length+ys.length+1 by omega,Zb6];unfold begB;rw[h,hp,hy,hx];simp
theorem Zlv:∀ (t:Ex) (es pre suf:List (Int × Int)),es=pre++t.post++suf→stkB es (pre.length+t.post.length)=stkB es pre.length++[pre.length]:=by
 intro t
 induction t with
 | zero=>intro es pre suf he;exact Zgl (p:=(1,0)) (suf:=suf) (by rw[he];simp[Ex.post]) Zbx
 | one=>intro es pre suf he;exact Zgl (p:=(2,0)) (suf:=suf) (by rw[he];simp[Ex.post]) Zbw
 | ltr c=>intro es pre suf he;exact Zgl (p:=(3,(c.val:Int))) (suf:=suf) (by rw[he];simp[Ex.post]) (Zbk c)
 | neg a ha =>intro es pre suf he;have h1:=ha es pre ((7,0)::suf) (by rw[he];simp[Ex.post]);have h2:=ZjM (xs:=a.post) (p:=(7,0)) (suf:=suf) (by rw[he];simp[Ex.post]) Zg7 h1;simpa [Ex.post] using h2
 | star a ha =>intro es pre suf he;have h1:=ha es pre ((8,0)::suf) (by rw[he];simp[Ex.post]);have h2:=ZjM (xs:=a.post) (p:=(8,0)) (suf:=suf) (by rw[he];simp[Ex.post]) Zct h1;simpa [Ex.post] using h2
 | join a b ha hb =>intro es pre suf he;have h1:=ha es pre (b.post++(4,0)::suf) (by rw[he];simp[Ex.post]);have h2:=hb es (pre++a.post) ((4,0)::suf) (by rw[he];simp[Ex.post]);rw[List.length_append] at h2;have h3:=ZhI (xs:=a.post) (ys:=b.post) (p:=(4,0)) (suf:=suf) (by rw[he];simp[Ex.post]) Zcu h1 h2;simpa [Ex.post] using h3
 | alt a b ha hb =>intro es pre suf he;have h1:=ha es pre (b.post++(5,0)::suf) (by rw[he];simp[Ex.post]);have h2:=hb es (pre++a.post) ((5,0)::suf) (by rw[he];simp[Ex.post]);rw[List.length_append] at h2;have h3:=ZhI (xs:=a.post) (ys:=b.post) (p:=(5,0)) (suf:=suf) (by rw[he];simp[Ex.post]) ZdC h1 h2;simpa [Ex.post] using h3
 | both a b ha hb =>intro es pre suf he;have h1:=ha es pre (b.post++(6,0)::suf) (by rw[he];simp[Ex.post]);have h2:=hb es (pre++a.post) ((6,0)::suf) (by rw[he];simp[Ex.post]);rw[List.length_append] at h2;have h3:=ZhI (xs:=a.post) (ys:=b.post) (p:=(6,0)) (suf:=suf) (by rw[he];simp[Ex.post]) Zfe h1 h2;simpa [Ex.post] using h3
theorem ZnC (a b:Ex) (p:Int × Int):begB (a.post++b.post++[p]) (a.post.length+b.post.length-1)=a.post.length:=by have h2:=Zlv b (a.post++b.post++[p]) a.post [p] rfl;have hb:=ZaH b;rw[show a.post.length+b.post.length=(a.post.length+b.post.length-1)+1 by omega,Zb6] at h2;have:=List.append_inj_right' h2 rfl;simpa using this
end Go.Proofs.Ytfanhfcamblghaa
namespace Go.Proofs.Ytfanhfcamblghaa
open Go.RowKit
end Go.Proofs.Ytfanhfcamblghaa
namespace Go.Proofs.Ytfanhfcamblghaa
open Go.RowKit
theorem Zem (xs ys:List Int) (v1 v2:Value) (w:World) (h1:Ints 0 w v1 xs) (h2:Ints 0 w v2 ys) (r:Bool) (hr:decide (xs=ys)=r) :
  Calls Try.prog 45 #[v1,v2] w fun e w'=>e = .returned (.bool r)∧Below w.heap.size w w':=by
 obtain⟨a1,c1,rfl,hc1,hm1,hr1⟩:=h1.form;obtain⟨a2,c2,rfl,hc2,hm2,hr2⟩:=h2.form;clear h1 h2;replace hr:=qh hr;by_cases hlen:xs.length=ys.length
 ·have hl:((xs.length:Int) != ys.length)=false:=by rw[Zli];simpa using hlen
  have Hhlen:=qh hlen;clear hlen
  go_enter Try.func45, Try.ntmps45
  go_wp2
  go_loopw [4,5] (fun r i wr=>∃ k:Nat,k≤xs.length∧i = .int .i64 k∧xs.take k=ys.take k∧Below w.heap.size w wr) (fun _ i _=>xs.length-(intOf i).toNat)
  case atStart=>exact⟨0,Nat.zero_le _,rfl,rfl,Below.refl _ _⟩
  case round =>
   obtain⟨k,hk,rfl,htk,hb⟩:=hrel;have Hhtk:=qh htk;clear htk;by_cases hlt:k<xs.length
   ·have hlt2:k<ys.length:=by have:=Hhlen.out;omega
    obtain⟨b1,o1,rfl,hB1,hbl1,hcs1⟩:=hr1 (by omega);obtain⟨b2,o2,rfl,hB2,hbl2,hcs2⟩:=hr2 (by omega);have hx1:=(bcell hb b1 (o1+k) hbl1).trans (hcs1 k hlt);have hx2:=(bcell hb b2 (o2+k) hbl2).trans (hcs2 k hlt2);obtain⟨x,hx⟩:=eI (xs.getD k 0);obtain⟨y,hy⟩:=eI (ys.getD k 0);rw[← hx] at hx1;rw[← hy] at hx2;have Hhx:=qh hx;clear hx;have Hhy:=qh hy;clear hy;replace hb:=qh hb;clear hcs1 hcs2 hr1 hr2;by_cases he:x=y
    ·have hne:(x != y)=false:=by simpa using he
     have hne':(!(x==y))=false:=by simpa using he
     have Hhe:=qh he;clear he;go_wp2
     go_quiet (fail)
     go_wp2;go_roundw
     case rel=>exact⟨k+1,by omega,by go_num,Zel (d:=0) hlt hlt2 Hhtk.out (by rw[← Hhx.out,← Hhy.out];exact Hhe.out),below_drewN hb.out _⟩
     case measure=>simp[intOf];omega
    have hne:(x != y)=true:=by simpa using he
    have hne':(!(x==y))=true:=by simpa using he
    have Hhe:=qh he;clear he;go_wp2
    go_quiet (fail)
    go_wp2;go_ret;exact⟨by rw[← hr.out,decide_eq_false (Zf6 (k:=k) (d:=0) (by rw[← Hhx.out,← Hhy.out];exact Hhe.out))];rfl,below_drewN hb.out _⟩
   clear hr1 hr2;replace hb:=qh hb;go_wp2;go_ret;exact⟨by rw[← hr.out,decide_eq_true (Zjt Hhlen.out (by omega) Hhtk.out)];rfl,hb.out⟩
 have hl:((xs.length:Int) != ys.length)=true:=by rw[Zli];simpa using hlen
 have Hhlen:=qh hlen;clear hlen;clear hr1 hr2
 go_enter Try.func45, Try.ntmps45
 go_wp2;go_ret;exact⟨by rw[← hr.out,decide_eq_false (fun h=>Hhlen.out (by rw[h]))];rfl,Below.refl _ _⟩
theorem ZaS {w:World} {v:Value} {pre:List (Int × Int)} {p:Int × Int} (h:Pairs 0 w v (pre++[p])):∃ b off cap,v = .slice (some ⟨b,off,none⟩) (pre.length+1) cap∧pre.length+1≤cap∧cap≤9223372036854775807∧b<w.heap.size ∧
  ∀ u,Below w.heap.size w u→u.cell? ⟨b,off+pre.length*2,none⟩=some (.int .i64 p.1)∧u.cell? ⟨b,off+pre.length*2+1,none⟩=some (.int .i64 p.2):=by
 obtain⟨a,cap,hv,h1,h2,h3⟩:=h.form;obtain⟨b,off,rfl,-,hb,hc⟩:=h3 (by simp);have hl:(pre++[p]).length=pre.length+1:=by simp
 rw[hl] at hv h1;obtain⟨c1,c2⟩:=hc pre.length (by simp);have e:(pre++[p]).getD pre.length (0,0)=p:=ZeM;rw[e] at c1 c2;exact⟨b,off,cap,hv,h1,h2,hb,fun u hu=>⟨(bcell hu b _ hb).trans c1,(bcell hu b _ hb).trans c2⟩⟩
theorem ZmP {es:List (Int × Int)} {w:World} {e:Ending} {w':World} (hok:exOk es=true) (h:RSt es es.length w e w'):∃ g b,e = .returned (.tuple #[.slice (some ⟨g,0,none⟩) es.length es.length,.bool b])∧St w w' [Ent.row 3 1 (.slice (some ⟨g,0,none⟩) es.length es.length) es.length (intCells (clsL es.length (begB es)))]:=by
 rcases h with⟨-,g,b,he,-,hS⟩|⟨hbad,-⟩
 ·exact⟨g,b,he,hS⟩
 exact absurd (ZeN.1 hok).1 hbad
theorem Zbl (a b t:Ex) (k l:Int) (ht:t.post=a.post++b.post++[(k,l)]) (hk:Zaa (k,l)=2) (v:Value) (w:World) (h60:t.post.length≤60) (h:Pairs 0 w v t.post) :
  Calls Try.prog 89 #[v] w fun e w'=>∃ g va vb,e = .returned (.slice (some ⟨g,0,none⟩) 2 2)∧St w w' [Ent.row 23 1 (.slice (some ⟨g,0,none⟩) 2 2) 2 [va,vb]]∧∀ u,Pairs 0 u v t.post→Pairs 0 u va a.post∧Pairs 0 u vb b.post:=by
 have hok:=Zal t h60;have hst:=qh (Zbm t.post v w (by omega) h);have hbt:=ZnC a b (k,l);rw[← ht] at hbt;have hP:=h;rw[ht] at hP;obtain⟨bb,off,cap,rfl,hc1,hc2,hb,hcell⟩:=ZaS hP;have hpl:(a.post++b.post).length=a.post.length+b.post.length:=by simp
 have hal:=ZaH a;have hbl:=ZaH b;have htl:t.post.length=a.post.length+b.post.length+1:=by rw[ht];simp;omega
 rw[hpl] at hc1 hcell hst hP ⊢;have e1:(a.post++b.post++[(k,l)]).take a.post.length=a.post:=by rw[List.append_assoc,List.take_left]
 have e2:(a.post++b.post++[(k,l)]).drop a.post.length=b.post++[(k,l)]:=by rw[List.append_assoc,List.drop_left]
 have hPab:∀ u,Pairs 0 u (.slice (some ⟨bb,off,none⟩) (a.post.length+b.post.length+1) cap) t.post→Pairs 0 u (.slice (some ⟨bb,off,none⟩) a.post.length cap) a.post∧Pairs 0 u (.slice (some ⟨bb,off+a.post.length*2,none⟩) b.post.length (cap-a.post.length)) b.post:=fun u hu=>by
  rw[ht] at hu;have hPa:=hu.take (n:=a.post.length) (by simp);have hPd:=hu.drop (n:=a.post.length) (by simp);rw[e1] at hPa;rw[e2] at hPd;have hPb:=hPd.take (n:=b.post.length) (by simp);rw[List.take_left] at hPb;refine⟨hPa,?_⟩;have e3:a.post.length+b.post.length+1-a.post.length=b.post.length+1:=by omega
  exact hPb
 obtain⟨A,hA⟩:=eI (a.post.length);obtain⟨B,hB⟩:=eI (b.post.length);obtain⟨m,hm⟩:=eI (A+B);rw[← hA,← hB,← hm] at htl hc1 hcell hst hbt;rw[← hA,← hB,← hm] at hPab;rw[← hA] at hal;rw[← hB] at hbl;rw[← hA,← hB,← hm];have hst2:=hst;have Hcell:=qh hcell;have HPab:=qh hPab;have hw1:IntKind.i64.wrap ((m:Int)+1-1)=(m:Int):=by rw[IntWalk.i64_in _ (by omega)];omega
 have hw2:IntKind.i64.wrap ((m:Int)-1)=((m-1:Nat):Int):=by rw[IntWalk.i64_in _ (by omega)];omega
 have hm1:m-1<m+1:=by omega
 have hm2:((m-1:Nat):Int)<(m:Int)+1:=by omega
 have hbeg:(intCells (clsL (m+1) (begB t.post)))[m-1]? = some (.int .i64 (A:Int)):=by rw[ZbN _ (by omega),hbt]
 have Hbeg:=qh hbeg;have hmA:A+1≤m:=by omega
 have hmI:(A:Int)≤(m:Int):=by omega
 replace hm:=qh hm;replace hk:=qh hk;have Hhpl:=qh hpl;clear hpl;have Hhok:=qh hok;clear hok;replace hbt:=qh hbt;have Hhtl:=qh htl;clear htl;replace hA:=qh hA;have HhB:=qh hB;clear hB;have Hht:=qh ht;clear ht;clear hP hPab hcell e1 e2 h hst2 hbeg
 go_enter Try.func89, Try.ntmps89
 go_wp2_with (go_at_call 96;refine(hst.out).mono ?_;rintro e w1 hR;have h9:=ZmP Hhok.out hR;rw[Hhtl.out] at h9;obtain⟨g,bx,rfl,hS⟩:=h9;have k4:=hS.rcell (v:=.int .i64 (A:Int)) 0 (m-1) rfl (by omega) Hbeg.out;have HS:=qh hS;obtain⟨k2,k3⟩:=Hcell.out _ hS.bel;clear hR hS);refine(ZaE k l _ 2 hk.out (by omega)).mono ?_;rintro e w2 ⟨rfl,hb2⟩;have HS2:=qh (HS.out.call hb2);have k5:=HS2.out.rcell (v:=.int .i64 (A:Int)) 0 (m-1) rfl (by omega) Hbeg.out;have hne:(cap=A)=False:=by simp;omega
 have hBm:B=m-A:=by have:=hm.out;omega
 have hPb:=HPab.out;rw[hBm] at hPb;have HPb2:=qh hPb;have HhBm:=qh hBm;clear hBm;clear k2 k3 k4 hb2 hPb;go_wp2
 go_region
 go_wp2;have hS3:=(HS2.out.alloc w2.heap.size rfl #[.slice (some ⟨bb,off,none⟩) A cap,.slice (some ⟨bb,off+A*2,none⟩) (m-A) (cap-A)] 23).boxrow 1 2 1 [.slice (some ⟨bb,off,none⟩) A cap,.slice (some ⟨bb,off+A*2,none⟩) (m-A) (cap-A)] rfl rfl (by unfold maxLen;omega);go_ret;exact⟨_,_,_,rfl,hS3.drew.pick [1] (by decide),HPb2.out⟩
theorem Zde (a t:Ex) (k l:Int) (ht:t.post=a.post++[(k,l)]) (hk:Zaa (k,l)=1) (v:Value) (w:World) (h60:t.post.length≤60) (h:Pairs 0 w v t.post) :
  Calls Try.prog 89 #[v] w fun e w'=>∃ g va,e = .returned (.slice (some ⟨g,0,none⟩) 1 1)∧St w w' [Ent.row 23 1 (.slice (some ⟨g,0,none⟩) 1 1) 1 [va]]∧∀ u,Pairs 0 u v t.post→Pairs 0 u va a.post:=by
 have hok:=Zal t h60;have hst:=qh (Zbm t.post v w (by omega) h);have hP:=h;rw[ht] at hP;obtain⟨bb,off,cap,rfl,hc1,hc2,hb,hcell⟩:=ZaS hP;have hal:=ZaH a;have htl:t.post.length=a.post.length+1:=by rw[ht];simp
 have hPa:∀ u,Pairs 0 u (.slice (some ⟨bb,off,none⟩) (a.post.length+1) cap) t.post→Pairs 0 u (.slice (some ⟨bb,off,none⟩) a.post.length cap) a.post:=fun u hu=>by rw[ht] at hu;have hPa:=hu.take (n:=a.post.length) (by simp);rw[List.take_left] at hPa;exact hPa
 obtain⟨m,hm⟩:=eI (a.post.length);rw[← hm] at htl hc1 hcell hst hPa hal;rw[← hm];have Hcell:=qh hcell;have HPa:=qh hPa;have hw1:IntKind.i64.wrap ((m:Int)+1-1)=(m:Int):=by rw[IntWalk.i64_in _ (by omega)];omega
 replace hk:=qh hk;have Hhok:=qh hok;clear hok;have Hhtl:=qh htl;clear htl;have Hhm:=qh hm;clear hm;have Hht:=qh ht;clear ht;clear hP hPa hcell h
 go_enter Try.func89, Try.ntmps89
 go_wp2_with (go_at_call 96;refine(hst.out).mono ?_;rintro e w1 hR;have h9:=ZmP Hhok.out hR;rw[Hhtl.out] at h9;obtain⟨g,bx,rfl,hS⟩:=h9;have HS:=qh hS;obtain⟨k2,k3⟩:=Hcell.out _ hS.bel;clear hR hS);refine(ZaE k l _ 1 hk.out (by omega)).mono ?_;rintro e w2 ⟨rfl,hb2⟩;have HS2:=qh (HS.out.call hb2);have hS3:=(HS2.out.alloc w2.heap.size rfl #[.slice (some ⟨bb,off,none⟩) m cap] 23).boxrow 1 1 1 [.slice (some ⟨bb,off,none⟩) m cap] rfl rfl (by unfold maxLen;omega);have HS3:=qh hS3;clear k2 k3 hb2 hS3;go_wp2;go_ret;exact⟨_,_,rfl,HS3.out.pick [1] (by decide),HPa.out⟩
theorem ZaX (t:Ex) (k l:Int) (ht:t.post=[(k,l)]) (hk:Zaa (k,l)=0) (v:Value) (w:World) (h:Pairs 0 w v t.post) :
  Calls Try.prog 89 #[v] w fun e w'=>e = .returned (.slice none 0 0)∧Below w.heap.size w w':=by
 have htl:t.post.length=1:=by rw[ht];rfl
 have hok:=Zal t (by omega);have hst:=qh (Zbm t.post v w (by omega) h);rw[ht] at h;obtain⟨bb,off,cap,rfl,hc1,hc2,hb,hcell⟩:=ZaS (pre:=[]) h;simp only[List.length_nil,Nat.zero_add,Nat.zero_mul,Nat.add_zero] at hc1 hcell hst;simp only[List.length_nil,Nat.zero_add];have Hcell:=qh hcell;replace hk:=qh hk;have Hhok:=qh hok;clear hok;have Hhtl:=qh htl;clear htl;have Hht:=qh ht;clear ht;clear hcell h
 go_enter Try.func89, Try.ntmps89
 go_wp2_with (go_at_call 96;refine(hst.out).mono ?_;rintro e w1 hR;have h9:=ZmP Hhok.out hR;rw[Hhtl.out] at h9;obtain⟨g,bx,rfl,hS⟩:=h9;have HS:=qh hS;obtain⟨k2,k3⟩:=Hcell.out _ hS.bel;clear hR hS);refine(ZaE k l _ 0 hk.out (by omega)).mono ?_;rintro e w2 ⟨rfl,hb2⟩;have HS2:=qh (HS.out.call hb2);clear k2 k3 hb2;go_wp2;go_ret;exact⟨rfl,HS2.out.bel⟩
end Go.Proofs.Ytfanhfcamblghaa
namespace Go.Proofs.Ytfanhfcamblghaa
def StarL (L:List Nat→Prop) (w:List Nat):Prop:=∃ ws:List (List Nat),w=ws.flatten∧∀ u∈ws,L u
theorem StarL.nil {L:List Nat→Prop}:StarL L []:=⟨[],rfl,by simp⟩
theorem StarL.cons {L:List Nat→Prop} {u w:List Nat} (h:L u) (h':StarL L w):StarL L (u++w):=by
 obtain⟨ws,rfl,hw⟩:=h'
 exact⟨u::ws,rfl,fun x hx=>by
  rcases List.mem_cons.1 hx with rfl|hx
  ·exact h
  exact hw x hx⟩
def memE:Ex→List Nat→Prop
 | .zero,_=>False
 | .one,w=>w=[]
 | .ltr c,w=>w=[c.val]
 | .join a b,w=>∃ u v,w=u++v∧memE a u∧memE b v
 | .alt a b,w=>memE a w∨memE b w
 | .both a b,w=>memE a w∧memE b w
 | .neg a,w=>¬ memE a w
 | .star a,w=>StarL (memE a) w
end Go.Proofs.Ytfanhfcamblghaa
namespace Go.Proofs.Ytfanhfcamblghaa
open Go.RowKit
def hasE:Ex→Bool
 | .one=>true
 | .star _=>true
 | .join a b=>hasE a&&hasE b
 | .both a b=>hasE a&&hasE b
 | .alt a b=>hasE a||hasE b
 | .neg a => !hasE a
 | _=>false
theorem ZiE (x y:Ex) (w:List Nat):memE (.join x y) w↔∃ u v,w=u++v∧memE x u∧memE y v:=Iff.rfl
theorem Zc9:∀ t:Ex,hasE t=true↔memE t []:=by
 intro t
 induction t with
 | zero=>exact⟨fun h=>(by cases h),fun h=>h.elim⟩
 | one=>exact⟨fun _=>rfl,fun _=>rfl⟩
 | ltr c=>exact⟨fun h=>(by cases h),fun h=>(by cases (show([]:List Nat)=[c.val] from h))⟩
 | join a b ha hb =>
  show(hasE a&&hasE b)=true↔_;rw[Bool.and_eq_true,ha,hb,ZiE];constructor
  ·rintro⟨h1,h2⟩;exact⟨[],[],rfl,h1,h2⟩
  rintro⟨u,v,h,h1,h2⟩;obtain⟨rfl,rfl⟩:=List.append_eq_nil_iff.1 h.symm;exact⟨h1,h2⟩
 | alt a b ha hb =>show(hasE a||hasE b)=true↔_;rw[Bool.or_eq_true,ha,hb];exact Iff.rfl
 | both a b ha hb =>show(hasE a&&hasE b)=true↔_;rw[Bool.and_eq_true,ha,hb];exact Iff.rfl
 | neg a ha =>show(!hasE a)=true↔¬ memE a [];rw[← ha];simp
 | star a ha=>exact⟨fun _=>⟨[],rfl,by simp⟩,fun _=>rfl⟩
def hsP (k:Int) (st:List Bool):List Bool :=
 if k=1∨k=3 then st++[false] else if k=2 then st++[true] else if k=7 then st.set (st.length-1) (!st.getD (st.length-1) false) else if k=8 then st.set (st.length-1) true
 else if k=5 then st.take (st.length-2)++[st.getD (st.length-2) false||st.getD (st.length-1) false] else st.take (st.length-2)++[st.getD (st.length-2) false&&st.getD (st.length-1) false]
def hsS (es:List (Int × Int)):Nat→List Bool
 | 0=>[]
 | k+1=>hsP (es.getD k (0,0)).1 (hsS es k)
def hsF (ps:List (Int × Int)) (st:List Bool):List Bool:=ps.foldl (fun s p=>hsP p.1 s) st
theorem ZkN:∀ (es:List (Int × Int)) (k:Nat),k≤es.length→hsS es k=hsF (es.take k) []
 | _,0,_=>rfl
 | es,k+1,h=>by
  have h1:es.take (k+1)=es.take k++[es.getD k (0,0)]:=by rw[List.take_add_one,List.getD_eq_getElem?_getD,List.getElem?_eq_getElem (by omega)];rfl
  show hsP (es.getD k (0,0)).1 (hsS es k)=_;rw[h1,ZkN es k (by omega),hsF,hsF,List.foldl_append];rfl
theorem ZcY (a b:List (Int × Int)) (st:List Bool):hsF (a++b) st=hsF b (hsF a st):=by simp[hsF,List.foldl_append]
theorem Zm6:∀ (t:Ex) (st:List Bool),hsF t.post st=st++[hasE t]:=by
 intro t
 induction t with
 | zero=>exact fun st=>rfl
 | one=>exact fun st=>rfl
 | ltr c=>exact fun st=>rfl
 | join a b ha hb =>intro st;rw[show(Ex.join a b).post=a.post++b.post++[(4,0)] from rfl,ZcY,ZcY,ha,hb];simp[hsF,hsP,hasE,List.getD_eq_getElem?_getD]
 | alt a b ha hb =>intro st;rw[show(Ex.alt a b).post=a.post++b.post++[(5,0)] from rfl,ZcY,ZcY,ha,hb];simp[hsF,hsP,hasE,List.getD_eq_getElem?_getD]
 | both a b ha hb =>intro st;rw[show(Ex.both a b).post=a.post++b.post++[(6,0)] from rfl,ZcY,ZcY,ha,hb];simp[hsF,hsP,hasE,List.getD_eq_getElem?_getD]
 | neg a ha =>intro st;rw[show(Ex.neg a).post=a.post++[(7,0)] from rfl,ZcY,ha];simp[hsF,hsP,hasE,List.getD_eq_getElem?_getD]
 | star a ha =>intro st;rw[show(Ex.star a).post=a.post++[(8,0)] from rfl,ZcY,ha];simp[hsF,hsP,hasE,List.getD_eq_getElem?_getD]
theorem ZnS (t:Ex):hsS t.post t.post.length=[hasE t]:=by rw[ZkN _ _ (Nat.le_refl _),List.take_length,Zm6];rfl
theorem Zm7 (k l:Int) (st:List Bool) (h0:0≤Zaa (k,l)) (h1:Zaa (k,l)≤(st.length:Int)):((hsP k st).length:Int)=st.length-Zaa (k,l)+1:=by
 have hok:=ZbI h0;unfold Zaa at h1 ⊢;rw[if_pos hok] at h1 ⊢;unfold hsP;by_cases e1:k=1∨k=2∨k=3
 ·rw[if_pos e1];rcases e1 with rfl|rfl|rfl<;>simp
 rw[if_neg e1] at h1 ⊢;rw[if_neg (by omega),if_neg (by omega)];by_cases e2:k=7∨k=8
 ·rw[if_pos e2] at h1 ⊢;rcases e2 with rfl|rfl<;>simp
 rw[if_neg e2] at h1 ⊢;rw[if_neg (by omega),if_neg (by omega)]
 split<;>simp<;>omega
theorem ZmD {es:List (Int × Int)}:∀ k:Nat,(∀ j,j<k→0≤Zaa (es.getD j (0,0))∧Zaa (es.getD j (0,0))≤dep es j)→((hsS es k).length:Int)=dep es k
 | 0,_=>rfl
 | k+1,h=>by
  have ih:=ZmD k fun j hj=>h j (by omega)
  obtain⟨h1,h2⟩:=h k (by omega);have h3:=Zm7 (es.getD k (0,0)).1 (es.getD k (0,0)).2 (hsS es k) h1 (by rw[ih];exact h2);show((hsP (es.getD k (0,0)).1 (hsS es k)).length:Int)=dep es k-Zaa (es.getD k (0,0))+1;rw[h3,ih]
end Go.Proofs.Ytfanhfcamblghaa
