/-
  The closures of the program's PositionNfa; FirstPlaces, LastPlaces; Index of numbers.
  Conditions: the lists read as such; what is looked for is there.
-/
import Derived.Test.YtfanhfcamblghaaPq13Bli
import Derived.Test.YtfanhfcamblghaaPq15Fol
set_option maxHeartbeats 8000000
set_option maxRecDepth 100000
namespace Go.Proofs.Ytfanhfcamblghaa
open Go.RowKit
def Apa (R:List Ent):Prop:=∀ (i j:Nat) (x y:Ent),i≠j→R[i]? = some x→R[j]? = some y→x.apart y
theorem St.apa {w0 w:World} {R:List Ent} (h:St w0 w R):Apa R:=h.far
theorem Zll {R R':List Ent} (e:R.map Ent.foot=R'.map Ent.foot) (h:Apa R):Apa R':=fun i j x y hij hx hy=>by
 have key:∀ (i:Nat) (x:Ent),R'[i]? = some x→∃ x',R[i]? = some x'∧x'.foot=x.foot:=fun i x hx=>by
  have h1:(R'.map Ent.foot)[i]? = some x.foot:=by rw[List.getElem?_map,hx];rfl
  rw[← e,List.getElem?_map] at h1;cases h2:R[i]? with
  | none=>rw[h2] at h1;cases h1
  | some x' =>rw[h2] at h1;exact⟨x',rfl,Option.some.inj h1⟩
 obtain⟨x',h1,e1⟩:=key i x hx;obtain⟨y',h2,e2⟩:=key j y hy;intro k hk hk2;exact h i j x' y' hij h1 h2 k (by rw[e1];exact hk) (by rw[e2];exact hk2)
theorem St.opn {w0 w':World} {A' R:List Ent} (hap:Apa R) (h':St w0 w' (A'++[Ent.all R])):St w0 w' (A'++R):=by
 have hX:(A'++[Ent.all R])[A'.length]? = some (Ent.all R):=by simp
 have hXh:=h'.has _ _ hX
 have key:∀ i x,(A'++R)[i]? = some x→(i<A'.length∧(A'++[Ent.all R])[i]? = some x)∨(A'.length≤i∧R[i-A'.length]? = some x):=fun i x hx=>by
  rw[List.getElem?_append] at hx
  split at hx
  ·rename_i hl;exact Or.inl ⟨hl,by rw[List.getElem?_append_left hl];exact hx⟩
  exact Or.inr ⟨by omega,hx⟩
 refine⟨h'.bel,fun i x hx => ?_,fun i j x y hij hx hy => ?_⟩
 ·rcases key i x hx with⟨-,h1⟩|⟨-,h1⟩
  ·exact h'.has i x h1
  have hm:=List.mem_of_getElem? h1;exact⟨hXh.1 x hm,fun k hk=>hXh.2 k ⟨x,hm,hk⟩⟩
 rcases key i x hx with⟨hi,h1⟩|⟨hi,h1⟩
 ·rcases key j y hy with⟨hj,h2⟩|⟨hj,h2⟩
  ·exact h'.far i j x y hij h1 h2
  intro k hk hk2;exact h'.far i A'.length x _ (by omega) h1 hX k hk ⟨y,List.mem_of_getElem? h2,hk2⟩
 rcases key j y hy with⟨hj,h2⟩|⟨hj,h2⟩
 ·intro k hk hk2;exact h'.far A'.length j _ y (by omega) hX h2 k ⟨x,List.mem_of_getElem? h1,hk⟩ hk2
 exact hap (i-A'.length) (j-A'.length) x y (by omega) h1 h2
theorem Zjl (xs:List Int) (y:Int) (p:Nat) (v:Value) (w:World) (h1:Ints 0 w v xs) (hp:p<xs.length) (hy:xs.getD p 0=y) (hno:∀ j,j<p→xs.getD j 0≠y) :
  Calls Try.prog 32 #[v,.int .i64 y] w fun e w'=>e = .returned (.int .i64 (p:Nat))∧Below w.heap.size w w':=by
 obtain⟨a1,c1,rfl,hc1,hm1,hr1⟩:=h1.form;obtain⟨b1,o1,rfl,-,hbl1,hcs1⟩:=hr1 (by omega);have Hcs:=qh hcs1;have Hno:=qh hno;replace hy:=qh hy;clear hr1 hcs1 hno h1
 go_enter Try.func32, Try.ntmps32
 go_wp2
 go_loopw [8] (fun i wr=>∃ k:Nat,k≤p∧i = .int .i64 k∧Below w.heap.size w wr) (fun i _=>p+1-(intOf i).toNat)
 case atStart=>exact⟨0,Nat.zero_le _,rfl,Below.refl _ _⟩
 case round =>
  obtain⟨k,hk,rfl,hb⟩:=hrel;have hkl:(k:Int)<xs.length:=by omega
  have k1:=(bcell hb b1 (o1+k) hbl1).trans (Hcs.out k (by omega));obtain⟨z,hz⟩:=eI (xs.getD k 0);rw[← hz] at k1;replace hb:=qh hb;by_cases he:k=p
  ·subst he;have hzy:z=y:=by rw[hz];exact hy.out
   subst hzy;have Hhz:=qh hz;clear hz;go_wp2;go_ret;exact⟨rfl,hb.out⟩
  have hne:y≠z:=by rw[hz];exact(Hno.out k (by omega)).symm
  obtain⟨q1,q2,q3,q4⟩:=Zan hne;have Hhz:=qh hz;clear hz;have Hhne:=qh hne;clear hne;go_wp2;go_roundw
  case rel=>exact⟨k+1,by omega,by go_num,hb.out⟩
  case measure=>simp[intOf];omega
def sidx (P:List Nat) (p:Nat):Nat:=P.idxOf p+1
theorem Zb7 (P:List Nat) (p:Nat) (hp:p∈P) (hl:P.length≤1000) (b:Nat) (v:Value) (w:World) (hc:w.cell? ⟨b,0,none⟩=some v) (h:Ints 0 w v (P.map fun (x:Nat)=>(x:Int))) :
  Calls Try.prog 31 #[.int .i64 (p:Int),.pointer (some ⟨b,0,none⟩)] w fun e w'=>e = .returned (.int .i64 (sidx P p:Int))∧Below w.heap.size w w':=by
 obtain⟨a1,c1,rfl,-⟩:=h.form;rw[List.length_map] at hc h;obtain⟨k,hk⟩:=eJ (P.idxOf p);have hkl:k<P.length:=by rw[← hk];exact List.idxOf_lt_length_of_mem hp
 have hat:∀ j,j<P.length→(P.map fun (x:Nat)=>(x:Int)).getD j 0=((P.getD j 0:Nat):Int):=fun j hj=>by rw[List.getD_eq_getElem?_getD,List.getD_eq_getElem?_getD,List.getElem?_map,List.getElem?_eq_getElem hj];rfl
 have HI:=qh (Zjl (P.map fun (x:Nat)=>(x:Int)) (p:Int) k _ w h (by rw[List.length_map];exact hkl) (by
  rw[hat k hkl,List.getD_eq_getElem?_getD,List.getElem?_eq_getElem hkl];have:P[k]=p:=by have h2:P[P.idxOf p]'(by rw[hk];exact hkl)=p:=List.getElem_idxOf _;simpa [hk] using h2
  show((P[k]:Nat):Int)=(p:Int);rw[this]) (fun j hj=>by
  rw[hat j (by omega),List.getD_eq_getElem?_getD,List.getElem?_eq_getElem (by omega)];show((P[j]:Nat):Int)≠(p:Int);intro he;have he:P[j]=p:=by omega
  have h3:=List.not_of_lt_findIdx (p:=(·==p)) (xs:=P) (i:=j) (by show j<P.idxOf p;rw[hk];exact hj);rw[he] at h3;simp at h3))
 have hsx:(sidx P p:Int)=(k:Int)+1:=by unfold sidx;rw[hk];omega
 rw[hsx];have hw:IntKind.i64.wrap ((k:Int)+1)=(k:Int)+1:=IntWalk.i64_in _ (by omega);replace hk:=qh hk;have Hhsx:=qh hsx;clear hsx;clear h hat hp
 go_enter Try.func31, Try.ntmps31
 go_wp2_with fail;refine HI.out.mono ?_;rintro e w2 ⟨rfl,hb2⟩;go_wp2;go_ret;exact⟨rfl,hb2⟩
def mvC (N:Nat) (T:Nat→Nat→Bool):Array Value:=((List.range (N*N)).map fun i=>Value.bool (T (i / N) (i % N))).toArray
theorem Zks {N i j:Nat} (hi:i<N) (hj:j<N):i*N+j<N*N∧(i*N+j) / N=i∧(i*N+j) % N=j:=by
 refine⟨?_,?_,?_⟩
 ·have h1:i*N+N≤N*N:=by rw[← Nat.succ_mul];exact Nat.mul_le_mul_right N hi
  omega
 ·rw[Nat.mul_comm,Nat.mul_add_div (by omega),Nat.div_eq_of_lt hj,Nat.add_zero]
 rw[Nat.mul_comm,Nat.mul_add_mod,Nat.mod_eq_of_lt hj]
theorem Zkt {N:Nat} (T:Nat→Nat→Bool) {i j:Nat} (hi:i<N) (hj:j<N):(mvC N T)[i*N+j]? = some (.bool (T i j)):=by obtain⟨h1,h2,h3⟩:=Zks hi hj;unfold mvC;rw[List.getElem?_toArray,List.getElem?_map,List.getElem?_range h1];simp[h2,h3]
theorem Zkr {N:Nat} (T:Nat→Nat→Bool) {i j:Nat} (hi:i<N) (hj:j<N):(mvC N T).setIfInBounds (i*N+j) (.bool true)=mvC N (fun a b=>(decide (a=i)&&decide (b=j))||T a b):=by
 obtain⟨h1,h2,h3⟩:=Zks hi hj;apply Array.ext';apply List.ext_getElem?;intro k;unfold mvC;simp only[List.setIfInBounds_toArray,List.getElem?_set,List.length_map,List.length_range,List.getElem?_map];by_cases hk:i*N+j=k
 ·subst hk;rw[if_pos rfl,if_pos h1,List.getElem?_range h1];simp[h2,h3]
 rw[if_neg hk];by_cases hl:k<N*N
 ·rw[List.getElem?_range hl];simp only[Option.map_some,Option.some.injEq,Value.bool.injEq]
  have hne:(decide (k / N=i)&&decide (k % N=j))=false:=by
   rw[Bool.and_eq_false_iff,decide_eq_false_iff_not,decide_eq_false_iff_not];by_cases h4:k / N=i
   ·refine .inr fun h5=>hk ?_
    rw[← h4,← h5,Nat.mul_comm];exact Nat.div_add_mod k N
   exact .inl h4
  rw[hne,Bool.false_or]
 rw[List.getElem?_eq_none (by simp;omega)];rfl
def tabP (T0:Nat→Nat→Bool) (P:List Nat) (G:List (Nat × Nat)) (a b:Nat):Bool:=T0 a b||G.any fun x=>decide (sidx P x.1=a)&&decide (sidx P x.2=b)
theorem ZjL (T0:Nat→Nat→Bool) (P:List Nat) (G:List (Nat × Nat)) (p q:Nat):tabP T0 P (G++[(p,q)])=fun a b=>(decide (a=sidx P p)&&decide (b=sidx P q))||tabP T0 P G a b:=by
 funext a b
 unfold tabP;rw[List.any_append];simp only[List.any_cons,List.any_nil,Bool.or_false];rw[show decide (sidx P p=a)=decide (a=sidx P p) by simp[eq_comm],show decide (sidx P q=b)=decide (b=sidx P q) by simp[eq_comm]];cases T0 a b<;>cases (G.any fun x=>decide (sidx P x.1=a)&&decide (sidx P x.2=b))<;>cases (decide (a=sidx P p)&&decide (b=sidx P q))<;>rfl
def mvE (N b4 b5 b7:Nat) (aP:Option Addr) (cP:Nat) (P:List Nat) (T:Nat→Nat→Bool):List Ent :=
 [Ent.box b4 #[.slice aP P.length cP] 26,Ent.row 3 1 (.slice aP P.length cP) P.length (natC P),Ent.box b5 #[.func (.func 31) #[] #[.pointer (some ⟨b4,0,none⟩)]] 66,Ent.box b7 (mvC N T) 68]
theorem ZnE (N:Nat) (hN:N=40) (b4 b5 b7:Nat) (aP:Option Addr) (cP:Nat) (P:List Nat) (hl:P.length<40) (T:Nat→Nat→Bool) (hap:Apa (mvE N b4 b5 b7 aP cP P T)) (p q:Nat) (hp:p∈P) (hq:q∈P) (w0 w:World) (X:Ent) (hS:St w0 w [X,Ent.all (mvE N b4 b5 b7 aP cP P T)]) :
  Calls Try.prog 35 #[.int .i64 (p:Int),.int .i64 (q:Int),.pointer (some ⟨b7,0,none⟩),.pointer (some ⟨b5,0,none⟩)] w fun e w'=>e = .returned (.tuple #[])∧St w0 w' ([X]++mvE N b4 b5 b7 aP cP P (fun a b=>(decide (a=sidx P p)&&decide (b=sidx P q))||T a b)):=by
 have h0:=St.opn (A':=[X]) hap hS;have hip:P.idxOf p<P.length:=List.idxOf_lt_length_of_mem hp;have hiq:P.idxOf q<P.length:=List.idxOf_lt_length_of_mem hq;have Hp:=qh (fun (u:World) hc h=>Zb7 P p hp (by omega) b4 (.slice aP P.length cP) u hc h);have Hq:=qh (fun (u:World) hc h=>Zb7 P q hq (by omega) b4 (.slice aP P.length cP) u hc h);unfold mvE at h0 ⊢;have hs1:sidx P p<40:=by unfold sidx;omega
 have hs2:sidx P q<40:=by unfold sidx;omega
 obtain⟨sp,hsp⟩:∃ s,sidx P p=s:=⟨_,rfl⟩;obtain⟨sq,hsq⟩:∃ s,sidx P q=s:=⟨_,rfl⟩;obtain⟨LP,hLP⟩:∃ l,P.length=l:=⟨_,rfl⟩;rw[hsp] at hs1 Hp;rw[hsq] at hs2 Hq;rw[hsp,hsq];rw[hLP] at h0 Hp Hq;rw[hLP];have hat:=Zkt (N:=N) T (i:=sp) (j:=sq) (by omega) (by omega);have hset:=Zkr (N:=N) T (i:=sp) (j:=sq) (by omega) (by omega);rw[show sp*N+sq=sp*40+sq by rw[hN]] at hat hset;have hs1I:(sp:Int)<40:=by omega
 have hs2I:(sq:Int)<40:=by omega
 have HS0:=qh h0;replace hsp:=qh hsp;have Hhsq:=qh hsq;clear hsq;replace hLP:=qh hLP;have Hhat:=qh hat;clear hat;have Hhset:=qh hset;clear hset;have HhN:=qh hN;clear hN;clear h0 hS hap hip hiq hp hq hl
 go_enter Try.func35, Try.ntmps35
 refine wp_region_any (by kernel_rfl) ?_
 refine Zaf (fun A listed a w'=>∃ (l0 l1 l2 l3 l4 l5 l6 l7 l8:Bool) ,listed=#[l0,l1,l2,l3,l4,l5,l6,l7,l8] ∧
   a=⟨((((((((A.tmps.setIfInBounds 6 (if l0=true then .func (.func 31) #[] #[.pointer (some ⟨b4,0,none⟩)] else A.tmps.getD 6 undef)).setIfInBounds 7 (if l1=true then .int .i64 (p:Int) else A.tmps.getD 7 undef)).setIfInBounds 8 (if l2=true then .int .i64 (sp:Int) else A.tmps.getD 8 undef)).setIfInBounds 9 (if l3=true then .func (.func 31) #[] #[.pointer (some ⟨b4,0,none⟩)] else A.tmps.getD 9 undef)).setIfInBounds 10 (if l4=true then .int .i64 (q:Int) else A.tmps.getD 10 undef)).setIfInBounds 11 (if l5=true then .int .i64 (sq:Int) else A.tmps.getD 11 undef)).setIfInBounds 12 (if l6=true then .pointer (some ⟨b7,sp*40,none⟩) else A.tmps.getD 12 undef)).setIfInBounds 13 (if l7=true then .pointer (some ⟨b7,sp*40+sq,none⟩) else A.tmps.getD 13 undef)),A.defers⟩ ∧
   St w0 w' [X,Ent.box b4 #[.slice aP LP cP] 26,Ent.row 3 1 (.slice aP LP cP) LP (natC P),Ent.box b5 #[.func (.func 31) #[] #[.pointer (some ⟨b4,0,none⟩)]] 66,(if l8=true then Ent.box b7 (mvC N (fun a b=>(decide (a=sp)&&decide (b=sq))||T a b)) 68 else Ent.box b7 (mvC N T) 68)]) ?_ ?_ ?_
 ·rintro listed a w' ⟨l0,l1,l2,l3,l4,l5,l6,l7,l8,rfl,rfl,hS⟩ i hi;obtain⟨hun,o,ho,hall⟩:=mem_ready.1 hi;have hlt:=(Array.getElem?_eq_some_iff.1 ho).1;refine wpOp_step ho (fun K hK => ?_);clear hi;have HS:=qh hS;clear hS;simp only[List.setIfInBounds_toArray,List.set_cons_zero,List.set_cons_succ,Array.getD_eq_getD_getElem?,List.getElem?_toArray,List.getElem?_cons_zero,List.getElem?_cons_succ,Option.getD_some];obtain h|h|h|h|h|h|h|h|h:i=0∨i=1∨i=2∨i=3∨i=4∨i=5∨i=6∨i=7∨i=8:=by simp at hlt;omega
  all_goals subst h
  all_goals simp only[List.getElem?_toArray,List.getElem?_cons_zero,List.getElem?_cons_succ,Option.some.injEq] at ho
  all_goals subst ho
  all_goals simp[Region.binds] at hun hall
  ·subst hun;have e0:=HS.out.cell (v:=.func (.func 31) #[] #[.pointer (some ⟨b4,0,none⟩)]) 3 0 rfl rfl;go_simp;exact hK _ _ ⟨true,l1,l2,l3,l4,l5,l6,l7,l8,rfl,(by simp),HS.out⟩
  ·subst hun;go_simp;exact hK _ _ ⟨l0,true,l2,l3,l4,l5,l6,l7,l8,rfl,(by simp),HS.out⟩
  ·obtain⟨rfl,rfl⟩:=hall;subst hun;go_simp
   go_at_call 31
   refine(Hp.out _ (HS.out.cell (v:=.slice aP LP cP) 1 0 rfl rfl) (by have h:=Zaj (HS.out.row 2 rfl);exact h)).mono ?_;rintro e u1 ⟨rfl,hb⟩;have hS2:=HS.out.call hb;have HhS2:=qh hS2;clear hS2;go_simp;exact hK _ _ ⟨true,true,true,l3,l4,l5,l6,l7,l8,rfl,(by simp),HhS2.out⟩
  ·subst hun;have e0:=HS.out.cell (v:=.func (.func 31) #[] #[.pointer (some ⟨b4,0,none⟩)]) 3 0 rfl rfl;go_simp;exact hK _ _ ⟨l0,l1,l2,true,l4,l5,l6,l7,l8,rfl,(by simp),HS.out⟩
  ·subst hun;go_simp;exact hK _ _ ⟨l0,l1,l2,l3,true,l5,l6,l7,l8,rfl,(by simp),HS.out⟩
  ·obtain⟨rfl,rfl,rfl⟩:=hall;subst hun;go_simp
   go_at_call 31
   refine(Hq.out _ (HS.out.cell (v:=.slice aP LP cP) 1 0 rfl rfl) (by have h:=Zaj (HS.out.row 2 rfl);exact h)).mono ?_;rintro e u1 ⟨rfl,hb⟩;have hS2:=HS.out.call hb;have HhS2:=qh hS2;clear hS2;go_simp;exact hK _ _ ⟨l0,l1,true,true,true,true,l6,l7,l8,rfl,(by simp),HhS2.out⟩
  ·obtain rfl:=hall;subst hun;go_simp;exact hK _ _ ⟨l0,l1,true,l3,l4,l5,true,l7,l8,rfl,(by simp),HS.out⟩
  ·obtain⟨rfl,rfl,rfl,rfl,rfl,rfl,rfl,-⟩:=hall;subst hun;go_simp;exact hK _ _ ⟨true,true,true,true,true,true,true,true,l8,rfl,(by simp),HS.out⟩
  obtain⟨rfl,rfl,rfl,rfl,rfl,rfl,rfl,-⟩:=hall;subst hun;have f0:=HS.out.fr 4 (sp*40+sq) rfl;have k0:=HS.out.cell (v:=.bool (T sp sq)) 4 (sp*40+sq) rfl Hhat.out;go_simp;exact hK _ _ ⟨true,true,true,true,true,true,l6,true,true,rfl,(by simp),(Hhset.out ▸ HS.out.set 4 rfl (sp*40+sq) (.bool true))⟩
 ·rintro listed a w' ⟨l0,l1,l2,l3,l4,l5,l6,l7,l8,rfl,rfl,hS⟩ hr;have hall:=Zag (by kernel_rfl) rfl hr;obtain rfl:l0=true:=by simpa using hall 0 (by simp)
  obtain rfl:l1=true:=by simpa using hall 1 (by simp)
  obtain rfl:l2=true:=by simpa using hall 2 (by simp)
  obtain rfl:l3=true:=by simpa using hall 3 (by simp)
  obtain rfl:l4=true:=by simpa using hall 4 (by simp)
  obtain rfl:l5=true:=by simpa using hall 5 (by simp)
  obtain rfl:l6=true:=by simpa using hall 6 (by simp)
  obtain rfl:l7=true:=by simpa using hall 7 (by simp)
  obtain rfl:l8=true:=by simpa using hall 8 (by simp)
  clear hall hr ;simp only[↓reduceIte] at hS ⊢;simp only[List.setIfInBounds_toArray,List.set_cons_zero,List.set_cons_succ];have HS5:=qh hS;clear hS;go_wp2;refine bodyPost_end (v:=.tuple #[]) (by simp[results,Try.results35,go_sem]) rfl ?_;exact⟨rfl,HS5.out⟩
 refine⟨false,false,false,false,false,false,false,false,false,rfl,(by simp),?_⟩;exact HS0.out.drew.pick [0,1,2,3,4] (by decide)
theorem Zmx (N:Nat) (hN:N=40) (b4 b5 b7:Nat) (aP:Option Addr) (cP:Nat) (P:List Nat) (hl:P.length<40) (T0:Nat→Nat→Bool) (hap:Apa (mvE N b4 b5 b7 aP cP P T0)) :
  AddK (.pointer (some ⟨b7,0,none⟩)) (.pointer (some ⟨b5,0,none⟩)) P (fun G=>Ent.all (mvE N b4 b5 b7 aP cP P (tabP T0 P G))):=by
 refine⟨fun G p q hp hq w0 w X hS => ?_⟩;refine(ZnE N hN b4 b5 b7 aP cP P hl (tabP T0 P G) (Zll (show(mvE N b4 b5 b7 aP cP P T0).map Ent.foot=(mvE N b4 b5 b7 aP cP P (tabP T0 P G)).map Ent.foot from rfl) hap) p q hp hq w0 w X (hS.pick [1,0] (by decide))).mono ?_;rintro e w' ⟨rfl,hS'⟩;refine⟨rfl,?_⟩;have h:=St.pack (A:=[X]) hS';rw[ZjL];exact h.pick [1,0] (by decide)
theorem Zdn (t:Ex) (hp:plnE t) (hpl:Zaw t.post=true) (h60:t.post.length≤60) (v:Value) (w:World) (h:Pairs 0 w v t.post) :
  Calls Try.prog 33 #[v] w fun e w'=>ROn (edP true t 0) w e w':=by
 have hok:=Zal t h60;have HI:=qh (Zbi t.post v w h true (by rw[hok,hpl];rfl));have HE:=qh (fun (u:World) hu=>Zda true t hp h60 0 v u (by omega) hu);have Hh:=qh h;clear h hok
 go_enter Try.func33, Try.ntmps33
 go_wp2_with fail;refine HI.out.mono ?_;rintro e w2 ⟨rfl,hb2⟩;have HS2:=qh ((St.start w).call hb2);have HP:=qh (Hh.out.below hb2);clear hb2;go_wp2_with fail;refine(HE.out _ HP.out).mono ?_;rintro e w3 ⟨a3,c3,rfl,hS3⟩;have HS3:=qh (HS2.out.cat hS3);clear hS3;go_wp2;go_ret;exact⟨a3,c3,rfl,HS3.out⟩
theorem ZdM (t:Ex) (hp:plnE t) (hpl:Zaw t.post=true) (h60:t.post.length≤60) (v:Value) (w:World) (h:Pairs 0 w v t.post) :
  Calls Try.prog 37 #[v] w fun e w'=>ROn (edP false t 0) w e w':=by
 have hok:=Zal t h60;have HI:=qh (Zbi t.post v w h true (by rw[hok,hpl];rfl));have HE:=qh (fun (u:World) hu=>Zda false t hp h60 0 v u (by omega) hu);have Hh:=qh h;clear h hok
 go_enter Try.func37, Try.ntmps37
 go_wp2_with fail;refine HI.out.mono ?_;rintro e w2 ⟨rfl,hb2⟩;have HS2:=qh ((St.start w).call hb2);have HP:=qh (Hh.out.below hb2);clear hb2;go_wp2_with fail;refine(HE.out _ HP.out).mono ?_;rintro e w3 ⟨a3,c3,rfl,hS3⟩;have HS3:=qh (HS2.out.cat hS3);clear hS3;go_wp2;go_ret;exact⟨a3,c3,rfl,HS3.out⟩
def fstT (P l:List Nat) (a b:Nat):Bool:=decide (a=0)&&l.any fun p=>decide (sidx P p=b)
theorem ZkT (P l:List Nat) (p:Nat):fstT P (l++[p])=fun a b=>(decide (a=0)&&decide (b=sidx P p))||fstT P l a b:=by
 funext a b
 unfold fstT;rw[List.any_append];simp only[List.any_cons,List.any_nil,Bool.or_false];rw[show decide (sidx P p=b)=decide (b=sidx P p) by simp[eq_comm]];cases decide (a=0)<;>cases (l.any fun p=>decide (sidx P p=b))<;>cases decide (b=sidx P p)<;>rfl
theorem Zl5 (P:List Nat):fstT P []=fun _ _=>false:=by
 funext a b
 simp[fstT]
theorem Zls (T0:Nat→Nat→Bool) (P:List Nat):tabP T0 P []=T0:=by
 funext a b
 simp[tabP]
def posT (t:Ex) (P:List Nat):Nat→Nat→Bool:=tabP (fstT P (edP true t 0)) P (flP t 0)
def ltP (es:List (Int × Int)) (P:List Nat) (j:Nat):Int:=(es.getD (P.getD (j-1) 0) (0,0)).2
def rwP (es:List (Int × Int)) (P:List Nat) (T:Nat→Nat→Bool) (i:Nat):Nat→List (Int × Int × Int)
 | 0=>[]
 | m+1=>if T i m=true then rwP es P T i m++[((i:Int),ltP es P m,(m:Int))] else rwP es P T i m
def sqP (es:List (Int × Int)) (P:List Nat) (T:Nat→Nat→Bool) (S:Nat):Nat→List (Int × Int × Int)
 | 0=>[]
 | n+1=>sqP es P T S n++rwP es P T n S
theorem Zgt (es:List (Int × Int)) (P:List Nat) (T:Nat→Nat→Bool) (i:Nat):∀ m,(rwP es P T i m).length≤m
 | 0=>Nat.le_refl _
 | m+1=>by
  have ih:=Zgt es P T i m;unfold rwP
  split
  ·rw[List.length_append];simp;omega
  omega
theorem Ze2 (es:List (Int × Int)) (P:List Nat) (T:Nat→Nat→Bool) (S:Nat):∀ n,(sqP es P T S n).length≤n*S
 | 0=>by simp[sqP]
 | n+1=>by have ih:=Ze2 es P T S n;have h2:=Zgt es P T n S;unfold sqP;rw[List.length_append,Nat.succ_mul];omega
def endL (t:Ex) (P:List Nat):List Int:=(if hasE t=true then [0] else [])++(edP false t 0).map fun p=>(sidx P p:Int)
def posN (t:Ex):NfaD:=⟨((lpF t.post t.post.length).length:Int)+1,sqP t.post (lpF t.post t.post.length) (posT t (lpF t.post t.post.length)) ((lpF t.post t.post.length).length+1) ((lpF t.post t.post.length).length+1),[0],endL t (lpF t.post t.post.length)⟩
def posO (t:Ex):Option NfaD:=if 40≤(lpF t.post t.post.length).length then none else if Zaq (posN t)=true then some (posN t) else none
def PosQ (es:List (Int × Int)) (o:Option NfaD):Prop:=(exOk es=true∧Zaw es=true∧∃ t:Ex,t.post=es∧o=posO t)∨((exOk es=false∨Zaw es=false)∧o=none)
theorem ZdA {t:Ex} {P:List Nat} (i:Nat):posT t P i 0=false:=by
 have h0:∀ p,sidx P p≠0:=fun p=>by unfold sidx;omega
 unfold posT tabP fstT;rw[Bool.or_eq_false_iff,Bool.and_eq_false_iff];refine⟨.inr ?_,?_⟩
 ·rw[List.any_eq_false];intro p _;simp[h0 p]
 rw[List.any_eq_false];intro x _;simp[h0 x.2]
theorem Zb4 {es:List (Int × Int)}:∀ {k p:Nat},p∈lpF es k↔p<k∧(es.getD p (0,0)).1=3
 | 0,p=>by simp[lpF]
 | k+1,p=>by
  have ih:=Zb4 (es:=es) (k:=k) (p:=p);unfold lpF
  split
  ·rename_i h;rw[List.mem_append,ih,List.mem_singleton];constructor
   ·rintro(⟨h1,h2⟩|rfl)
    ·exact⟨by omega,h2⟩
    exact⟨by omega,h⟩
   rintro⟨h1,h2⟩;by_cases hp:p=k
   ·exact .inr hp
   exact .inl ⟨by omega,h2⟩
  rename_i h;rw[ih];constructor
  ·rintro⟨h1,h2⟩;exact⟨by omega,h2⟩
  rintro⟨h1,h2⟩;by_cases hp:p=k
  ·subst hp;exact absurd h2 h
  exact⟨by omega,h2⟩
theorem Zcf (es:List (Int × Int)):∀ k,(lpF es k).Pairwise (·<·)
 | 0=>List.Pairwise.nil
 | k+1=>by
  unfold lpF
  split
  ·refine List.pairwise_append.2 ⟨Zcf es k,List.pairwise_singleton ..,fun x hx y hy => ?_⟩;rw[List.mem_singleton.1 hy];exact(Zb4.1 hx).1
  exact Zcf es k
theorem Zcm (f:Bool):∀ (t:Ex) (pre post:List (Int × Int)) (p:Nat),p∈edP f t pre.length→((pre++t.post++post).getD p (0,0)).1=3:=by
 intro t
 induction t with
 | zero=>intro pre post p h;cases h
 | one=>intro pre post p h;cases h
 | ltr c =>
  intro pre post p h;obtain rfl:p=pre.length:=by simpa [edP] using h
  simp[Ex.post,List.getD_eq_getElem?_getD]
 | join a b ha hb =>
  intro pre post p h
  have key:p∈edP f a pre.length∨p∈edP f b (pre.length+a.post.length):=by
   unfold edP at h
   split at h
   ·split at h
    ·exact List.mem_append.1 h
    exact .inl h
   split at h
   ·exact List.mem_append.1 h
   exact .inr h
  rcases key with h|h
  ·have:=ha pre (b.post++[(4,0)]++post) p h;simpa [Ex.post,List.append_assoc] using this
  rw[← List.length_append] at h;have:=hb (pre++a.post) ([(4,0)]++post) p h;simpa [Ex.post,List.append_assoc] using this
 | alt a b ha hb =>
  intro pre post p h;rcases List.mem_append.1 (show p∈edP f a pre.length++edP f b (pre.length+a.post.length) from h) with h|h
  ·have:=ha pre (b.post++[(5,0)]++post) p h;simpa [Ex.post,List.append_assoc] using this
  rw[← List.length_append] at h;have:=hb (pre++a.post) ([(5,0)]++post) p h;simpa [Ex.post,List.append_assoc] using this
 | both a b ha hb=>intro pre post p h;cases h
 | neg a ha=>intro pre post p h;cases h
 | star a ha =>intro pre post p h;have:=ha pre ([(8,0)]++post) p h;simpa [Ex.post,List.append_assoc] using this
theorem ZcZ (f:Bool) (t:Ex) {p:Nat} (h:p∈edP f t 0):p∈lpF t.post t.post.length:=by have h1:=Zcm f t [] [] p h;simp only[List.nil_append,List.append_nil] at h1;have h2:=ZaZ f t 0 p h;exact Zb4.2 ⟨by omega,h1⟩
theorem Zjo:∀ (t:Ex) (pre post:List (Int × Int)) (p q:Nat),(p,q)∈flP t pre.length→((pre++t.post++post).getD p (0,0)).1=3∧((pre++t.post++post).getD q (0,0)).1=3:=by
 intro t
 induction t with
 | zero=>intro pre post p q h;cases h
 | one=>intro pre post p q h;cases h
 | ltr c=>intro pre post p q h;cases h
 | join a b ha hb =>
  intro pre post p q h;rcases List.mem_append.1 (show(p,q)∈flP a pre.length++flP b (pre.length+a.post.length)++Zar (edP false a pre.length) (edP true b (pre.length+a.post.length)) from h) with h|h
  ·rcases List.mem_append.1 h with h|h
   ·have:=ha pre (b.post++[(4,0)]++post) p q h;simpa [Ex.post,List.append_assoc] using this
   rw[← List.length_append] at h;have:=hb (pre++a.post) ([(4,0)]++post) p q h;simpa [Ex.post,List.append_assoc] using this
  obtain⟨h1,h2⟩:=ZaK.1 h;rw[← List.length_append] at h2;have e1:=Zcm false a pre (b.post++[(4,0)]++post) p h1;have e2:=Zcm true b (pre++a.post) ([(4,0)]++post) q h2;exact⟨by simpa [Ex.post,List.append_assoc] using e1,by simpa [Ex.post,List.append_assoc] using e2⟩
 | alt a b ha hb =>
  intro pre post p q h;rcases List.mem_append.1 (show(p,q)∈flP a pre.length++flP b (pre.length+a.post.length) from h) with h|h
  ·have:=ha pre (b.post++[(5,0)]++post) p q h;simpa [Ex.post,List.append_assoc] using this
  rw[← List.length_append] at h;have:=hb (pre++a.post) ([(5,0)]++post) p q h;simpa [Ex.post,List.append_assoc] using this
 | both a b ha hb=>intro pre post p q h;cases h
 | neg a ha=>intro pre post p q h;cases h
 | star a ha =>
  intro pre post p q h;rcases List.mem_append.1 (show(p,q)∈flP a pre.length++Zar (edP false a pre.length) (edP true a pre.length) from h) with h|h
  ·have:=ha pre ([(8,0)]++post) p q h;simpa [Ex.post,List.append_assoc] using this
  obtain⟨h1,h2⟩:=ZaK.1 h;have e1:=Zcm false a pre ([(8,0)]++post) p h1;have e2:=Zcm true a pre ([(8,0)]++post) q h2;exact⟨by simpa [Ex.post,List.append_assoc] using e1,by simpa [Ex.post,List.append_assoc] using e2⟩
theorem ZfA (t:Ex) {p q:Nat} (h:(p,q)∈flP t 0):p∈lpF t.post t.post.length∧q∈lpF t.post t.post.length:=by have h1:=Zjo t [] [] p q h;simp only[List.nil_append,List.append_nil] at h1;have h2:=Zhr t 0 p q h;exact⟨Zb4.2 ⟨by omega,h1.1⟩,Zb4.2 ⟨by omega,h1.2⟩⟩
theorem ZlL:∀ (t:Ex) (pre post:List (Int × Int)),mtc (fun p=>((pre++t.post++post).getD p (0,0)).2.toNat) t pre.length:=by
 have cg:∀ (t:Ex) (L M:Nat→Nat) (n:Nat),(∀ p,L p=M p)→mtc L t n→mtc M t n:=fun t L M n h=>by have:L=M:=funext h;rw[this];exact id
 intro t
 induction t with
 | zero=>exact fun _ _=>trivial
 | one=>exact fun _ _=>trivial
 | ltr c =>intro pre post;show((pre++[(3,(c.val:Int))]++post).getD pre.length (0,0)).2.toNat=c.val;simp[List.getD_eq_getElem?_getD]
 | join a b ha hb =>
  intro pre post;refine⟨cg a _ _ _ (fun p => ?_) (ha pre (b.post++[(4,0)]++post)),?_⟩
  ·simp[Ex.post,List.append_assoc]
  have:=hb (pre++a.post) ([(4,0)]++post);rw[List.length_append] at this;refine cg b _ _ _ (fun p => ?_) this;simp[Ex.post,List.append_assoc]
 | alt a b ha hb =>
  intro pre post;refine⟨cg a _ _ _ (fun p => ?_) (ha pre (b.post++[(5,0)]++post)),?_⟩
  ·simp[Ex.post,List.append_assoc]
  have:=hb (pre++a.post) ([(5,0)]++post);rw[List.length_append] at this;refine cg b _ _ _ (fun p => ?_) this;simp[Ex.post,List.append_assoc]
 | both a b ha hb=>exact fun _ _=>trivial
 | neg a ha=>exact fun _ _=>trivial
 | star a ha =>intro pre post;refine cg a _ _ _ (fun p => ?_) (ha pre ([(8,0)]++post));simp[Ex.post,List.append_assoc]
end Go.Proofs.Ytfanhfcamblghaa
