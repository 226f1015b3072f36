/-
  The walk over the program's edgePlaces, by the tree; FirstPlaces and LastPlaces.
  Conditions: the expression reads as such, and has neither both nor not.
-/
import Derived.Test.YtfanhfcamblghaaPq09Hew
import Derived.Test.YtfanhfcamblghaaPq10Lp
import Derived.Test.YtfanhfcamblghaaPq11Dr
set_option maxHeartbeats 16000000
set_option maxRecDepth 100000
namespace Go.Proofs.Ytfanhfcamblghaa
open Go.RowKit
def EdgC (f:Bool) (t:Ex):Prop:=∀ (n:Nat) (v:Value) (w:World),n+t.post.length≤10000→Pairs 0 w v t.post→Calls Try.prog 88 #[v,.int .i64 (n:Int),.bool f] w fun e w'=>ROn (edP f t n) w e w'
theorem ZaA (f:Bool):∀ (t:Ex) (n:Nat),(edP f t n).length≤t.post.length:=by
 intro t
 induction t with
 | zero=>exact fun _=>Nat.zero_le _
 | one=>exact fun _=>Nat.zero_le _
 | ltr c=>exact fun _=>Nat.le_refl _
 | join a b ha hb =>
  intro n;have h1:=ha n;have h2:=hb (n+a.post.length);rw[show(Ex.join a b).post.length=a.post.length+b.post.length+1 from Zbq a b _];unfold edP
  split<;>split<;>simp<;>omega
 | alt a b ha hb =>intro n;have h1:=ha n;have h2:=hb (n+a.post.length);rw[show(Ex.alt a b).post.length=a.post.length+b.post.length+1 from Zbq a b _];unfold edP;simp;omega
 | both a b ha hb=>exact fun _=>Nat.zero_le _
 | neg a ha=>exact fun _=>Nat.zero_le _
 | star a ha =>
  intro n;have h1:=ha n;have hl:(Ex.star a).post.length=a.post.length+1:=by simp[Ex.post]
  rw[hl];show(edP f a n).length≤_;omega
theorem Zmo (f:Bool) :EdgC f (Ex.zero):=by
 intro n v w hnb h;have h60:(Ex.zero).post.length≤60:=by show 1≤60;decide
 have HO:=qh (ZaX (Ex.zero) 1 0 rfl Zbx v w h);have Hh:=qh h;have hP:=h;rw[show(Ex.zero).post=(([]:List (Int × Int)))++[(1,0)] from rfl] at hP;obtain⟨bb,off,cap,rfl,hc1,hc2,hbl,hcell⟩:=ZaS hP;obtain⟨m,hm⟩:=eI ((([]:List (Int × Int))).length);rw[← hm] at hc1 hcell Hh HO;rw[← hm];have hmI:m≤59:=by rw[hm];simp[Ex.post] at h60 ⊢
 have Hcell:=qh hcell;have hw1:IntKind.i64.wrap ((m:Int)+1-1)=(m:Int):=by rw[IntWalk.i64_in _ (by omega)];omega
 have HS0:=qh (St.start w);replace hm:=qh hm;clear h hP hcell
 go_enter Try.func88, Try.ntmps88
 go_wp2_with fail;refine HO.out.mono ?_;rintro e w2 ⟨rfl,hb2⟩;have HS2:=qh (HS0.out.call hb2);obtain⟨k1,k2⟩:=Hcell.out _ HS2.out.bel;clear hb2;go_wp2;go_ret;exact⟨none,0,rfl,HS2.out.nilRow 3 1⟩
theorem Znq (f:Bool) :EdgC f (Ex.one):=by
 intro n v w hnb h;have h60:(Ex.one).post.length≤60:=by show 1≤60;decide
 have HO:=qh (ZaX (Ex.one) 2 0 rfl Zbw v w h);have Hh:=qh h;have hP:=h;rw[show(Ex.one).post=(([]:List (Int × Int)))++[(2,0)] from rfl] at hP;obtain⟨bb,off,cap,rfl,hc1,hc2,hbl,hcell⟩:=ZaS hP;obtain⟨m,hm⟩:=eI ((([]:List (Int × Int))).length);rw[← hm] at hc1 hcell Hh HO;rw[← hm];have hmI:m≤59:=by rw[hm];simp[Ex.post] at h60 ⊢
 have Hcell:=qh hcell;have hw1:IntKind.i64.wrap ((m:Int)+1-1)=(m:Int):=by rw[IntWalk.i64_in _ (by omega)];omega
 have HS0:=qh (St.start w);replace hm:=qh hm;clear h hP hcell
 go_enter Try.func88, Try.ntmps88
 go_wp2_with fail;refine HO.out.mono ?_;rintro e w2 ⟨rfl,hb2⟩;have HS2:=qh (HS0.out.call hb2);obtain⟨k1,k2⟩:=Hcell.out _ HS2.out.bel;clear hb2;go_wp2;go_ret;exact⟨none,0,rfl,HS2.out.nilRow 3 1⟩
theorem Znr (f:Bool) (ch:Fin 3) :EdgC f (Ex.ltr ch):=by
 intro n v w hnb h;have h60:(Ex.ltr ch).post.length≤60:=by show 1≤60;decide
 have HO:=qh (ZaX (Ex.ltr ch) 3 (ch.val:Int) rfl (Zbk ch) v w h);have Hh:=qh h;have hP:=h;rw[show(Ex.ltr ch).post=(([]:List (Int × Int)))++[(3,(ch.val:Int))] from rfl] at hP;obtain⟨bb,off,cap,rfl,hc1,hc2,hbl,hcell⟩:=ZaS hP;obtain⟨m,hm⟩:=eI ((([]:List (Int × Int))).length);rw[← hm] at hc1 hcell Hh HO;rw[← hm];have hmI:m≤59:=by rw[hm];simp[Ex.post] at h60 ⊢
 have Hcell:=qh hcell;have hw1:IntKind.i64.wrap ((m:Int)+1-1)=(m:Int):=by rw[IntWalk.i64_in _ (by omega)];omega
 have HS0:=qh (St.start w);replace hm:=qh hm;clear h hP hcell
 go_enter Try.func88, Try.ntmps88
 go_wp2_with fail;refine HO.out.mono ?_;rintro e w2 ⟨rfl,hb2⟩;have HS2:=qh (HS0.out.call hb2);obtain⟨k1,k2⟩:=Hcell.out _ HS2.out.bel;clear hb2;have HS3:=qh (((HS2.out.alloc w2.heap.size rfl #[.int .i64 (n:Int)] 3).boxrow 0 1 1 [.int .i64 (n:Int)] rfl rfl (by unfold maxLen;omega)).pick [0] (by decide));go_wp2;go_ret;exact⟨_,_,rfl,HS3.out⟩
theorem Zmp (f:Bool) (ta:Ex) (h60:(Ex.star ta).post.length≤60) (hta:EdgC f ta):EdgC f (Ex.star ta):=by
 intro n v w hnb h;have HO:=qh (Zde ta (Ex.star ta) 8 0 rfl Zct v w h60 h);have Hh:=qh h;have hP:=h;rw[show(Ex.star ta).post=(ta.post)++[(8,0)] from rfl] at hP;obtain⟨bb,off,cap,rfl,hc1,hc2,hbl,hcell⟩:=ZaS hP;obtain⟨m,hm⟩:=eI ((ta.post).length);rw[← hm] at hc1 hcell Hh HO;rw[← hm];have hmI:m≤59:=by rw[hm];simp[Ex.post] at h60 ⊢;omega
 have Hcell:=qh hcell;have hw1:IntKind.i64.wrap ((m:Int)+1-1)=(m:Int):=by rw[IntWalk.i64_in _ (by omega)];omega
 have HS0:=qh (St.start w);replace hm:=qh hm;clear h hP hcell;obtain⟨PA,hPA⟩:∃ l,edP f ta (n)=l:=⟨_,rfl⟩;have hlPA:=ZaA f ta (n);have HTA:=qh (show ∀ (v:Value) (w:World),Pairs 0 w v ta.post→Calls Try.prog 88 #[v,.int .i64 ((n:Nat):Int),.bool f] w fun e w'=>ROn PA w e w' from fun v w hp=>by have h9:=hta (n) v w (by simp[Ex.post] at hnb;omega) hp;rw[hPA] at h9;exact h9);rw[hPA] at hlPA;replace hPA:=qh hPA;have hf:edP f (.star ta) n=PA:=hPA.out;rw[hf];clear hf hta
 go_enter Try.func88, Try.ntmps88
 go_wp2_with fail;refine HO.out.mono ?_;rintro e w2 ⟨g,va,rfl,hS,hv⟩;have HS2:=qh hS;have HPa:=qh (hv _ Hh.out);have r0:=hS.rcell (v:=va) 0 0 rfl (by omega) rfl;obtain⟨k1,k2⟩:=Hcell.out _ hS.bel;clear hS hv;go_wp2_with fail;refine(HTA.out _ _ (HPa.out.below HS2.out.bel)).mono ?_;rintro e w3 ⟨a3,c3,rfl,hS3⟩;have HS3:=qh ((HS2.out.cat hS3).pick [1] (by decide));clear hS3;go_wp2;go_ret;exact⟨_,_,rfl,HS3.out⟩
theorem Zns (f:Bool) (ta tb:Ex) (h60:(Ex.alt ta tb).post.length≤60) (hta:EdgC f ta) (htb:EdgC f tb):EdgC f (Ex.alt ta tb):=by
 intro n v w hnb h;have HO:=qh (Zbl ta tb (Ex.alt ta tb) 5 0 rfl ZdC v w h60 h);have Hh:=qh h;have hP:=h;rw[show(Ex.alt ta tb).post=(ta.post++tb.post)++[(5,0)] from rfl] at hP;obtain⟨bb,off,cap,rfl,hc1,hc2,hbl,hcell⟩:=ZaS hP;obtain⟨m,hm⟩:=eI ((ta.post++tb.post).length);rw[← hm] at hc1 hcell Hh HO;rw[← hm];have hmI:m≤59:=by rw[hm];simp[Ex.post] at h60 ⊢;omega
 have Hcell:=qh hcell;have hw1:IntKind.i64.wrap ((m:Int)+1-1)=(m:Int):=by rw[IntWalk.i64_in _ (by omega)];omega
 have HS0:=qh (St.start w);replace hm:=qh hm;clear h hP hcell;obtain⟨PA,hPA⟩:∃ l,edP f ta (n)=l:=⟨_,rfl⟩;have hlPA:=ZaA f ta (n);have HTA:=qh (show ∀ (v:Value) (w:World),Pairs 0 w v ta.post→Calls Try.prog 88 #[v,.int .i64 ((n:Nat):Int),.bool f] w fun e w'=>ROn PA w e w' from fun v w hp=>by have h9:=hta (n) v w (by simp[Ex.post] at hnb;omega) hp;rw[hPA] at h9;exact h9);rw[hPA] at hlPA;replace hPA:=qh hPA;obtain⟨PB,hPB⟩:∃ l,edP f tb (n+ta.post.length)=l:=⟨_,rfl⟩;have hlPB:=ZaA f tb (n+ta.post.length);have HTB:=qh (show ∀ (v:Value) (w:World),Pairs 0 w v tb.post→Calls Try.prog 88 #[v,.int .i64 ((n+ta.post.length:Nat):Int),.bool f] w fun e w'=>ROn PB w e w' from fun v w hp=>by have h9:=htb (n+ta.post.length) v w (by simp[Ex.post] at hnb;omega) hp;rw[hPB] at h9;exact h9);rw[hPB] at hlPB;have HhPB:=qh hPB;clear hPB;have hal:ta.post.length+tb.post.length≤59:=by simp[Ex.post] at h60;omega
 have hn60:n+ta.post.length≤10000:=by simp[Ex.post] at hnb;omega
 obtain⟨la,hla⟩:∃ l,ta.post.length=l:=⟨_,rfl⟩;rw[hla] at hal hn60 HTB hlPA;have hwl:IntKind.i64.wrap ((n:Int)+(la:Int))=(((n+la:Nat)):Int):=by rw[IntWalk.i64_in _ (by omega)];omega
 have hf:edP f (.alt ta tb) n=PA++PB:=by rw[← hPA.out,← HhPB.out];rfl
 rw[hf];clear hf;clear hta htb
 go_enter Try.func88, Try.ntmps88
 go_wp2_with fail;refine HO.out.mono ?_;rintro e w2 ⟨g,va,vb,rfl,hS,hv⟩;have HPa:=qh (hv _ Hh.out).1;have HPb:=qh (hv _ Hh.out).2;obtain⟨aa,ca,rfl,-⟩:=HPa.out.form;rw[hla] at HPa hS;have HS2:=qh hS;have r0:=hS.rcell (v:=.slice aa la ca) 0 0 rfl (by omega) rfl;obtain⟨k1,k2⟩:=Hcell.out _ hS.bel;clear hS hv hla;go_wp2_with fail;refine(HTA.out _ _ (HPa.out.below HS2.out.bel)).mono ?_;rintro e w3 ⟨g1,c1,rfl,hS3⟩;have HS3:=qh (HS2.out.cat hS3);clear hS3 r0 k1 k2
 go_upto_region 10 with fail
 refine wp_region_any (by kernel_rfl) ?_
 refine Zaf (fun A listed a w'=>∃ (l0 l1 l2 l3 l4 l5 l6 l7 l8 l9 l10 l11:Bool) (g2:Option Addr) (c2:Nat),listed=#[l0,l1,l2,l3,l4,l5,l6,l7,l8,l9,l10,l11]∧(l11=true→l10=true) ∧
   a=⟨((((((((((((A.tmps.setIfInBounds 40 (if l0=true then .slice (some ⟨g,0,none⟩) 2 2 else A.tmps.getD 40 undef)).setIfInBounds 41 (if l1=true then .pointer (some ⟨g,1,none⟩) else A.tmps.getD 41 undef)).setIfInBounds 42 (if l2=true then vb else A.tmps.getD 42 undef)).setIfInBounds 43 (if l3=true then .int .i64 (n:Int) else A.tmps.getD 43 undef)).setIfInBounds 44 (if l4=true then .slice (some ⟨g,0,none⟩) 2 2 else A.tmps.getD 44 undef)).setIfInBounds 45 (if l5=true then .pointer (some ⟨g,0,none⟩) else A.tmps.getD 45 undef)).setIfInBounds 46 (if l6=true then .slice aa la ca else A.tmps.getD 46 undef)).setIfInBounds 47 (if l7=true then .int .i64 (la:Int) else A.tmps.getD 47 undef)).setIfInBounds 48 (if l8=true then .int .i64 ((n+la:Nat):Int) else A.tmps.getD 48 undef)).setIfInBounds 49 (if l9=true then .bool f else A.tmps.getD 49 undef)).setIfInBounds 50 (if l10=true then .slice g2 PB.length c2 else A.tmps.getD 50 undef)).setIfInBounds 9 (if l11=true then .slice g2 PB.length c2 else A.tmps.getD 9 undef)),A.defers⟩ ∧
   St w w' [Ent.row 23 1 (.slice (some ⟨g,0,none⟩) 2 2) 2 ([.slice aa la ca,vb]),Ent.row 3 1 (.slice g1 PA.length c1) PA.length (natC PA),(if l10=true then Ent.row 3 1 (.slice g2 PB.length c2) PB.length (natC PB) else Ent.nil)]) ?_ ?_ ?_
 ·rintro listed a w' ⟨l0,l1,l2,l3,l4,l5,l6,l7,l8,l9,l10,l11,g2,c2,rfl,hd11,rfl,hS⟩ i hi;obtain⟨hun,o,ho,hall⟩:=mem_ready.1 hi;have hlt:=(Array.getElem?_eq_some_iff.1 ho).1;refine wpOp_step ho (fun K hK => ?_);clear hi;have HS:=qh hS;clear hS;simp only[List.setIfInBounds_toArray,List.set_cons_zero,List.set_cons_succ,Array.getD_eq_getD_getElem?,List.getElem?_toArray,List.getElem?_cons_zero,List.getElem?_cons_succ,Option.getD_some];obtain h|h|h|h|h|h|h|h|h|h|h|h:i=0∨i=1∨i=2∨i=3∨i=4∨i=5∨i=6∨i=7∨i=8∨i=9∨i=10∨i=11:=by simp at hlt;omega
  all_goals subst h
  all_goals simp only[List.getElem?_toArray,List.getElem?_cons_zero,List.getElem?_cons_succ,Option.some.injEq] at ho
  all_goals subst ho
  all_goals simp[Region.binds] at hun hall
  ·subst hun;go_simp;exact hK _ _ ⟨true,l1,l2,l3,l4,l5,l6,l7,l8,l9,l10,l11,g2,c2,rfl,hd11,(by simp),HS.out⟩
  ·obtain rfl:=hall;subst hun;go_simp;exact hK _ _ ⟨true,true,l2,l3,l4,l5,l6,l7,l8,l9,l10,l11,g2,c2,rfl,hd11,(by simp),HS.out⟩
  ·obtain rfl:=hall;subst hun;have e0:=HS.out.rcell (v:=vb) 0 (1) rfl (by omega) rfl;go_simp;exact hK _ _ ⟨l0,true,true,l3,l4,l5,l6,l7,l8,l9,l10,l11,g2,c2,rfl,hd11,(by simp),HS.out⟩
  ·subst hun;go_simp;exact hK _ _ ⟨l0,l1,l2,true,l4,l5,l6,l7,l8,l9,l10,l11,g2,c2,rfl,hd11,(by simp),HS.out⟩
  ·subst hun;go_simp;exact hK _ _ ⟨l0,l1,l2,l3,true,l5,l6,l7,l8,l9,l10,l11,g2,c2,rfl,hd11,(by simp),HS.out⟩
  ·obtain rfl:=hall;subst hun;go_simp;exact hK _ _ ⟨l0,l1,l2,l3,true,true,l6,l7,l8,l9,l10,l11,g2,c2,rfl,hd11,(by simp),HS.out⟩
  ·obtain rfl:=hall;subst hun;have e0:=HS.out.rcell (v:=.slice aa la ca) 0 (0) rfl (by omega) rfl;go_simp;exact hK _ _ ⟨l0,l1,l2,l3,l4,true,true,l7,l8,l9,l10,l11,g2,c2,rfl,hd11,(by simp),HS.out⟩
  ·obtain rfl:=hall;subst hun;go_simp;exact hK _ _ ⟨l0,l1,l2,l3,l4,l5,true,true,l8,l9,l10,l11,g2,c2,rfl,hd11,(by simp),HS.out⟩
  ·obtain⟨rfl,rfl⟩:=hall;subst hun;go_simp;exact hK _ _ ⟨l0,l1,l2,true,l4,l5,l6,true,true,l9,l10,l11,g2,c2,rfl,hd11,(by simp),HS.out⟩
  ·subst hun;go_simp;exact hK _ _ ⟨l0,l1,l2,l3,l4,l5,l6,l7,l8,true,l10,l11,g2,c2,rfl,hd11,(by simp),HS.out⟩
  ·obtain⟨rfl,rfl,rfl⟩:=hall;subst hun;obtain rfl:l11=false:=by cases l11 with|false=>rfl|true=>simpa using hd11 rfl
   go_simp
   go_at_call 88
   refine(HTB.out _ _ (HPb.out.below HS.out.bel)).mono ?_;rintro e u1 ⟨a8,d8,rfl,hS8⟩;have hS2:=(HS.out.cat hS8).pick [0,1,3] (by decide);have HhS2:=qh hS2;clear hS2;go_simp;exact hK _ _ ⟨l0,l1,true,l3,l4,l5,l6,l7,true,true,true,false,a8,d8,rfl,by simp,(by simp),HhS2.out⟩
  obtain⟨rfl,rfl,rfl,rfl,rfl,rfl,rfl,rfl,rfl,rfl,rfl,-⟩:=hall;subst hun;go_simp;exact hK _ _ ⟨true,true,true,true,true,true,true,true,true,true,true,true,g2,c2,rfl,by simp,(by simp),HS.out⟩
 ·rintro listed a w' ⟨l0,l1,l2,l3,l4,l5,l6,l7,l8,l9,l10,l11,g2,c2,rfl,hd11,rfl,hS⟩ hr;have hall:=Zag (by kernel_rfl) rfl hr;obtain rfl:l0=true:=by simpa using hall 0 (by simp)
  obtain rfl:l1=true:=by simpa using hall 1 (by simp)
  obtain rfl:l2=true:=by simpa using hall 2 (by simp)
  obtain rfl:l3=true:=by simpa using hall 3 (by simp)
  obtain rfl:l4=true:=by simpa using hall 4 (by simp)
  obtain rfl:l5=true:=by simpa using hall 5 (by simp)
  obtain rfl:l6=true:=by simpa using hall 6 (by simp)
  obtain rfl:l7=true:=by simpa using hall 7 (by simp)
  obtain rfl:l8=true:=by simpa using hall 8 (by simp)
  obtain rfl:l9=true:=by simpa using hall 9 (by simp)
  obtain rfl:l10=true:=by simpa using hall 10 (by simp)
  obtain rfl:l11=true:=by simpa using hall 11 (by simp)
  clear hall hr hd11;simp only[↓reduceIte] at hS ⊢;simp only[List.setIfInBounds_toArray,List.set_cons_zero,List.set_cons_succ];have HS5:=qh hS;obtain⟨k1,k2⟩:=Hcell.out _ hS.bel;obtain⟨W5,hW5⟩:∃ W,W=w':=⟨_,rfl⟩;have r0:=hS.rcell (v:=.slice aa la ca) 0 0 rfl (by omega) rfl;have r1:=hS.rcell (v:=vb) 0 1 rfl (by omega) rfl;rw[← hW5] at HS5 k1 k2 r0 r1 ⊢;clear hS hW5;have HSc:=qh (HS5.out.alloc W5.heap.size rfl #[.slice g1 PA.length c1,.slice g2 PB.length c2] 26);go_wp2_with fail;refine(Zco (PA.map fun (x:Nat)=>(x:Int)) (PB.map fun (x:Nat)=>(x:Int)) (.slice g1 PA.length c1) (.slice g2 PB.length c2) W5.heap.size 2 _ (by simp;omega) (by simp;omega) (HSc.out.boxlt 3 rfl).2 (HSc.out.cell (v:=.slice g1 PA.length c1) 3 0 rfl rfl) (HSc.out.cell (v:=.slice g2 PB.length c2) 3 1 rfl rfl) (Zaj (HSc.out.row 1 rfl)) (Zaj (HSc.out.row 2 rfl))).mono ?_;rintro e w8 ⟨a8,c8,rfl,hS8⟩;have hS9:=(HSc.out.cat hS8).pick [4] (by decide);rw[← List.map_append,List.length_map,List.length_map] at hS9;have HS9:=qh hS9;clear hS8 hS9;go_wp2;go_ret;refine⟨a8,c8,?_,?_⟩
  ·rw[List.length_append];rfl
  rw[List.length_append];exact HS9.out
 refine⟨false,false,false,false,false,false,false,false,false,false,false,false,none,0,rfl,by simp,(by simp),?_⟩;exact HS3.out.drew.pick [0,1,2] (by decide)
theorem Zmq (f:Bool) (ta tb:Ex) (h60:(Ex.join ta tb).post.length≤60) (hta:EdgC f ta) (htb:EdgC f tb):EdgC f (Ex.join ta tb):=by
 intro n v w hnb h;have HO:=qh (Zbl ta tb (Ex.join ta tb) 4 0 rfl Zcu v w h60 h);have Hh:=qh h;have hP:=h;rw[show(Ex.join ta tb).post=(ta.post++tb.post)++[(4,0)] from rfl] at hP;obtain⟨bb,off,cap,rfl,hc1,hc2,hbl,hcell⟩:=ZaS hP;obtain⟨m,hm⟩:=eI ((ta.post++tb.post).length);rw[← hm] at hc1 hcell Hh HO;rw[← hm];have hmI:m≤59:=by rw[hm];simp[Ex.post] at h60 ⊢;omega
 have Hcell:=qh hcell;have hw1:IntKind.i64.wrap ((m:Int)+1-1)=(m:Int):=by rw[IntWalk.i64_in _ (by omega)];omega
 have HS0:=qh (St.start w);replace hm:=qh hm;clear h hP hcell;obtain⟨PA,hPA⟩:∃ l,edP f ta (n)=l:=⟨_,rfl⟩;have hlPA:=ZaA f ta (n);have HTA:=qh (show ∀ (v:Value) (w:World),Pairs 0 w v ta.post→Calls Try.prog 88 #[v,.int .i64 ((n:Nat):Int),.bool f] w fun e w'=>ROn PA w e w' from fun v w hp=>by have h9:=hta (n) v w (by simp[Ex.post] at hnb;omega) hp;rw[hPA] at h9;exact h9);rw[hPA] at hlPA;replace hPA:=qh hPA;obtain⟨PB,hPB⟩:∃ l,edP f tb (n+ta.post.length)=l:=⟨_,rfl⟩;have hlPB:=ZaA f tb (n+ta.post.length);have HTB:=qh (show ∀ (v:Value) (w:World),Pairs 0 w v tb.post→Calls Try.prog 88 #[v,.int .i64 ((n+ta.post.length:Nat):Int),.bool f] w fun e w'=>ROn PB w e w' from fun v w hp=>by have h9:=htb (n+ta.post.length) v w (by simp[Ex.post] at hnb;omega) hp;rw[hPB] at h9;exact h9);rw[hPB] at hlPB;have HhPB:=qh hPB;clear hPB;have hal:ta.post.length+tb.post.length≤59:=by simp[Ex.post] at h60;omega
 have hn60:n+ta.post.length≤10000:=by simp[Ex.post] at hnb;omega
 obtain⟨la,hla⟩:∃ l,ta.post.length=l:=⟨_,rfl⟩;rw[hla] at hal hn60 HTB hlPA;have hwl:IntKind.i64.wrap ((n:Int)+(la:Int))=(((n+la:Nat)):Int):=by rw[IntWalk.i64_in _ (by omega)];omega
 have hf:edP f (.join ta tb) n=if f=true then(if hasE ta=true then PA++PB else PA) else(if hasE tb=true then PA++PB else PB):=by rw[← hPA.out,← HhPB.out];rfl
 rw[hf];have HEA:=qh (fun (v:Value) (u:World) h=>ZbU ta (by omega) v u h);have HEB:=qh (fun (v:Value) (u:World) h=>ZbU tb (by omega) v u h);obtain⟨ea,hea⟩:∃ z,hasE ta=z:=⟨_,rfl⟩;obtain⟨eb,heb⟩:∃ z,hasE tb=z:=⟨_,rfl⟩;rw[hea] at HEA;rw[heb] at HEB;rw[hea,heb];clear hf hea heb;clear hta htb
 go_enter Try.func88, Try.ntmps88
 go_wp2_with fail;refine HO.out.mono ?_;rintro e w2 ⟨g,va,vb,rfl,hS,hv⟩;have HPa:=qh (hv _ Hh.out).1;have HPb:=qh (hv _ Hh.out).2;obtain⟨aa,ca,rfl,-⟩:=HPa.out.form;rw[hla] at HPa hS;have HS2:=qh hS;have r0:=hS.rcell (v:=.slice aa la ca) 0 0 rfl (by omega) rfl;obtain⟨k1,k2⟩:=Hcell.out _ hS.bel;clear hS hv hla;go_wp2_with fail;refine(HTA.out _ _ (HPa.out.below HS2.out.bel)).mono ?_;rintro e w3 ⟨g1,c1,rfl,hS3⟩;have HS3:=qh (HS2.out.cat hS3);clear hS3 r0 k1 k2
 go_upto_region 10 with fail
 refine wp_region_any (by kernel_rfl) ?_
 refine Zaf (fun A listed a w'=>∃ (l0 l1 l2 l3 l4 l5 l6 l7 l8 l9 l10 l11:Bool) (g2:Option Addr) (c2:Nat),listed=#[l0,l1,l2,l3,l4,l5,l6,l7,l8,l9,l10,l11]∧(l11=true→l10=true) ∧
   a=⟨((((((((((((A.tmps.setIfInBounds 40 (if l0=true then .slice (some ⟨g,0,none⟩) 2 2 else A.tmps.getD 40 undef)).setIfInBounds 41 (if l1=true then .pointer (some ⟨g,1,none⟩) else A.tmps.getD 41 undef)).setIfInBounds 42 (if l2=true then vb else A.tmps.getD 42 undef)).setIfInBounds 43 (if l3=true then .int .i64 (n:Int) else A.tmps.getD 43 undef)).setIfInBounds 44 (if l4=true then .slice (some ⟨g,0,none⟩) 2 2 else A.tmps.getD 44 undef)).setIfInBounds 45 (if l5=true then .pointer (some ⟨g,0,none⟩) else A.tmps.getD 45 undef)).setIfInBounds 46 (if l6=true then .slice aa la ca else A.tmps.getD 46 undef)).setIfInBounds 47 (if l7=true then .int .i64 (la:Int) else A.tmps.getD 47 undef)).setIfInBounds 48 (if l8=true then .int .i64 ((n+la:Nat):Int) else A.tmps.getD 48 undef)).setIfInBounds 49 (if l9=true then .bool f else A.tmps.getD 49 undef)).setIfInBounds 50 (if l10=true then .slice g2 PB.length c2 else A.tmps.getD 50 undef)).setIfInBounds 9 (if l11=true then .slice g2 PB.length c2 else A.tmps.getD 9 undef)),A.defers⟩ ∧
   St w w' [Ent.row 23 1 (.slice (some ⟨g,0,none⟩) 2 2) 2 ([.slice aa la ca,vb]),Ent.row 3 1 (.slice g1 PA.length c1) PA.length (natC PA),(if l10=true then Ent.row 3 1 (.slice g2 PB.length c2) PB.length (natC PB) else Ent.nil)]) ?_ ?_ ?_
 ·rintro listed a w' ⟨l0,l1,l2,l3,l4,l5,l6,l7,l8,l9,l10,l11,g2,c2,rfl,hd11,rfl,hS⟩ i hi;obtain⟨hun,o,ho,hall⟩:=mem_ready.1 hi;have hlt:=(Array.getElem?_eq_some_iff.1 ho).1;refine wpOp_step ho (fun K hK => ?_);clear hi;have HS:=qh hS;clear hS;simp only[List.setIfInBounds_toArray,List.set_cons_zero,List.set_cons_succ,Array.getD_eq_getD_getElem?,List.getElem?_toArray,List.getElem?_cons_zero,List.getElem?_cons_succ,Option.getD_some];obtain h|h|h|h|h|h|h|h|h|h|h|h:i=0∨i=1∨i=2∨i=3∨i=4∨i=5∨i=6∨i=7∨i=8∨i=9∨i=10∨i=11:=by simp at hlt;omega
  all_goals subst h
  all_goals simp only[List.getElem?_toArray,List.getElem?_cons_zero,List.getElem?_cons_succ,Option.some.injEq] at ho
  all_goals subst ho
  all_goals simp[Region.binds] at hun hall
  ·subst hun;go_simp;exact hK _ _ ⟨true,l1,l2,l3,l4,l5,l6,l7,l8,l9,l10,l11,g2,c2,rfl,hd11,(by simp),HS.out⟩
  ·obtain rfl:=hall;subst hun;go_simp;exact hK _ _ ⟨true,true,l2,l3,l4,l5,l6,l7,l8,l9,l10,l11,g2,c2,rfl,hd11,(by simp),HS.out⟩
  ·obtain rfl:=hall;subst hun;have e0:=HS.out.rcell (v:=vb) 0 (1) rfl (by omega) rfl;go_simp;exact hK _ _ ⟨l0,true,true,l3,l4,l5,l6,l7,l8,l9,l10,l11,g2,c2,rfl,hd11,(by simp),HS.out⟩
  ·subst hun;go_simp;exact hK _ _ ⟨l0,l1,l2,true,l4,l5,l6,l7,l8,l9,l10,l11,g2,c2,rfl,hd11,(by simp),HS.out⟩
  ·subst hun;go_simp;exact hK _ _ ⟨l0,l1,l2,l3,true,l5,l6,l7,l8,l9,l10,l11,g2,c2,rfl,hd11,(by simp),HS.out⟩
  ·obtain rfl:=hall;subst hun;go_simp;exact hK _ _ ⟨l0,l1,l2,l3,true,true,l6,l7,l8,l9,l10,l11,g2,c2,rfl,hd11,(by simp),HS.out⟩
  ·obtain rfl:=hall;subst hun;have e0:=HS.out.rcell (v:=.slice aa la ca) 0 (0) rfl (by omega) rfl;go_simp;exact hK _ _ ⟨l0,l1,l2,l3,l4,true,true,l7,l8,l9,l10,l11,g2,c2,rfl,hd11,(by simp),HS.out⟩
  ·obtain rfl:=hall;subst hun;go_simp;exact hK _ _ ⟨l0,l1,l2,l3,l4,l5,true,true,l8,l9,l10,l11,g2,c2,rfl,hd11,(by simp),HS.out⟩
  ·obtain⟨rfl,rfl⟩:=hall;subst hun;go_simp;exact hK _ _ ⟨l0,l1,l2,true,l4,l5,l6,true,true,l9,l10,l11,g2,c2,rfl,hd11,(by simp),HS.out⟩
  ·subst hun;go_simp;exact hK _ _ ⟨l0,l1,l2,l3,l4,l5,l6,l7,l8,true,l10,l11,g2,c2,rfl,hd11,(by simp),HS.out⟩
  ·obtain⟨rfl,rfl,rfl⟩:=hall;subst hun;obtain rfl:l11=false:=by cases l11 with|false=>rfl|true=>simpa using hd11 rfl
   go_simp
   go_at_call 88
   refine(HTB.out _ _ (HPb.out.below HS.out.bel)).mono ?_;rintro e u1 ⟨a8,d8,rfl,hS8⟩;have hS2:=(HS.out.cat hS8).pick [0,1,3] (by decide);have HhS2:=qh hS2;clear hS2;go_simp;exact hK _ _ ⟨l0,l1,true,l3,l4,l5,l6,l7,true,true,true,false,a8,d8,rfl,by simp,(by simp),HhS2.out⟩
  obtain⟨rfl,rfl,rfl,rfl,rfl,rfl,rfl,rfl,rfl,rfl,rfl,-⟩:=hall;subst hun;go_simp;exact hK _ _ ⟨true,true,true,true,true,true,true,true,true,true,true,true,g2,c2,rfl,by simp,(by simp),HS.out⟩
 ·rintro listed a w' ⟨l0,l1,l2,l3,l4,l5,l6,l7,l8,l9,l10,l11,g2,c2,rfl,hd11,rfl,hS⟩ hr;have hall:=Zag (by kernel_rfl) rfl hr;obtain rfl:l0=true:=by simpa using hall 0 (by simp)
  obtain rfl:l1=true:=by simpa using hall 1 (by simp)
  obtain rfl:l2=true:=by simpa using hall 2 (by simp)
  obtain rfl:l3=true:=by simpa using hall 3 (by simp)
  obtain rfl:l4=true:=by simpa using hall 4 (by simp)
  obtain rfl:l5=true:=by simpa using hall 5 (by simp)
  obtain rfl:l6=true:=by simpa using hall 6 (by simp)
  obtain rfl:l7=true:=by simpa using hall 7 (by simp)
  obtain rfl:l8=true:=by simpa using hall 8 (by simp)
  obtain rfl:l9=true:=by simpa using hall 9 (by simp)
  obtain rfl:l10=true:=by simpa using hall 10 (by simp)
  obtain rfl:l11=true:=by simpa using hall 11 (by simp)
  clear hall hr hd11;simp only[↓reduceIte] at hS ⊢;simp only[List.setIfInBounds_toArray,List.set_cons_zero,List.set_cons_succ];have HS5:=qh hS;obtain⟨k1,k2⟩:=Hcell.out _ hS.bel;obtain⟨W5,hW5⟩:∃ W,W=w':=⟨_,rfl⟩;have r0:=hS.rcell (v:=.slice aa la ca) 0 0 rfl (by omega) rfl;have r1:=hS.rcell (v:=vb) 0 1 rfl (by omega) rfl;rw[← hW5] at HS5 k1 k2 r0 r1 ⊢;clear hS hW5;cases f
  ·go_wp2_with fail;refine(HEB.out _ _ (HPb.out.below HS5.out.bel)).mono ?_;rintro e w6 ⟨rfl,hb6⟩;have HS6:=qh (HS5.out.call hb6);clear hb6;cases eb
   ·go_wp2;go_ret;exact⟨g2,c2,rfl,HS6.out.pick [2] (by decide)⟩
   have HSc:=qh (HS6.out.alloc w6.heap.size rfl #[.slice g1 PA.length c1,.slice g2 PB.length c2] 26);go_wp2_with fail;refine(Zco (PA.map fun (x:Nat)=>(x:Int)) (PB.map fun (x:Nat)=>(x:Int)) (.slice g1 PA.length c1) (.slice g2 PB.length c2) w6.heap.size 2 _ (by simp;omega) (by simp;omega) (HSc.out.boxlt 3 rfl).2 (HSc.out.cell (v:=.slice g1 PA.length c1) 3 0 rfl rfl) (HSc.out.cell (v:=.slice g2 PB.length c2) 3 1 rfl rfl) (Zaj (HSc.out.row 1 rfl)) (Zaj (HSc.out.row 2 rfl))).mono ?_;rintro e w8 ⟨a8,c8,rfl,hS8⟩;have hS9:=(HSc.out.cat hS8).pick [4] (by decide);rw[← List.map_append,List.length_map,List.length_map] at hS9;have HS9:=qh hS9;clear hS8 hS9;go_wp2;go_ret;refine⟨a8,c8,?_,?_⟩
   ·rw[List.length_append];rfl
   rw[List.length_append];exact HS9.out
  go_wp2_with fail;refine(HEA.out _ _ (HPa.out.below HS5.out.bel)).mono ?_;rintro e w6 ⟨rfl,hb6⟩;have HS6:=qh (HS5.out.call hb6);clear hb6;cases ea
  ·go_wp2;go_ret;exact⟨g1,c1,rfl,HS6.out.pick [1] (by decide)⟩
  have HSc:=qh (HS6.out.alloc w6.heap.size rfl #[.slice g1 PA.length c1,.slice g2 PB.length c2] 26);go_wp2_with fail;refine(Zco (PA.map fun (x:Nat)=>(x:Int)) (PB.map fun (x:Nat)=>(x:Int)) (.slice g1 PA.length c1) (.slice g2 PB.length c2) w6.heap.size 2 _ (by simp;omega) (by simp;omega) (HSc.out.boxlt 3 rfl).2 (HSc.out.cell (v:=.slice g1 PA.length c1) 3 0 rfl rfl) (HSc.out.cell (v:=.slice g2 PB.length c2) 3 1 rfl rfl) (Zaj (HSc.out.row 1 rfl)) (Zaj (HSc.out.row 2 rfl))).mono ?_;rintro e w8 ⟨a8,c8,rfl,hS8⟩;have hS9:=(HSc.out.cat hS8).pick [4] (by decide);rw[← List.map_append,List.length_map,List.length_map] at hS9;have HS9:=qh hS9;clear hS8 hS9;go_wp2;go_ret;refine⟨a8,c8,?_,?_⟩
  ·rw[List.length_append];rfl
  rw[List.length_append];exact HS9.out
 refine⟨false,false,false,false,false,false,false,false,false,false,false,false,none,0,rfl,by simp,(by simp),?_⟩;exact HS3.out.drew.pick [0,1,2] (by decide)
theorem Zda (f:Bool):∀ t:Ex,plnE t→t.post.length≤60→EdgC f t:=by
 intro t
 induction t with
 | zero=>exact fun _ _=>Zmo f
 | one=>exact fun _ _=>Znq f
 | ltr c=>exact fun _ _=>Znr f c
 | join a b ha hb=>exact fun hp h=>Zmq f a b h (ha hp.1 (by simp[Ex.post] at h;omega)) (hb hp.2 (by simp[Ex.post] at h;omega))
 | alt a b ha hb=>exact fun hp h=>Zns f a b h (ha hp.1 (by simp[Ex.post] at h;omega)) (hb hp.2 (by simp[Ex.post] at h;omega))
 | both a b ha hb=>exact fun hp _=>hp.elim
 | neg a ha=>exact fun hp _=>hp.elim
 | star a ha=>exact fun hp h=>Zmp f a h (ha hp (by simp[Ex.post] at h;omega))
end Go.Proofs.Ytfanhfcamblghaa
