/-
  The walks over the program's tables of the parts of a word: filled, joinedSpans, starSpans.
  Conditions: the word has at most eight letters; the function that tells a part is walked.
-/
import Derived.Test.YtfanhfcamblghaaPq28Ry
import Derived.Test.YtfanhfcamblghaaPq47Nr
set_option maxHeartbeats 8000000
set_option maxRecDepth 100000
namespace Go.Proofs.Ytfanhfcamblghaa
open Go.RowKit
def spC (T:Nat→Nat→Bool):Array Value:=((List.range 81).map fun k=>Value.bool (T (k / 9) (k % 9))).toArray
theorem Zad (T:Nat→Nat→Bool):(spC T).size=81:=by simp[spC]
theorem ZjX (T:Nat→Nat→Bool) {i j:Nat} (hi:i<9) (hj:j<9):(spC T)[i*9+j]? = some (.bool (T i j)):=by unfold spC;rw[List.getElem?_toArray,List.getElem?_map,List.getElem?_range (by omega)];rw[Option.map_some,show(i*9+j) / 9=i by omega,show(i*9+j) % 9=j by omega]
theorem ZmR (T:Nat→Nat→Bool) {i j:Nat} (hi:i<9) (hj:j<9) (v:Bool):(spC T).setIfInBounds (i*9+j) (.bool v)=spC (fun a b=>if a=i∧b=j then v else T a b):=by
 unfold spC;rw[List.setIfInBounds_toArray];congr 1;apply List.ext_getElem?;intro k;rw[List.getElem?_set,List.getElem?_map,List.getElem?_map];by_cases hk:k<81
 ·rw[List.getElem?_range hk];by_cases he:i*9+j=k
  ·subst he;rw[if_pos rfl,if_pos (by simp;omega),Option.map_some];exact congrArg (fun x=>some (Value.bool x)) (if_pos ⟨by omega,by omega⟩).symm
  rw[if_neg he,Option.map_some,Option.map_some];exact congrArg (fun x=>some (Value.bool x)) (if_neg (fun h=>he (by have:=h.1;have:=h.2;omega))).symm
 rw[List.getElem?_eq_none (by simp;omega)];by_cases he:i*9+j=k
 ·omega
 rw[if_neg he];rfl
theorem ZaO (T:Nat→Nat→Bool):∀ v∈(spC T).toList,v.oneCell'=true:=fun v hv=>by simp only[spC,List.mem_map] at hv;obtain⟨k,-,rfl⟩:=hv;rfl
theorem Zb9 {T U:Nat→Nat→Bool} (h:∀ i j,i<9→j<9→T i j=U i j):spC T=spC U:=by unfold spC;congr 1;apply List.map_congr_left;intro k hk;rw[List.mem_range] at hk;rw[h (k / 9) (k % 9) (by omega) (by omega)]
def ZcC (n:Nat) (F:Nat→Nat→Bool) (i j a b:Nat):Bool:=decide (a≤b∧b≤n∧(a<i∨a=i∧b<j))&&F a b
theorem Zjp (n:Nat) (F:Nat→Nat→Bool):spC (ZcC n F 0 0)=spC (fun _ _=>false):=Zb9 fun a b _ _=>by unfold ZcC;rw[decide_eq_false (by omega)];rfl
theorem ZkW (n:Nat) (F:Nat→Nat→Bool) (i:Nat):spC (ZcC n F i 0)=spC (ZcC n F i i):=Zb9 fun a b _ _=>by unfold ZcC;congr 1;exact decide_eq_decide.2 (by omega)
theorem Zjr (n:Nat) (F:Nat→Nat→Bool) (i:Nat):spC (ZcC n F i (n+1))=spC (ZcC n F (i+1) 0):=Zb9 fun a b _ _=>by unfold ZcC;congr 1;exact decide_eq_decide.2 (by omega)
theorem ZkX (n:Nat) (F:Nat→Nat→Bool):spC (ZcC n F (n+1) 0)=spC (Zak n F):=Zb9 fun a b _ _=>by unfold ZcC Zak;congr 1;exact decide_eq_decide.2 (by omega)
theorem Zjq (n:Nat) (F:Nat→Nat→Bool) {i j:Nat} (hij:i≤j) (hj:j≤n) (hn:n≤8):(spC (ZcC n F i j)).setIfInBounds (i*9+j) (.bool (F i j))=spC (ZcC n F i (j+1)):=by
 rw[ZmR _ (by omega) (by omega)];refine Zb9 fun a b _ _ => ?_
 unfold ZcC;by_cases h:a=i∧b=j
 ·obtain⟨rfl,rfl⟩:=h;rw[if_pos ⟨rfl,rfl⟩,decide_eq_true (by omega),Bool.true_and]
 rw[if_neg h];congr 1;exact decide_eq_decide.2 (by omega)
theorem Za6 (fn:Nat) (caps:Array Value) (n:Nat) (F:Nat→Nat→Bool) (w:World) (hn:n≤8) (hrun:∀ args u,(callFunc fn args).run Try.prog u = .ok (.enter fn args) u)
  (hF:∀ (i j:Nat),i≤j→j≤n→∀ u:World,Below w.heap.size w u→Calls Try.prog fn (#[.int .i64 (i:Int),.int .i64 (j:Int)]++caps) u fun e w'=>e = .returned (.bool (F i j))∧Below u.heap.size u w') :
  Calls Try.prog 133 #[.int .i64 (n:Int),.func (.func fn) #[] caps] w fun e w'=>e = .returned (.agg (spC (Zak n F)))∧Below w.heap.size w w':=by
 have HF:=qh hF;have HRUN:=qh hrun;clear hF hrun;have hz:Try.zeroCells137 = spC fun _ _=>false:=by rfl
 have HS0:=qh (show St w _ [Ent.box w.heap.size (spC fun _ _=>false) 137,Ent.box (w.heap.size+1) (spC (ZcC n F 0 0)) 137] from by rw[Zjp];exact((St.start w).alloc w.heap.size rfl (spC fun _ _=>false) 137).alloc (w.heap.size+1) (by simp) (spC fun _ _=>false) 137);rw[← hz] at HS0;clear hz
 go_enter Try.func133, Try.ntmps133
 go_wp2
 go_loopw [6,7] (fun vi vj wr=>∃ i:Nat,vi = .int .i64 (i:Int)∧i≤n+1∧St w wr [Ent.box w.heap.size (spC fun _ _=>false) 137,Ent.box (w.heap.size+1) (spC (ZcC n F i 0)) 137]) (fun vi _ _=>n+1-(intOf vi).toNat)
 case atStart=>exact⟨0,rfl,Nat.zero_le _,HS0.out⟩
 case round =>
  obtain⟨i,rfl,hi,hS⟩:=hrel;have HS:=qh hS;clear hS HS0;by_cases hlt:i≤n
  ·have hi1:(i:Int)≤(n:Int):=by omega
   have hw1:IntKind.i64.wrap ((i:Int)+1)=(i:Int)+1:=IntWalk.i64_in _ (by omega);go_wp2
   go_loopw [7] (fun vj wr=>∃ j:Nat,vj = .int .i64 (j:Int)∧i≤j∧j≤n+1∧St w wr [Ent.box w.heap.size (spC fun _ _=>false) 137,Ent.box (w.heap.size+1) (spC (ZcC n F i j)) 137]) (fun vj _=>n+1-(intOf vj).toNat)
   case atStart=>exact⟨i,rfl,Nat.le_refl _,by omega,ZkW n F i ▸ HS.out⟩
   case round =>
    obtain⟨j,rfl,hij,hj,hS⟩:=hrel;have HSj:=qh hS;clear hS;by_cases hlt2:j≤n
    ·have hj1:(j:Int)≤(n:Int):=by omega
     have hjn:=hlt2;have hi9:(i:Int)<9:=by omega
     have hj9:(j:Int)<9:=by omega
     have hw2:IntKind.i64.wrap ((j:Int)+1)=(j:Int)+1:=IntWalk.i64_in _ (by omega);go_wp2;refine wp_region_any (by kernel_rfl) ?_
     refine Zaf (fun A listed a w'=>∃ (l0 l1 l2 l3 l4 l5 l6 l7 l8:Bool) ,listed=#[l0,l1,l2,l3,l4,l5,l6,l7,l8] ∧
       a=⟨((((((((A.tmps.setIfInBounds 19 (if l0=true then .int .i64 (i:Int) else A.tmps.getD 19 undef)).setIfInBounds 20 (if l1=true then .int .i64 (j:Int) else A.tmps.getD 20 undef)).setIfInBounds 21 (if l2=true then .func (.func fn) #[] caps else A.tmps.getD 21 undef)).setIfInBounds 22 (if l3=true then .int .i64 (i:Int) else A.tmps.getD 22 undef)).setIfInBounds 23 (if l4=true then .int .i64 (j:Int) else A.tmps.getD 23 undef)).setIfInBounds 24 (if l5=true then .bool (F i j) else A.tmps.getD 24 undef)).setIfInBounds 25 (if l6=true then .pointer (some ⟨(w.heap.size+1),i*9,none⟩) else A.tmps.getD 25 undef)).setIfInBounds 26 (if l7=true then .pointer (some ⟨(w.heap.size+1),i*9+j,none⟩) else A.tmps.getD 26 undef)),A.defers⟩ ∧
       St w w' [Ent.box w.heap.size (spC fun _ _=>false) 137,(if l8=true then Ent.box ((w.heap.size+1)) (spC (ZcC n F i (j+1))) 137 else Ent.box ((w.heap.size+1)) (spC (ZcC n F i j)) 137)]) ?_ ?_ ?_
     ·rintro listed a w' ⟨l0,l1,l2,l3,l4,l5,l6,l7,l8,rfl,rfl,hS⟩ i hi;obtain⟨hun,o,ho,hall⟩:=mem_ready.1 hi;have hlt:=(Array.getElem?_eq_some_iff.1 ho).1;refine wpOp_step ho (fun K hK => ?_);clear hi;have HS:=qh hS;clear hS;simp only[List.setIfInBounds_toArray,List.set_cons_zero,List.set_cons_succ,Array.getD_eq_getD_getElem?,List.getElem?_toArray,List.getElem?_cons_zero,List.getElem?_cons_succ,Option.getD_some];obtain h|h|h|h|h|h|h|h|h:i=0∨i=1∨i=2∨i=3∨i=4∨i=5∨i=6∨i=7∨i=8:=by simp at hlt;omega
      all_goals subst h
      all_goals simp only[List.getElem?_toArray,List.getElem?_cons_zero,List.getElem?_cons_succ,Option.some.injEq] at ho
      all_goals subst ho
      all_goals simp[Region.binds] at hun hall
      ·subst hun;go_simp;exact hK _ _ ⟨true,l1,l2,l3,l4,l5,l6,l7,l8,rfl,(by simp),HS.out⟩
      ·subst hun;go_simp;exact hK _ _ ⟨l0,true,l2,l3,l4,l5,l6,l7,l8,rfl,(by simp),HS.out⟩
      ·subst hun;go_simp;exact hK _ _ ⟨l0,l1,true,l3,l4,l5,l6,l7,l8,rfl,(by simp),HS.out⟩
      ·subst hun;go_simp;exact hK _ _ ⟨l0,l1,l2,true,l4,l5,l6,l7,l8,rfl,(by simp),HS.out⟩
      ·subst hun;go_simp;exact hK _ _ ⟨l0,l1,l2,l3,true,l5,l6,l7,l8,rfl,(by simp),HS.out⟩
      ·obtain⟨rfl,rfl,rfl⟩:=hall;subst hun;go_simp;rw[HRUN.out];go_simp;refine(HF.out i j hij hjn _ HS.out.bel).mono ?_;rintro e u1 ⟨rfl,hb⟩;have hS2:=HS.out.call hb;replace hS2:=qh hS2;go_simp;exact hK _ _ ⟨l0,l1,true,true,true,true,l6,l7,l8,rfl,(by simp),hS2.out⟩
      ·obtain rfl:=hall;subst hun;go_simp;exact hK _ _ ⟨true,l1,l2,l3,l4,l5,true,l7,l8,rfl,(by simp),HS.out⟩
      ·obtain⟨rfl,rfl,rfl,-,rfl,rfl,rfl,rfl⟩:=hall;subst hun;go_simp;exact hK _ _ ⟨true,true,true,true,true,true,true,true,l8,rfl,(by simp),HS.out⟩
      obtain⟨rfl,rfl,rfl,rfl,rfl,rfl,rfl,-⟩:=hall;subst hun;have f0:=HS.out.fr 1 (i*9+j) rfl;have k0:=HS.out.cell (v:=.bool (ZcC n F i j i j)) 1 (i*9+j) rfl (ZjX _ (by omega) (by omega));go_simp;exact hK _ _ ⟨true,true,true,true,true,true,l6,true,true,rfl,(by simp),(Zjq n F hij hjn hn ▸ HS.out.set 1 rfl (i*9+j) (.bool (F i j)))⟩
     ·rintro listed a w' ⟨l0,l1,l2,l3,l4,l5,l6,l7,l8,rfl,rfl,hS⟩ hr;have hall:=Zag (by kernel_rfl) rfl hr;obtain rfl:l0=true:=by simpa using hall 0 (by simp)
      obtain rfl:l1=true:=by simpa using hall 1 (by simp)
      obtain rfl:l2=true:=by simpa using hall 2 (by simp)
      obtain rfl:l3=true:=by simpa using hall 3 (by simp)
      obtain rfl:l4=true:=by simpa using hall 4 (by simp)
      obtain rfl:l5=true:=by simpa using hall 5 (by simp)
      obtain rfl:l6=true:=by simpa using hall 6 (by simp)
      obtain rfl:l7=true:=by simpa using hall 7 (by simp)
      obtain rfl:l8=true:=by simpa using hall 8 (by simp)
      clear hall hr ;simp only[↓reduceIte] at hS ⊢;simp only[List.setIfInBounds_toArray,List.set_cons_zero,List.set_cons_succ];have HSf:=qh hS;clear hS;go_wp2;go_roundw
      case rel=>exact⟨j+1,by simp,by omega,by omega,HSf.out⟩
      case measure=>simp[intOf];omega
     refine⟨false,false,false,false,false,false,false,false,false,rfl,(by simp),?_⟩;exact HSj.out.drew.pick [0,1] (by decide)
    have hj1:¬ (j:Int)≤(n:Int):=by omega
    obtain rfl:j=n+1:=by omega
    go_wp2;go_roundw
    case rel=>exact⟨i+1,by simp,by omega,Zjr n F i ▸ HSj.out⟩
    case measure=>simp[intOf];omega
  have hi1:¬ (i:Int)≤(n:Int):=by omega
  have hin:i=n+1:=by omega
  have hS9:=HS.out;rw[hin,ZkX] at hS9;have HS9:=qh hS9;have Hhin:=qh hin;clear hin;clear hS9;rename_i hK0;have HK:=qh hK0;clear hK0;go_wp2;refine HK.out _ _ ?_;have hI:(Try.prog.info? 137).map (·.size)=some 81:=by kernel_rfl
  refine wp_seq ?_;refine wp_region_list ?_;refine ZfO rfl 137 _ rfl (w.heap.size+1) rfl 137 (spC (Zak n F)) _ (HS9.out.box 1 rfl) Try.underlying137 rfl (by rw[hI,Zad]) ?_;refine ZeV rfl 137 _ _ rfl w.heap.size 137 (spC fun _ _=>false) (spC (Zak n F)) rfl rfl (HS9.out.box 0 rfl) (by rw[hI,Zad]) (by rw[Zad,Zad]) (ZaO _) ?_;refine wpList_nil ?_;have HS8:=qh (HS9.out.setAll 0 rfl (spC (Zak n F)));show Code.wp Try.prog Code.ret _ _ _;go_wp2;refine bodyPost_ret (v:=.agg (spC (Zak n F))) (Zba Try.results133 _ _ _ w.heap.size 137 (spC (Zak n F)) _ rfl (HS8.out.box 0 rfl) Try.underlying137 rfl (by rw[hI,Zad])) rfl ?_;exact⟨rfl,HS8.out.bel⟩
def TabAt (w:World) (b:Nat) (T:Nat→Nat→Bool):Prop:=∀ x y,x<9→y<9→w.cell? ⟨b,x*9+y,none⟩=some (.bool (T x y))
theorem TabAt.of_box {w:World} {b:Nat} {T:Nat→Nat→Bool} {t:TypeId} (h:Bx w b (spC T) t):TabAt w b T:=fun x y hx hy=>(h.cell (x*9+y)).trans (ZjX T hx hy)
theorem Zh4 (A B:Nat→Nat→Bool) (b2 b3 i j:Nat) (u:World) (hij:i≤j) (hj:j≤8) (hA:TabAt u b2 A) (hB:TabAt u b3 B) (r:Bool) (hr:r=true↔∃ k,i≤k∧k≤j∧A i k=true∧B k j=true) :
  Calls Try.prog 153 #[.int .i64 (i:Int),.int .i64 (j:Int),.pointer (some ⟨b2,0,none⟩),.pointer (some ⟨b3,0,none⟩)] u fun e w'=>e = .returned (.bool r)∧Below u.heap.size u w':=by
 have HA:=qh hA;have HB:=qh hB;have HR:=qh hr;clear hA hB hr;have hi9:(i:Int)<9:=by omega
 have hj9:(j:Int)<9:=by omega
 go_enter Try.func153, Try.ntmps153
 go_wp2
 go_loopw [7] (fun vk wr=>∃ k:Nat,vk = .int .i64 (k:Int)∧i≤k∧k≤j+1∧(∀ m,i≤m→m<k→¬ (A i m=true∧B m j=true))∧wr=u) (fun vk _=>j+1-(intOf vk).toNat)
 case atStart=>exact⟨i,rfl,Nat.le_refl _,by omega,fun m h1 h2=>by omega,rfl⟩
 case round =>
  obtain⟨k,rfl,hik,hk,hno,rfl⟩:=hrel;have HNO:=qh hno;clear hno;by_cases hlt:k≤j
  ·have hk1:(k:Int)≤(j:Int):=by omega
   have hk9:(k:Int)<9:=by omega
   have hw1:IntKind.i64.wrap ((k:Int)+1)=(k:Int)+1:=IntWalk.i64_in _ (by omega);have k0:=HA.out i k (by omega) (by omega);have k1:=HB.out k j (by omega) (by omega);cases ha:A i k with
   | false =>
    rw[ha] at k0;have Ha:=qh ha;clear ha;go_wp2;go_roundw
    case rel=>exact⟨k+1,by simp,by omega,by omega,fun m h1 h2 h3=>by
     by_cases he:m=k
     ·subst he;rw[Ha.out] at h3;exact absurd h3.1 (by simp)
     exact HNO.out m h1 (by omega) h3,trivial⟩
    case measure=>simp[intOf];omega
   | true =>
    rw[ha] at k0;have Ha:=qh ha;clear ha;cases hb:B k j with
    | false =>
     rw[hb] at k1;have Hb:=qh hb;clear hb;go_wp2;go_roundw
     case rel=>exact⟨k+1,by simp,by omega,by omega,fun m h1 h2 h3=>by
      by_cases he:m=k
      ·subst he;rw[Hb.out] at h3;exact absurd h3.2 (by simp)
      exact HNO.out m h1 (by omega) h3,trivial⟩
     case measure=>simp[intOf];omega
    | true =>rw[hb] at k1;have hrt:r=true:=HR.out.2 ⟨k,hik,hlt,Ha.out,hb⟩;subst hrt;clear hb;go_wp2;go_ret;exact⟨rfl,Below.refl _ _⟩
  have hk1:¬ (k:Int)≤(j:Int):=by omega
  have hrf:r=false:=by
   cases hr:r with
   | false=>rfl
   | true =>obtain⟨m,h1,h2,h3,h4⟩:=HR.out.1 hr;exact absurd ⟨h3,h4⟩ (HNO.out m h1 (by omega))
  subst hrf;go_wp2;go_ret;exact⟨rfl,Below.refl _ _⟩
theorem ZaU {f : FuncId} {fn : Func} {c : Code} (hf : Try.prog.funcs[f]? = some fn) (hname : (fn.name == "runtime.NumGoroutine") = false) (hb : fn.body = some c) (args : Array Value) (w : World) :
  (callFunc f args).run Try.prog w = .ok (.enter f args) w:=by
 have h1 : fn.name ≠ "runtime.NumGoroutine" := by simpa using hname
 simp[callFunc,hf,h1,hb]
theorem ZcX (n:Nat) (A B F:Nat→Nat→Bool) (w:World) (hn:n≤8) (hF:∀ i j,i≤j→j≤n→(F i j=true↔∃ k,i≤k∧k≤j∧A i k=true∧B k j=true)) :
  Calls Try.prog 136 #[.int .i64 (n:Int),.agg (spC A),.agg (spC B)] w fun e w'=>e = .returned (.agg (spC (Zak n F)))∧Below w.heap.size w w':=by
 have HF:=qh hF;clear hF;have hz:Try.zeroCells137 = spC fun _ _=>false:=by rfl
 have HS0:=qh (show St w _ [Ent.box w.heap.size (spC A) 137,Ent.box (w.heap.size+1) (spC B) 137,Ent.box (w.heap.size+1+1) (spC fun _ _=>false) 137] from((((St.start w).alloc w.heap.size rfl (spC A) 137).alloc (w.heap.size+1) (by simp) (spC B) 137)).alloc (w.heap.size+1+1) (by simp) (spC fun _ _=>false) 137);rw[← hz] at HS0;replace hz:=qh hz
 go_enter Try.func136, Try.ntmps136
 go_wp2_with (go_at_call 133;go_loud (refine(Za6 153 #[.pointer (some ⟨w.heap.size,0,none⟩),.pointer (some ⟨w.heap.size+1,0,none⟩)] n F _ hn (ZaU Try.func153 (by kernel_rfl) rfl) (fun i j hij hj u hu=>Zh4 A B _ _ i j u hij (by omega) (TabAt.of_box ((HS0.out.call hu).box 0 rfl)) (TabAt.of_box ((HS0.out.call hu).box 1 rfl)) (F i j) (HF.out i j hij hj))).mono ?_;rintro e w1 ⟨rfl,hb⟩;have HS1:=qh (HS0.out.call hb);have hst:=ZaQ (P:=Try.prog) (HS1.out.box 2 rfl) (cs':=spC (Zak n F)) (by rw[Zad,hz.out,Zad]) (ZaO _);clear hb));have hI:(Try.prog.info? 137).map (·.size)=some 81:=by kernel_rfl
 have HS8:=qh (HS1.out.setAll 2 rfl (spC (Zak n F)));refine bodyPost_ret (v:=.agg (spC (Zak n F))) (Zba Try.results136 _ _ _ (w.heap.size+1+1) 137 (spC (Zak n F)) _ rfl (HS8.out.box 2 rfl) Try.underlying137 rfl (by rw[hI,Zad])) rfl ?_;exact⟨rfl,HS8.out.bel⟩
theorem ZjS (i j:Nat) (u:World) (r:Bool) (hr:r=true↔i=j) (_hi:i≤8) (hj:j≤8) :
  Calls Try.prog 154 #[.int .i64 (i:Int),.int .i64 (j:Int)] u fun e w'=>e = .returned (.bool r)∧Below u.heap.size u w':=by
 by_cases h:i=j
 ·have hr1:=hr.2 h;subst hr1 h;clear hr
  go_enter Try.func154, Try.ntmps154
  go_wp2;go_ret;exact⟨by simp,Below.refl _ _⟩
 have hr1:r=false:=by
  cases r with
  | false=>rfl
  | true=>exact absurd (hr.1 rfl) h
 subst hr1;have hn:((i:Int)==(j:Int))=false:=by simp;omega
 clear hr
 go_enter Try.func154, Try.ntmps154
 go_wp2;go_ret;exact⟨by simp,Below.refl _ _⟩
theorem ZjR (A B:Nat→Nat→Bool) (b2 b3 i j:Nat) (u:World) (hij:i≤j) (hj:j≤8) (hA:TabAt u b2 A) (hB:TabAt u b3 B) (r:Bool) (hr:(A i j||B i j)=r) :
  Calls Try.prog 155 #[.int .i64 (i:Int),.int .i64 (j:Int),.pointer (some ⟨b2,0,none⟩),.pointer (some ⟨b3,0,none⟩)] u fun e w'=>e = .returned (.bool r)∧Below u.heap.size u w':=by
 have hi9:(i:Int)<9:=by omega
 have hj9:(j:Int)<9:=by omega
 have k0:=hA i j (by omega) (by omega);have k1:=hB i j (by omega) (by omega);cases ha:A i j with
 | true =>
  rw[ha] at k0 hr;subst hr;clear ha hA hB k1
  go_enter Try.func155, Try.ntmps155
  go_wp2;go_ret;exact⟨rfl,Below.refl _ _⟩
 | false =>
  rw[ha] at k0 hr;obtain⟨y,hy⟩:=eJ (B i j);rw[hy] at k1 hr;rw[Bool.false_or] at hr;subst hr;clear ha hA hB hy
  go_enter Try.func155, Try.ntmps155
  go_wp2;go_ret;exact⟨rfl,Below.refl _ _⟩
theorem Zbg {op:Oper} {a:Act} {w:World} {K:Act→World→Prop} {Q:Exit→Act→World→Prop} (ty:TypeId) (x:Operand) (ho:op.op = .load ty x) (b:Nat) (T:TypeId) (cs:Array Value) (d:TypeDesc) (hx:a.eval x = .pointer (some ⟨b,0,none⟩)) (hb:Bx w b cs T)
  (hu:Try.prog.underlying ty=some d) (hd:d.isRow=true) (hi:(Try.prog.info? ty).map (·.size)=some cs.size) (h:K (a.put op.dst (.agg cs)) w):op.wp Try.prog a w K Q:=by
 have hr:(loadVar ty ⟨b,0,none⟩).run Try.prog w = .ok (.agg cs) w:=run_loadVar_row w b T ty cs (0,0) d hb hu (by cases d<;>simp_all [TypeDesc.isRow]) hi;unfold Oper.wp execOp;simp only[ho,hx,Instr.loadAt,Instr.sureAddr,Sem.run_bind,Sem.run_pure,Result.andThen_ok,hr];exact h
end Go.Proofs.Ytfanhfcamblghaa
