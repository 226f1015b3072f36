/-
  The walks over the program's tables of the parts of a word: filled, joinedSpans, starSpans.
  Conditions: the word has at most eight letters; the function that tells a part is walked.
-/
import Derived.Test.YtehmjmjedopkkaaGreatPo11Arr
set_option maxHeartbeats 8000000
set_option maxRecDepth 100000
namespace Go.Proofs.YtehmjmjedopkkaaGreat
open Go.RowKit
def spC (T:Nat→Nat→Bool):Array Value:=((List.range 81).map fun k=>Value.bool (T (k / 9) (k % 9))).toArray
theorem Zai (T:Nat→Nat→Bool):(spC T).size=81:=by simp[spC]
theorem Zm3 (T:Nat→Nat→Bool) {i j:Nat} (hi:i<9) (hj:j<9):(spC T)[i*9+j]? = some (.bool (T i j)):=by unfold spC;rw[w_5,List.getElem?_map,List.getElem?_range (by omega)];rw[Option.map_some,show(i*9+j) / 9=i by omega,show(i*9+j) % 9=j by omega]
theorem Zqf (T:Nat→Nat→Bool) {i j:Nat} (hi:i<9) (hj:j<9) (v:Bool):(spC T).setIfInBounds (i*9+j) (.bool v)=spC (fun a b=>if a=i∧b=j then v else T a b):=by
 unfold spC;rw[w_1];congr 1;apply List.ext_getElem?;intro k;rw[List.getElem?_set,List.getElem?_map,List.getElem?_map];by_cases hk:k<81
 ·rw[List.getElem?_range hk];by_cases he:i*9+j=k
  ·subst he;rw[if_pos rfl,if_pos (by simp;omega),Option.map_some];exact congrArg (fun x=>some (Value.bool x)) (if_pos ⟨by omega,by omega⟩).symm
  rw[if_neg he,Option.map_some,Option.map_some];exact congrArg (fun x=>some (Value.bool x)) (if_neg (fun h=>he (by have:=h.1;have:=h.2;omega))).symm
 rw[List.getElem?_eq_none (by simp;omega)];by_cases he:i*9+j=k
 ·omega
 rw[if_neg he];rfl
theorem Zba (T:Nat→Nat→Bool):∀ v∈(spC T).toList,v.oneCell'=true:=fun v hv=>by simp only[spC,List.mem_map] at hv;obtain⟨k,-,rfl⟩:=hv;rfl
theorem ZcU {T U:Nat→Nat→Bool} (h:∀ i j,i<9→j<9→T i j=U i j):spC T=spC U:=by unfold spC;congr 1;apply List.map_congr_left;intro k hk;rw[List.mem_range] at hk;rw[h (k / 9) (k % 9) (by omega) (by omega)]
def Zan (n:Nat) (F:Nat→Nat→Bool) (a b:Nat):Bool:=decide (a≤b∧b≤n)&&F a b
def Zdi (n:Nat) (F:Nat→Nat→Bool) (i j a b:Nat):Bool:=decide (a≤b∧b≤n∧(a<i∨a=i∧b<j))&&F a b
theorem Zmm (n:Nat) (F:Nat→Nat→Bool):spC (Zdi n F 0 0)=spC (fun _ _=>false):=ZcU fun a b _ _=>by unfold Zdi;rw[decide_eq_false (by omega)];rfl
theorem Zoc (n:Nat) (F:Nat→Nat→Bool) (i:Nat):spC (Zdi n F i 0)=spC (Zdi n F i i):=ZcU fun a b _ _=>by unfold Zdi;congr 1;exact decide_eq_decide.2 (by omega)
theorem Zmo (n:Nat) (F:Nat→Nat→Bool) (i:Nat):spC (Zdi n F i (n+1))=spC (Zdi n F (i+1) 0):=ZcU fun a b _ _=>by unfold Zdi;congr 1;exact decide_eq_decide.2 (by omega)
theorem Zod (n:Nat) (F:Nat→Nat→Bool):spC (Zdi n F (n+1) 0)=spC (Zan n F):=ZcU fun a b _ _=>by unfold Zdi Zan;congr 1;exact decide_eq_decide.2 (by omega)
theorem Zmn (n:Nat) (F:Nat→Nat→Bool) {i j:Nat} (hij:i≤j) (hj:j≤n) (hn:n≤8):(spC (Zdi n F i j)).setIfInBounds (i*9+j) (.bool (F i j))=spC (Zdi n F i (j+1)):=by
 rw[Zqf _ (by omega) (by omega)];refine ZcU fun a b _ _ => ?_
 unfold Zdi;by_cases h:a=i∧b=j
 ·obtain⟨rfl,rfl⟩:=h;rw[if_pos ⟨rfl,rfl⟩,decide_eq_true (by omega),Bool.true_and]
 rw[if_neg h];congr 1;exact decide_eq_decide.2 (by omega)
theorem ZbG (fn:Nat) (caps:Array Value) (n:Nat) (F:Nat→Nat→Bool) (w:World) (hn:n≤8) (hrun:∀ args u,(callFunc fn args).run Tryz.prog u = .ok (.enter fn args) u)
  (hF:∀ (i j:Nat),i≤j→j≤n→∀ u:World,Below w.heap.size w u→Calls Tryz.prog fn (#[.int .i64 (i:Int),.int .i64 (j:Int)]++caps) u fun e w'=>e = .returned (.bool (F i j))∧Below u.heap.size u w') :
  Calls Tryz.prog 128 #[.int .i64 (n:Int),.func (.func fn) #[] caps] w fun e w'=>e = .returned (.agg (spC (Zan n F)))∧Below w.heap.size w w':=by
 have HF:=qh hF;have HRUN:=qh hrun;clear hF hrun;have hz:Tryz.zeroCells111 = spC fun _ _=>false:=by rfl
 have HS0:=qh (show St w _ [Ent.box w.heap.size (spC fun _ _=>false) 111,Ent.box (w.heap.size+1) (spC (Zdi n F 0 0)) 111] from by rw[Zmm];exact((St.start w).alloc w.heap.size rfl (spC fun _ _=>false) 111).alloc (w.heap.size+1) (by simp) (spC fun _ _=>false) 111);rw[← hz] at HS0;clear hz
 go_enter Tryz.func128, Tryz.ntmps128
 go_wp2
 go_loopw [6,7] (fun vi vj wr=>∃ i:Nat,vi = .int .i64 (i:Int)∧i≤n+1∧St w wr [Ent.box w.heap.size (spC fun _ _=>false) 111,Ent.box (w.heap.size+1) (spC (Zdi n F i 0)) 111]) (fun vi _ _=>n+1-(intOf vi).toNat)
 case atStart=>exact⟨0,rfl,Nat.zero_le _,HS0.out⟩
 case round =>
  obtain⟨i,rfl,hi,hS⟩:=hrel;have HS:=qh hS;clear hS HS0;by_cases hlt:i≤n
  ·have hi1:(i:Int)≤(n:Int):=by omega
   have hw1:IntKind.i64.wrap ((i:Int)+1)=(i:Int)+1:=IntWalk.i64_in _ (by omega);go_wp2
   go_loopw [7] (fun vj wr=>∃ j:Nat,vj = .int .i64 (j:Int)∧i≤j∧j≤n+1∧St w wr [Ent.box w.heap.size (spC fun _ _=>false) 111,Ent.box (w.heap.size+1) (spC (Zdi n F i j)) 111]) (fun vj _=>n+1-(intOf vj).toNat)
   case atStart=>exact⟨i,rfl,Nat.le_refl _,by omega,Zoc n F i ▸ HS.out⟩
   case round =>
    obtain⟨j,rfl,hij,hj,hS⟩:=hrel;have HSj:=qh hS;clear hS;by_cases hlt2:j≤n
    ·have hj1:(j:Int)≤(n:Int):=by omega
     have hjn:=hlt2;have hi9:(i:Int)<9:=by omega
     have hj9:(j:Int)<9:=by omega
     have hw2:IntKind.i64.wrap ((j:Int)+1)=(j:Int)+1:=IntWalk.i64_in _ (by omega);go_wp2;refine wp_region_any (by kernel_rfl) ?_
     refine Zao (fun A listed a w'=>∃ (l0 l1 l2 l3 l4 l5 l6 l7 l8:Bool) ,listed=#[l0,l1,l2,l3,l4,l5,l6,l7,l8] ∧
       a=⟨((((((((A.tmps.setIfInBounds 19 (if l0=true then .int .i64 (i:Int) else A.tmps.getD 19 undef)).setIfInBounds 20 (if l1=true then .int .i64 (j:Int) else A.tmps.getD 20 undef)).setIfInBounds 21 (if l2=true then .func (.func fn) #[] caps else A.tmps.getD 21 undef)).setIfInBounds 22 (if l3=true then .int .i64 (i:Int) else A.tmps.getD 22 undef)).setIfInBounds 23 (if l4=true then .int .i64 (j:Int) else A.tmps.getD 23 undef)).setIfInBounds 24 (if l5=true then .bool (F i j) else A.tmps.getD 24 undef)).setIfInBounds 25 (if l6=true then .pointer (some ⟨(w.heap.size+1),i*9,none⟩) else A.tmps.getD 25 undef)).setIfInBounds 26 (if l7=true then .pointer (some ⟨(w.heap.size+1),i*9+j,none⟩) else A.tmps.getD 26 undef)),A.defers⟩ ∧
       St w w' [Ent.box w.heap.size (spC fun _ _=>false) 111,(if l8=true then Ent.box ((w.heap.size+1)) (spC (Zdi n F i (j+1))) 111 else Ent.box ((w.heap.size+1)) (spC (Zdi n F i j)) 111)]) ?_ ?_ ?_
     ·rintro listed a w' ⟨l0,l1,l2,l3,l4,l5,l6,l7,l8,rfl,rfl,hS⟩ i hi;obtain⟨hun,o,ho,hall⟩:=mem_ready.1 hi;have hlt:=(Array.getElem?_eq_some_iff.1 ho).1;refine wpOp_step ho (fun K hK => ?_);clear hi;have HS:=qh hS;clear hS;simp only[w_1,w_2,w_3,w_4,w_5,w_6,w_7,w_8];obtain h|h|h|h|h|h|h|h|h:i=0∨i=1∨i=2∨i=3∨i=4∨i=5∨i=6∨i=7∨i=8:=by simp at hlt;omega
      all_goals subst h
      all_goals simp only[w_5,w_6,w_7,w_9] at ho
      all_goals subst ho
      all_goals simp[Region.binds] at hun hall
      ·subst hun;go_simp;exact hK _ _ ⟨_,_,_,_,_,_,_,_,_,rfl,(by simp),HS.out⟩
      ·subst hun;go_simp;exact hK _ _ ⟨_,_,_,_,_,_,_,_,_,rfl,(by simp),HS.out⟩
      ·subst hun;go_simp;exact hK _ _ ⟨_,_,_,_,_,_,_,_,_,rfl,(by simp),HS.out⟩
      ·subst hun;go_simp;exact hK _ _ ⟨_,_,_,_,_,_,_,_,_,rfl,(by simp),HS.out⟩
      ·subst hun;go_simp;exact hK _ _ ⟨_,_,_,_,_,_,_,_,_,rfl,(by simp),HS.out⟩
      ·obtain⟨rfl,rfl,rfl⟩:=hall;subst hun;go_simp;rw[HRUN.out];go_simp;refine(HF.out i j hij hjn _ HS.out.bel).mono ?_;rintro e u1 ⟨rfl,hb⟩;have hS2:=HS.out.call hb;replace hS2:=qh hS2;go_simp;exact hK _ _ ⟨_,_,_,_,_,_,_,_,_,rfl,(by simp),hS2.out⟩
      ·obtain rfl:=hall;subst hun;go_simp;exact hK _ _ ⟨_,_,_,_,_,_,_,_,_,rfl,(by simp),HS.out⟩
      ·obtain⟨rfl,rfl,rfl,-,rfl,rfl,rfl,rfl⟩:=hall;subst hun;go_simp;exact hK _ _ ⟨_,_,_,_,_,_,_,_,_,rfl,(by simp),HS.out⟩
      obtain⟨rfl,rfl,rfl,rfl,rfl,rfl,rfl,-⟩:=hall;subst hun;have f0:=HS.out.fr 1 (i*9+j) rfl;have k0:=HS.out.cell (v:=.bool (Zdi n F i j i j)) 1 (i*9+j) rfl (Zm3 _ (by omega) (by omega));go_simp;exact hK _ _ ⟨_,_,_,_,_,_,_,_,_,rfl,(by simp),(Zmn n F hij hjn hn ▸ HS.out.set 1 rfl (i*9+j) (.bool (F i j)))⟩
     ·rintro listed a w' ⟨l0,l1,l2,l3,l4,l5,l6,l7,l8,rfl,rfl,hS⟩ hr;obtain⟨rfl,rfl,rfl,rfl,rfl,rfl,rfl,rfl,rfl,-⟩:=zA (ZaG (by kernel_rfl) rfl hr) rfl;clear hr ;simp only[↓reduceIte] at hS ⊢;simp only[w_1,w_2,w_3];have HSf:=qh hS;clear hS;go_wp2;go_roundw
      case rel=>exact⟨j+1,by simp,by omega,by omega,HSf.out⟩
      case measure=>simp[intOf];omega
     refine⟨false,false,false,false,false,false,false,false,false,rfl,(by simp),?_⟩;exact HSj.out.drew.pick [0,1] (by decide)
    have hj1:¬ (j:Int)≤(n:Int):=by omega
    obtain rfl:j=n+1:=by omega
    go_wp2;go_roundw
    case rel=>exact⟨i+1,by simp,by omega,Zmo n F i ▸ HSj.out⟩
    case measure=>simp[intOf];omega
  have hi1:¬ (i:Int)≤(n:Int):=by omega
  have hin:i=n+1:=by omega
  have hS9:=HS.out;rw[hin,Zod] at hS9;have HS9:=qh hS9;have Hhin:=qh hin;clear hin;clear hS9;rename_i hK0;have HK:=qh hK0;clear hK0;go_wp2;refine HK.out _ _ ?_;have hI:(Tryz.prog.info? 111).map (·.size)=some 81:=by kernel_rfl
  refine wp_seq ?_;refine wp_region_list ?_;refine ZgY rfl 111 _ rfl (w.heap.size+1) rfl 111 (spC (Zan n F)) _ (HS9.out.box 1 rfl) Tryz.underlying111 rfl (by rw[hI,Zai]) ?_;refine ZfW rfl 111 _ _ rfl w.heap.size 111 (spC fun _ _=>false) (spC (Zan n F)) rfl rfl (HS9.out.box 0 rfl) (by rw[hI,Zai]) (by rw[Zai,Zai]) (Zba _) ?_;refine wpList_nil ?_;have HS8:=qh (HS9.out.setAll 0 rfl (spC (Zan n F)));show Code.wp Tryz.prog Code.ret _ _ _;go_wp2;refine bodyPost_ret (v:=.agg (spC (Zan n F))) (ZbJ Tryz.results128 _ _ _ w.heap.size 111 (spC (Zan n F)) _ rfl (HS8.out.box 0 rfl) Tryz.underlying111 rfl (by rw[hI,Zai])) rfl ?_;exact⟨rfl,HS8.out.bel⟩
def TabAt (w:World) (b:Nat) (T:Nat→Nat→Bool):Prop:=∀ x y,x<9→y<9→w.cell? ⟨b,x*9+y,none⟩=some (.bool (T x y))
theorem TabAt.of_box {w:World} {b:Nat} {T:Nat→Nat→Bool} {t:TypeId} (h:Bx w b (spC T) t):TabAt w b T:=fun x y hx hy=>(h.cell (x*9+y)).trans (Zm3 T hx hy)
theorem Zky (A B:Nat→Nat→Bool) (b2 b3 i j:Nat) (u:World) (hij:i≤j) (hj:j≤8) (hA:TabAt u b2 A) (hB:TabAt u b3 B) (r:Bool) (hr:r=true↔∃ k,i≤k∧k≤j∧A i k=true∧B k j=true) :
  Calls Tryz.prog 149 #[.int .i64 (i:Int),.int .i64 (j:Int),.pointer (some ⟨b2,0,none⟩),.pointer (some ⟨b3,0,none⟩)] u fun e w'=>e = .returned (.bool r)∧Below u.heap.size u w':=by
 have HA:=qh hA;have HB:=qh hB;have HR:=qh hr;clear hA hB hr;have hi9:(i:Int)<9:=by omega
 have hj9:(j:Int)<9:=by omega
 go_enter Tryz.func149, Tryz.ntmps149
 go_wp2
 go_loopw [7] (fun vk wr=>∃ k:Nat,vk = .int .i64 (k:Int)∧i≤k∧k≤j+1∧(∀ m,i≤m→m<k→¬ (A i m=true∧B m j=true))∧wr=u) (fun vk _=>j+1-(intOf vk).toNat)
 case atStart=>exact⟨i,rfl,Nat.le_refl _,by omega,fun m h1 h2=>by omega,rfl⟩
 case round =>
  obtain⟨k,rfl,hik,hk,hno,rfl⟩:=hrel;have HNO:=qh hno;clear hno;by_cases hlt:k≤j
  ·have hk1:(k:Int)≤(j:Int):=by omega
   have hk9:(k:Int)<9:=by omega
   have hw1:IntKind.i64.wrap ((k:Int)+1)=(k:Int)+1:=IntWalk.i64_in _ (by omega);have k0:=HA.out i k (by omega) (by omega);have k1:=HB.out k j (by omega) (by omega);cases ha:A i k with
   | false =>
    rw[ha] at k0;have Ha:=qh ha;clear ha;go_wp2;go_roundw
    case rel=>exact⟨k+1,by simp,by omega,by omega,fun m h1 h2 h3=>by
     by_cases he:m=k
     ·subst he;rw[Ha.out] at h3;exact absurd h3.1 (by simp)
     exact HNO.out m h1 (by omega) h3,trivial⟩
    case measure=>simp[intOf];omega
   | true =>
    rw[ha] at k0;have Ha:=qh ha;clear ha;cases hb:B k j with
    | false =>
     rw[hb] at k1;have Hb:=qh hb;clear hb;go_wp2;go_roundw
     case rel=>exact⟨k+1,by simp,by omega,by omega,fun m h1 h2 h3=>by
      by_cases he:m=k
      ·subst he;rw[Hb.out] at h3;exact absurd h3.2 (by simp)
      exact HNO.out m h1 (by omega) h3,trivial⟩
     case measure=>simp[intOf];omega
    | true =>rw[hb] at k1;have hrt:r=true:=HR.out.2 ⟨k,hik,hlt,Ha.out,hb⟩;subst hrt;clear hb;go_wp2;go_ret;exact⟨rfl,Below.refl _ _⟩
  have hk1:¬ (k:Int)≤(j:Int):=by omega
  have hrf:r=false:=by
   cases hr:r with
   | false=>rfl
   | true =>obtain⟨m,h1,h2,h3,h4⟩:=HR.out.1 hr;exact absurd ⟨h3,h4⟩ (HNO.out m h1 (by omega))
  subst hrf;go_wp2;go_ret;exact⟨rfl,Below.refl _ _⟩
theorem Zbe {f : FuncId} {fn : Func} {c : Code} (hf : Tryz.prog.funcs[f]? = some fn) (hname : (fn.name == "runtime.NumGoroutine") = false) (hb : fn.body = some c) (args : Array Value) (w : World) :
  (callFunc f args).run Tryz.prog w = .ok (.enter f args) w:=by
 have h1 : fn.name ≠ "runtime.NumGoroutine" := by simpa using hname
 simp[callFunc,hf,h1,hb]
theorem Zdy (n:Nat) (A B F:Nat→Nat→Bool) (w:World) (hn:n≤8) (hF:∀ i j,i≤j→j≤n→(F i j=true↔∃ k,i≤k∧k≤j∧A i k=true∧B k j=true)) :
  Calls Tryz.prog 131 #[.int .i64 (n:Int),.agg (spC A),.agg (spC B)] w fun e w'=>e = .returned (.agg (spC (Zan n F)))∧Below w.heap.size w w':=by
 have HF:=qh hF;clear hF;have hz:Tryz.zeroCells111 = spC fun _ _=>false:=by rfl
 have HS0:=qh (show St w _ [Ent.box w.heap.size (spC A) 111,Ent.box (w.heap.size+1) (spC B) 111,Ent.box (w.heap.size+1+1) (spC fun _ _=>false) 111] from((((St.start w).alloc w.heap.size rfl (spC A) 111).alloc (w.heap.size+1) (by simp) (spC B) 111)).alloc (w.heap.size+1+1) (by simp) (spC fun _ _=>false) 111);rw[← hz] at HS0;replace hz:=qh hz
 go_enter Tryz.func131, Tryz.ntmps131
 go_wp2_with (go_at_call 128;go_loud (refine(ZbG 149 #[.pointer (some ⟨w.heap.size,0,none⟩),.pointer (some ⟨w.heap.size+1,0,none⟩)] n F _ hn (Zbe Tryz.func149 (by kernel_rfl) rfl) (fun i j hij hj u hu=>Zky A B _ _ i j u hij (by omega) (TabAt.of_box ((HS0.out.call hu).box 0 rfl)) (TabAt.of_box ((HS0.out.call hu).box 1 rfl)) (F i j) (HF.out i j hij hj))).mono ?_;rintro e w1 ⟨rfl,hb⟩;have HS1:=qh (HS0.out.call hb);have hst:=Zbb (P:=Tryz.prog) (HS1.out.box 2 rfl) (cs':=spC (Zan n F)) (by rw[Zai,hz.out,Zai]) (Zba _);clear hb));have hI:(Tryz.prog.info? 111).map (·.size)=some 81:=by kernel_rfl
 have HS8:=qh (HS1.out.setAll 2 rfl (spC (Zan n F)));refine bodyPost_ret (v:=.agg (spC (Zan n F))) (ZbJ Tryz.results131 _ _ _ (w.heap.size+1+1) 111 (spC (Zan n F)) _ rfl (HS8.out.box 2 rfl) Tryz.underlying111 rfl (by rw[hI,Zai])) rfl ?_;exact⟨rfl,HS8.out.bel⟩
theorem ZmX (i j:Nat) (u:World) (r:Bool) (hr:r=true↔i=j) (_hi:i≤8) (hj:j≤8) :
  Calls Tryz.prog 150 #[.int .i64 (i:Int),.int .i64 (j:Int)] u fun e w'=>e = .returned (.bool r)∧Below u.heap.size u w':=by
 by_cases h:i=j
 ·have hr1:=hr.2 h;subst hr1 h;clear hr
  go_enter Tryz.func150, Tryz.ntmps150
  go_wp2;go_ret;exact⟨by simp,Below.refl _ _⟩
 have hr1:r=false:=by
  cases r with
  | false=>rfl
  | true=>exact absurd (hr.1 rfl) h
 subst hr1;have hn:((i:Int)==(j:Int))=false:=by simp;omega
 clear hr
 go_enter Tryz.func150, Tryz.ntmps150
 go_wp2;go_ret;exact⟨by simp,Below.refl _ _⟩
theorem ZmW (A B:Nat→Nat→Bool) (b2 b3 i j:Nat) (u:World) (hij:i≤j) (hj:j≤8) (hA:TabAt u b2 A) (hB:TabAt u b3 B) (r:Bool) (hr:(A i j||B i j)=r) :
  Calls Tryz.prog 151 #[.int .i64 (i:Int),.int .i64 (j:Int),.pointer (some ⟨b2,0,none⟩),.pointer (some ⟨b3,0,none⟩)] u fun e w'=>e = .returned (.bool r)∧Below u.heap.size u w':=by
 have hi9:(i:Int)<9:=by omega
 have hj9:(j:Int)<9:=by omega
 have k0:=hA i j (by omega) (by omega);have k1:=hB i j (by omega) (by omega);cases ha:A i j with
 | true =>
  rw[ha] at k0 hr;subst hr;clear ha hA hB k1
  go_enter Tryz.func151, Tryz.ntmps151
  go_wp2;go_ret;exact⟨rfl,Below.refl _ _⟩
 | false =>
  rw[ha] at k0 hr;obtain⟨y,hy⟩:=eJ (B i j);rw[hy] at k1 hr;rw[Bool.false_or] at hr;subst hr;clear ha hA hB hy
  go_enter Tryz.func151, Tryz.ntmps151
  go_wp2;go_ret;exact⟨rfl,Below.refl _ _⟩
def Zg5 (A B:Nat→Nat→Bool) (i j:Nat):Bool:=(List.range 9).any fun k=>decide (i≤k∧k≤j)&&(A i k&&B k j)
theorem Zeu {A B:Nat→Nat→Bool} {n i j:Nat} (hn:n≤8) (hj:j≤n):Zg5 A B i j=true↔∃ k,i≤k∧k≤j∧A i k=true∧B k j=true:=by
 unfold Zg5;rw[List.any_eq_true];constructor
 ·rintro⟨k,-,h⟩;rw[Bool.and_eq_true,Bool.and_eq_true,decide_eq_true_eq] at h;exact⟨k,h.1.1,h.1.2,h.2.1,h.2.2⟩
 rintro⟨k,h1,h2,h3,h4⟩;refine⟨k,List.mem_range.2 (by omega),?_⟩;rw[Bool.and_eq_true,Bool.and_eq_true,decide_eq_true_eq];exact⟨⟨h1,h2⟩,h3,h4⟩
def stB (n:Nat) (A:Nat→Nat→Bool):Nat→Nat→Nat→Bool
 | 0=>fun i j=>decide (i=j)
 | m+1=>fun i j=>stB n A m i j||Zg5 (Zan n (stB n A m)) A i j
theorem Zbw {n i j:Nat} (F:Nat→Nat→Bool) (h1:i≤j) (h2:j≤n):Zan n F i j=F i j:=by unfold Zan;rw[decide_eq_true ⟨h1,h2⟩,Bool.true_and]
theorem Zj2 {n:Nat} (hn:n≤8) (A:Nat→Nat→Bool):∀ (m:Nat) {i j:Nat},i≤j→j≤n→(stB n A m i j=true↔stR (fun a b=>A a b=true) m i j)
 | 0,i,j,_,_=>by simp[stB,stR]
 | m+1,i,j,hij,hj=>by show(stB n A m i j||Zg5 _ A i j)=true↔stR _ m i j∨_;rw[Bool.or_eq_true,Zj2 hn A m hij hj,Zeu hn hj];refine or_congr Iff.rfl (exists_congr fun k=>and_congr_right fun h1=>and_congr_right fun h2 => ?_);rw[Zbw _ h1 (by omega),Zj2 hn A m h1 (by omega)]
theorem ZbU {op:Oper} {a:Act} {w:World} {K:Act→World→Prop} {Q:Exit→Act→World→Prop} (ty:TypeId) (x:Operand) (ho:op.op = .load ty x) (b:Nat) (T:TypeId) (cs:Array Value) (d:TypeDesc) (hx:a.eval x = .pointer (some ⟨b,0,none⟩)) (hb:Bx w b cs T)
  (hu:Tryz.prog.underlying ty=some d) (hd:d.isRow=true) (hi:(Tryz.prog.info? ty).map (·.size)=some cs.size) (h:K (a.put op.dst (.agg cs)) w):op.wp Tryz.prog a w K Q:=by
 have hr:(loadVar ty ⟨b,0,none⟩).run Tryz.prog w = .ok (.agg cs) w:=run_loadVar_row w b T ty cs (0,0) d hb hu (by cases d<;>simp_all [TypeDesc.isRow]) hi;unfold Oper.wp execOp;simp only[ho,hx,Instr.loadAt,Instr.sureAddr,Sem.run_bind,Sem.run_pure,Result.andThen_ok,hr];exact h
theorem ZhX (w:World) (o:Obj) (b:Nat) (cs:Array Value):((w.alloc o).setRow b cs).heap.size=w.heap.size+1:=by unfold World.setRow World.alloc;simp
theorem ZhU (n:Nat) (A:Nat→Nat→Bool) (w:World) (hn:n≤8) :
  Calls Tryz.prog 135 #[.int .i64 (n:Int),.agg (spC A)] w fun e w'=>e = .returned (.agg (spC (Zan n (stB n A n))))∧Below w.heap.size w w':=by
 have hz:Tryz.zeroCells111 = spC fun _ _=>false:=by rfl
 have HS0:=qh (show St w _ [Ent.box w.heap.size (spC A) 111,Ent.box (w.heap.size+1) (spC fun _ _=>false) 111] from((St.start w).alloc w.heap.size rfl (spC A) 111).alloc (w.heap.size+1) (by simp) (spC fun _ _=>false) 111);rw[← hz] at HS0;replace hz:=qh hz
 go_enter Tryz.func135, Tryz.ntmps135
 go_wp2_with (go_at_call 128;go_loud (refine(ZbG 150 #[] n (fun i j=>decide (i=j)) _ hn (Zbe Tryz.func150 (by kernel_rfl) rfl) (fun i j hij hj u _=>ZmX i j u _ (by simp) (by omega) (by omega))).mono ?_;rintro e w1 ⟨rfl,hb⟩;have HS1:=qh ((HS0.out.call hb).alloc _ rfl Tryz.zeroCells111 111);have hst:=Zbb (P:=Tryz.prog) (HS1.out.box 2 rfl) (cs':=spC (Zan n fun i j=>decide (i=j))) (by rw[Zai,hz.out,Zai]) (Zba _);clear hb));have HS2:=qh (HS1.out.setAll 2 rfl (spC (Zan n (stB n A 0))));obtain⟨g,hg⟩:=eI (w1.heap.size);rw[← hg] at HS2 ⊢;replace hg:=qh hg;clear hst HS1
 go_loopw [6,7,11] (fun v6 v7 vm wr=>∃ m:Nat,vm = .int .i64 (m:Int)∧m≤n∧St w wr [Ent.box w.heap.size (spC A) 111,Ent.box (w.heap.size+1) Tryz.zeroCells111 111,Ent.box g (spC (Zan n (stB n A m))) 111]) (fun _ _ vm _=>n-(intOf vm).toNat)
 case atStart=>exact⟨0,rfl,Nat.zero_le _,HS2.out⟩
 case round =>
  obtain⟨m,rfl,hm,hS⟩:=hrel;have HS:=qh hS;clear hS HS2;by_cases hlt:m<n
  ·have hm1:(m:Int)<(n:Int):=by omega
   have hw1:IntKind.i64.wrap ((m:Int)+1)=(m:Int)+1:=IntWalk.i64_in _ (by omega);have hI:(Tryz.prog.info? 111).map (·.size)=some 81:=by kernel_rfl
   go_wp2;refine ZbU 111 _ rfl g 111 _ _ rfl (HS.out.box 2 rfl) Tryz.underlying111 rfl (by rw[hI,Zai]) ?_;go_wp2;refine ZbU 111 _ rfl w.heap.size 111 _ _ rfl (HS.out.box 0 rfl) Tryz.underlying111 rfl (by rw[hI,Zai]) ?_;go_wp2_with (go_at_call 131;go_loud (refine(Zdy n (Zan n (stB n A m)) A (Zg5 (Zan n (stB n A m)) A) _ hn (fun i j hij hj=>Zeu hn hj)).mono ?_;rintro e w2 ⟨rfl,hb⟩;have HS3:=qh ((HS.out.call hb).alloc _ rfl Tryz.zeroCells111 111);have hst:=Zbb (P:=Tryz.prog) (HS3.out.box 3 rfl) (cs':=spC (Zan n (Zg5 (Zan n (stB n A m)) A))) (by rw[Zai,hz.out,Zai]) (Zba _);clear hb));have HS4:=qh (HS3.out.setAll 3 rfl (spC (Zan n (Zg5 (Zan n (stB n A m)) A))));clear hst HS3;refine ZbU 111 _ rfl g 111 _ _ rfl (HS4.out.box 2 rfl) Tryz.underlying111 rfl (by rw[hI,Zai]) ?_;have HS5:=qh (HS4.out.alloc (w2.heap.size+1) (ZhX _ _ _ _) Tryz.zeroCells111 111);have hst:=Zbb (P:=Tryz.prog) (HS5.out.box 4 rfl) (cs':=spC (Zan n (stB n A m))) (by rw[Zai,hz.out,Zai]) (Zba _);have HS6:=qh (HS5.out.setAll 4 rfl (spC (Zan n (stB n A m))));clear HS5 HS4
   go_wp2_with (go_at_call 128;go_loud (clear hst;refine(ZbG 151 #[.pointer (some ⟨w2.heap.size+1,0,none⟩),.pointer (some ⟨w2.heap.size,0,none⟩)] n (stB n A (m+1)) _ hn (Zbe Tryz.func151 (by kernel_rfl) rfl) (fun i j hij hj u hu=>ZmW (Zan n (stB n A m)) (Zan n (Zg5 (Zan n (stB n A m)) A)) _ _ i j u hij (by omega) (TabAt.of_box ((HS6.out.call hu).box 4 rfl)) (TabAt.of_box ((HS6.out.call hu).box 3 rfl)) (stB n A (m+1) i j) (by rw[Zbw _ hij hj,Zbw _ hij hj];rfl))).mono ?_;rintro e w8 ⟨rfl,hb⟩;have HS7:=qh (HS6.out.call hb);have hst:=Zbb (P:=Tryz.prog) (HS7.out.box 2 rfl) (cs':=spC (Zan n (stB n A (m+1)))) (by rw[Zai,Zai]) (Zba _);clear hb HS6));go_roundw
   case rel=>exact⟨m+1,by simp,by omega,(HS7.out.setAll 2 rfl (spC (Zan n (stB n A (m+1))))).pick [0,1,2] (by decide)⟩
   case measure=>simp[intOf];omega
  have hm1:¬ (m:Int)<(n:Int):=by omega
  have hmn:m=n:=by omega
  have hS9:=HS.out;rw[hmn] at hS9;have HS9:=qh hS9;have hI:(Tryz.prog.info? 111).map (·.size)=some 81:=by kernel_rfl
  have hst:=Zbb (P:=Tryz.prog) (HS9.out.box 1 rfl) (cs':=spC (Zan n (stB n A n))) (by rw[Zai,hz.out,Zai]) (Zba _);have Hhmn:=qh hmn;clear hmn;clear hS9 HS;go_wp2;refine ZbU 111 _ rfl g 111 _ _ rfl (HS9.out.box 2 rfl) Tryz.underlying111 rfl (by rw[hI,Zai]) ?_;go_wp2;have HS8:=qh (HS9.out.setAll 1 rfl (spC (Zan n (stB n A n))));refine bodyPost_ret (v:=.agg (spC (Zan n (stB n A n)))) (ZbJ Tryz.results135 _ _ _ (w.heap.size+1) 111 (spC (Zan n (stB n A n))) _ rfl (HS8.out.box 1 rfl) Tryz.underlying111 rfl (by rw[hI,Zai])) rfl ?_;exact⟨rfl,HS8.out.bel⟩
theorem Zf3 {A B:Nat→Nat→Prop} {n:Nat} (h:∀ a b,a≤b→b≤n→(A a b↔B a b)):∀ (m:Nat) {i j:Nat},i≤j→j≤n→(stR A m i j↔stR B m i j)
 | 0,_,_,_,_=>Iff.rfl
 | m+1,i,j,hij,hj=>or_congr (Zf3 h m hij hj) (exists_congr fun k=>and_congr_right fun h1=>and_congr_right fun h2=>and_congr (Zf3 h m h1 (by omega)) (h k j h2 hj))
def tabE (n:Nat) (ls:List Nat):Ex→Nat→Nat→Bool
 | .zero=>fun _ _=>false
 | .one=>fun i j=>decide (i=j)
 | .ltr c=>fun i j=>decide (j=i+1∧ls.getD i 0=c.val)
 | .join a b=>Zg5 (Zan n (tabE n ls a)) (Zan n (tabE n ls b))
 | .alt a b=>fun i j=>Zan n (tabE n ls a) i j||Zan n (tabE n ls b) i j
 | .both a b=>fun i j=>Zan n (tabE n ls a) i j&&Zan n (tabE n ls b) i j
 | .neg a=>fun i j => !Zan n (tabE n ls a) i j
 | .star a=>stB n (Zan n (tabE n ls a)) n
theorem Zck {n:Nat} {ls:List Nat} (hl:ls.length=n) (hn:n≤8):∀ (t:Ex) {i j:Nat},i≤j→j≤n→(tabE n ls t i j=true↔memS t ls i j)
 | .zero,i,j,_,_=>by simp[tabE,ZnC]
 | .one,i,j,hij,hj=>by rw[Zph hij (by omega)];simp[tabE]
 | .ltr c,i,j,hij,hj=>by rw[Zpi hij (by omega)];simp[tabE]
 | .join a b,i,j,hij,hj=>by
  rw[ZnE hij (by omega)];show Zg5 _ _ i j=true↔_;rw[Zeu hn hj];refine exists_congr fun k=>and_congr_right fun h1=>and_congr_right fun h2 => ?_
  rw[Zbw _ h1 (by omega),Zbw _ h2 hj,Zck hl hn a h1 (by omega),Zck hl hn b h2 hj]
 | .alt a b,i,j,hij,hj=>by show(Zan n _ i j||Zan n _ i j)=true↔_;rw[Zbw _ hij hj,Zbw _ hij hj,Bool.or_eq_true,Zck hl hn a hij hj,Zck hl hn b hij hj];rfl
 | .both a b,i,j,hij,hj=>by show(Zan n _ i j&&Zan n _ i j)=true↔_;rw[Zbw _ hij hj,Zbw _ hij hj,Bool.and_eq_true,Zck hl hn a hij hj,Zck hl hn b hij hj];rfl
 | .neg a,i,j,hij,hj=>by show(!Zan n _ i j)=true↔¬ memS a ls i j;rw[Zbw _ hij hj,← Zck hl hn a hij hj];simp
 | .star a,i,j,hij,hj=>by show stB n _ n i j=true↔_;rw[Zj2 hn _ n hij hj,← Zqe hij (by omega),hl];refine Zf3 (n:=n) (fun x y hx hy => ?_) n hij hj;rw[Zbw _ hx hy,Zck hl hn a hx hy]
theorem ZoW {ls:List Nat} (hn:ls.length≤8) (t:Ex):tabE ls.length ls t 0 ls.length=true↔memE t ls:=by rw[Zck rfl hn t (Nat.zero_le _) (Nat.le_refl _)];unfold memS;rw[Zqg]
def mkE (p:Int × Int) (a b:Ex):Ex:=if p.1=1 then .zero else if p.1=2 then .one else if p.1=3 then .ltr (if p.2=1 then 1 else if p.2=2 then 2 else 0) else if p.1=4 then .join a b else if p.1=5 then .alt a b else if p.1=6 then .both a b else if p.1=7 then .neg a else .star a
theorem ZnA (c:Fin 3) (a b:Ex):mkE (3,(c.val:Int)) a b = .ltr c:=by
 have:c=0∨c=1∨c=2:=by omega
 rcases this with rfl|rfl|rfl<;>rfl
def stpE (p:Int × Int) (st:List Ex):Option (List Ex) :=
 if Zag p=0 then some (mkE p .zero .zero::st)
 else if Zag p=1 then
  match st with
  | a::r=>some (mkE p a a::r)
  | []=>none
 else
  match st with
  | b::a::r=>some (mkE p a b::r)
  | _=>none
def runE:List (Int × Int)→List Ex→Option (List Ex)
 | [],st=>some st
 | p::ps,st=>(stpE p st).bind (runE ps)
theorem Zga {p:Int × Int} (hp:Zag p=0) (rest:List (Int × Int)) (st:List Ex):runE (p::rest) st=runE rest (mkE p .zero .zero::st):=by show(stpE p st).bind _=_;unfold stpE;rw[if_pos hp];rfl
theorem Zk1 {p:Int × Int} (hp:Zag p=1) (rest:List (Int × Int)) (a:Ex) (st:List Ex):runE (p::rest) (a::st)=runE rest (mkE p a a::st):=by show(stpE p (a::st)).bind _=_;unfold stpE;rw[if_neg (by omega),if_pos hp];rfl
theorem Zh4 {p:Int × Int} (hp:Zag p=2) (rest:List (Int × Int)) (a b:Ex) (st:List Ex):runE (p::rest) (b::a::st)=runE rest (mkE p a b::st):=by show(stpE p (b::a::st)).bind _=_;unfold stpE;rw[if_neg (by omega),if_neg (by omega)];rfl
theorem ZbI:∀ (t:Ex) (rest:List (Int × Int)) (st:List Ex),runE (t.post++rest) st=runE rest (t::st)
 | .zero,rest,st=>Zga Zic rest st
 | .one,rest,st=>Zga Zib rest st
 | .ltr c,rest,st=>by have:=Zga (ZfI c) rest st;rw[ZnA] at this;exact this
 | .join a b,rest,st=>by show runE (a.post++b.post++[(4,0)]++rest) st=_;rw[List.append_assoc,List.append_assoc,ZbI a,ZbI b];exact Zh4 Zkj rest a b st
 | .alt a b,rest,st=>by show runE (a.post++b.post++[(5,0)]++rest) st=_;rw[List.append_assoc,List.append_assoc,ZbI a,ZbI b];exact Zh4 Zni rest a b st
 | .both a b,rest,st=>by show runE (a.post++b.post++[(6,0)]++rest) st=_;rw[List.append_assoc,List.append_assoc,ZbI a,ZbI b];exact Zh4 Zkk rest a b st
 | .neg a,rest,st=>by show runE (a.post++[(7,0)]++rest) st=_;rw[List.append_assoc,ZbI a];exact Zk1 Znh rest a st
 | .star a,rest,st=>by show runE (a.post++[(8,0)]++rest) st=_;rw[List.append_assoc,ZbI a];exact Zk1 Zki rest a st
theorem ZlR (t:Ex):runE t.post []=some [t]:=by
 have:=ZbI t [] []
 rwa [List.append_nil] at this
theorem Zm6 {es:List (Int × Int)} {k:Nat} (hk:k<es.length) (st:List Ex):runE (es.drop k) st=(stpE (es.getD k (0,0)) st).bind (runE (es.drop (k+1))):=by
 have e:es.drop k=es.getD k (0,0)::es.drop (k+1):=by rw[show es.getD k (0,0)=es[k] by simp[hk]];exact(List.getElem_cons_drop hk).symm
 rw[e];rfl
-- steps, over a stack whose top is its end
theorem Zii {l:List Ex} {t:Nat} (h:l.length=t+1):l=l.take t++[l.getD t .zero]:=by
 have e:l.take (t+1)=l:=by rw[← h];exact List.take_length
 rw[List.take_succ_eq_append_getElem (by omega)] at e;have e2:l.getD t .zero=l[t]:=by simp[show t<l.length by omega]
 rw[e2];exact e.symm
theorem Zq9 {p:Int × Int} (hp:Zag p=0) (ds:List Ex):stpE p ds.reverse=some ((ds.take (ds.length-0)++[mkE p .zero .zero]).reverse):=by unfold stpE;rw[if_pos hp,Nat.sub_zero,List.take_length,List.reverse_append];rfl
theorem Zq8 {p:Int × Int} (hp:Zag p=1) {ds:List Ex} {t:Nat} (h:ds.length=t+1):stpE p ds.reverse=some ((ds.take t++[mkE p (ds.getD t .zero) (ds.getD t .zero)]).reverse):=by
 have e:=Zii h;have er:ds.reverse=ds.getD t .zero::(ds.take t).reverse:=by rw[show ds.reverse=(ds.take t++[ds.getD t .zero]).reverse by rw[← e]];simp
 rw[er];unfold stpE;rw[if_neg (by omega),if_pos hp];simp
theorem Zq7 {p:Int × Int} (hp:Zag p=2) {ds:List Ex} {t:Nat} (h:ds.length=t+1+1):stpE p ds.reverse=some ((ds.take t++[mkE p (ds.getD t .zero) (ds.getD (t+1) .zero)]).reverse):=by
 have e:=Zii h;have hl:(ds.take (t+1)).length=t+1:=by rw[List.length_take];omega
 have e2:=Zii hl;have e3:(ds.take (t+1)).getD t .zero=ds.getD t .zero:=by simp only[List.getD_eq_getElem?_getD];rw[List.getElem?_take,if_pos (Nat.lt_succ_self t)]
 rw[List.take_take,Nat.min_eq_left (by omega),e3] at e2;have er:ds.reverse=ds.getD (t+1) .zero::ds.getD t .zero::(ds.take t).reverse:=by rw[show ds.reverse=(ds.take (t+1)++[ds.getD (t+1) .zero]).reverse by rw[← e],e2];simp
 rw[er];unfold stpE;rw[if_neg (by omega),if_neg (by omega)];simp
-- the trees that end at the parts
def txB (l:List Nat):ByteArray:=⟨(l.map UInt8.ofNat).toArray⟩
def isT (l:List Nat):Prop:=∀ b∈l,b<256
theorem Zcj (l:List Nat):(txB l).size=l.length:=by simp[txB,ByteArray.size]
theorem ZdB {l:List Nat} {i:Nat} (hi:i<l.length):l.getD i 0∈l:=by rw[List.getD_eq_getElem?_getD,List.getElem?_eq_getElem hi];exact List.getElem_mem hi
theorem ZqP {l:List Nat} {i:Nat} (hi:i<l.length) (ht:isT l) (h:i<(txB l).size):(((txB l)[i]'h).toNat:Int)=(l.getD i 0:Nat):=by
 have hc:l.getD i 0<256:=ht _ (ZdB hi);have e:(txB l)[i]'h=UInt8.ofNat (l.getD i 0):=by show(txB l).data[i]=_;simp[txB,hi]
 rw[e,UInt8.toNat_ofNat'];omega
theorem Zec {l:List Nat} {i:Nat} (hi:i<l.length) (ht:isT l) (w:World):(Instr.index 9 (.string (txB l)) (.int .i64 (i:Int))).run Tryz.prog w = .ok (.int .u8 ((l.getD i 0:Nat):Int)) w:=by have hs:(txB l).size=l.length:=Zcj l;rw[run_index_string w 9 (txB l) .i64 i Tryz.underlying9,dif_pos (by omega)];congr 2;exact ZqP hi ht _
def okT (l:List Nat) (k:Nat):Bool:=(List.range k).all fun i=>inB ((l.getD i 0:Nat):Int) 97 99
def wdOk (l:List Nat):Bool:=okT l l.length&&decide (l.length≤8)
theorem Zk8 {l:List Nat} {k:Nat} (h:okT l k=true) (h1:inB ((l.getD k 0:Nat):Int) 97 99=true):okT l (k+1)=true:=ZlW h h1
theorem Zno {l:List Nat} {k:Nat} (hk:k<l.length) (h1:inB ((l.getD k 0:Nat):Int) 97 99=false):wdOk l=false:=by
 unfold wdOk okT;have:((List.range l.length).all fun i=>inB ((l.getD i 0:Nat):Int) 97 99)=false:=by rw[List.all_eq_false];exact⟨k,List.mem_range.2 hk,by rw[h1];simp⟩
 rw[this];rfl
theorem Zhh (l:List Nat) (w:World) (ht:isT l) (hl:l.length≤2000000) (r:Bool) (hr:wdOk l=r) :
  Calls Tryz.prog 59 #[.string (txB l),.int .i64 8] w fun e w'=>e = .returned (.bool r)∧w=w':=by
 have hs:(txB l).size=l.length:=Zcj l;replace hr:=qh hr;have Hht:=qh ht;clear ht
 go_enter Tryz.func59, Tryz.ntmps59
 go_wp2
 go_loopw [8] (fun i wr=>∃ k:Nat,i = .int .i64 k∧k≤l.length∧okT l k=true∧w=wr) (fun i _=>l.length-(intOf i).toNat)
 case atStart=>exact⟨0,rfl,Nat.zero_le _,rfl,rfl⟩
 case round =>
  obtain⟨k,rfl,hk,hok,rfl⟩:=hrel;by_cases hlt:k<l.length
  ·have hkl:(k:Int)<l.length:=by omega
   have hrun:=Zec hlt Hht.out;have hb:=Hht.out _ (ZdB hlt);obtain⟨c,hcc⟩:=eI (l.getD k 0);rw[← hcc] at hrun hb;have hw9:IntKind.i64.wrap (c:Int)=(c:Int):=IntWalk.i64_in _ (by omega);have Hhok:=qh hok;clear hok;replace hcc:=qh hcc;cases hin:inB (c:Int) 97 99
   ·have Hhin:=qh hin;clear hin;go_wp2_with (go_at_call 73;refine(ZbD _ _ _ _ _ Hhin.out).mono ?_;rintro e w' ⟨rfl,rfl⟩);go_ret;exact⟨by rw[← hr.out,Zno hlt (by rw[← hcc.out];exact Hhin.out)];rfl,rfl⟩
   have Hhin:=qh hin;clear hin;go_wp2_with (go_at_call 73;refine(ZbD _ _ _ _ _ Hhin.out).mono ?_;rintro e w' ⟨rfl,rfl⟩);go_roundw
   case rel=>exact⟨k+1,by go_num,by omega,Zk8 Hhok.out (by rw[← hcc.out];exact Hhin.out),trivial⟩
   case measure=>simp[intOf];omega
  obtain rfl:k=l.length:=by omega
  have hrr:decide ((l.length:Int)≤8)=r:=by rw[← hr.out];unfold wdOk;rw[hok,Bool.true_and];exact decide_eq_decide.2 (by omega)
  have Hhok:=qh hok;clear hok;have Hhrr:=qh hrr;clear hrr;go_wp2;go_ret;exact⟨by rw[← Hhrr.out];rfl,rfl⟩
theorem Zbj (l:List Nat) (w:World) (ht:isT l) (hl:l.length≤2000000) (r:Bool) (hr:wdOk l=r) :
  Calls Tryz.prog 27 #[.string (txB l)] w fun e w'=>e = .returned (.bool r)∧w=w':=by
 replace hr:=qh hr;have Hht:=qh ht;clear ht
 go_enter Tryz.func27, Tryz.ntmps27
 go_wp2_with (go_at_call 59;refine(Zhh l _ Hht.out hl _ hr.out).mono ?_;rintro e w' ⟨rfl,rfl⟩);go_ret;exact⟨rfl,rfl⟩
theorem ZeT (l:List Nat) (w:World) (ht:isT l) (hl:l.length≤2000000) (r:Bool) (hr:wdOk l=r) :
  Calls Tryz.prog 32 #[.string (txB l)] w fun e w'=>e = .returned (.bool r)∧w=w':=by
 have hs:(txB l).size=l.length:=Zcj l;replace hr:=qh hr;have Hht:=qh ht;clear ht
 go_enter Tryz.func32, Tryz.ntmps32
 go_wp2
 go_loopw [3] (fun i wr=>∃ k:Nat,i = .int .i64 k∧k≤l.length∧okT l k=true∧w=wr) (fun i _=>l.length-(intOf i).toNat)
 case atStart=>exact⟨0,rfl,Nat.zero_le _,rfl,rfl⟩
 case round =>
  obtain⟨k,rfl,hk,hok,rfl⟩:=hrel;by_cases hlt:k<l.length
  ·have hkl:(k:Int)<l.length:=by omega
   have hrun:=Zec hlt Hht.out;have hb:=Hht.out _ (ZdB hlt);obtain⟨c,hcc⟩:=eI (l.getD k 0);rw[← hcc] at hrun hb;have hw9:IntKind.i64.wrap (c:Int)=(c:Int):=IntWalk.i64_in _ (by omega);have Hhok:=qh hok;clear hok;replace hcc:=qh hcc;cases hin:inB (c:Int) 97 99
   ·have Hhin:=qh hin;clear hin;go_wp2_with (go_at_call 63;refine(Zbu _ _ _ _ _ Hhin.out).mono ?_;rintro e w' ⟨rfl,rfl⟩);go_ret;exact⟨by rw[← hr.out,Zno hlt (by rw[← hcc.out];exact Hhin.out)];rfl,rfl⟩
   have Hhin:=qh hin;clear hin;go_wp2_with (go_at_call 63;refine(Zbu _ _ _ _ _ Hhin.out).mono ?_;rintro e w' ⟨rfl,rfl⟩);go_roundw
   case rel=>exact⟨k+1,by go_num,by omega,Zk8 Hhok.out (by rw[← hcc.out];exact Hhin.out),trivial⟩
   case measure=>simp[intOf];omega
  obtain rfl:k=l.length:=by omega
  have hrr:decide ((l.length:Int)≤8)=r:=by rw[← hr.out];unfold wdOk;rw[hok,Bool.true_and];exact decide_eq_decide.2 (by omega)
  have Hhok:=qh hok;clear hok;have Hhrr:=qh hrr;clear hrr;go_wp2;go_ret;exact⟨by rw[← Hhrr.out];rfl,rfl⟩
theorem Zd8 (l:List Nat) (i:Nat) (hi:i<l.length) (ht:isT l) (hlo:97≤l.getD i 0) (w:World):Calls Tryz.prog 30 #[.string (txB l),.int .i64 i] w fun e w'=>e = .returned (.int .i64 ((l.getD i 0-97:Nat):Int))∧w=w':=by
 have hb:=ht _ (ZdB hi);have hrun:=Zec hi ht;obtain⟨c,hcc⟩:=eI (l.getD i 0-97);have hc2:((l.getD i 0:Nat):Int)=97+(c:Int):=by omega
 rw[hc2] at hrun;rw[← hcc]
 have hw8:IntKind.u8.wrap (97+(c:Int)-97)=(c:Int):=by
  have:97+(c:Int)-97=(c:Int):=by omega
  rw[this];exact IntWalk.u8_in _ (by omega)
 have hw9:IntKind.i64.wrap (c:Int)=(c:Int):=IntWalk.i64_in _ (by omega);replace hcc:=qh hcc;clear hc2 hlo hb
 go_enter Tryz.func30, Tryz.ntmps30
 go_wp2;go_ret;exact⟨rfl,rfl⟩
def shF:Nat→Nat
 | 0=>0
 | k+1=>shF k+3 ^ k
theorem Zng {k:Nat} (h:k≤9):3 ^ k≤19683:=Nat.pow_le_pow_right (by omega) h
theorem ZpW:∀ k,shF k≤3 ^ k
 | 0=>by decide
 | k+1=>by show shF k+3 ^ k≤3 ^ (k+1);have:=ZpW k;rw[Nat.pow_succ];omega
theorem ZjU (n:Nat) (w:World) (hn:n≤9):Calls Tryz.prog 115 #[.int .i64 n] w fun e w'=>e = .returned (.int .i64 ((3 ^ n:Nat):Int))∧w=w':=by
 go_enter Tryz.func115, Tryz.ntmps115
 go_wp2
 go_loopw [3,5] (fun p i wr=>∃ k q:Nat,i = .int .i64 k∧p = .int .i64 q∧k≤n∧3 ^ k=q∧w=wr) (fun _ i _=>n-(intOf i).toNat)
 case atStart=>exact⟨0,1,rfl,rfl,Nat.zero_le _,rfl,rfl⟩
 case round =>
  obtain⟨k,q,rfl,rfl,hk,hq,rfl⟩:=hrel;have hq2:=Zng (k:=k) (by omega);rw[hq] at hq2;by_cases hlt:k<n
  ·have hkl:(k:Int)<n:=by omega
   replace hq:=qh hq;go_wp2;go_roundw
   case rel=>exact⟨k+1,q*3,by go_num,by go_num,by omega,by rw[Nat.pow_succ,hq.out],trivial⟩
   case measure=>simp[intOf];omega
  obtain rfl:k=n:=by omega
  replace hq:=qh hq;go_wp2;go_ret;exact⟨by rw[hq.out];rfl,rfl⟩
theorem Zj5 (n:Nat) (w:World) (hn:n≤9):Calls Tryz.prog 80 #[.int .i64 n] w fun e w'=>e = .returned (.int .i64 ((shF n:Nat):Int))∧w=w':=by
 go_enter Tryz.func80, Tryz.ntmps80
 go_wp2
 go_loopw [3,6] (fun p i wr=>∃ k q:Nat,i = .int .i64 k∧p = .int .i64 q∧k≤n∧shF k=q∧w=wr) (fun _ i _=>n-(intOf i).toNat)
 case atStart=>exact⟨0,0,rfl,rfl,Nat.zero_le _,rfl,rfl⟩
 case round =>
  obtain⟨k,q,rfl,rfl,hk,hq,rfl⟩:=hrel;have hq2:=Zng (k:=k) (by omega);have hq3:=ZpW k;rw[hq] at hq3;obtain⟨t,hT⟩:=eJ (3 ^ k);rw[hT] at hq2 hq3;by_cases hlt:k<n
  ·have hkl:(k:Int)<n:=by omega
   replace hq:=qh hq;replace hT:=qh hT;go_wp2_with (go_at_call 115;refine(ZjU k _ (by omega)).mono ?_;rintro e w' ⟨rfl,rfl⟩;rw[hT.out]);go_roundw
   case rel=>exact⟨k+1,q+t,by go_num,by go_num,by omega,by rw[← hq.out,← hT.out];rfl,trivial⟩
   case measure=>simp[intOf];omega
  obtain rfl:k=n:=by omega
  replace hq:=qh hq;replace hT:=qh hT;go_wp2;go_ret;exact⟨by rw[hq.out];rfl,rfl⟩
theorem ZlV (w:World):Calls Tryz.prog 41 #[.string { data:=#[97,98] }] w fun e w'=>e = .returned (.int .i64 5)∧w=w':=by
 have hab:({ data:=#[97,98] }:ByteArray)=txB [97,98]:=rfl;have hab2:isT [97,98]:=fun b hb=>by simp at hb;omega
 have hsz:(txB [97,98]).size=2:=rfl;have l0:=fun w=>Zd8 [97,98] 0 (by decide) hab2 (by decide) w
 have l1:=fun w=>Zd8 [97,98] 1 (by decide) hab2 (by decide) w
 have sh:∀ w,Calls Tryz.prog 80 #[.int .i64 2] w fun e w'=>e = .returned (.int .i64 4)∧w=w':=fun w=>Zj5 2 w (by omega)
 have hv:=fun w=>Zbj [97,98] w hab2 (by decide) true rfl
 rw[hab];have L0:=qh l0;have L1:=qh l1;have Sh:=qh sh;have Hv:=qh hv;clear l0 l1 sh hab hab2 hv
 go_enter Tryz.func41, Tryz.ntmps41
 go_wp2_with (go_at_call 27;refine(Hv.out _).mono ?_;rintro e w' ⟨rfl,rfl⟩)
 go_loopw [3,10] (fun n i wr=>∃ k q:Nat,i = .int .i64 k∧n = .int .i64 q∧k≤2∧q≤1∧(k<2→q=0)∧(k=2→q=1)∧w=wr) (fun _ i _=>2-(intOf i).toNat)
 case atStart=>exact⟨0,0,rfl,rfl,by omega,by omega,fun _=>rfl,fun h=>by omega,rfl⟩
 case round =>
  obtain⟨k,q,rfl,rfl,hk,hq1,hq2,hq3,rfl⟩:=hrel;obtain rfl|rfl|rfl:k=0∨k=1∨k=2:=by omega
  ·obtain rfl:=hq2 (by omega);clear hq1 hq2 hq3 hk;go_wp2_with (go_at_call 30;refine(L0.out _).mono ?_;rintro e w' ⟨rfl,rfl⟩);go_roundw
   case rel=>exact⟨1,0,rfl,rfl,by omega,by omega,fun _=>rfl,fun h=>by omega,trivial⟩
   case measure=>simp[intOf]
  ·obtain rfl:=hq2 (by omega);clear hq1 hq2 hq3 hk;go_wp2_with (go_at_call 30;refine(L1.out _).mono ?_;rintro e w' ⟨rfl,rfl⟩);go_roundw
   case rel=>exact⟨2,1,rfl,rfl,by omega,by omega,fun h=>by omega,fun _=>rfl,trivial⟩
   case measure=>simp[intOf]
  obtain rfl:=hq3 rfl;clear hq1 hq2 hq3 hk;go_wp2_with (go_at_call 80;refine(Sh.out _).mono ?_;rintro e w' ⟨rfl,rfl⟩);go_ret;exact⟨rfl,rfl⟩
theorem ZoJ (w:World):Calls Tryz.prog 13 #[] w fun e w'=>e = .returned (.bool true)∧w=w':=by
 go_enter Tryz.func13, Tryz.ntmps13
 go_wp2_with (go_at_call 41;refine(ZlV _).mono ?_;rintro e w' ⟨rfl,rfl⟩);go_ret;exact⟨rfl,rfl⟩
theorem Zo2 (i j:Nat) (u:World) (r:Bool) (hr:r=true↔i=j) (_hi:i≤8) (hj:j≤8) :
  Calls Tryz.prog 129 #[.int .i64 (i:Int),.int .i64 (j:Int)] u fun e w'=>e = .returned (.bool r)∧Below u.heap.size u w':=by
 by_cases h:i=j
 ·have hr1:=hr.2 h;subst hr1 h;clear hr
  go_enter Tryz.func129, Tryz.ntmps129
  go_wp2;go_ret;exact⟨by simp,Below.refl _ _⟩
 have hr1:r=false:=by
  cases r with
  | false=>rfl
  | true=>exact absurd (hr.1 rfl) h
 subst hr1;have hn:((i:Int)==(j:Int))=false:=by simp;omega
 clear hr
 go_enter Tryz.func129, Tryz.ntmps129
 go_wp2;go_ret;exact⟨by simp,Below.refl _ _⟩
theorem Zmt (A B:Nat→Nat→Bool) (b2 b3 i j:Nat) (u:World) (hij:i≤j) (hj:j≤8) (hA:TabAt u b2 A) (hB:TabAt u b3 B) (r:Bool) (hr:(A i j||B i j)=r) :
  Calls Tryz.prog 132 #[.int .i64 (i:Int),.int .i64 (j:Int),.pointer (some ⟨b2,0,none⟩),.pointer (some ⟨b3,0,none⟩)] u fun e w'=>e = .returned (.bool r)∧Below u.heap.size u w':=by
 have hi9:(i:Int)<9:=by omega
 have hj9:(j:Int)<9:=by omega
 have k0:=hA i j (by omega) (by omega);have k1:=hB i j (by omega) (by omega);cases ha:A i j with
 | true =>
  rw[ha] at k0 hr;subst hr;clear ha hA hB k1
  go_enter Tryz.func132, Tryz.ntmps132
  go_wp2;go_ret;exact⟨rfl,Below.refl _ _⟩
 | false =>
  rw[ha] at k0 hr;obtain⟨y,hy⟩:=eJ (B i j);rw[hy] at k1 hr;rw[Bool.false_or] at hr;subst hr;clear ha hA hB hy
  go_enter Tryz.func132, Tryz.ntmps132
  go_wp2;go_ret;exact⟨rfl,Below.refl _ _⟩
theorem ZoD (A B:Nat→Nat→Bool) (b2 b3 i j:Nat) (u:World) (hij:i≤j) (hj:j≤8) (hA:TabAt u b2 A) (hB:TabAt u b3 B) (r:Bool) (hr:(A i j&&B i j)=r) :
  Calls Tryz.prog 133 #[.int .i64 (i:Int),.int .i64 (j:Int),.pointer (some ⟨b2,0,none⟩),.pointer (some ⟨b3,0,none⟩)] u fun e w'=>e = .returned (.bool r)∧Below u.heap.size u w':=by
 have hi9:(i:Int)<9:=by omega
 have hj9:(j:Int)<9:=by omega
 have k0:=hA i j (by omega) (by omega);have k1:=hB i j (by omega) (by omega);cases ha:A i j with
 | false =>
  rw[ha] at k0 hr;subst hr;clear ha hA hB k1
  go_enter Tryz.func133, Tryz.ntmps133
  go_wp2;go_ret;exact⟨rfl,Below.refl _ _⟩
 | true =>
  rw[ha] at k0 hr;obtain⟨y,hy⟩:=eJ (B i j);rw[hy] at k1 hr;rw[Bool.true_and] at hr;subst hr;clear ha hA hB hy
  go_enter Tryz.func133, Tryz.ntmps133
  go_wp2;go_ret;exact⟨rfl,Below.refl _ _⟩
theorem Zo8 (A:Nat→Nat→Bool) (b2 i j:Nat) (u:World) (hij:i≤j) (hj:j≤8) (hA:TabAt u b2 A) (r:Bool) (hr:(!A i j)=r) :
  Calls Tryz.prog 134 #[.int .i64 (i:Int),.int .i64 (j:Int),.pointer (some ⟨b2,0,none⟩)] u fun e w'=>e = .returned (.bool r)∧Below u.heap.size u w':=by
 have hi9:(i:Int)<9:=by omega
 have hj9:(j:Int)<9:=by omega
 have k0:=hA i j (by omega) (by omega);obtain⟨y,hy⟩:=eJ (A i j);rw[hy] at k0 hr;subst hr;clear hA hy
 go_enter Tryz.func134, Tryz.ntmps134
 go_wp2;go_ret;exact⟨rfl,Below.refl _ _⟩
def lsT (l:List Nat):List Nat:=l.map (·-97)
theorem ZnH (l:List Nat):(lsT l).length=l.length:=by simp[lsT]
theorem ZqX {l:List Nat} {i:Nat} (hi:i<l.length):(lsT l).getD i 0=l.getD i 0-97:=by simp[lsT,hi]
theorem Zco {l:List Nat} (h:wdOk l=true):l.length≤8∧∀ i,i<l.length→97≤l.getD i 0∧l.getD i 0≤99:=by unfold wdOk okT at h;rw[Bool.and_eq_true,decide_eq_true_eq,List.all_eq_true] at h;refine⟨h.2,fun i hi => ?_⟩;have h1:=h.1 i (List.mem_range.2 hi);simp only[inB,Bool.and_eq_true,decide_eq_true_eq] at h1;omega
theorem ZnI (l:List Nat) (b2 b3 i j c:Nat) (u:World) (ht:isT l) (hwd:wdOk l=true) (hij:i≤j) (hj:j≤l.length) (h2:u.cell? ⟨b2,0,none⟩=some (.string (txB l))) (h3:u.cell? ⟨b3,1,none⟩=some (.int .i64 (c:Int))) (r:Bool) (hr:decide (j=i+1∧(lsT l).getD i 0=c)=r) :
  Calls Tryz.prog 130 #[.int .i64 (i:Int),.int .i64 (j:Int),.pointer (some ⟨b2,0,none⟩),.pointer (some ⟨b3,0,none⟩)] u fun e w'=>e = .returned (.bool r)∧Below u.heap.size u w':=by
 obtain⟨hn,h97⟩:=Zco hwd;have hw1:IntKind.i64.wrap ((i:Int)+1)=(i:Int)+1:=IntWalk.i64_in _ (by omega);have Ht:=qh ht;clear ht hwd;by_cases hji:j=i+1
 ·have hd:((j:Int)==(i:Int)+1)=true:=by simp;omega
  have hlt:i<l.length:=by omega
  have hlo:=(h97 i hlt).1;obtain⟨d,hd9⟩:=eJ (l.getD i 0-97);rw[ZqX hlt,hd9] at hr
  have hr2:((d:Int)==(c:Int))=r:=by
   rw[← hr];by_cases h:d=c
   ·subst h;simp[hji]
   rw[decide_eq_false (fun g=>h g.2)];simp;omega
  subst hr2;have hle:=fun u'=>Zd8 l i hlt Ht.out hlo u'
  rw[hd9] at hle;have Hle:=qh hle;clear hle hd9 hr h97 hlo
  go_enter Tryz.func130, Tryz.ntmps130
  go_wp2
  go_quiet ((go_at_call 30;with_reducible exact ZfH (Hle.out _)))
  go_wp2;go_ret;exact⟨rfl,below_drewN (Below.refl _ _) _⟩
 have hd:((j:Int)==(i:Int)+1)=false:=by simp;omega
 have hr2:r=false:=by rw[← hr,decide_eq_false (fun g=>hji g.1)]
 subst hr2;clear hr h97
 go_enter Tryz.func130, Tryz.ntmps130
 go_wp2
 go_quiet (fail)
 go_wp2;go_ret;exact⟨rfl,below_drewN (Below.refl _ _) _⟩
theorem ZdZ (x:Int) (w:World) (r:Bool) (hr:inB x 0 2=r):Calls Tryz.prog 60 #[.int .i64 x] w fun e w'=>e = .returned (.bool r)∧w=w':=by
 have Hr:=qh hr;clear hr
 go_enter Tryz.func60, Tryz.ntmps60
 go_wp2_with fail;refine(ZbD _ _ _ _ _ Hr.out).mono ?_;rintro e w1 ⟨rfl,rfl⟩;go_wp2;go_ret;exact⟨rfl,rfl⟩
theorem Zc0 (k l:Int) (w:World) (r:Bool) (hr:pOk (k,l)=r) :
  Calls Tryz.prog 92 #[.agg #[.int .i64 k,.int .i64 l]] w fun e w'=>e = .returned (.bool r)∧Below w.heap.size w w':=by
 unfold pOk at hr;simp only at hr;by_cases h3:k=3
 ·subst h3;have h1:inB 3 1 8=true:=by decide
  rw[h1,Bool.true_and] at hr;cases h2:inB l 0 2
  ·rw[h2] at hr;have hr:false=r:=hr;subst hr;have H2:=qh h2;clear h2 h1
   go_enter Tryz.func92, Tryz.ntmps92
   go_wp2_with fail;refine(ZdZ _ _ _ H2.out).mono ?_;rintro e w1 ⟨rfl,rfl⟩;go_wp2;go_ret;exact⟨rfl,(Below.refl _ _).alloc (Nat.le_refl _) _⟩
  rw[h2] at hr;have hr:true=r:=hr;subst hr;have H2:=qh h2;clear h2 h1
  go_enter Tryz.func92, Tryz.ntmps92
  go_wp2_with fail;refine(ZdZ _ _ _ H2.out).mono ?_;rintro e w1 ⟨rfl,rfl⟩;go_wp2;go_ret;exact⟨rfl,(Below.refl _ _).alloc (Nat.le_refl _) _⟩
 obtain⟨q1,q2,q3,q4⟩:=Zap h3;rw[decide_eq_false h3] at hr;cases h1:inB k 1 8
 ·rw[h1,Bool.false_and] at hr;subst hr;have H1:=qh h1;clear h1
  go_enter Tryz.func92, Tryz.ntmps92
  go_wp2_with fail;refine(ZbD _ _ _ _ _ H1.out).mono ?_;rintro e w1 ⟨rfl,rfl⟩;go_wp2;go_ret;exact⟨rfl,(Below.refl _ _).alloc (Nat.le_refl _) _⟩
 rw[h1,Bool.true_and] at hr;have H1:=qh h1;clear h1;have hr:decide (l=0)=r:=hr;subst hr
 go_enter Tryz.func92, Tryz.ntmps92
 go_wp2_with fail;refine(ZbD _ _ _ _ _ H1.out).mono ?_;rintro e w1 ⟨rfl,rfl⟩;by_cases h0:l=0
 ·subst h0;go_wp2;go_ret;exact⟨rfl,(Below.refl _ _).alloc (Nat.le_refl _) _⟩
 obtain⟨p1,p2,p3,p4⟩:=Zap h0;go_wp2;go_ret;exact⟨by rw[decide_eq_false h0];rfl,(Below.refl _ _).alloc (Nat.le_refl _) _⟩
theorem ZaU (k l:Int) (w:World) (r:Int) (hr:Zag (k,l)=r) (h0:0≤r) :
  Calls Tryz.prog 65 #[.agg #[.int .i64 k,.int .i64 l]] w fun e w'=>e = .returned (.int .i64 r)∧Below w.heap.size w w':=by
 have hok:=Zei (p:=(k,l)) (by rw[hr];exact h0);have hk:(k=1∨k=2∨k=3∨k=4∨k=5∨k=6∨k=7∨k=8):=by simp only[pOk,inB,Bool.and_eq_true,Bool.or_eq_true,decide_eq_true_eq] at hok;omega
 unfold Zag at hr;rw[if_pos hok] at hr;clear hok h0;rcases hk with rfl|rfl|rfl|rfl|rfl|rfl|rfl|rfl <;>
 ·simp at hr;subst hr
  go_enter Tryz.func65, Tryz.ntmps65
  go_wp2;go_ret;exact⟨rfl,(Below.refl _ _).alloc (Nat.le_refl _) _⟩
end Go.Proofs.YtehmjmjedopkkaaGreat
