/-
  Words through an automaton with choices: impl.Nfa.run, impl.NfaAccepts, impl.NfaRun and spec.NfaRun.
  Conditions: the automaton is readable, the word is a text of bytes.
-/
import Derived.Test.YtfikabecgaappaaGreatPb23Tb
set_option maxHeartbeats 4000000
set_option maxRecDepth 100000
namespace Go.Proofs.YtfikabecgaappaaGreat
open Go.RowKit
def lets (l:List Nat):List Nat:=l.map (·-97)
theorem Zoe {l:List Nat} {k:Nat} (h:okT l l.length=true) (hk:k<l.length):97≤l.getD k 0∧l.getD k 0≤99:=by unfold okT at h;have:=List.all_eq_true.1 h k (List.mem_range.2 hk);simp only[inB,Bool.and_eq_true,decide_eq_true_eq] at this;omega
theorem ZgO {l:List Nat} (h:wdOk l=true):okT l l.length=true∧l.length≤8:=by unfold wdOk at h;simp only[Bool.and_eq_true,decide_eq_true_eq] at h;exact h
theorem Zlx {n:NfaD} {l:List Nat} {k:Nat} (hk:k<l.length):runS n (lets (l.take (k+1)))=stV 40 n.moves (runS n (lets (l.take k))) ((l.getD k 0-97:Nat):Int):=by rw[List.take_succ_eq_append_getElem hk];unfold runS lets;rw[List.map_append,List.foldl_append];simp[hk]
theorem Zly {n:NfaD} (hok:Zal n=true) (cs:List Nat):runS n cs<2 ^ 40:=by obtain⟨m,-,hm40,hmv,-,hf,-⟩:=Zai hok;have hm4:=ZeD hmv hm40;unfold runS;exact ZbG _ (fun v=>v<2 ^ 40) (fun _ _ _ _=>Zig hm4 _ _) (Zc8 hm4 (Zck fun s hs=>by have:=hf s hs;omega) 40)
theorem ZkF (n:NfaD) (l:List Nat) (v1 v2 v3:Value) (w:World) (hok:Zal n=true) (ht:isT l) (hlo:okT l l.length=true) (hll:l.length≤1000) (h1:Moves 0 w v1 n.moves) (h2:Ints 0 w v2 n.firsts) :
  Calls Tryz.prog 54 #[.agg (nfaC n v1 v2 v3),.string (txB l)] w fun e w'=>e = .returned (setC (runS n (lets l)))∧Below w.heap.size w w':=by
 obtain⟨m,-,hm40,hmv,hml,hf,hfl,-⟩:=Zai hok;have hm4:=ZeD hmv hm40;have hfi:inN 40 n.firsts:=fun s hs=>by have:=hf s hs;omega
 have hlt40:=fun cs=>Zly hok cs
 have hml:n.moves.length≤1000000:=by omega
 have hfl:n.firsts.length≤1000000:=by omega
 have hsz:=ZcX l;have hS0:=((St.start w).alloc _ rfl (nfaC n v1 v2 v3) 28).alloc (w.heap.size+1) (by simp) #[.int .u64 0,.int .u64 0] 85;have H1:=qh h1;have H2:=qh h2;replace hm4:=qh hm4;replace hfi:=qh hfi;have Hhlt40:=qh hlt40;clear hlt40;have Hht:=qh ht;clear ht;have Hhlo:=qh hlo;clear hlo;have Hhok:=qh hok;clear hok;replace hS0:=qh hS0;clear h1 h2 hmv hf hm40
 go_enter Tryz.func54, Tryz.ntmps54
 have e0:=hS0.out.cell (v:=.int .i64 n.states) 0 0 rfl rfl;have e1:=hS0.out.cell (v:=v1) 0 1 rfl rfl;have e2:=hS0.out.cell (v:=v2) 0 2 rfl rfl;have e3:=hS0.out.cell (v:=v3) 0 3 rfl rfl;go_wp2_with fail;refine(Zcv n v1 v2 v3 _ hm4.out hml hfi.out hfl (H1.out.below hS0.out.bel) (H2.out.below hS0.out.bel)).mono ?_;rintro e w2 ⟨rfl,hb2⟩;have hS1:=(hS0.out.call hb2).alloc _ rfl #[.int .u64 (fstV n:Nat),.int .u64 0] 85;have HhS1:=qh hS1;clear hS1;clear hb2 e0 e1 e2 e3;go_wp2
 go_loopw [11] (fun i wr=>∃ k:Nat,i = .int .i64 k∧k≤l.length∧St w wr [Ent.box w.heap.size (nfaC n v1 v2 v3) 28,Ent.box (w.heap.size+1) #[.int .u64 0,.int .u64 0] 85,Ent.box w2.heap.size #[.int .u64 (runS n (lets (l.take k)):Nat),.int .u64 0] 85])
  (fun i _=>l.length-(intOf i).toNat)
 case atStart=>exact⟨0,rfl,Nat.zero_le _,HhS1.out⟩
 case round =>
  obtain⟨k,rfl,hk,hS⟩:=hrel;obtain⟨C,hC⟩:=eI (runS n (lets (l.take k)));have hC40:C<2 ^ 40:=by rw[hC];exact Hhlt40.out _
  rw[← hC] at hS;by_cases hlt:k<l.length
  ·have hkI:(k:Int)<l.length:=by omega
   have hlo2:=(Zoe Hhlo.out hlt).1;have hsc:=Zlx (n:=n) hlt;rw[← hC] at hsc;obtain⟨c,hc⟩:=eI (l.getD k 0-97);have HLt:=qh (Zc5 l k hlt Hht.out hlo2);rw[← hc] at HLt hsc;obtain⟨D,hD⟩:=eI (stV 40 n.moves C (c:Int));rw[← hD] at hsc;have HSt:=qh (fun (u:World) (hu:Below w.heap.size w u)=>ZfY n C (c:Int) v1 v2 v3 u hm4.out hml hC40 (H1.out.below hu));rw[← hD] at HSt;have hS':=hS.drew;replace hC:=qh hC;have HhC40:=qh hC40;clear hC40;have Hhc:=qh hc;clear hc;have HhD:=qh hD;clear hD;have Hhsc:=qh hsc;clear hsc;clear hlo2 hS;go_wp2_with fail;refine wp_region_any (by kernel_rfl) ?_
   refine Zaq (fun A listed a w'=>∃ (l0 l1 l2 l3 l4 l5 l6:Bool) ,listed=#[l0,l1,l2,l3,l4,l5,l6]∧(l4=true→l2=true∧l3=true)∧(l5=true→l1=true∧l4=true)∧(l6=true→l5=true∧l0=true) ∧
     a=⟨((((((A.tmps.setIfInBounds 14 (if l0=true then .agg #[.int .i64 n.states,v1,v2,v3] else A.tmps.getD 14 undef)).setIfInBounds 15 (if l1=true then .agg #[.int .u64 (C:Nat),.int .u64 0] else A.tmps.getD 15 undef)).setIfInBounds 16 (if l2=true then .string (txB l) else A.tmps.getD 16 undef)).setIfInBounds 17 (if l3=true then .int .i64 (k:Int) else A.tmps.getD 17 undef)).setIfInBounds 18 (if l4=true then .int .i64 (c:Int) else A.tmps.getD 18 undef)).setIfInBounds 19 (if l5=true then .agg #[.int .u64 (D:Nat),.int .u64 0] else A.tmps.getD 19 undef)),A.defers⟩ ∧
     St w w' [Ent.box w.heap.size #[.int .i64 n.states,v1,v2,v3] 28,Ent.box (w.heap.size+1) #[.int .u64 0,.int .u64 0] 85,Ent.box w2.heap.size #[(if l6=true then .int .u64 (D:Nat) else .int .u64 (C:Nat)),.int .u64 0] 85]) ?_ ?_ ?_
   ·rintro listed a w' ⟨l0,l1,l2,l3,l4,l5,l6,rfl,hd4,hd5,hd6,rfl,hS⟩ i hi;obtain⟨hun,o,ho,hall⟩:=mem_ready.1 hi;have hlt:=(Array.getElem?_eq_some_iff.1 ho).1;refine wpOp_step ho (fun K hK => ?_);clear hi;have HS:=qh hS;clear hS;simp only[List.setIfInBounds_toArray,List.set_cons_zero,List.set_cons_succ,Array.getD_eq_getD_getElem?,List.getElem?_toArray,List.getElem?_cons_zero,List.getElem?_cons_succ,Option.getD_some];obtain h|h|h|h|h|h|h:i=0∨i=1∨i=2∨i=3∨i=4∨i=5∨i=6:=by simp at hlt;omega
    all_goals subst h
    all_goals simp only[List.getElem?_toArray,List.getElem?_cons_zero,List.getElem?_cons_succ,Option.some.injEq] at ho
    all_goals subst ho
    all_goals simp[Region.binds] at hun hall
    ·subst hun;obtain rfl:l6=false:=offR hd6 rfl;have e0:=HS.out.cell (v:=.int .i64 n.states) 0 0 rfl rfl;have e1:=HS.out.cell (v:=v1) 0 1 rfl rfl;have e2:=HS.out.cell (v:=v2) 0 2 rfl rfl;have e3:=HS.out.cell (v:=v3) 0 3 rfl rfl;go_simp;exact hK _ _ ⟨true,l1,l2,l3,l4,l5,false,rfl,hd4,hd5,by simp,(by simp),HS.out⟩
    ·subst hun;obtain rfl:l5=false:=offL hd5 rfl;obtain rfl:l6=false:=offL hd6 rfl;have d0:=HS.out.cell (v:=.int .u64 (C:Nat)) 2 0 rfl rfl;have d1:=HS.out.cell (v:=.int .u64 0) 2 1 rfl rfl;go_simp;exact hK _ _ ⟨l0,true,l2,l3,l4,false,false,rfl,hd4,by simp,by simp,(by simp),HS.out⟩
    ·subst hun;obtain rfl:l4=false:=offL hd4 rfl;obtain rfl:l5=false:=offR hd5 rfl;obtain rfl:l6=false:=offL hd6 rfl;go_simp;exact hK _ _ ⟨l0,l1,true,l3,false,false,false,rfl,by simp,by simp,by simp,(by simp),HS.out⟩
    ·subst hun;obtain rfl:l4=false:=offR hd4 rfl;obtain rfl:l5=false:=offR hd5 rfl;obtain rfl:l6=false:=offL hd6 rfl;go_simp;exact hK _ _ ⟨l0,l1,l2,true,false,false,false,rfl,by simp,by simp,by simp,(by simp),HS.out⟩
    ·obtain⟨rfl,rfl⟩:=hall;subst hun;obtain rfl:l5=false:=offR hd5 rfl;obtain rfl:l6=false:=offL hd6 rfl;go_simp
     go_at_call 63
     refine(HLt.out _).mono ?_;rintro e u0 ⟨rfl,rfl⟩;go_simp;exact hK _ _ ⟨l0,l1,true,true,true,false,false,rfl,by simp,by simp,by simp,(by simp),HS.out⟩
    ·obtain⟨rfl,rfl,rfl⟩:=hall;subst hun;obtain⟨rfl,rfl⟩:=hd4 rfl;obtain rfl:l6=false:=offL hd6 rfl;go_simp
     go_at_call 91
     refine(HSt.out _ HS.out.bel).mono ?_;rintro e u1 ⟨rfl,hb⟩;have hS2:=HS.out.call hb;have HhS2:=qh hS2;clear hS2;go_simp;exact hK _ _ ⟨true,true,true,true,true,true,false,rfl,by simp,by simp,by simp,(by simp only[↓reduceIte,List.setIfInBounds_toArray,List.set_cons_zero,List.set_cons_succ]),HhS2.out⟩
    obtain⟨rfl,rfl,rfl,rfl,rfl,rfl,-⟩:=hall;subst hun;have d0:=HS.out.cell (v:=.int .u64 (C:Nat)) 2 0 rfl rfl;have d1:=HS.out.cell (v:=.int .u64 0) 2 1 rfl rfl;have f0:=HS.out.fr 2 0 rfl;have f1:=HS.out.fr 2 1 rfl;go_simp;exact hK _ _ ⟨true,true,true,true,true,true,true,rfl,by simp,by simp,by simp,(by simp only[↓reduceIte,List.setIfInBounds_toArray,List.set_cons_zero,List.set_cons_succ]),(HS.out.set 2 rfl 0 (.int .u64 (D:Nat))).set 2 rfl 1 (.int .u64 0)⟩
   ·rintro listed a w' ⟨l0,l1,l2,l3,l4,l5,l6,rfl,hd4,hd5,hd6,rfl,hS⟩ hr;have hall:=Zaw (by kernel_rfl) rfl hr;obtain rfl:l0=true:=by simpa using hall 0 (by simp)
    obtain rfl:l1=true:=by simpa using hall 1 (by simp)
    obtain rfl:l2=true:=by simpa using hall 2 (by simp)
    obtain rfl:l3=true:=by simpa using hall 3 (by simp)
    obtain rfl:l4=true:=by simpa using hall 4 (by simp)
    obtain rfl:l5=true:=by simpa using hall 5 (by simp)
    obtain rfl:l6=true:=by simpa using hall 6 (by simp)
    clear hall hr hd4 hd5 hd6;simp only[↓reduceIte] at hS ⊢;simp only[List.setIfInBounds_toArray,List.set_cons_zero,List.set_cons_succ];have HSf:=qh (hS.pick [0,1,2] (by decide));clear hS;go_wp2;go_roundw
    case rel =>refine⟨k+1,by go_num,by omega,?_⟩;rw[Hhsc.out];exact HSf.out
    case measure=>simp[intOf];omega
   refine⟨false,false,false,false,false,false,false,rfl,by simp,by simp,by simp,(by simp),?_⟩;exact hS'.pick [0,1,2] (by decide)
  obtain rfl:k=l.length:=by omega
  rw[List.take_length] at hC;have e0:=hS.cell (v:=.int .u64 (C:Nat)) 2 0 rfl rfl;have e1:=hS.cell (v:=.int .u64 0) 2 1 rfl rfl;have k0:=hS.cell (v:=.int .u64 0) 1 0 rfl rfl;have k1:=hS.cell (v:=.int .u64 0) 1 1 rfl rfl;have f0:=hS.fr 1 0 rfl;have f1:=hS.fr 1 1 rfl;have hS2:=(hS.set 1 rfl 0 (.int .u64 (C:Nat))).set 1 rfl 1 (.int .u64 0);have q0:=hS2.cell (v:=.int .u64 (C:Nat)) 1 0 rfl rfl;have q1:=hS2.cell (v:=.int .u64 0) 1 1 rfl rfl;replace hC:=qh hC;have HhS:=qh hS;clear hS;have HhS2:=qh hS2;clear hS2;go_wp2;rw[← hC.out];exact bodyPost_ret (v:=setC C) (by simp[results,Tryz.results54,go_sem,q0,q1]) rfl ⟨rfl,HhS2.out.bel⟩
def accT (n:NfaD) (l:List Nat):Bool:=Zal n&&wdOk l&&accS n (lets l)
theorem ZcF (n:NfaD) (l:List Nat) (v:Value) (w:World) (ht:isT l) (hll:l.length≤1000) (h:NfaR 0 w v n) (r:Bool) (hr:accT n l=r) :
  Calls Tryz.prog 15 #[v,.string (txB l)] w fun e w'=>e = .returned (.bool r)∧Below w.heap.size w w':=by
 have H:=qh h;obtain⟨v1,v2,v3,rfl,g1,g2,g3,-,-⟩:=h;have hS0:=(St.start w).alloc _ rfl #[.int .i64 n.states,v1,v2,v3] 28;have hb0:=hS0.bel.drew;have Hk:Hid (∀ w':World,Below (w.alloc (.cells #[.int .i64 n.states,v1,v2,v3] 28)).drew.heap.size (w.alloc (.cells #[.int .i64 n.states,v1,v2,v3] 28)).drew w'→w'.cell? ⟨w.heap.size,0,none⟩=some (.int .i64 n.states)∧w'.cell? ⟨w.heap.size,1,none⟩=some v1∧w'.cell? ⟨w.heap.size,2,none⟩=some v2∧w'.cell? ⟨w.heap.size,3,none⟩=some v3):=qh fun w' hb=>⟨(hS0.drew.call hb).cell 0 0 rfl rfl,(hS0.drew.call hb).cell 0 1 rfl rfl,(hS0.drew.call hb).cell 0 2 rfl rfl,(hS0.drew.call hb).cell 0 3 rfl rfl⟩
 have HN:=qh (fun (u:World) (hu:Below (w.alloc (.cells #[.int .i64 n.states,v1,v2,v3] 28)).drew.heap.size (w.alloc (.cells #[.int .i64 n.states,v1,v2,v3] 28)).drew u)=>(H.out.below hb0).below hu);have HM:=qh (fun (u:World) (hu:Below (w.alloc (.cells #[.int .i64 n.states,v1,v2,v3] 28)).drew.heap.size (w.alloc (.cells #[.int .i64 n.states,v1,v2,v3] 28)).drew u)=>(show Moves 0 u v1 n.moves∧Ints 0 u v2 n.firsts∧Ints 0 u v3 n.ends from⟨(g1.below hb0).below hu,(g2.below hb0).below hu,(g3.below hb0).below hu⟩));replace ht:=qh ht;replace hS0:=qh hS0;clear g1 g2 g3 hb0;cases hok:Zal n
 ·obtain rfl:r=false:=by rw[← hr,accT,hok];rfl
  have Hhok:=qh hok;clear hok;clear hr
  go_enter Tryz.func15, Tryz.ntmps15
  go_wp2_with fail;refine wp_region_any (by kernel_rfl) ?_
  refine ZdS (fun listed a w'=>∃ (l0 l1 l2 l3 l4 l5 l6 l7 l8 l9 l10 l11 l12 l13:Bool) ,listed=#[l0,l1,l2,l3,l4,l5,l6,l7,l8,l9,l10,l11,l12,l13] ∧
    a=⟨#[.agg #[.int .i64 n.states,v1,v2,v3],.string (txB l),.pointer (some ⟨w.heap.size,0,none⟩),undef,.bool false,(if l0=true then .agg #[.int .i64 n.states,v1,v2,v3] else undef),(if l1=true then .bool false else undef),(if l2=true then .bool false else undef),undef,undef,(if l5=true then .bool false else undef),(if l6=true then .bool false else undef),undef,undef,undef,undef,undef,(if l12=true then .bool false else undef)],[]⟩ ∧
    St w w' [Ent.box w.heap.size #[.int .i64 n.states,v1,v2,v3] 28]) ?_ ?_ _ _ _ _ (Zla _ _) ?_
  ·rintro listed a w' ⟨l0,l1,l2,l3,l4,l5,l6,l7,l8,l9,l10,l11,l12,l13,rfl,rfl,hS⟩ i hi;obtain⟨hun,o,ho,hall⟩:=mem_ready.1 hi;have hlt:=(Array.getElem?_eq_some_iff.1 ho).1;refine wpOp_step ho (fun K hK => ?_);clear hi;have HS:=qh hS;clear hS;obtain h|h|h|h|h|h|h|h|h|h|h|h|h|h:i=0∨i=1∨i=2∨i=3∨i=4∨i=5∨i=6∨i=7∨i=8∨i=9∨i=10∨i=11∨i=12∨i=13:=by simp at hlt;omega
   all_goals subst h
   all_goals simp only[List.getElem?_toArray,List.getElem?_cons_zero,List.getElem?_cons_succ,Option.some.injEq] at ho
   all_goals subst ho
   all_goals simp[Region.binds] at hun hall
   ·subst hun;have e0:=HS.out.cell (v:=.int .i64 n.states) 0 0 rfl rfl;have e1:=HS.out.cell (v:=v1) 0 1 rfl rfl;have e2:=HS.out.cell (v:=v2) 0 2 rfl rfl;have e3:=HS.out.cell (v:=v3) 0 3 rfl rfl;go_simp;exact hK _ _ ⟨true,l1,l2,l3,l4,l5,l6,l7,l8,l9,l10,l11,l12,l13,rfl,rfl,HS.out⟩
   ·obtain rfl:=hall;subst hun;go_simp
    go_at_call 14
    refine(Zab n _ _ (H.out.below HS.out.bel) _ Hhok.out).mono ?_;rintro e u0 ⟨rfl,hb⟩;have hS2:=HS.out.call hb;have HhS2:=qh hS2;clear hS2;go_simp;exact hK _ _ ⟨true,true,l2,l3,l4,l5,l6,l7,l8,l9,l10,l11,l12,l13,rfl,rfl,HhS2.out⟩
   ·obtain rfl:=hall;subst hun;go_simp;exact hK _ _ ⟨l0,true,true,l3,l4,l5,l6,l7,l8,l9,l10,l11,l12,l13,rfl,rfl,HS.out⟩
   ·obtain rfl:=hall;subst hun;go_simp;exact hK _ _ ⟨l0,l1,true,true,l4,l5,l6,l7,l8,l9,l10,l11,l12,l13,rfl,rfl,HS.out⟩
   ·obtain⟨rfl,rfl⟩:=hall;subst hun;go_simp;exact hK _ _ ⟨l0,l1,true,true,true,l5,l6,l7,l8,l9,l10,l11,l12,l13,rfl,rfl,HS.out⟩
   ·obtain⟨rfl,rfl⟩:=hall;subst hun;go_simp;exact hK _ _ ⟨l0,l1,true,l3,true,true,l6,l7,l8,l9,l10,l11,l12,l13,rfl,rfl,HS.out⟩
   ·obtain⟨rfl,rfl⟩:=hall;subst hun;go_simp;exact hK _ _ ⟨l0,l1,l2,l3,true,true,true,l7,l8,l9,l10,l11,l12,l13,rfl,rfl,HS.out⟩
   ·obtain rfl:=hall;subst hun;go_simp;exact hK _ _ ⟨l0,l1,l2,l3,l4,l5,true,true,l8,l9,l10,l11,l12,l13,rfl,rfl,HS.out⟩
   ·obtain rfl:=hall;subst hun;go_simp;exact hK _ _ ⟨l0,l1,l2,l3,l4,l5,true,l7,true,l9,l10,l11,l12,l13,rfl,rfl,HS.out⟩
   ·obtain rfl:=hall;subst hun;go_simp;exact hK _ _ ⟨l0,l1,l2,l3,l4,l5,true,l7,l8,true,l10,l11,l12,l13,rfl,rfl,HS.out⟩
   ·obtain⟨rfl,rfl,rfl⟩:=hall;subst hun;go_simp;exact hK _ _ ⟨l0,l1,l2,l3,l4,l5,true,l7,true,true,true,l11,l12,l13,rfl,rfl,HS.out⟩
   ·obtain⟨rfl,rfl,rfl⟩:=hall;subst hun;go_simp;exact hK _ _ ⟨l0,l1,l2,l3,l4,l5,true,true,l8,l9,true,true,l12,l13,rfl,rfl,HS.out⟩
   ·obtain⟨rfl,rfl⟩:=hall;subst hun;go_simp;exact hK _ _ ⟨l0,l1,l2,l3,l4,l5,true,l7,l8,l9,l10,true,true,l13,rfl,rfl,HS.out⟩
   obtain⟨rfl,rfl,rfl,rfl,rfl,rfl,rfl,rfl,rfl,rfl,rfl,rfl,rfl,-⟩:=hall;subst hun;go_simp;exact hK _ _ ⟨true,true,true,true,true,true,true,true,true,true,true,true,true,true,rfl,rfl,HS.out⟩
  ·rintro listed a w' ⟨l0,l1,l2,l3,l4,l5,l6,l7,l8,l9,l10,l11,l12,l13,rfl,rfl,hS⟩ hr;have hall:=Zaw (by kernel_rfl) rfl hr;obtain rfl:l0=true:=by simpa using hall 0 (by simp)
   obtain rfl:l1=true:=by simpa using hall 1 (by simp)
   obtain rfl:l2=true:=by simpa using hall 2 (by simp)
   obtain rfl:l3=true:=by simpa using hall 3 (by simp)
   obtain rfl:l4=true:=by simpa using hall 4 (by simp)
   obtain rfl:l5=true:=by simpa using hall 5 (by simp)
   obtain rfl:l6=true:=by simpa using hall 6 (by simp)
   obtain rfl:l7=true:=by simpa using hall 7 (by simp)
   obtain rfl:l8=true:=by simpa using hall 8 (by simp)
   obtain rfl:l9=true:=by simpa using hall 9 (by simp)
   obtain rfl:l10=true:=by simpa using hall 10 (by simp)
   obtain rfl:l11=true:=by simpa using hall 11 (by simp)
   obtain rfl:l12=true:=by simpa using hall 12 (by simp)
   obtain rfl:l13=true:=by simpa using hall 13 (by simp)
   clear hall hr ;simp only[↓reduceIte] at hS ⊢;have HSf:=qh hS;clear hS;go_wp2;go_ret;exact⟨rfl,HSf.out.bel⟩
  refine⟨false,false,false,false,false,false,false,false,false,false,false,false,false,false,rfl,rfl,?_⟩;exact hS0.out.drew.pick [0] (by decide)
 cases hwd:wdOk l
 ·obtain rfl:r=false:=by rw[← hr,accT,hok,hwd];rfl
  have Hhok:=qh hok;clear hok;have Hhwd:=qh hwd;clear hwd;clear hr
  go_enter Tryz.func15, Tryz.ntmps15
  go_wp2_with fail;refine wp_region_any (by kernel_rfl) ?_
  refine ZdS (fun listed a w'=>∃ (l0 l1 l2 l3 l4 l5 l6 l7 l8 l9 l10 l11 l12 l13:Bool) ,listed=#[l0,l1,l2,l3,l4,l5,l6,l7,l8,l9,l10,l11,l12,l13] ∧
    a=⟨#[.agg #[.int .i64 n.states,v1,v2,v3],.string (txB l),.pointer (some ⟨w.heap.size,0,none⟩),undef,.bool false,(if l0=true then .agg #[.int .i64 n.states,v1,v2,v3] else undef),(if l1=true then .bool true else undef),(if l2=true then .bool true else undef),(if l3=true then .string (txB l) else undef),(if l4=true then .bool false else undef),(if l5=true then .bool false else undef),(if l6=true then .bool false else undef),undef,undef,undef,undef,undef,(if l12=true then .bool false else undef)],[]⟩ ∧
    St w w' [Ent.box w.heap.size #[.int .i64 n.states,v1,v2,v3] 28]) ?_ ?_ _ _ _ _ (Zla _ _) ?_
  ·rintro listed a w' ⟨l0,l1,l2,l3,l4,l5,l6,l7,l8,l9,l10,l11,l12,l13,rfl,rfl,hS⟩ i hi;obtain⟨hun,o,ho,hall⟩:=mem_ready.1 hi;have hlt:=(Array.getElem?_eq_some_iff.1 ho).1;refine wpOp_step ho (fun K hK => ?_);clear hi;have HS:=qh hS;clear hS;obtain h|h|h|h|h|h|h|h|h|h|h|h|h|h:i=0∨i=1∨i=2∨i=3∨i=4∨i=5∨i=6∨i=7∨i=8∨i=9∨i=10∨i=11∨i=12∨i=13:=by simp at hlt;omega
   all_goals subst h
   all_goals simp only[List.getElem?_toArray,List.getElem?_cons_zero,List.getElem?_cons_succ,Option.some.injEq] at ho
   all_goals subst ho
   all_goals simp[Region.binds] at hun hall
   ·subst hun;have e0:=HS.out.cell (v:=.int .i64 n.states) 0 0 rfl rfl;have e1:=HS.out.cell (v:=v1) 0 1 rfl rfl;have e2:=HS.out.cell (v:=v2) 0 2 rfl rfl;have e3:=HS.out.cell (v:=v3) 0 3 rfl rfl;go_simp;exact hK _ _ ⟨true,l1,l2,l3,l4,l5,l6,l7,l8,l9,l10,l11,l12,l13,rfl,rfl,HS.out⟩
   ·obtain rfl:=hall;subst hun;go_simp
    go_at_call 14
    refine(Zab n _ _ (H.out.below HS.out.bel) _ Hhok.out).mono ?_;rintro e u0 ⟨rfl,hb⟩;have hS2:=HS.out.call hb;have HhS2:=qh hS2;clear hS2;go_simp;exact hK _ _ ⟨true,true,l2,l3,l4,l5,l6,l7,l8,l9,l10,l11,l12,l13,rfl,rfl,HhS2.out⟩
   ·obtain rfl:=hall;subst hun;go_simp;exact hK _ _ ⟨l0,true,true,l3,l4,l5,l6,l7,l8,l9,l10,l11,l12,l13,rfl,rfl,HS.out⟩
   ·obtain rfl:=hall;subst hun;go_simp;exact hK _ _ ⟨l0,l1,true,true,l4,l5,l6,l7,l8,l9,l10,l11,l12,l13,rfl,rfl,HS.out⟩
   ·obtain⟨rfl,rfl⟩:=hall;subst hun;go_simp
    go_at_call 52
    refine(Zbe l _ ht.out (by omega) _ Hhwd.out).mono ?_;rintro e u1 ⟨rfl,rfl⟩;go_simp;exact hK _ _ ⟨l0,l1,true,true,true,l5,l6,l7,l8,l9,l10,l11,l12,l13,rfl,rfl,HS.out⟩
   ·obtain⟨rfl,rfl⟩:=hall;subst hun;go_simp;exact hK _ _ ⟨l0,l1,true,l3,true,true,l6,l7,l8,l9,l10,l11,l12,l13,rfl,rfl,HS.out⟩
   ·obtain⟨rfl,rfl⟩:=hall;subst hun;go_simp;exact hK _ _ ⟨l0,l1,l2,l3,true,true,true,l7,l8,l9,l10,l11,l12,l13,rfl,rfl,HS.out⟩
   ·obtain rfl:=hall;subst hun;go_simp;exact hK _ _ ⟨l0,l1,l2,l3,l4,l5,true,true,l8,l9,l10,l11,l12,l13,rfl,rfl,HS.out⟩
   ·obtain rfl:=hall;subst hun;go_simp;exact hK _ _ ⟨l0,l1,l2,l3,l4,l5,true,l7,true,l9,l10,l11,l12,l13,rfl,rfl,HS.out⟩
   ·obtain rfl:=hall;subst hun;go_simp;exact hK _ _ ⟨l0,l1,l2,l3,l4,l5,true,l7,l8,true,l10,l11,l12,l13,rfl,rfl,HS.out⟩
   ·obtain⟨rfl,rfl,rfl⟩:=hall;subst hun;go_simp;exact hK _ _ ⟨l0,l1,l2,l3,l4,l5,true,l7,true,true,true,l11,l12,l13,rfl,rfl,HS.out⟩
   ·obtain⟨rfl,rfl,rfl⟩:=hall;subst hun;go_simp;exact hK _ _ ⟨l0,l1,l2,l3,l4,l5,true,true,l8,l9,true,true,l12,l13,rfl,rfl,HS.out⟩
   ·obtain⟨rfl,rfl⟩:=hall;subst hun;go_simp;exact hK _ _ ⟨l0,l1,l2,l3,l4,l5,true,l7,l8,l9,l10,true,true,l13,rfl,rfl,HS.out⟩
   obtain⟨rfl,rfl,rfl,rfl,rfl,rfl,rfl,rfl,rfl,rfl,rfl,rfl,rfl,-⟩:=hall;subst hun;go_simp;exact hK _ _ ⟨true,true,true,true,true,true,true,true,true,true,true,true,true,true,rfl,rfl,HS.out⟩
  ·rintro listed a w' ⟨l0,l1,l2,l3,l4,l5,l6,l7,l8,l9,l10,l11,l12,l13,rfl,rfl,hS⟩ hr;have hall:=Zaw (by kernel_rfl) rfl hr;obtain rfl:l0=true:=by simpa using hall 0 (by simp)
   obtain rfl:l1=true:=by simpa using hall 1 (by simp)
   obtain rfl:l2=true:=by simpa using hall 2 (by simp)
   obtain rfl:l3=true:=by simpa using hall 3 (by simp)
   obtain rfl:l4=true:=by simpa using hall 4 (by simp)
   obtain rfl:l5=true:=by simpa using hall 5 (by simp)
   obtain rfl:l6=true:=by simpa using hall 6 (by simp)
   obtain rfl:l7=true:=by simpa using hall 7 (by simp)
   obtain rfl:l8=true:=by simpa using hall 8 (by simp)
   obtain rfl:l9=true:=by simpa using hall 9 (by simp)
   obtain rfl:l10=true:=by simpa using hall 10 (by simp)
   obtain rfl:l11=true:=by simpa using hall 11 (by simp)
   obtain rfl:l12=true:=by simpa using hall 12 (by simp)
   obtain rfl:l13=true:=by simpa using hall 13 (by simp)
   clear hall hr ;simp only[↓reduceIte] at hS ⊢;have HSf:=qh hS;clear hS;go_wp2;go_ret;exact⟨rfl,HSf.out.bel⟩
  refine⟨false,false,false,false,false,false,false,false,false,false,false,false,false,false,rfl,rfl,?_⟩;exact hS0.out.drew.pick [0] (by decide)
 obtain⟨hlo,hl8⟩:=ZgO hwd;obtain⟨m,-,hm40,-,-,-,-,hei,-⟩:=Zai hok;have hei:inN 40 n.ends:=fun s hs=>by have:=hei s hs;omega
 have hr:endV n (runS n (lets l))=r:=by rw[← hr,accT,hok,hwd];rfl
 have hlt:=Zly hok (lets l);have Hhok:=qh hok;clear hok;have Hhwd:=qh hwd;clear hwd;have Hhlo:=qh hlo;clear hlo;have Hhr:=qh hr;clear hr;have Hhlt:=qh hlt;clear hlt;have Hhei:=qh hei;clear hei
 go_enter Tryz.func15, Tryz.ntmps15
 have hS1:=hS0.out.drew;have e0:=hS1.cell (v:=.int .i64 n.states) 0 0 rfl rfl;have e1:=hS1.cell (v:=v1) 0 1 rfl rfl;have e2:=hS1.cell (v:=v2) 0 2 rfl rfl;have e3:=hS1.cell (v:=v3) 0 3 rfl rfl;go_wp2_with fail
 go_region_with
  (first
   | (go_at_call 14;(with_reducible refine(Zab n _ _ (HN.out _ (Below.refl _ _)) _ Hhok.out).mono ?_);rintro e u0 ⟨rfl,hq0⟩;obtain⟨x0,x1,x2,x3⟩:=Hk.out _ hq0)
   | (go_at_call 52;(with_reducible refine(Zbe l _ ht.out (by omega) _ Hhwd.out).mono ?_);rintro e u1 ⟨rfl,rfl⟩)
   | (go_at_call 54;(with_reducible refine(ZkF n l v1 v2 v3 _ Hhok.out ht.out Hhlo.out hll (HM.out _ hq0).1 (HM.out _ hq0).2.1).mono ?_);rintro e u2 ⟨rfl,hr2⟩;have hq2:=hq0.trans (hr2.mono hq0.size);obtain⟨y0,y1,y2,y3⟩:=Hk.out _ hq2)
   | (go_at_call 53;(with_reducible refine(ZfZ n _ v1 v2 v3 _ Hhlt.out Hhei.out (HM.out _ hq2).2.2 _ Hhr.out).mono ?_);rintro e u3 ⟨rfl,hr3⟩;have hq3:=hq2.trans (hr3.mono hq2.size)))
 all_goals
  go_wp2;go_ret;exact⟨rfl,(hS0.out.drew.call hq3).bel⟩
end Go.Proofs.YtfikabecgaappaaGreat
