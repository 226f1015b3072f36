/-
  The walks over the functions that hold two data against each other.
  Conditions: both arguments read as lists.
  The walk over the laws' sameInts.
  Conditions: both arguments read as lists.
-/
import Derived.Test.YtfgpkadhegdffaaGreatPk12Jw
set_option maxHeartbeats 4000000
set_option maxRecDepth 100000
namespace Go.Proofs.YtfgpkadhegdffaaGreat
open Go.RowKit
theorem eqIntS_any (xs ys:List Int) (v1 v2:Value) (w:World) (h1:Ints 0 w v1 xs) (h2:Ints 0 w v2 ys) (r:Bool) (hr:decide (xs = ys) = r) :
  Calls Tryz.prog 82 #[v1,v2] w fun e w' => e = .returned (.bool r) ∧ Below w.heap.size w w':=by
 obtain ⟨a1,c1,rfl,hc1,hm1,hr1⟩:=h1.form
 obtain ⟨a2,c2,rfl,hc2,hm2,hr2⟩:=h2.form
 clear h1 h2
 have Hhr:=qh hr;clear hr
 by_cases hlen:xs.length = ys.length
 ·have hl:((xs.length:Int) != ys.length) = false:=by rw [bne_len];simpa using hlen
  have Hhlen:=qh hlen;clear hlen
  go_enter Tryz.func82, Tryz.ntmps82
  go_wp2
  go_loopw [4,5] (fun r i wr => ∃ k:Nat,k ≤ xs.length ∧ i = .int .i64 k ∧ xs.take k = ys.take k ∧ Below w.heap.size w wr) (fun _ i _ => xs.length - (intOf i).toNat)
  case atStart => exact ⟨0,Nat.zero_le _,rfl,rfl,Below.refl _ _⟩
  case round =>
   obtain ⟨k,hk,rfl,htk,hb⟩:=hrel
   have Hhtk:=qh htk;clear htk
   by_cases hlt:k < xs.length
   ·have hlt2:k < ys.length:=by have:=Hhlen.out;omega
    obtain ⟨b1,o1,rfl,hB1,hbl1,hcs1⟩:=hr1 (by omega)
    obtain ⟨b2,o2,rfl,hB2,hbl2,hcs2⟩:=hr2 (by omega)
    have hx1:=(bcell hb b1 (o1+k) hbl1).trans (hcs1 k hlt)
    have hx2:=(bcell hb b2 (o2+k) hbl2).trans (hcs2 k hlt2)
    obtain ⟨x,hx⟩:∃ x,x = xs.getD k 0:=⟨_,rfl⟩
    obtain ⟨y,hy⟩:∃ y,y = ys.getD k 0:=⟨_,rfl⟩
    rw [← hx] at hx1
    rw [← hy] at hx2
    have Hhx:=qh hx;clear hx
    have Hhy:=qh hy;clear hy
    have Hhb:=qh hb;clear hb
    clear hcs1 hcs2 hr1 hr2
    by_cases he:x = y
    ·have hne:(x != y) = false:=by simpa using he
     have hne':(!(x == y)) = false:=by simpa using he
     have Hhe:=qh he;clear he
     go_wp2
     go_quiet (fail)
     go_wp2
     go_roundw
     case rel => exact ⟨k+1,by omega,by go_num,take_snoc_eq (d:=0) hlt hlt2 Hhtk.out (by rw [← Hhx.out,← Hhy.out];exact Hhe.out),below_drewN Hhb.out _⟩
     case measure => simp [intOf];omega
    ·have hne:(x != y) = true:=by simpa using he
     have hne':(!(x == y)) = true:=by simpa using he
     have Hhe:=qh he;clear he
     go_wp2
     go_quiet (fail)
     go_wp2
     go_ret
     exact ⟨by rw [← Hhr.out,decide_eq_false (ne_of_getD (k:=k) (d:=0) (by rw [← Hhx.out,← Hhy.out];exact Hhe.out))];rfl,below_drewN Hhb.out _⟩
   ·clear hr1 hr2
    have Hhb:=qh hb;clear hb
    go_wp2
    go_ret
    exact ⟨by rw [← Hhr.out,decide_eq_true (eq_of_take Hhlen.out (by omega) Hhtk.out)];rfl,Hhb.out⟩
 ·have hl:((xs.length:Int) != ys.length) = true:=by rw [bne_len];simpa using hlen
  have Hhlen:=qh hlen;clear hlen
  clear hr1 hr2
  go_enter Tryz.func82, Tryz.ntmps82
  go_wp2
  go_ret
  exact ⟨by rw [← Hhr.out,decide_eq_false (fun h => Hhlen.out (by rw [h]))];rfl,Below.refl _ _⟩
theorem eqBoolS_any (xs ys:List Bool) (v1 v2:Value) (w:World) (h1:Bools 0 w v1 xs) (h2:Bools 0 w v2 ys) (r:Bool) (hr:decide (xs = ys) = r) :
  Calls Tryz.prog 39 #[v1,v2] w fun e w' => e = .returned (.bool r) ∧ Below w.heap.size w w':=by
 obtain ⟨a1,c1,rfl,hc1,hm1,hr1⟩:=h1.form
 obtain ⟨a2,c2,rfl,hc2,hm2,hr2⟩:=h2.form
 clear h1 h2
 have Hhr:=qh hr;clear hr
 by_cases hlen:xs.length = ys.length
 ·have hl:((xs.length:Int) != ys.length) = false:=by rw [bne_len];simpa using hlen
  have Hhlen:=qh hlen;clear hlen
  go_enter Tryz.func39, Tryz.ntmps39
  go_wp2
  go_loopw [4,5] (fun r i wr => ∃ k:Nat,k ≤ xs.length ∧ i = .int .i64 k ∧ xs.take k = ys.take k ∧ Below w.heap.size w wr) (fun _ i _ => xs.length - (intOf i).toNat)
  case atStart => exact ⟨0,Nat.zero_le _,rfl,rfl,Below.refl _ _⟩
  case round =>
   obtain ⟨k,hk,rfl,htk,hb⟩:=hrel
   have Hhtk:=qh htk;clear htk
   by_cases hlt:k < xs.length
   ·have hlt2:k < ys.length:=by have:=Hhlen.out;omega
    obtain ⟨b1,o1,rfl,hB1,hbl1,hcs1⟩:=hr1 (by omega)
    obtain ⟨b2,o2,rfl,hB2,hbl2,hcs2⟩:=hr2 (by omega)
    have hx1:=(bcell hb b1 (o1+k) hbl1).trans (hcs1 k hlt)
    have hx2:=(bcell hb b2 (o2+k) hbl2).trans (hcs2 k hlt2)
    obtain ⟨x,hx⟩:∃ x,x = xs.getD k false:=⟨_,rfl⟩
    obtain ⟨y,hy⟩:∃ y,y = ys.getD k false:=⟨_,rfl⟩
    rw [← hx] at hx1
    rw [← hy] at hx2
    have Hhx:=qh hx;clear hx
    have Hhy:=qh hy;clear hy
    have Hhb:=qh hb;clear hb
    clear hcs1 hcs2 hr1 hr2
    by_cases he:x = y
    ·have hne:(x != y) = false:=by simpa using he
     have hne':(!(x == y)) = false:=by simpa using he
     have Hhe:=qh he;clear he
     go_wp2
     go_quiet (fail)
     go_wp2
     go_roundw
     case rel => exact ⟨k+1,by omega,by go_num,take_snoc_eq (d:=false) hlt hlt2 Hhtk.out (by rw [← Hhx.out,← Hhy.out];exact Hhe.out),below_drewN Hhb.out _⟩
     case measure => simp [intOf];omega
    ·have hne:(x != y) = true:=by simpa using he
     have hne':(!(x == y)) = true:=by simpa using he
     have Hhe:=qh he;clear he
     go_wp2
     go_quiet (fail)
     go_wp2
     go_ret
     exact ⟨by rw [← Hhr.out,decide_eq_false (ne_of_getD (k:=k) (d:=false) (by rw [← Hhx.out,← Hhy.out];exact Hhe.out))];rfl,below_drewN Hhb.out _⟩
   ·clear hr1 hr2
    have Hhb:=qh hb;clear hb
    go_wp2
    go_ret
    exact ⟨by rw [← Hhr.out,decide_eq_true (eq_of_take Hhlen.out (by omega) Hhtk.out)];rfl,Hhb.out⟩
 ·have hl:((xs.length:Int) != ys.length) = true:=by rw [bne_len];simpa using hlen
  have Hhlen:=qh hlen;clear hlen
  clear hr1 hr2
  go_enter Tryz.func39, Tryz.ntmps39
  go_wp2
  go_ret
  exact ⟨by rw [← Hhr.out,decide_eq_false (fun h => Hhlen.out (by rw [h]))];rfl,Below.refl _ _⟩
theorem eqIntSS_any (xs ys:List (List Int)) (v1 v2:Value) (w:World) (h1:IntSS 0 w v1 xs) (h2:IntSS 0 w v2 ys) (r:Bool) (hr:decide (xs = ys) = r) :
  Calls Tryz.prog 38 #[v1,v2] w fun e w' => e = .returned (.bool r) ∧ Below w.heap.size w w':=by
 obtain ⟨a1,c1,rfl,hc1,hm1,hr1⟩:=h1.formI
 obtain ⟨a2,c2,rfl,hc2,hm2,hr2⟩:=h2.formI
 clear h1 h2
 have Hhr:=qh hr;clear hr
 by_cases hlen:xs.length = ys.length
 ·have hl:((xs.length:Int) != ys.length) = false:=by rw [bne_len];simpa using hlen
  have Hhlen:=qh hlen;clear hlen
  go_enter Tryz.func38, Tryz.ntmps38
  go_wp2
  go_loopw [4,5] (fun r i wr => ∃ k:Nat,k ≤ xs.length ∧ i = .int .i64 k ∧ xs.take k = ys.take k ∧ Below w.heap.size w wr) (fun _ i _ => xs.length - (intOf i).toNat)
  case atStart => exact ⟨0,Nat.zero_le _,rfl,rfl,Below.refl _ _⟩
  case round =>
   obtain ⟨k,hk,rfl,htk,hb⟩:=hrel
   have Hhtk:=qh htk;clear htk
   by_cases hlt:k < xs.length
   ·have hlt2:k < ys.length:=by have:=Hhlen.out;omega
    obtain ⟨b1,o1,rfl,hB1,hbl1,hcs1⟩:=hr1 (by omega)
    obtain ⟨b2,o2,rfl,hB2,hbl2,hcs2⟩:=hr2 (by omega)
    obtain ⟨ax,cx,hxc,hxl,hxm,hxi⟩:=hcs1 k hlt
    obtain ⟨ay,cy,hyc,hyl,hym,hyi⟩:=hcs2 k hlt2
    have hx1:=(bcell hb b1 (o1+k) hbl1).trans hxc
    have hx2:=(bcell hb b2 (o2+k) hbl2).trans hyc
    obtain ⟨x,hx⟩:∃ x,x = xs.getD k []:=⟨_,rfl⟩
    obtain ⟨y,hy⟩:∃ y,y = ys.getD k []:=⟨_,rfl⟩
    rw [← hx] at hx1 hxi hxl
    rw [← hy] at hx2 hyi hyl
    have Hxi:=qh (hxi.below hb).drew
    have Hyi:=qh (hyi.below hb).drew
    clear hxc hyc hxi hyi
    have Hhx:=qh hx;clear hx
    have Hhy:=qh hy;clear hy
    have Hhb:=qh hb;clear hb
    clear hcs1 hcs2 hr1 hr2
    have hd1:b1 < wr.drew.heap.size:=Nat.lt_of_lt_of_le hbl1 Hhb.out.size
    have hd2:b2 < wr.drew.heap.size:=Nat.lt_of_lt_of_le hbl2 Hhb.out.size
    cases he:decide (x = y)
    all_goals
     have Hhe:=qh he;clear he
     go_wp2
     go_region_held3 (fun w' => w'.cell? ⟨b1,o1+k,none⟩ = some (.slice ax x.length cx) ∧ w'.cell? ⟨b2,o2+k,none⟩ = some (.slice ay y.length cy))
      (first | go_keep | exact ⟨(bcell hb2 b1 (o1+k) hd1).trans hx1,(bcell hb2 b2 (o2+k) hd2).trans hx2⟩)
      (first | (go_at_call 82;refine (eqIntS_any x y _ _ _ Hxi.out Hyi.out _ Hhe.out).mono ?_;rintro e w2 ⟨rfl,hb2⟩))
     have Hb2:=qh hb2;clear hb2
     go_wp2
    ·go_ret
     exact ⟨by rw [← Hhr.out,decide_eq_false (ne_of_getD (k:=k) (d:=[]) (by rw [← Hhx.out,← Hhy.out];exact of_decide_eq_false Hhe.out))];rfl,(Hhb.out.drew.trans (Hb2.out.mono (by have:=Hhb.out.size;simpa using this)))⟩
    ·go_roundw
     case rel => exact ⟨k+1,by omega,by go_num,take_snoc_eq (d:=[]) hlt hlt2 Hhtk.out (by rw [← Hhx.out,← Hhy.out];exact of_decide_eq_true Hhe.out),(Hhb.out.drew.trans (Hb2.out.mono (by have:=Hhb.out.size;simpa using this)))⟩
     case measure => simp [intOf];omega
   ·clear hr1 hr2
    have Hhb:=qh hb;clear hb
    go_wp2
    go_ret
    exact ⟨by rw [← Hhr.out,decide_eq_true (eq_of_take Hhlen.out (by omega) Hhtk.out)];rfl,Hhb.out⟩
 ·have hl:((xs.length:Int) != ys.length) = true:=by rw [bne_len];simpa using hlen
  have Hhlen:=qh hlen;clear hlen
  clear hr1 hr2
  go_enter Tryz.func38, Tryz.ntmps38
  go_wp2
  go_ret
  exact ⟨by rw [← Hhr.out,decide_eq_false (fun h => Hhlen.out (by rw [h]))];rfl,Below.refl _ _⟩
end Go.Proofs.YtfgpkadhegdffaaGreat
namespace Go.Proofs.YtfgpkadhegdffaaGreat
open Go.RowKit
theorem Tryz.infoPart:(Tryz.prog.info? 59).map (fun i => (i.zero,i.size,i.bytes)) = some (some (.agg #[.int .i64 0,.int .i64 0]),2,16):=by kernel_rfl
abbrev PZ:Value:=.agg #[.int .i64 0,.int .i64 0]
theorem growP_any (n:Nat) (w:World) (hn:n ≤ 100000) :
  Calls Tryz.prog 125 #[.slice none 0 0,.int .i64 (n:Int)] w fun e w' => ∃ a c,e = .returned (.slice a 0 c) ∧ St w w' [Ent.row 59 2 (.slice a 0 c) 0 []]:=by
 obtain ⟨j0,hj,hy0,hy1,hy2⟩:=info_parts Tryz.infoPart
 have h1:¬ ((n:Int) < 0):=by omega
 by_cases h0:n = 0
 ·subst h0
  have hS0:=(St.start w).nilRow 59 2
  have HhS0:=qh hS0;clear hS0
  go_enter Tryz.func125, Tryz.ntmps125
  go_wp2
  go_ret
  exact ⟨none,0,rfl,HhS0.out⟩
 ·have hrz:∀ ty,(Builtin.append_ #[40,3] ty #[.slice none 0 0,.int .i64 (n:Int)]).run Tryz.prog w =
    .ok (.slice (some ⟨w.heap.size,0,none⟩) n (grownCap w n 0 59)) (w.drew.alloc (.cells (Builtin.zeroCells PZ.cells n ++ Builtin.zeroCells PZ.cells (grownCap w n 0 59 - n)) 59)):=fun ty => by
   have h:=Lib.run_append_grow_zeros w 40 3 ty 59 j0 PZ .i64 .i64 Tryz.underlying40 Tryz.underlying3 hj hy0 none 0 0 [] (run_firstCells_none w.drew j0.size 0 0 0) n (by omega) (by omega) (by omega) (by omega) (by rw [hy2];omega) (by rw [hy2];exact growslice_fits (by omega) (by omega))
   simpa using h
  have hGn:n ≤ grownCap w n 0 59:=grownCap_ge w _ _ _
  have hG63:grownCap w n 0 59 ≤ maxLen:=grownCap_le_maxLen w n 0 59 (by unfold maxLen;omega)
  obtain ⟨G,hG⟩:∃ G,G = grownCap w n 0 59:=⟨_,rfl⟩
  obtain ⟨cur,hcur⟩:∃ cur,cur = Builtin.zeroCells PZ.cells n ++ Builtin.zeroCells PZ.cells (G - n):=⟨_,rfl⟩
  have hcs:cur.size = G * 2:=by
   rw [hcur,Array.size_append,size_zeroCells,size_zeroCells]
   show n * 2+(G - n) * 2 = G * 2
   rw [← hG] at hGn
   omega
  rw [← hG] at hrz hGn hG63
  rw [← hcur] at hrz
  have hown:(w.drew.alloc (.cells cur 59)).ownsRow w.heap.size 59 2 (.slice (some ⟨w.heap.size,0,none⟩) 0 G) 0 [] :=
   ⟨rfl,.inr ⟨w.heap.size,G,cur,rfl,Nat.le_refl _,heap_alloc_new w.drew _,Nat.zero_le _,hG63,hcs,by simp⟩⟩
  have hS0:=(St.start w).made ((Below.refl _ _).drew.alloc (Nat.le_refl _) (.cells cur 59)) hown
  have hG63':G ≤ 9223372036854775807:=by unfold maxLen at hG63;omega
  have HhG:=qh hG;clear hG
  have Hhcur:=qh hcur;clear hcur
  have Hhcs:=qh hcs;clear hcs
  have Hhown:=qh hown;clear hown
  have HhS0:=qh hS0;clear hS0
  go_enter Tryz.func125, Tryz.ntmps125
  go_wp2_with (at_builtin;refine Lib.wpList_append_run _ rfl _ _ _ _ rfl _ _ rfl rfl _ _ (hrz _) ?_)
  go_ret
  exact ⟨_,G,rfl,HhS0.out⟩
def sumL (ess:List (List (Int × Int))) (k:Nat):Nat:=(ess.take k).flatten.length
theorem sumL_zero (ess:List (List (Int × Int))):sumL ess 0 = 0:=by simp [sumL]
theorem sumL_succ {ess:List (List (Int × Int))} {k:Nat} (h:k < ess.length):sumL ess (k+1) = sumL ess k+(ess.getD k []).length ∧ (ess.take (k+1)).flatten = (ess.take k).flatten ++ ess.getD k []:=by
 have e:ess.take (k+1) = ess.take k ++ [ess.getD k []]:=by
  rw [List.take_succ_eq_append_getElem h]
  simp [h]
 have e2:(ess.take (k+1)).flatten = (ess.take k).flatten ++ ess.getD k []:=by
  rw [e]
  simp
 exact ⟨by unfold sumL;rw [e2,List.length_append],e2⟩
theorem sumL_le {ess:List (List (Int × Int))} (hl:∀ es ∈ ess,es.length ≤ 1000):∀ k,k ≤ ess.length → sumL ess k ≤ 1000 * k
 | 0,_ => by rw [sumL_zero];omega
 | k+1,h => by
  have ih:=sumL_le hl k (by omega)
  have h1:=(sumL_succ (ess:=ess) (k:=k) (by omega)).1
  have h2:=hl (ess.getD k []) (by simp [List.getElem?_eq_getElem (show k < ess.length by omega)])
  omega
theorem concatP_any (ess:List (List (Int × Int))) (vas:List Value) (ao:Option Addr) (b cap:Nat) (w:World) (hao:0 < ess.length → ao = some ⟨b,0,none⟩) (hm:ess.length ≤ 100) (hl:∀ es ∈ ess,es.length ≤ 1000) (hb:0 < ess.length → b < w.heap.size)
  (hc:∀ i,i < ess.length → w.cell? ⟨b,i,none⟩ = some (vas.getD i undef)) (hp:∀ i,i < ess.length → Pairs 0 w (vas.getD i undef) (ess.getD i [])) :
  Calls Tryz.prog 85 #[.slice ao ess.length cap] w fun e w' => ∃ a c,e = .returned (.slice a ess.flatten.length c) ∧ St w w' [Ent.row 59 2 (.slice a ess.flatten.length c) ess.flatten.length (ess.flatten.flatMap pairCells)]:=by
 obtain ⟨j0,hj,hy0,hy1,hy2⟩:=info_parts Tryz.infoPart
 obtain ⟨m,hmm⟩:∃ m,m = ess.length:=⟨_,rfl⟩
 have hsum:=fun k (h:k < ess.length) => sumL_succ h
 have hle:=sumL_le hl
 have hfin:sumL ess m = ess.flatten.length ∧ (ess.take m).flatten = ess.flatten:=by
  rw [hmm]
  unfold sumL
  rw [List.take_length]
  exact ⟨rfl,rfl⟩
 have hl':∀ k,k < m → (ess.getD k []).length ≤ 1000:=fun k hk => hl _ (by simp [List.getElem?_eq_getElem (show k < ess.length by omega)])
 rw [← hmm] at hm hc hp hsum hle hao hb ⊢
 have Hao:=qh hao
 have Hb:=qh hb
 have Hc:=qh hc
 have Hp:=qh hp
 have Hsum:=qh hsum
 have Hle:=qh hle
 have Hfin:=qh hfin
 have Hl:=qh hl'
 have Hhmm:=qh hmm;clear hmm
 clear hc hp hsum hle hfin hl hl' hao hb
 go_enter Tryz.func85, Tryz.ntmps85
 go_wp2
 go_loopw [3,11] (fun n i wr => ∃ k:Nat,i = .int .i64 (k:Int) ∧ n = .int .i64 ((sumL ess k:Nat):Int) ∧ k ≤ m ∧ w = wr) (fun _ i _ => m - (intOf i).toNat)
 case atStart => exact ⟨0,rfl,by rw [sumL_zero];rfl,Nat.zero_le _,rfl⟩
 case round =>
  obtain ⟨k,rfl,rfl,hk,rfl⟩:=hrel
  by_cases hlt:k < m
  ·have hlt2:(k:Int) < m:=by omega
   have hao:=Hao.out (by omega)
   subst hao
   obtain ⟨q1,q2⟩:=Hsum.out k hlt
   have q3:=Hle.out k hk
   have q4:=Hl.out k hlt
   have c0:=Hc.out k hlt
   obtain ⟨ax,cx,hv,hv1,hv2,-⟩:=(Hp.out k hlt).form
   rw [hv] at c0
   obtain ⟨L,hL⟩:∃ L,L = (ess.getD k []).length:=⟨_,rfl⟩
   obtain ⟨s,hs⟩:∃ s,s = sumL ess k:=⟨_,rfl⟩
   rw [← hL] at q1 q4 c0
   rw [← hs] at q1 q3
   rw [← hs]
   have hw:IntKind.i64.wrap ((s:Int)+(L:Int)) = (s:Int)+(L:Int):=IntWalk.i64_in _ (by omega)
   have hng:¬ (s:Int)+(L:Int) < 0:=by omega
   have Hq1:=qh q1;clear q1
   have HhL:=qh hL;clear hL
   have Hhs:=qh hs;clear hs
   clear q2 hv hv1 hv2
   go_wp2
   go_roundw
   case rel => exact ⟨k+1,by go_num,by rw [Hq1.out];congr 1,by omega,trivial⟩
   case measure => simp [intOf];omega
  ·obtain rfl:k = m:=by omega
   obtain ⟨s,hs⟩:∃ s,s = sumL ess k:=⟨_,rfl⟩
   have q3:=Hle.out k hk
   rw [← hs] at q3 ⊢
   have Hhs:=qh hs;clear hs
   clear hlt
   go_wp2_with fail
   refine (growP_any s _ (by omega)).mono ?_
   rintro e w1 ⟨a6,c6,rfl,hS'⟩
   have HS1:=qh hS'
   clear hS'
   go_wp2
   go_loopw [6,27] (fun vo i wr => ∃ (j:Nat) (a:Option Addr) (c:Nat),i = .int .i64 (j:Int) ∧ vo = .slice a (sumL ess j) c ∧ j ≤ k ∧ St w wr [Ent.row 59 2 (.slice a (sumL ess j) c) (sumL ess j) ((ess.take j).flatten.flatMap pairCells)]) (fun _ i _ => k - (intOf i).toNat)
   case atStart => exact ⟨0,a6,c6,rfl,by rw [sumL_zero],by omega,by rw [sumL_zero];exact HS1.out⟩
   case round =>
    obtain ⟨j,a,c,rfl,rfl,hj2,hS⟩:=hrel
    by_cases hlt:j < k
    ·have hlt2:(j:Int) < k:=by omega
     have hao:=Hao.out (by omega)
     subst hao
     have hb:=Hb.out (by omega)
     obtain ⟨q1,q2⟩:=Hsum.out j hlt
     have q3:=Hle.out j (by omega)
     have q4:=Hl.out j hlt
     have m0:=(bcell hS.bel b j hb).trans (Hc.out j hlt)
     have hPr:=(Hp.out j hlt).below hS.bel
     obtain ⟨ax,cx,hv,hv1,hv2,-⟩:=hPr.form
     rw [hv] at m0 hPr
     obtain ⟨E,hE⟩:∃ E,E = ess.getD j []:=⟨_,rfl⟩
     obtain ⟨Z,hZ⟩:∃ Z,Z = (ess.take j).flatten:=⟨_,rfl⟩
     rw [← hE] at q1 q2 q4 m0 hPr hv1
     rw [← hZ] at q2 hS
     obtain ⟨L,hL⟩:∃ L,L = E.length:=⟨_,rfl⟩
     obtain ⟨s2,hs2⟩:∃ s2,s2 = sumL ess j:=⟨_,rfl⟩
     have hPr2:Sl 0 wr (.slice ax L cx) L 2 (E.flatMap pairCells):=by rw [hL];exact hPr
     rw [← hL] at q1 q4 m0
     rw [← hs2] at q1 q3 hS
     rw [← hs2]
     have HS:=qh hS
     have HR:=qh (hS.row 0 rfl)
     have HXw:=qh hPr2
     have Hq1:=qh q1;clear q1
     have Hq2:=qh q2;clear q2
     have HhL:=qh hL;clear hL
     have Hhs2:=qh hs2;clear hs2
     have HhE:=qh hE;clear hE
     have HhZ:=qh hZ;clear hZ
     clear hS hv hv1 hv2 hPr hPr2 hlt
     go_wp2_with (at_builtin;refine wpList_append_sl _ rfl _ _ _ rfl _ 59 j0 PZ 2 16 Tryz.underlying40 hj hy0 hy1 hy2 rfl (by omega) _ s2 _ rfl HR.out _ L (E.flatMap pairCells) rfl HXw.out on_prs (by unfold maxLen;omega) (by omega) HS.out.size ?_;intro a6 c6 w6 hown6 hgrow6 hat6;have HS6:=qh (HS.out.appS 0 rfl hown6 hgrow6 hat6);clear hown6 hgrow6 hat6)
     go_roundw
     case rel => exact ⟨j+1,a6,c6,by go_num,by rw [Hq1.out],by omega,by rw [Hq1.out,Hq2.out,List.flatMap_append];exact HS6.out⟩
     case measure => simp [intOf];omega
    ·obtain rfl:j = k:=by omega
     rw [Hfin.out.1,Hfin.out.2] at hS
     rw [Hfin.out.1]
     have HS:=qh hS
     clear hS hlt
     go_wp2
     go_ret
     exact ⟨a,c,rfl,HS.out⟩
def RPo (es:List (Int × Int)) (w:World) (e:Ending) (w':World):Prop:=∃ a c,e = .returned (.slice a es.length c) ∧ St w w' [Ent.row 59 2 (.slice a es.length c) es.length (es.flatMap pairCells)]
theorem operation_any (k:Int) (ess:List (List (Int × Int))) (vas:List Value) (b cap:Nat) (w:World) (hm:ess.length ≤ 100) (hl:∀ es ∈ ess,es.length ≤ 1000) (hb:b < w.heap.size)
  (hc:∀ i,i < ess.length → w.cell? ⟨b,i,none⟩ = some (vas.getD i undef)) (hp:∀ i,i < ess.length → Pairs 0 w (vas.getD i undef) (ess.getD i [])) :
  Calls Tryz.prog 45 #[.int .i64 k,.slice (some ⟨b,0,none⟩) ess.length cap] w fun e w' => RPo (ess.flatten ++ [(k,0)]) w e w':=by
 obtain ⟨j0,hj,hy0,hy1,hy2⟩:=info_parts Tryz.infoPart
 have hcon:=qh (concatP_any ess vas (some ⟨b,0,none⟩) b cap w (fun _ => rfl) hm hl (fun _ => hb) hc hp)
 have hle:=sumL_le hl ess.length (Nat.le_refl _)
 have hfl:sumL ess ess.length = ess.flatten.length:=by
  unfold sumL
  rw [List.take_length]
 rw [hfl] at hle
 clear hc hp hl hfl
 obtain ⟨m,hmm⟩:∃ m,m = ess.length:=⟨_,rfl⟩
 rw [← hmm] at hcon hm hle ⊢
 obtain ⟨E,hE⟩:∃ E,E = ess.flatten:=⟨_,rfl⟩
 rw [← hE] at hcon hle ⊢
 obtain ⟨L,hL⟩:∃ L,L = E.length:=⟨_,rfl⟩
 rw [← hL] at hcon hle
 have hL2:(E ++ [(k,0)]).length = L+1:=by rw [hL];simp
 unfold RPo
 rw [hL2]
 have Hhmm:=qh hmm;clear hmm
 have HhE:=qh hE;clear hE
 have HhL:=qh hL;clear hL
 have HhL2:=qh hL2;clear hL2
 go_enter Tryz.func45, Tryz.ntmps45
 go_wp2_with (first
  | (go_at_call 85;refine (hcon.out).mono ?_;rintro e w1 ⟨a6,c6,rfl,hS'⟩;have hS2:=hS'.alloc w1.heap.size rfl #[.int .i64 k,.int .i64 0] 59;have hS3:=hS2.boxrow 1 1 2 [.int .i64 k,.int .i64 0] rfl rfl (by unfold maxLen;omega);have HS:=qh hS3;have HR:=qh (hS3.row 0 rfl);have HX:=qh ((own_of_row (hS3.row 1 rfl)).sl (by omega));clear hS' hS2 hS3)
  | (at_builtin;refine wpList_append_sl _ rfl _ _ _ rfl _ 59 j0 PZ 2 16 Tryz.underlying40 hj hy0 hy1 hy2 rfl (by omega) _ L _ rfl HR.out _ 1 [.int .i64 k,.int .i64 0] rfl (HX.out.mono (Nat.zero_le _)) (by intro u hu;simp at hu;rcases hu with rfl | rfl <;> rfl) (by unfold maxLen;omega) (by omega) HS.out.size ?_;intro a6 c6 w6 hown6 hgrow6 hat6;have HS6:=qh (HS.out.appS 0 rfl hown6 hgrow6 hat6);clear hown6 hgrow6 hat6))
 go_ret
 exact ⟨_,_,rfl,by rw [List.flatMap_append];exact HS6.out.pick [0] (by decide)⟩
theorem leaf_any (k:Int) (w:World):Calls Tryz.prog 169 #[.int .i64 k] w fun e w' => RPo [(k,0)] w e w':=by
 have hS:=((St.start w).alloc w.heap.size rfl #[.int .i64 k,.int .i64 0] 59).boxrow 0 1 2 [.int .i64 k,.int .i64 0] rfl rfl (by unfold maxLen;omega)
 have HhS:=qh hS;clear hS
 go_enter Tryz.func169, Tryz.ntmps169
 go_wp2
 go_ret
 exact ⟨_,_,rfl,HhS.out⟩
def bnK (k:Int):Int:=if k = 5 then 1 else if k = 6 then 2 else if k = 4 then 3 else if k = 7 then 4 else if k = 8 then 5 else 6
theorem binding_any (k:Int) (w:World) (r:Int) (hr:bnK k = r):Calls Tryz.prog 113 #[.int .i64 k] w fun e w' => e = .returned (.int .i64 r) ∧ w = w':=by
 unfold bnK at hr
 go_enter Tryz.func113, Tryz.ntmps113
 by_cases h5:k = 5
 ·rw [if_pos h5] at hr
  subst hr
  go_wp2
  go_ret
  exact ⟨rfl,rfl⟩
 rw [if_neg h5] at hr
 by_cases h6:k = 6
 ·rw [if_pos h6] at hr
  subst hr
  go_wp2
  go_ret
  exact ⟨rfl,rfl⟩
 rw [if_neg h6] at hr
 by_cases h4:k = 4
 ·rw [if_pos h4] at hr
  subst hr
  go_wp2
  go_ret
  exact ⟨rfl,rfl⟩
 rw [if_neg h4] at hr
 by_cases h7:k = 7
 ·rw [if_pos h7] at hr
  subst hr
  go_wp2
  go_ret
  exact ⟨rfl,rfl⟩
 rw [if_neg h7] at hr
 by_cases h8:k = 8
 ·rw [if_pos h8] at hr
  subst hr
  go_wp2
  go_ret
  exact ⟨rfl,rfl⟩
 rw [if_neg h8] at hr
 subst hr
 go_wp2
 go_ret
 exact ⟨rfl,rfl⟩
theorem op1_any (k:Int) (xs:List (Int × Int)) (v:Value) (b cap:Nat) (w:World) (hl:xs.length ≤ 1000) (hb:b < w.heap.size) (h0:w.cell? ⟨b,0,none⟩ = some v) (hp:Pairs 0 w v xs) :
  Calls Tryz.prog 45 #[.int .i64 k,.slice (some ⟨b,0,none⟩) 1 cap] w fun e w' => RPo (xs ++ [(k,0)]) w e w':=by
 have h:=operation_any k [xs] [v] b cap w (by simp) (by simpa using hl) hb (fun i hi => by
  obtain rfl:i = 0:=by simpa using hi
  exact h0) (fun i hi => by
  obtain rfl:i = 0:=by simpa using hi
  exact hp)
 simpa using h
theorem op2_any (k:Int) (xs ys:List (Int × Int)) (v u:Value) (b cap:Nat) (w:World) (hl:xs.length ≤ 1000) (hl2:ys.length ≤ 1000) (hb:b < w.heap.size) (h0:w.cell? ⟨b,0,none⟩ = some v) (h1:w.cell? ⟨b,1,none⟩ = some u) (hp:Pairs 0 w v xs) (hq:Pairs 0 w u ys) :
  Calls Tryz.prog 45 #[.int .i64 k,.slice (some ⟨b,0,none⟩) 2 cap] w fun e w' => RPo (xs ++ ys ++ [(k,0)]) w e w':=by
 have h:=operation_any k [xs,ys] [v,u] b cap w (by simp) (by intro es he;simp at he;rcases he with rfl | rfl <;> assumption) hb (fun i hi => by
  obtain rfl | rfl:i = 0 ∨ i = 1:=by simp at hi;omega
  ·exact h0
  ·exact h1) (fun i hi => by
  obtain rfl | rfl:i = 0 ∨ i = 1:=by simp at hi;omega
  ·exact hp
  ·exact hq)
 have e:[xs,ys].flatten ++ [(k,0)] = xs ++ ys ++ [(k,0)]:=by simp
 rw [e] at h
 exact h
end Go.Proofs.YtfgpkadhegdffaaGreat
namespace Go.Proofs.YtfgpkadhegdffaaGreat
def bnd:Ex → Nat
 | .alt _ _ => 1
 | .both _ _ => 2
 | .join _ _ => 3
 | .neg _ => 4
 | .star _ => 5
 | _ => 6
def brk (l:Nat) (a:Ex) (x:List Nat):List Nat:=if bnd a < l then 40 :: (x ++ [41]) else x
def prE:Ex → List Nat
 | .zero => [48]
 | .one => [49]
 | .ltr c => [97+c.val]
 | .join a b => brk 3 a (prE a) ++ brk 4 b (prE b)
 | .alt a b => brk 1 a (prE a) ++ 124 :: brk 2 b (prE b)
 | .both a b => brk 2 a (prE a) ++ 38 :: brk 3 b (prE b)
 | .neg a => 33 :: brk 4 a (prE a)
 | .star a => brk 5 a (prE a) ++ [42]
def prB (l:Nat) (t:Ex):List Nat:=brk l t (prE t)
theorem bnd_pos (t:Ex):1 ≤ bnd t ∧ bnd t ≤ 6:=by cases t <;> simp [bnd]
theorem prB_in {l:Nat} {t:Ex} (h:l ≤ bnd t):prB l t = prE t:=by
 unfold prB brk
 rw [if_neg (by omega)]
theorem prB_out {l:Nat} {t:Ex} (h:bnd t < l):prB l t = 40 :: (prE t ++ [41]):=by
 unfold prB brk
 rw [if_pos h]
theorem prB_one (t:Ex):prB 1 t = prE t:=prB_in (bnd_pos t).1
theorem prB_up {l:Nat} {t:Ex} (h:bnd t ≠ l):prB l t = prB (l+1) t:=by
 by_cases hl:bnd t < l
 ·rw [prB_out hl,prB_out (by omega)]
 ·rw [prB_in (by omega),prB_in (by omega)]
def isSt (c:Nat):Prop:=c = 48 ∨ c = 49 ∨ c = 97 ∨ c = 98 ∨ c = 99 ∨ c = 40 ∨ c = 33
theorem brk_st {l:Nat} {a:Ex} {x:List Nat} (h:∃ c r,x = c :: r ∧ isSt c):∃ c r,brk l a x = c :: r ∧ isSt c:=by
 unfold brk
 split
 ·exact ⟨40,_,rfl,by simp [isSt]⟩
 ·exact h
theorem prE_st:∀ t:Ex,∃ c r,prE t = c :: r ∧ isSt c:=by
 intro t
 induction t with
 | zero => exact ⟨48,[],rfl,by simp [isSt]⟩
 | one => exact ⟨49,[],rfl,by simp [isSt]⟩
 | ltr c =>
  refine ⟨97+c.val,[],rfl,?_⟩
  have:c.val < 3:=c.isLt
  unfold isSt
  omega
 | neg a => exact ⟨33,_,rfl,by simp [isSt]⟩
 | join a b ha hb =>
  obtain ⟨c,r,h,hc⟩:=brk_st (l:=3) (a:=a) ha
  exact ⟨c,r ++ brk 4 b (prE b),by simp [prE,h],hc⟩
 | alt a b ha hb =>
  obtain ⟨c,r,h,hc⟩:=brk_st (l:=1) (a:=a) ha
  exact ⟨c,r ++ 124 :: brk 2 b (prE b),by simp [prE,h],hc⟩
 | both a b ha hb =>
  obtain ⟨c,r,h,hc⟩:=brk_st (l:=2) (a:=a) ha
  exact ⟨c,r ++ 38 :: brk 3 b (prE b),by simp [prE,h],hc⟩
 | star a ha =>
  obtain ⟨c,r,h,hc⟩:=brk_st (l:=5) (a:=a) ha
  exact ⟨c,r ++ [42],by simp [prE,h],hc⟩
theorem prB_st (l:Nat) (t:Ex):∃ c r,prB l t = c :: r ∧ isSt c:=brk_st (prE_st t)
def isTb (c:Nat):Prop:=isSt c ∨ c = 41 ∨ c = 42 ∨ c = 38 ∨ c = 124
theorem brk_tb {l:Nat} {a:Ex} {x:List Nat} (h:∀ c ∈ x,isTb c):∀ c ∈ brk l a x,isTb c:=by
 unfold brk
 split
 ·intro c hc
  rcases List.mem_cons.1 hc with rfl | hc
  ·simp [isTb,isSt]
  ·rcases List.mem_append.1 hc with hc | hc
   ·exact h c hc
   ·rw [List.mem_singleton.1 hc];simp [isTb]
 ·exact h
theorem prE_tb:∀ t:Ex,∀ c ∈ prE t,isTb c:=by
 intro t
 induction t with
 | zero => intro c hc;rw [List.mem_singleton.1 hc];simp [isTb,isSt]
 | one => intro c hc;rw [List.mem_singleton.1 hc];simp [isTb,isSt]
 | ltr k =>
  intro c hc
  have:k.val < 3:=k.isLt
  rw [List.mem_singleton.1 hc]
  unfold isTb isSt
  omega
 | neg a ha =>
  intro c hc
  rcases List.mem_cons.1 hc with rfl | hc
  ·simp [isTb,isSt]
  ·exact brk_tb ha c hc
 | star a ha =>
  intro c hc
  rcases List.mem_append.1 hc with hc | hc
  ·exact brk_tb ha c hc
  ·rw [List.mem_singleton.1 hc];simp [isTb]
 | join a b ha hb =>
  intro c hc
  rcases List.mem_append.1 hc with hc | hc
  ·exact brk_tb ha c hc
  ·exact brk_tb hb c hc
 | alt a b ha hb =>
  intro c hc
  rcases List.mem_append.1 hc with hc | hc
  ·exact brk_tb ha c hc
  ·rcases List.mem_cons.1 hc with rfl | hc
   ·simp [isTb]
   ·exact brk_tb hb c hc
 | both a b ha hb =>
  intro c hc
  rcases List.mem_append.1 hc with hc | hc
  ·exact brk_tb ha c hc
  ·rcases List.mem_cons.1 hc with rfl | hc
   ·simp [isTb]
   ·exact brk_tb hb c hc
theorem isTb_lt {c:Nat} (h:isTb c):c < 256:=by
 unfold isTb isSt at h
 omega
theorem brk_len (l:Nat) (a:Ex) (x:List Nat):(brk l a x).length ≤ x.length+2:=by
 unfold brk
 split
 ·simp
 ·omega
theorem prE_len:∀ t:Ex,(prE t).length+1 ≤ 4 * t.post.length:=by
 intro t
 induction t with
 | zero => simp [prE,Ex.post]
 | one => simp [prE,Ex.post]
 | ltr c => simp [prE,Ex.post]
 | neg a ha => have:=brk_len 4 a (prE a);simp [prE,Ex.post];omega
 | star a ha => have:=brk_len 5 a (prE a);simp [prE,Ex.post];omega
 | join a b ha hb => have:=brk_len 3 a (prE a);have:=brk_len 4 b (prE b);simp [prE,Ex.post];omega
 | alt a b ha hb => have:=brk_len 1 a (prE a);have:=brk_len 2 b (prE b);simp [prE,Ex.post];omega
 | both a b ha hb => have:=brk_len 2 a (prE a);have:=brk_len 3 b (prE b);simp [prE,Ex.post];omega
/-! The reader. -/
abbrev PS:Type:=List (Int × Int) × List Nat × Bool
def atomP (c:Nat):Option (Int × Int):=if c = 48 then some (1,0) else if c = 49 then some (2,0) else if 97 ≤ c ∧ c ≤ 99 then some (3,(c:Int) - 97) else none
def starsP:List (Int × Int) → List Nat → List (Int × Int) × List Nat
 | e,[] => (e,[])
 | e,c :: r => if c = 42 then starsP (e ++ [(8,0)]) r else (e,c :: r)
def opK (l:Nat):Int:=if l = 1 then 5 else if l = 2 then 6 else 4
def contP (jx:Nat → Bool) (l:Nat):List Nat → Option (List Nat)
 | [] => none
 | c :: r => if l = 1 ∧ c = 124 ∨ l = 2 ∧ c = 38 then some r else if l = 3 ∧ jx c = true then some (c :: r) else none
def loopP (rd:List Nat → PS) (jx:Nat → Bool) (l:Nat):Nat → List (Int × Int) → List Nat → Bool → PS
 | 0,e,r,_ => (e,r,true)
 | n+1,e,r,f => if f = true then (e,r,true) else match contP jx l r with
  | none => (e,r,false)
  | some r1 => loopP rd jx l n (e ++ (rd r1).1 ++ [(opK l,0)]) (rd r1).2.1 (rd r1).2.2
def brkP (x:PS):PS:=match x with
 | (e,c :: r,false) => if c = 41 then (e,r,false) else ([],c :: r,true)
 | (_,r,_) => ([],r,true)
def starP (x:PS):PS:=if x.2.2 = true then (x.1,x.2.1,true) else ((starsP x.1 x.2.1).1,(starsP x.1 x.2.1).2,false)
def rdP (jx:Nat → Bool):Nat → Nat → List Nat → PS
 | 0,_,r => ([],r,true)
 | n+1,l,r =>
  if l = 6 then match r with
   | [] => ([],[],true)
   | c :: r1 => match atomP c with
    | some p => ([p],r1,false)
    | none => if c = 40 then brkP (rdP jx n 1 r1) else ([],r1,true)
  else if l = 5 then starP (rdP jx n 6 r)
  else if l = 4 then match r with
   | [] => rdP jx n 5 []
   | c :: r1 => if c = 33 then ((rdP jx n 4 r1).1 ++ [(7,0)],(rdP jx n 4 r1).2) else rdP jx n 5 (c :: r1)
  else loopP (rdP jx n (l+1)) jx l n (rdP jx n (l+1) r).1 (rdP jx n (l+1) r).2.1 (rdP jx n (l+1) r).2.2
def stopz (l:Nat) (z:List Nat):Prop:=∀ c r,z = c :: r → (l ≤ 5 → c ≠ 42) ∧ (l ≤ 3 → c = 124 ∨ c = 38 ∨ c = 41) ∧ (l ≤ 2 → c ≠ 38) ∧ (l ≤ 1 → c ≠ 124)
theorem stopz_nil (l:Nat):stopz l []:=fun _ _ h => by cases h
theorem stopz_up {l m:Nat} {z:List Nat} (h:stopz l z) (hm:l ≤ m):stopz m z:=fun c r e => by
 obtain ⟨h1,h2,h3,h4⟩:=h c r e
 exact ⟨fun x => h1 (by omega),fun x => h2 (by omega),fun x => h3 (by omega),fun x => h4 (by omega)⟩
theorem stopz_close (l:Nat) (z:List Nat):stopz l (41 :: z):=fun c r e => by
 cases e
 exact ⟨fun _ => by omega,fun _ => by omega,fun _ => by omega,fun _ => by omega⟩
def fuP (l:Nat) (r:List Nat):Nat:=8 * r.length+8 - l
theorem starsP_all:∀ (k:Nat) (e:List (Int × Int)) (z:List Nat),stopz 5 z → starsP e (List.replicate k 42 ++ z) = (e ++ List.replicate k (8,0),z)
 | 0,e,[],_ => by simp [starsP]
 | 0,e,c :: z,h => by
  have:=(h c z rfl).1 (by omega)
  simp [starsP,this]
 | k+1,e,z,h => by
  have ih:=starsP_all k (e ++ [(8,0)]) z h
  show starsP e (42 :: (List.replicate k 42 ++ z)) = _
  unfold starsP
  rw [if_pos rfl,ih,List.append_assoc]
  rfl
def starN1 (t:Ex):Nat → Ex
 | 0 => t
 | k+1 => .star (starN1 t k)
theorem star_spine:∀ t:Ex,∃ t0 k,t = starN1 t0 k ∧ bnd t0 ≠ 5:=by
 intro t
 induction t with
 | star a ha =>
  obtain ⟨t0,k,h,h0⟩:=ha
  exact ⟨t0,k+1,by rw [h];rfl,h0⟩
 | _ => exact ⟨_,0,rfl,by simp [bnd]⟩
theorem star_prB (t0:Ex) (h:bnd t0 ≠ 5):∀ k,prB 5 (starN1 t0 k) = prB 6 t0 ++ List.replicate k 42
 | 0 => by simp [starN1,prB_up h]
 | k+1 => by
  have ih:=star_prB t0 h k
  show prB 5 (.star (starN1 t0 k)) = _
  rw [prB_in (Nat.le_refl 5)]
  show prB 5 (starN1 t0 k) ++ [42] = _
  rw [ih,List.append_assoc,← List.replicate_succ']
theorem star_post (t0:Ex):∀ k,(starN1 t0 k).post = t0.post ++ List.replicate k (8,0)
 | 0 => by simp [starN1]
 | k+1 => by
  have ih:=star_post t0 k
  show (starN1 t0 k).post ++ [(8,0)] = _
  rw [ih,List.append_assoc,← List.replicate_succ']
def sepP (l:Nat):List Nat:=if l = 1 then [124] else if l = 2 then [38] else []
def tailT (l:Nat) (bs:List Ex):List Nat:=bs.flatMap fun b => sepP l ++ prB (l+1) b
def foldQ (l:Nat):List (Int × Int) → List Ex → List (Int × Int)
 | e,[] => e
 | e,b :: bs => foldQ l (e ++ b.post ++ [(opK l,0)]) bs
theorem foldQ_snoc (l:Nat) (b:Ex):∀ (bs:List Ex) (e:List (Int × Int)),foldQ l e (bs ++ [b]) = foldQ l e bs ++ b.post ++ [(opK l,0)]
 | [],_ => rfl
 | _ :: bs,_ => foldQ_snoc l b bs _
theorem spine (l:Nat) (h1:1 ≤ l) (h3:l ≤ 3):∀ t:Ex,∃ t0 bs,prB l t = prB (l+1) t0 ++ tailT l bs ∧ t.post = foldQ l t0.post bs:=by
 have base:∀ t:Ex,bnd t ≠ l → ∃ t0 bs,prB l t = prB (l+1) t0 ++ tailT l bs ∧ t.post = foldQ l t0.post bs:=fun t h => ⟨t,[],by simp [tailT,prB_up h],rfl⟩
 have step:∀ (t a b:Ex),prB l t = prB l a ++ (sepP l ++ prB (l+1) b) → t.post = a.post ++ b.post ++ [(opK l,0)] → (∃ t0 bs,prB l a = prB (l+1) t0 ++ tailT l bs ∧ a.post = foldQ l t0.post bs) → ∃ t0 bs,prB l t = prB (l+1) t0 ++ tailT l bs ∧ t.post = foldQ l t0.post bs:=fun t a b e1 e2 ⟨t0,bs,q1,q2⟩ => by
  refine ⟨t0,bs ++ [b],?_,?_⟩
  ·rw [e1,q1]
   simp [tailT,List.flatMap_append]
  ·rw [e2,q2,foldQ_snoc]
 intro t
 induction t with
 | join a b ha hb =>
  by_cases h:l = 3
  ·subst h
   exact step _ a b (by rw [prB_in (Nat.le_refl 3)];rfl) rfl ha
  ·exact base _ (by show 3 ≠ l;omega)
 | alt a b ha hb =>
  by_cases h:l = 1
  ·subst h
   exact step _ a b (by rw [prB_in (Nat.le_refl 1)];rfl) rfl ha
  ·exact base _ (by show 1 ≠ l;omega)
 | both a b ha hb =>
  by_cases h:l = 2
  ·subst h
   exact step _ a b (by rw [prB_in (Nat.le_refl 2)];rfl) rfl ha
  ·exact base _ (by show 2 ≠ l;omega)
 | zero => exact base _ (by show 6 ≠ l;omega)
 | one => exact base _ (by show 6 ≠ l;omega)
 | ltr => exact base _ (by show 6 ≠ l;omega)
 | neg => exact base _ (by show 4 ≠ l;omega)
 | star => exact base _ (by show 5 ≠ l;omega)
theorem isSt_ne {c:Nat} (h:isSt c):c ≠ 42 ∧ c ≠ 124 ∧ c ≠ 38 ∧ c ≠ 41:=by
 unfold isSt at h
 omega
theorem stop_tail {l:Nat} (h1:1 ≤ l) (h3:l ≤ 3) (bs:List Ex) {z:List Nat} (h:stopz l z):stopz (l+1) (tailT l bs ++ z):=by
 cases bs with
 | nil => exact stopz_up h (by omega)
 | cons b bs =>
  intro c r e
  obtain ⟨c0,r0,hb,hc0⟩:=prB_st (l+1) b
  obtain rfl | rfl | rfl:l = 1 ∨ l = 2 ∨ l = 3:=by omega
  ·simp [tailT,sepP] at e
   obtain ⟨rfl,-⟩:=e
   exact ⟨fun _ => by omega,fun _ => by omega,fun _ => by omega,fun _ => by omega⟩
  ·simp [tailT,sepP] at e
   obtain ⟨rfl,-⟩:=e
   exact ⟨fun _ => by omega,fun _ => by omega,fun _ => by omega,fun _ => by omega⟩
  ·simp [tailT,sepP,hb] at e
   obtain ⟨rfl,-⟩:=e
   exact ⟨fun _ => (isSt_ne hc0).1,fun _ => by omega,fun _ => by omega,fun _ => by omega⟩
theorem loop_all {rd:List Nat → PS} {jx:Nat → Bool} (hj1:∀ c,isSt c → jx c = true) (hj2:∀ c,c = 124 ∨ c = 38 ∨ c = 41 → jx c = false) {l:Nat} (h1:1 ≤ l) (h3:l ≤ 3) {M:Nat} {z:List Nat} (hz:stopz l z)
  (hrd:∀ (b:Ex) (z':List Nat),stopz (l+1) z' → (prB (l+1) b ++ z').length ≤ M → rd (prB (l+1) b ++ z') = (b.post,z',false)):∀ (bs:List Ex) (e:List (Int × Int)) (k:Nat),(tailT l bs ++ z).length ≤ M → (tailT l bs ++ z).length+1 ≤ k → loopP rd jx l k e (tailT l bs ++ z) false = (foldQ l e bs,z,false)
 | _,_,0,_,hk => absurd hk (by omega)
 | [],e,k+1,_,_ => by
  show loopP rd jx l (k+1) e z false = _
  have hc:contP jx l z = none:=by
   cases z with
   | nil => rfl
   | cons c r =>
    obtain ⟨q1,q2,q3,q4⟩:=hz c r rfl
    have n1:¬ (l = 1 ∧ c = 124 ∨ l = 2 ∧ c = 38):=by
     rintro (⟨rfl,rfl⟩ | ⟨rfl,rfl⟩)
     ·exact q4 (by omega) rfl
     ·exact q3 (by omega) rfl
    show (if l = 1 ∧ c = 124 ∨ l = 2 ∧ c = 38 then some r else if l = 3 ∧ jx c = true then some (c :: r) else none) = none
    rw [if_neg n1,if_neg]
    rintro ⟨rfl,h⟩
    rw [hj2 c (q2 (by omega))] at h
    cases h
  unfold loopP
  rw [if_neg (by simp),hc]
  rfl
 | b :: bs,e,k+1,hM,hk => by
  have hst:=stop_tail h1 h3 bs hz
  have hlen:(tailT l (b :: bs) ++ z).length = (sepP l).length+(prB (l+1) b ++ (tailT l bs ++ z)).length:=by
   simp [tailT]
  obtain ⟨c0,r0,hb,hc0⟩:=prB_st (l+1) b
  have hpos:(prB (l+1) b ++ (tailT l bs ++ z)).length = 1+r0.length+(tailT l bs ++ z).length:=by
   rw [hb]
   simp
   omega
  have hc:contP jx l (tailT l (b :: bs) ++ z) = some (prB (l+1) b ++ (tailT l bs ++ z)):=by
   have e1:tailT l (b :: bs) ++ z = sepP l ++ (prB (l+1) b ++ (tailT l bs ++ z)):=by simp [tailT]
   rw [e1]
   obtain rfl | rfl | rfl:l = 1 ∨ l = 2 ∨ l = 3:=by omega
   ·rfl
   ·rfl
   ·rw [hb]
    show contP jx 3 (c0 :: (r0 ++ (tailT 3 bs ++ z))) = _
    show (if 3 = 1 ∧ c0 = 124 ∨ 3 = 2 ∧ c0 = 38 then some (r0 ++ (tailT 3 bs ++ z)) else if 3 = 3 ∧ jx c0 = true then some (c0 :: (r0 ++ (tailT 3 bs ++ z))) else none) = _
    rw [if_neg (by omega),if_pos ⟨rfl,hj1 c0 hc0⟩]
    rfl
  unfold loopP
  rw [if_neg (by simp),hc]
  have hr:=hrd b (tailT l bs ++ z) hst (by omega)
  simp only [hr]
  exact loop_all hj1 hj2 h1 h3 hz hrd bs _ k (by omega) (by omega)
theorem rd_all {jx:Nat → Bool} (hj1:∀ c,isSt c → jx c = true) (hj2:∀ c,c = 124 ∨ c = 38 ∨ c = 41 → jx c = false):∀ (n l:Nat) (t:Ex) (z:List Nat),1 ≤ l → l ≤ 6 → fuP l (prB l t ++ z) ≤ n → stopz l z → rdP jx n l (prB l t ++ z) = (t.post,z,false)
 | 0,l,t,z,_,h6,hn,_ => by
  unfold fuP at hn
  omega
 | n+1,l,t,z,h1,h6,hn,hz => by
  obtain ⟨c0,r0,hb,hc0⟩:=prB_st l t
  have ih:=rd_all hj1 hj2 n
  obtain rfl | rfl | rfl | hl:l = 6 ∨ l = 5 ∨ l = 4 ∨ l ≤ 3:=by omega
  ·have inner:bnd t < 6 → rdP jx (n+1) 6 (prB 6 t ++ z) = (t.post,z,false):=fun h => by
    rw [prB_out h] at hn ⊢
    have h2:=ih 1 t (41 :: z) (by omega) (by omega) (by
     unfold fuP at hn ⊢
     rw [prB_one]
     simp at hn ⊢
     omega) (stopz_close 1 z)
    rw [prB_one] at h2
    show rdP jx (n+1) 6 (40 :: (prE t ++ [41] ++ z)) = _
    unfold rdP
    rw [if_pos rfl]
    simp only [List.append_assoc,List.cons_append,List.nil_append]
    rw [h2]
    rfl
   cases t with
   | zero => rfl
   | one => rfl
   | ltr c =>
    obtain ⟨c,hc⟩:=c
    obtain rfl | rfl | rfl:c = 0 ∨ c = 1 ∨ c = 2:=by omega
    all_goals rfl
   | join a b => exact inner (by simp [bnd])
   | alt a b => exact inner (by simp [bnd])
   | both a b => exact inner (by simp [bnd])
   | neg a => exact inner (by simp [bnd])
   | star a => exact inner (by simp [bnd])
  ·obtain ⟨t0,k,ht,h0⟩:=star_spine t
   have hp:=star_prB t0 h0 k
   rw [← ht] at hp
   have hq:prB 5 t ++ z = prB 6 t0 ++ (List.replicate k 42 ++ z):=by rw [hp,List.append_assoc]
   have h2:=ih 6 t0 (List.replicate k 42 ++ z) (by omega) (by omega) (by
    rw [← hq]
    unfold fuP at hn ⊢
    omega) (fun c r _ => ⟨fun h => by omega,fun h => by omega,fun h => by omega,fun h => by omega⟩)
   rw [hq]
   unfold rdP
   rw [if_neg (by omega),if_pos rfl,h2]
   show ((starsP t0.post (List.replicate k 42 ++ z)).1,(starsP t0.post (List.replicate k 42 ++ z)).2,false) = _
   rw [starsP_all k t0.post z hz,ht,star_post]
  ·by_cases h4:bnd t = 4
   ·cases t with
    | neg a =>
     have e1:prB 4 (.neg a) ++ z = 33 :: (prB 4 a ++ z):=by
      rw [prB_in (Nat.le_refl 4)]
      rfl
     rw [e1] at hn ⊢
     have h2:=ih 4 a z (by omega) (by omega) (by
      unfold fuP at hn ⊢
      simp at hn ⊢
      omega) hz
     unfold rdP
     rw [if_neg (by omega),if_neg (by omega),if_pos rfl]
     simp only [↓reduceIte,h2]
     rfl
    | _ => simp [bnd] at h4
   ·have e1:prB 4 t = prB 5 t:=prB_up h4
    have hne:c0 ≠ 33:=fun e => by
     subst e
     by_cases hlt:bnd t < 4
     ·rw [prB_out hlt] at hb
      cases hb
     ·rw [prB_in (by omega)] at hb
      cases t with
      | zero => cases hb
      | one => cases hb
      | ltr c =>
       simp [prE] at hb
       omega
      | neg a => exact h4 rfl
      | join a b => simp [bnd] at hlt
      | alt a b => simp [bnd] at hlt
      | both a b => simp [bnd] at hlt
      | star a =>
       obtain ⟨t0,k,ht,h0⟩:=star_spine (.star a)
       have hp:=star_prB t0 h0 k
       rw [← ht,prB_in (Nat.le_refl 5),hb] at hp
       have h5:bnd t0 ≠ 4 ∨ prB 6 t0 = 40 :: (prE t0 ++ [41]):=by
        by_cases h:bnd t0 = 4
        ·exact .inr (prB_out (by omega))
        ·exact .inl h
       rcases h5 with h5 | h5
       ·by_cases h6':bnd t0 < 6
        ·rw [prB_out h6'] at hp
         cases hp
        ·rw [prB_in (by omega)] at hp
         cases t0 with
         | zero => cases hp
         | one => cases hp
         | ltr c =>
          simp [prE] at hp
          omega
         | _ => simp [bnd] at h6'
       ·rw [h5] at hp
        cases hp
    have h2:=ih 5 t z (by omega) (by omega) (by
     unfold fuP at hn ⊢
     rw [e1] at hn
     omega) (stopz_up hz (by omega))
    rw [← e1] at h2
    rw [hb] at h2 ⊢
    show rdP jx (n+1) 4 (c0 :: (r0 ++ z)) = _
    unfold rdP
    rw [if_neg (by omega),if_neg (by omega),if_pos rfl]
    simp only [hne,↓reduceIte]
    exact h2
  ·obtain ⟨t0,bs,q1,q2⟩:=spine l h1 hl t
   have hq:prB l t ++ z = prB (l+1) t0 ++ (tailT l bs ++ z):=by rw [q1,List.append_assoc]
   have hst:=stop_tail h1 hl bs hz
   have h2:=ih (l+1) t0 (tailT l bs ++ z) (by omega) (by omega) (by
    rw [← hq]
    unfold fuP at hn ⊢
    omega) hst
   rw [hq] at hn ⊢
   unfold rdP
   rw [if_neg (by omega),if_neg (by omega),if_neg (by omega),h2]
   obtain ⟨c1,r1,hb1,-⟩:=prB_st (l+1) t0
   have hlt:(tailT l bs ++ z).length+1 ≤ (prB (l+1) t0 ++ (tailT l bs ++ z)).length:=by
    rw [hb1]
    simp
   rw [q2]
   refine loop_all hj1 hj2 h1 hl (M:=(prB (l+1) t0 ++ (tailT l bs ++ z)).length) hz (fun b z' hz' hM => ih (l+1) b z' (by omega) (by omega) ?_ hz') bs t0.post n (by omega) ?_
   ·unfold fuP at hn ⊢
    omega
   ·unfold fuP at hn
    omega
theorem starsP_le:∀ (r:List Nat) (e:List (Int × Int)),(starsP e r).2.length ≤ r.length
 | [],_ => Nat.le_refl _
 | c :: r,e => by
  unfold starsP
  split
  ·have:=starsP_le r (e ++ [(8,0)])
   simp
   omega
  ·exact Nat.le_refl _
end Go.Proofs.YtfgpkadhegdffaaGreat
