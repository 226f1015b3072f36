/-
  The keys of the program's maps.
  Condition: the numbers in a key fit an int.
  Keys that are arrays of two integers.
  Condition: the numbers fit their kind.
  Keys that are sets of states: arrays of two numbers of 64 bits.
  Condition: the numbers fit their kind.
-/
import Derived.Test.YtfgpkadhegdffaaGreatPk01Mk
set_option maxHeartbeats 1600000
set_option maxRecDepth 100000
namespace Go.Proofs.YtfgpkadhegdffaaGreat
open Go.RowKit Go.Maps
def fitI (x:Int):Prop:=-9223372036854775808 ≤ x ∧ x ≤ 9223372036854775807
theorem fit_wf {x:Int} (h:fitI x):(Lit.int .i64 x).wf = true:=WalkArith.wf_i64 h
theorem Tryz.laidOut:laidOutB Tryz.prog = true:=by kernel_rfl
theorem five_small:5+1 ≤ 10000:=by omega
def pairEnc (p:Int × Int):Value:=.agg #[.int .i64 p.1,.int .i64 p.2]
theorem pairEnc_inj:∀ x y:Int × Int,pairEnc x = pairEnc y → x = y:=by
 rintro ⟨a,b⟩ ⟨c,d⟩ h
 simp only [pairEnc,Value.agg.injEq] at h
 have h1:=congrArg (fun (l:Array Value) => l[0]?) h
 have h2:=congrArg (fun (l:Array Value) => l[1]?) h
 simp at h1 h2
 rw [h1,h2]
theorem keyLits_int {P:Program} {t:TypeId} {D:Nat} {x:Int} (ht:P.underlying t = some (.int .i64)) (hx:fitI x):P.keyLits (D+1) t [.int .i64 x] = some [.int .i64 x]:=by
 unfold Program.keyLits
 rw [ht]
 simp [fit_wf hx]
end Go.Proofs.YtfgpkadhegdffaaGreat
namespace Go.Proofs.YtfgpkadhegdffaaGreat
open Go.RowKit Go.Maps
theorem keyLits_one {P:Program} {t:TypeId} {D:Nat} {q:IntKind} {x:Int} (ht:P.underlying t = some (.int q)) (hx:(Lit.int q x).wf = true):P.keyLits (D+1) t [.int q x] = some [.int q x]:=by
 unfold Program.keyLits
 rw [ht]
 simp [hx]
theorem keyOf_two {P:Program} {t e:TypeId} {q:IntKind} (hu:P.underlying t = some (.array 2 e)) (he:P.underlying e = some (.int q)) (hk:P.keyType t = true) (hc:P.cellsOf t = 2) (hce:P.cellsOf e = 1) (hrow:t < P.types.size)
  (x y:Int) (hx:(Lit.int q x).wf = true) (hy:(Lit.int q y).wf = true):∃ l,keyOf P t (.agg #[.int q x,.int q y]) = some l:=by
 have hfm:(Value.agg #[.int q x,.int q y]).formed P t = true:=by simp [Value.formed,hu,hc]
 obtain ⟨n,hn⟩:∃ n,P.types.size = n+1:=⟨P.types.size - 1,(Nat.succ_pred_eq_of_pos (Nat.lt_of_le_of_lt (Nat.zero_le _) hrow)).symm⟩
 have e1:=keyLits_one (D:=n) he hx
 have e2:=keyLits_one (D:=n) he hy
 have hlits:P.keyLits (P.types.size+1) t (Value.agg #[.int q x,.int q y]).cells.toList = some [.int q x,.int q y]:=by
  rw [hn]
  show P.keyLits (n+1+1) t [.int q x,.int q y] = _
  unfold Program.keyLits
  rw [hu]
  simp [hc,hce,List.range_succ,e1,e2]
 exact ⟨_,by
  unfold keyOf
  rw [hu]
  simp only [hk,hfm,Bool.and_self,if_true,hlits]
  rfl⟩
theorem arr_inj {q:IntKind}:∀ x y:Int × Int,(Value.agg #[.int q x.1,.int q x.2]) = .agg #[.int q y.1,.int q y.2] → x = y:=by
 rintro ⟨a,b⟩ ⟨c,d⟩ h
 simp only [Value.agg.injEq] at h
 have h1:=congrArg (fun (l:Array Value) => l[0]?) h
 have h2:=congrArg (fun (l:Array Value) => l[1]?) h
 simp at h1 h2
 rw [h1,h2]
theorem Tryz.rowPr:(175:TypeId) < Tryz.prog.types.size:=of_decide_eq_true (by kernel_rfl)
theorem Tryz.widePr:(match Tryz.prog.underlying 175 with | some (.array _ _) | some (.struct _) => true | _ => false) = true:=by kernel_rfl
theorem Tryz.keyPr:Tryz.prog.keyType 175 = true:=by kernel_rfl
theorem Tryz.keyAtPr:Tryz.prog.keyTypeAt 5 175 = true:=by kernel_rfl
theorem Tryz.cellsPr:Tryz.prog.cellsOf 175 = 2:=by kernel_rfl
theorem Tryz.cellsInt:Tryz.prog.cellsOf 3 = 1:=by kernel_rfl
theorem Tryz.kindPr:Tryz.prog.underlying 175 = some (.array 2 3):=by kernel_rfl
theorem Tryz.lawPr:Keyed Tryz.prog 175:=Keyed.of_law (deep_law_laid Tryz.laidOut five_small Tryz.rowPr Tryz.keyAtPr Tryz.widePr)
theorem Tryz.keyOfPr (p:Int × Int) (h1:fitI p.1) (h2:fitI p.2):∃ l,keyOf Tryz.prog 175 (pairEnc p) = some l :=
 keyOf_two Tryz.kindPr Tryz.underlying3 Tryz.keyPr Tryz.cellsPr Tryz.cellsInt Tryz.rowPr _ _ (fit_wf h1) (fit_wf h2)
end Go.Proofs.YtfgpkadhegdffaaGreat
namespace Go.Proofs.YtfgpkadhegdffaaGreat
open Go.RowKit Go.Maps
def fitU (x:Int):Prop:=0 ≤ x ∧ x ≤ 18446744073709551615
theorem fitU_wf {x:Int} (h:fitU x):(Lit.int .u64 x).wf = true:=WalkArith.wf_u64 h
def setEnc (p:Int × Int):Value:=.agg #[.int .u64 p.1,.int .u64 p.2]
theorem setEnc_inj:∀ x y:Int × Int,setEnc x = setEnc y → x = y:=arr_inj
def setCells (p:Int × Int):List Value:=[.int .u64 p.1,.int .u64 p.2]
def OSets (e lo hi:Nat) (w:World) (v:Value) (xs:List (Int × Int)):Prop:=Own lo hi w e 2 v xs.length (xs.flatMap setCells)
theorem Tryz.rowSet:(166:TypeId) < Tryz.prog.types.size:=of_decide_eq_true (by kernel_rfl)
theorem Tryz.wideSet:(match Tryz.prog.underlying 166 with | some (.array _ _) | some (.struct _) => true | _ => false) = true:=by kernel_rfl
theorem Tryz.keySet:Tryz.prog.keyType 166 = true:=by kernel_rfl
theorem Tryz.keyAtSet:Tryz.prog.keyTypeAt 5 166 = true:=by kernel_rfl
theorem Tryz.cellsSet:Tryz.prog.cellsOf 166 = 2:=by kernel_rfl
theorem Tryz.cellsU64:Tryz.prog.cellsOf 164 = 1:=by kernel_rfl
theorem Tryz.kindSet:Tryz.prog.underlying 166 = some (.array 2 164):=by kernel_rfl
theorem Tryz.lawSet:Keyed Tryz.prog 166:=Keyed.of_law (deep_law_laid Tryz.laidOut five_small Tryz.rowSet Tryz.keyAtSet Tryz.wideSet)
theorem Tryz.keyOfSet (p:Int × Int) (h1:fitU p.1) (h2:fitU p.2):∃ l,keyOf Tryz.prog 166 (setEnc p) = some l :=
 keyOf_two Tryz.kindSet Tryz.underlying164 Tryz.keySet Tryz.cellsSet Tryz.cellsU64 Tryz.rowSet _ _ (fitU_wf h1) (fitU_wf h2)
end Go.Proofs.YtfgpkadhegdffaaGreat
namespace Go.Proofs.YtfgpkadhegdffaaGreat
open Go.RowKit
def inB (x lo hi:Int):Bool:=decide (lo ≤ x) && decide (x ≤ hi)
theorem l1In_any (x lo hi:Int) (w:World) (r:Bool) (hr:inB x lo hi = r) :
  Calls Tryz.prog 44 #[.int .i64 x,.int .i64 lo,.int .i64 hi] w fun e w' => e = .returned (.bool r) ∧ w = w':=by
 subst hr
 unfold inB
 go_enter Tryz.func44,Tryz.ntmps44
 go_wp2
 all_goals (go_ret;exact ⟨by simp [*] <;> omega,rfl⟩)
theorem within_any (x lo hi:Int) (w:World) (r:Bool) (hr:inB x lo hi = r) :
  Calls Tryz.prog 62 #[.int .i64 x,.int .i64 lo,.int .i64 hi] w fun e w' => e = .returned (.bool r) ∧ w = w':=by
 subst hr
 unfold inB
 go_enter Tryz.func62,Tryz.ntmps62
 go_wp2
 all_goals (go_ret;exact ⟨by simp [*] <;> omega,rfl⟩)
def rowOk (n:Int) (row:List Int):Bool:=decide (row.length = 3) && row.all fun t => inB t 0 (n - 1)
def dfaOk (next:List (List Int)) (ends:List Bool):Bool :=
 next.all (rowOk next.length) && inB next.length 1 40 && decide (ends.length = next.length)
theorem dfaOk_bad {next:List (List Int)} {ends:List Bool} {k:Nat} (hk:k < next.length) (h:rowOk next.length (next.getD k []) = false):dfaOk next ends = false:=by
 unfold dfaOk
 have:next.all (rowOk next.length) = false:=by
  rw [List.all_eq_false]
  refine ⟨next[k],List.getElem_mem hk,?_⟩
  simpa [hk] using h
 simp [this]
theorem rowOk_len {n:Int} {row:List Int} (h:row.length ≠ 3):rowOk n row = false:=by simp [rowOk,h]
theorem rowOk_bad {n:Int} {row:List Int} {c:Nat} (hc:c < row.length) (h:inB (row.getD c 0) 0 (n - 1) = false):rowOk n row = false:=by
 unfold rowOk
 have:(row.all fun t => inB t 0 (n - 1)) = false:=by
  rw [List.all_eq_false]
  refine ⟨row[c],List.getElem_mem hc,?_⟩
  simpa [hc] using h
 simp [this]
theorem all_snoc {α:Type} {p:α → Bool} {l:List α} {k:Nat} {d:α} (hk:k < l.length) (h:(l.take k).all p = true) (hp:p (l.getD k d) = true):(l.take (k+1)).all p = true:=by
 rw [List.take_succ_eq_append_getElem hk,List.all_append,h]
 simpa [hk] using hp
theorem specDfaValid_any (next:List (List Int)) (ends:List Bool) (v1 v2:Value) (w:World) (h1:IntSS 0 w v1 next) (h2:Bools 0 w v2 ends) (r:Bool) (hr:dfaOk next ends = r) :
  Calls Tryz.prog 86 #[.agg #[v1,v2]] w fun e w' => e = .returned (.bool r) ∧ Below w.heap.size w w':=by
 obtain ⟨a1,c1,rfl,hc1,hm1,hr1⟩:=h1.form
 obtain ⟨a2,c2,rfl,hc2,hm2,hr2⟩:=h2.form
 have Hr:=qh hr
 clear h1 h2 hr
 go_enter Tryz.func86,Tryz.ntmps86
 go_wp2
 go_loopw [2,3,4] (fun r i j wr => ∃ k:Nat,k ≤ next.length ∧ i = .int .i64 k ∧ (next.take k).all (rowOk next.length) = true ∧ Below (w.heap.size+1) (w.alloc (.cells #[.slice a1 next.length c1,.slice a2 ends.length c2] 25)) wr)
  (fun _ i _ _ => next.length - (intOf i).toNat)
 case atStart => exact ⟨0,Nat.zero_le _,rfl,rfl,Below.refl _ _⟩
 case round =>
  obtain ⟨k,hk,rfl,hall,hb⟩:=hrel
  have hend:Below w.heap.size w wr:=((Below.refl _ _).alloc (Nat.le_refl _) _).trans (hb.mono (by omega))
  have Hend:=qh hend
  clear hend
  have hx0:=box_cell hb 0
  have hx3:=box_cell hb 1
  simp only [List.getElem?_toArray,List.getElem?_cons_zero,List.getElem?_cons_succ] at hx0 hx3
  by_cases hlt:k < next.length
  ·obtain ⟨b,off,rfl,hB,hbl,hcs⟩:=hr1 (by omega)
   obtain ⟨row,hrw⟩:∃ row,row = next.getD k []:=⟨_,rfl⟩
   have hcsk:=hcs k hlt
   rw [← hrw] at hcsk
   have Hrw:=qh hrw;clear hrw hcs hr1 hr2
   obtain ⟨a',cap',hcell,hcc,hcm,hrow⟩:=hcsk
   have hx1:=(box_old hb b (off+k) hbl).trans hcell
   have hbx:=box_lt hb
   have Hall:=qh hall;clear hall
   by_cases hlen:row.length = 3
   ·have Hlen:=qh hlen
    have hl3:((row.length:Int) != 3) = false:=by rw [hlen];rfl
    obtain ⟨b',off',rfl,hB',hbl',hcs'⟩:=hrow (by omega)
    clear hlen hx3
    go_wp2
    go_loopw [2,4] (fun r j wi => ∃ c:Nat,c ≤ 3 ∧ j = .int .i64 c ∧ (row.take c).all (fun t => inB t 0 ((next.length:Int) - 1)) = true ∧ Below (w.heap.size+1) (w.alloc (.cells #[.slice (some ⟨b,off,none⟩) next.length c1,.slice a2 ends.length c2] 25)) wi)
     (fun _ j _ => 3 - (intOf j).toNat)
    case atStart => exact ⟨0,by omega,rfl,rfl,hb⟩
    case round =>
     obtain ⟨c,hc,rfl,hall',hbi⟩:=hrel
     have Hall':=qh hall';clear hall'
     have Hbi:=qh hbi
     by_cases hc3:c < 3
     ·have hx0:=box_cell hbi 0
      have hx1:=(box_old hbi b (off+k) hbl).trans hcell
      have hx2:=(box_old hbi b' (off'+c) hbl').trans (hcs' c (by have:=Hlen.out;omega))
      simp only [List.getElem?_toArray,List.getElem?_cons_zero] at hx0
      obtain ⟨t,ht⟩:∃ t,t = row.getD c 0:=⟨_,rfl⟩
      rw [← ht] at hx2
      have Ht:=qh ht;clear ht hbi
      have hr3:(c:Int) < row.length:=by have:=Hlen.out;omega
      have hwn:IntKind.i64.wrap ((next.length:Int) - 1) = (next.length:Int) - 1:=IntWalk.i64_in _ (by omega)
      clear hcs'
      cases hin:inB t 0 ((next.length:Int) - 1)
      all_goals
       have Hin:=qh hin;clear hin
       go_wp2
       go_region_held3 (fun w' => w'.cell? ⟨w.heap.size,0,none⟩ = some (.slice (some ⟨b,off,none⟩) next.length c1) ∧ w'.cell? ⟨b,off+k,none⟩ = some (.slice (some ⟨b',off',none⟩) row.length cap') ∧ w'.cell? ⟨b',off'+c,none⟩ = some (.int .i64 t))
        (go_keep)
        (first | (go_at_call 44;refine (l1In_any _ _ _ _ _ Hin.out).mono ?_;rintro e w' ⟨rfl,rfl⟩))
       go_wp2
      ·go_ret
       have hfin:dfaOk next ends = false:=dfaOk_bad hlt (by rw [← Hrw.out];exact rowOk_bad (c:=c) (by have:=Hlen.out;omega) (by rw [← Ht.out];exact Hin.out))
       exact ⟨by rw [← Hr.out,hfin];rfl,(((Below.refl _ _).alloc (Nat.le_refl _) _).trans (Hbi.out.mono (by omega))).drew⟩
      ·go_roundw
       case rel => exact ⟨c+1,by omega,by go_num,all_snoc (d:=0) (by have:=Hlen.out;omega) Hall'.out (by rw [← Ht.out];exact Hin.out),Hbi.out.drew⟩
       case measure => simp [intOf];omega
     ·obtain rfl:c = 3:=by omega
      clear hbi hcs'
      go_wp2
      go_roundw
      case rel =>
       have hok:rowOk next.length (next.getD k []) = true:=by
        rw [← Hrw.out]
        unfold rowOk
        have h3:=Hall'.out
        rw [List.take_of_length_le (by have:=Hlen.out;omega)] at h3
        simp [Hlen.out,h3]
       exact ⟨k+1,by omega,by go_num,all_snoc (d:=[]) hlt Hall.out hok,Hbi.out⟩
      case measure => simp [intOf];omega
   ·have hl3:((row.length:Int) != 3) = true:=by rw [bne_iff_ne];omega
    go_wp2
    go_ret
    have hfin:dfaOk next ends = false:=dfaOk_bad hlt (by rw [← Hrw.out];exact rowOk_len hlen)
    exact ⟨by rw [← Hr.out,hfin];rfl,Hend.out⟩
  ·have hfin:dfaOk next ends = (inB next.length 1 40 && decide (ends.length = next.length)):=by
    have h3:=hall
    rw [List.take_of_length_le (by omega)] at h3
    simp [dfaOk,h3]
   have Hfin:=qh hfin
   clear hfin hall hr1 hr2
   cases hin:inB next.length 1 40
   ·have Hin:=qh hin;clear hin
    go_wp2_with (go_at_call 44;refine (l1In_any _ _ _ _ _ Hin.out).mono ?_;rintro e w' ⟨rfl,rfl⟩)
    go_ret
    exact ⟨by rw [← Hr.out,Hfin.out,Hin.out];rfl,Hend.out⟩
   ·have Hin:=qh hin;clear hin
    go_wp2_with (go_at_call 44;refine (l1In_any _ _ _ _ _ Hin.out).mono ?_;rintro e w' ⟨rfl,rfl⟩)
    go_ret
    refine ⟨?_,Hend.out⟩
    rw [← Hr.out,Hfin.out,Hin.out]
    exact ret_bool (by rw [beq_len];rfl)
end Go.Proofs.YtfgpkadhegdffaaGreat
namespace Go.Proofs.YtfgpkadhegdffaaGreat
open Go.RowKit
theorem quiet_eq {P:Program} {f:FuncId} {args:Array Value} {w:World} {n:Nat} {v:Value}
  (h:Calls P f args (w.drewN n) fun e w' => e = .returned v ∧ w.drewN n = w'):Calls P f args (w.drewN n) fun e w'' => e = .returned v ∧ ∃ m,w'' = w.drewN m :=
 h.mono fun _ _ ⟨he,hm⟩ => ⟨he,n,hm.symm⟩
end Go.Proofs.YtfgpkadhegdffaaGreat
namespace Go.Proofs.YtfgpkadhegdffaaGreat
open Go.RowKit
theorem mem_getD {α:Type} {l:List α} {k:Nat} {d:α} (hk:k < l.length):l.getD k d ∈ l:=by
 simp [hk]
theorem eqFields2 {P:Program} {ti:TypeId} {fs:List Field} (d:Nat) (x1 x2 y1 y2:Int) (w:World) (hi:P.underlying ti = some (.int .i64))
  (hf : fs.map (fun f => (f.name == "_", f.type, f.offset)) = [(false, ti, 0), (false, ti, 1)]) :
  (Op.eqFields (d+1) #[.int .i64 x1,.int .i64 x2] #[.int .i64 y1,.int .i64 y2] fs).run P w = .ok (x1 == y1 && x2 == y2) w:=by
 obtain ⟨f,g,rfl⟩:∃ f g,fs = [f,g]:=by
  have hl:fs.length = 2:=by simpa using congrArg List.length hf
  match fs with
  | [] => simp at hl
  | [_] => simp at hl
  | [f,g] => exact ⟨f,g,rfl⟩
  | _ :: _ :: _ :: _ => simp at hl
 simp only [List.map_cons,List.map_nil,List.cons.injEq,Prod.mk.injEq,and_true] at hf
 obtain ⟨⟨f1,f2,f3⟩,g1,g2,g3⟩:=hf
 have f1' : f.name ≠ "_" := by simpa using f1
 have g1' : g.name ≠ "_" := by simpa using g1
 simp only [Op.eqFields,f1',g1',f2,f3,g2,g3,ne_eq,not_false_eq_true,if_true]
 cases h1:x1 == y1 <;> cases h2:x2 == y2 <;> simp [go_sem,hi,h1,h2,part,isAgg,run_underlying hi]
end Go.Proofs.YtfgpkadhegdffaaGreat
namespace Go.Proofs.YtfgpkadhegdffaaGreat
open Go.RowKit
def firstIdx {α:Type} (p:α → Bool) (xs:List α):Int:=if xs.any p then (xs.findIdx p:Int) else -1
theorem firstIdx_hit {α:Type} {p:α → Bool} {xs:List α} {k:Nat} {d:α} (hk:k < xs.length) (h:(xs.take k).any p = false) (hp:p (xs.getD k d) = true):firstIdx p xs = k:=by
 have hp':p xs[k] = true:=by simpa [hk] using hp
 have h1:xs.any p = true:=List.any_eq_true.2 ⟨xs[k],List.getElem_mem hk,hp'⟩
 unfold firstIdx
 rw [if_pos h1]
 have:xs.findIdx p = k:=by
  rw [List.findIdx_eq hk]
  refine ⟨hp',fun j hj => ?_⟩
  rw [List.any_eq_false] at h
  have:=h xs[j] (by rw [List.mem_take_iff_getElem];exact ⟨j,by omega,rfl⟩)
  simpa using this
 rw [this]
theorem firstIdx_miss {α:Type} {p:α → Bool} {xs:List α} {k:Nat} (hk:xs.length ≤ k) (h:(xs.take k).any p = false):firstIdx p xs = -1:=by
 rw [List.take_of_length_le hk] at h
 unfold firstIdx
 rw [h];rfl
theorem firstIdx_any {α:Type} (p:α → Bool) (xs:List α):decide (0 ≤ firstIdx p xs) = xs.any p:=by
 unfold firstIdx
 cases h:xs.any p <;> simp
theorem any_snoc {α:Type} {p:α → Bool} {l:List α} {k:Nat} {d:α} (hk:k < l.length) (h:(l.take k).any p = false) (hp:p (l.getD k d) = false):(l.take (k+1)).any p = false:=by
 rw [List.take_succ_eq_append_getElem hk,List.any_append,h]
 simpa [hk] using hp
def stepP (a b:DfaD) (p:Int × Int) (c:Nat):Int × Int:=((a.next.getD p.1.toNat []).getD c 0,(b.next.getD p.2.toNat []).getD c 0)
def inPair (a b:DfaD) (p:Int × Int):Bool:=inB p.1 0 ((a.next.length:Int) - 1) && inB p.2 0 ((b.next.length:Int) - 1)
theorem inB_true {x lo hi:Int} (h:inB x lo hi = true):lo ≤ x ∧ x ≤ hi:=by simpa [inB] using h
theorem dfaOk_row {next:List (List Int)} {ends:List Bool} (h:dfaOk next ends = true) {i:Nat} (hi:i < next.length) :
  (next.getD i []).length = 3 ∧ ∀ c,c < 3 → 0 ≤ (next.getD i []).getD c 0 ∧ (next.getD i []).getD c 0 < next.length:=by
 simp only [dfaOk,Bool.and_eq_true,List.all_eq_true] at h
 have hr:=h.1.1 _ (mem_getD (d:=[]) hi)
 simp only [rowOk,Bool.and_eq_true,decide_eq_true_eq,List.all_eq_true] at hr
 refine ⟨hr.1,fun c hc => ?_⟩
 have:=inB_true (hr.2 _ (mem_getD (d:=0) (show c < (next.getD i []).length by omega)))
 omega
theorem dfaOk_len {next:List (List Int)} {ends:List Bool} (h:dfaOk next ends = true):1 ≤ next.length ∧ next.length ≤ 40 ∧ ends.length = next.length:=by
 simp only [dfaOk,Bool.and_eq_true,decide_eq_true_eq] at h
 have:=inB_true h.1.2
 omega
theorem dfa_cell {w:World} {v1:Value} {next:List (List Int)} {ends:List Bool} (h:IntSS 0 w v1 next) (hd:dfaOk next ends = true) {i c:Nat} (hi:i < next.length) (hc:c < 3) :
  ∃ q o cap z t s,v1 = .slice (some ⟨q,o,none⟩) next.length cap ∧ next.length ≤ cap ∧ cap ≤ 9223372036854775807 ∧ w.cell? ⟨q,o+i,none⟩ = some (.slice (some ⟨z,t,none⟩) 3 s) ∧ 3 ≤ s ∧ s ≤ 9223372036854775807 ∧
   w.cell? ⟨z,t+c,none⟩ = some (.int .i64 ((next.getD i []).getD c 0)) ∧ q < w.heap.size ∧ z < w.heap.size:=by
 obtain ⟨a,cap,rfl,h1,h2,h3⟩:=h.form
 obtain ⟨q,o,rfl,_,hq,hr⟩:=h3 (by omega)
 obtain ⟨a',s,e1,e2,e3,e4⟩:=hr i hi
 obtain ⟨hl,_⟩:=dfaOk_row hd hi
 rw [hl] at e1 e2 e4
 obtain ⟨z,t,rfl,_,hz,e5⟩:=e4 (by omega)
 exact ⟨q,o,cap,z,t,s,rfl,h1,h2,e1,e2,e3,e5 c hc,hq,hz⟩
theorem bool_cell {w:World} {v1:Value} {xs:List Bool} (h:Bools 0 w v1 xs) {i:Nat} (hi:i < xs.length) :
  ∃ q o cap,v1 = .slice (some ⟨q,o,none⟩) xs.length cap ∧ xs.length ≤ cap ∧ cap ≤ 9223372036854775807 ∧ w.cell? ⟨q,o+i,none⟩ = some (.bool (xs.getD i false)) ∧ q < w.heap.size:=by
 obtain ⟨a,cap,rfl,h1,h2,h3⟩:=h.form
 obtain ⟨q,o,rfl,_,hq,hr⟩:=h3 (by omega)
 exact ⟨q,o,cap,rfl,h1,h2,hr i hi,hq⟩
theorem inPair_nat {a b:DfaD} {p:Int × Int} (h:inPair a b p = true):∃ i j:Nat,p = ((i:Int),(j:Int)) ∧ i < a.next.length ∧ j < b.next.length:=by
 unfold inPair at h
 rw [Bool.and_eq_true] at h
 obtain ⟨x,y⟩:=p
 obtain ⟨h1,h2⟩:=inB_true h.1
 obtain ⟨h3,h4⟩:=inB_true h.2
 simp only at h1 h2 h3 h4
 obtain ⟨i,rfl⟩:=Int.eq_ofNat_of_zero_le h1
 obtain ⟨j,rfl⟩:=Int.eq_ofNat_of_zero_le h3
 exact ⟨i,j,rfl,by omega,by omega⟩
def DfaAt (w:World) (b:Nat) (d:DfaD):Prop:=∃ v1 v2,Bx w b #[v1,v2] 25 ∧ IntSS 0 w v1 d.next ∧ Bools 0 w v2 d.ends
theorem DfaAt.below {w w':World} {b:Nat} {d:DfaD} (h:DfaAt w b d) (hb:Below w.heap.size w w'):DfaAt w' b d:=by
 obtain ⟨v1,v2,h1,h2,h3⟩:=h
 exact ⟨v1,v2,h1.below hb h1.lt,h2.below hb,h3.below hb⟩
theorem product1_any (a b:DfaD) (x:Int × Int) (c ba bb:Nat) (w:World) (hda:dfaOk a.next a.ends = true) (hdb:dfaOk b.next b.ends = true) (h1:DfaAt w ba a) (h2:DfaAt w bb b) (hx:inPair a b x = true) (hc:c < 3) :
  Calls Tryz.prog 159 #[.agg #[.int .i64 x.1,.int .i64 x.2],.int .i64 c,.pointer (some ⟨ba,0,none⟩),.pointer (some ⟨bb,0,none⟩)] w fun e w' => e = .returned (.agg #[.int .i64 (stepP a b x c).1,.int .i64 (stepP a b x c).2]) ∧ Below w.heap.size w w':=by
 obtain ⟨i,j,rfl,hi,hj⟩:=inPair_nat hx
 obtain ⟨u1,u2,hB1,g1,-⟩:=h1
 obtain ⟨u3,u4,hB2,g2,-⟩:=h2
 obtain ⟨q1,o1,c1,z1,t1,s1,rfl,hc1,hm1,e1,l1,m1,e2,d1,d2⟩:=dfa_cell g1 hda hi hc
 obtain ⟨q2,o2,c2,z2,t2,s2,rfl,hc2,hm2,e3,l2,m2,e4,d3,d4⟩:=dfa_cell g2 hdb hj hc
 obtain ⟨ta,hta⟩:∃ ta,ta = (stepP a b ((i:Int),(j:Int)) c).1:=⟨_,rfl⟩
 obtain ⟨tb,htb⟩:∃ tb,tb = (stepP a b ((i:Int),(j:Int)) c).2:=⟨_,rfl⟩
 have e2':w.cell? ⟨z1,t1+c,none⟩ = some (.int .i64 ta):=by rw [hta];exact e2
 have e4':w.cell? ⟨z2,t2+c,none⟩ = some (.int .i64 tb):=by rw [htb];exact e4
 rw [← hta,← htb]
 have hla:=dfaOk_len hda
 have hlb:=dfaOk_len hdb
 have ca:=hB1.cell 0
 have cb:=hB2.cell 0
 simp only [List.getElem?_toArray,List.getElem?_cons_zero] at ca cb
 have d5:=hB1.lt
 have d6:=hB2.lt
 have hci:(c:Int) < 3:=by omega
 have hii:(i:Int) < a.next.length:=by omega
 have hjj:(j:Int) < b.next.length:=by omega
 clear g1 g2 hB1 hB2 hta htb e2 e4 hx hda hdb
 obtain ⟨h41,h42,-⟩:=hla
 obtain ⟨h43,h44,-⟩:=hlb
 go_enter Tryz.func159, Tryz.ntmps159
 go_wp2
 go_region_held3 (fun w' => w'.cell? ⟨w.heap.size,0,none⟩ = some (.int .i64 i) ∧ w'.cell? ⟨w.heap.size,1,none⟩ = some (.int .i64 j) ∧ w'.cell? ⟨ba,0,none⟩ = some (.slice (some ⟨q1,o1,none⟩) a.next.length c1) ∧ w'.cell? ⟨bb,0,none⟩ = some (.slice (some ⟨q2,o2,none⟩) b.next.length c2) ∧ w'.cell? ⟨q1,o1+i,none⟩ = some (.slice (some ⟨z1,t1,none⟩) 3 s1) ∧ w'.cell? ⟨q2,o2+j,none⟩ = some (.slice (some ⟨z2,t2,none⟩) 3 s2) ∧ w'.cell? ⟨z1,t1+c,none⟩ = some (.int .i64 ta) ∧ w'.cell? ⟨z2,t2+c,none⟩ = some (.int .i64 tb))
  (first | go_keep) (fail)
 go_wp2
 refine bodyPost_ret (v:=.agg #[.int .i64 ta,.int .i64 tb]) (by simp [results,Tryz.results159,go_sem]) rfl ⟨rfl,?_⟩
 exact (((Below.refl _ _).alloc (Nat.le_refl _) _).alloc (by simp) _).drew
def endsF (f:Bool → Bool → Bool) (a b:DfaD) (p:Int × Int):Bool:=f (a.ends.getD p.1.toNat false) (b.ends.getD p.2.toNat false)
end Go.Proofs.YtfgpkadhegdffaaGreat
