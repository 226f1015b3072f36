/-
  The walks over the two checks of an automaton without choices: the program's and the reference's.
  Conditions: the argument reads as lists.
  Small laws for regions that draw their order and only read.
  No condition: this text speaks of no program.
  The walk over the reference's search for a pair in a list.
  Conditions: the list of pairs reads as a list.
  The walk over the program's check of an automaton without choices, and the walk over the reference's search for a pair in a list.
  Conditions: the argument reads as an automaton; a list of pairs reads as a list.
-/
import Derived.Test.YtfikabecgaappaaGreatPr00Grow
set_option maxHeartbeats 1600000
set_option maxRecDepth 100000
namespace Go.Proofs.YtfikabecgaappaaGreat
open Go.RowKit
def inB (x lo hi:Int):Bool:=decide (lo≤x)&&decide (x≤hi)
theorem Za2 (x lo hi:Int) (w:World) (r:Bool) (hr:inB x lo hi=r) :
  Calls Tryz.prog 71 #[.int .i64 x,.int .i64 lo,.int .i64 hi] w fun e w'=>e = .returned (.bool r)∧w=w':=by
 subst hr;unfold inB
 go_enter Tryz.func71,Tryz.ntmps71
 go_wp2
 all_goals (go_ret;exact⟨by simp[*]<;>omega,rfl⟩)
theorem ZaZ (x lo hi:Int) (w:World) (r:Bool) (hr:inB x lo hi=r) :
  Calls Tryz.prog 48 #[.int .i64 x,.int .i64 lo,.int .i64 hi] w fun e w'=>e = .returned (.bool r)∧w=w':=by
 subst hr;unfold inB
 go_enter Tryz.func48,Tryz.ntmps48
 go_wp2
 all_goals (go_ret;exact⟨by simp[*]<;>omega,rfl⟩)
def ZcW (n:Int) (row:List Int):Bool:=decide (row.length=3)&&row.all fun t=>inB t 0 (n-1)
def Zae (next:List (List Int)) (ends:List Bool):Bool :=
 next.all (ZcW next.length)&&inB next.length 1 40&&decide (ends.length=next.length)
theorem Zd2 {next:List (List Int)} {ends:List Bool} {k:Nat} (hk:k<next.length) (h:ZcW next.length (next.getD k [])=false):Zae next ends=false:=by
 unfold Zae;have:next.all (ZcW next.length)=false:=by rw[List.all_eq_false];refine⟨next[k],List.getElem_mem hk,?_⟩;simpa [hk] using h
 simp[this]
theorem ZhH {n:Int} {row:List Int} (h:row.length≠3):ZcW n row=false:=by simp[ZcW,h]
theorem ZkX {n:Int} {row:List Int} {c:Nat} (hc:c<row.length) (h:inB (row.getD c 0) 0 (n-1)=false):ZcW n row=false:=by
 unfold ZcW;have:(row.all fun t=>inB t 0 (n-1))=false:=by rw[List.all_eq_false];refine⟨row[c],List.getElem_mem hc,?_⟩;simpa [hc] using h
 simp[this]
theorem ZhB {α:Type} {p:α→Bool} {l:List α} {k:Nat} {d:α} (hk:k<l.length) (h:(l.take k).all p=true) (hp:p (l.getD k d)=true):(l.take (k+1)).all p=true:=by rw[List.take_succ_eq_append_getElem hk,List.all_append,h];simpa [hk] using hp
theorem ZcU (next:List (List Int)) (ends:List Bool) (v1 v2:Value) (w:World) (h1:IntSS 0 w v1 next) (h2:Bools 0 w v2 ends) (r:Bool) (hr:Zae next ends=r) :
  Calls Tryz.prog 183 #[.agg #[v1,v2]] w fun e w'=>e = .returned (.bool r)∧Below w.heap.size w w':=by
 obtain⟨a1,c1,rfl,hc1,hm1,hr1⟩:=h1.form;obtain⟨a2,c2,rfl,hc2,hm2,hr2⟩:=h2.form;have Hr:=qh hr;clear h1 h2 hr
 go_enter Tryz.func183,Tryz.ntmps183
 go_wp2
 go_loopw [2,3,4] (fun r i j wr=>∃ k:Nat,k≤next.length∧i = .int .i64 k∧(next.take k).all (ZcW next.length)=true∧Below (w.heap.size+1) (w.alloc (.cells #[.slice a1 next.length c1,.slice a2 ends.length c2] 37)) wr)
  (fun _ i _ _=>next.length-(intOf i).toNat)
 case atStart=>exact⟨0,Nat.zero_le _,rfl,rfl,Below.refl _ _⟩
 case round =>
  obtain⟨k,hk,rfl,hall,hb⟩:=hrel;have hend:Below w.heap.size w wr:=((Below.refl _ _).alloc (Nat.le_refl _) _).trans (hb.mono (by omega));have Hend:=qh hend;clear hend;have hx0:=Zhw hb 0;have hx3:=Zhw hb 1;simp only[List.getElem?_toArray,List.getElem?_cons_zero,List.getElem?_cons_succ] at hx0 hx3;by_cases hlt:k<next.length
  ·obtain⟨b,off,rfl,hB,hbl,hcs⟩:=hr1 (by omega);obtain⟨row,hrw⟩:=eI (next.getD k []);have hcsk:=hcs k hlt;rw[← hrw] at hcsk;have Hrw:=qh hrw;clear hrw hcs hr1 hr2;obtain⟨a',cap',hcell,hcc,hcm,hrow⟩:=hcsk;have hx1:=(Zi1 hb b (off+k) hbl).trans hcell;have hbx:=Zou hb;replace hall:=qh hall;by_cases hlen:row.length=3
   ·have Hlen:=qh hlen;have hl3:((row.length:Int) != 3)=false:=by rw[hlen];rfl
    obtain⟨b',off',rfl,hB',hbl',hcs'⟩:=hrow (by omega);clear hlen hx3;go_wp2
    go_loopw [2,4] (fun r j wi=>∃ c:Nat,c≤3∧j = .int .i64 c∧(row.take c).all (fun t=>inB t 0 ((next.length:Int)-1))=true∧Below (w.heap.size+1) (w.alloc (.cells #[.slice (some ⟨b,off,none⟩) next.length c1,.slice a2 ends.length c2] 37)) wi)
     (fun _ j _=>3-(intOf j).toNat)
    case atStart=>exact⟨0,by omega,rfl,rfl,hb⟩
    case round =>
     obtain⟨c,hc,rfl,hall',hbi⟩:=hrel;have Hall':=qh hall';clear hall';have Hbi:=qh hbi;by_cases hc3:c<3
     ·have hx0:=Zhw hbi 0;have hx1:=(Zi1 hbi b (off+k) hbl).trans hcell;have hx2:=(Zi1 hbi b' (off'+c) hbl').trans (hcs' c (by have:=Hlen.out;omega));simp only[List.getElem?_toArray,List.getElem?_cons_zero] at hx0;obtain⟨t,ht⟩:=eI (row.getD c 0);rw[← ht] at hx2;have Ht:=qh ht;clear ht hbi;have hr3:(c:Int)<row.length:=by have:=Hlen.out;omega
      have hwn:IntKind.i64.wrap ((next.length:Int)-1)=(next.length:Int)-1:=IntWalk.i64_in _ (by omega);clear hcs';cases hin:inB t 0 ((next.length:Int)-1)
      all_goals
       have Hin:=qh hin;clear hin;go_wp2
       go_region_held3 (fun w'=>w'.cell? ⟨w.heap.size,0,none⟩=some (.slice (some ⟨b,off,none⟩) next.length c1)∧w'.cell? ⟨b,off+k,none⟩=some (.slice (some ⟨b',off',none⟩) row.length cap')∧w'.cell? ⟨b',off'+c,none⟩=some (.int .i64 t))
        (go_keep)
        (first|(go_at_call 71;refine(Za2 _ _ _ _ _ Hin.out).mono ?_;rintro e w' ⟨rfl,rfl⟩))
       go_wp2
      ·go_ret;have hfin:Zae next ends=false:=Zd2 hlt (by rw[← Hrw.out];exact ZkX (c:=c) (by have:=Hlen.out;omega) (by rw[← Ht.out];exact Hin.out));exact⟨by rw[← Hr.out,hfin];rfl,(((Below.refl _ _).alloc (Nat.le_refl _) _).trans (Hbi.out.mono (by omega))).drew⟩
      go_roundw
      case rel=>exact⟨c+1,by omega,by go_num,ZhB (d:=0) (by have:=Hlen.out;omega) Hall'.out (by rw[← Ht.out];exact Hin.out),Hbi.out.drew⟩
      case measure=>simp[intOf];omega
     obtain rfl:c=3:=by omega
     clear hbi hcs';go_wp2;go_roundw
     case rel =>
      have hok:ZcW next.length (next.getD k [])=true:=by rw[← Hrw.out];unfold ZcW;have h3:=Hall'.out;rw[List.take_of_length_le (by have:=Hlen.out;omega)] at h3;simp[Hlen.out,h3]
      exact⟨k+1,by omega,by go_num,ZhB (d:=[]) hlt hall.out hok,Hbi.out⟩
     case measure=>simp[intOf];omega
   have hl3:((row.length:Int) != 3)=true:=by rw[bne_iff_ne];omega
   go_wp2;go_ret;have hfin:Zae next ends=false:=Zd2 hlt (by rw[← Hrw.out];exact ZhH hlen);exact⟨by rw[← Hr.out,hfin];rfl,Hend.out⟩
  have hfin:Zae next ends=(inB next.length 1 40&&decide (ends.length=next.length)):=by have h3:=hall;rw[List.take_of_length_le (by omega)] at h3;simp[Zae,h3]
  have Hfin:=qh hfin;clear hfin hall hr1 hr2;cases hin:inB next.length 1 40
  ·have Hin:=qh hin;clear hin;go_wp2_with (go_at_call 71;refine(Za2 _ _ _ _ _ Hin.out).mono ?_;rintro e w' ⟨rfl,rfl⟩);go_ret;exact⟨by rw[← Hr.out,Hfin.out,Hin.out];rfl,Hend.out⟩
  have Hin:=qh hin;clear hin;go_wp2_with (go_at_call 71;refine(Za2 _ _ _ _ _ Hin.out).mono ?_;rintro e w' ⟨rfl,rfl⟩);go_ret;refine⟨?_,Hend.out⟩;rw[← Hr.out,Hfin.out,Hin.out];exact Zdl (by rw[Zmi];rfl)
end Go.Proofs.YtfikabecgaappaaGreat
namespace Go.Proofs.YtfikabecgaappaaGreat
open Go.RowKit
theorem ZgW {P:Program} {f:FuncId} {args:Array Value} {w:World} {n:Nat} {v:Value}
  (h:Calls P f args (w.drewN n) fun e w'=>e = .returned v∧w.drewN n=w'):Calls P f args (w.drewN n) fun e w''=>e = .returned v∧∃ m,w''=w.drewN m :=
 h.mono fun _ _ ⟨he,hm⟩=>⟨he,n,hm.symm⟩
end Go.Proofs.YtfikabecgaappaaGreat
namespace Go.Proofs.YtfikabecgaappaaGreat
open Go.RowKit
theorem Zck {α:Type} {l:List α} {k:Nat} {d:α} (hk:k<l.length):l.getD k d∈l:=by simp[hk]
theorem ZlT {P:Program} {ti:TypeId} {fs:List Field} (d:Nat) (x1 x2 y1 y2:Int) (w:World) (hi:P.underlying ti=some (.int .i64))
  (hf : fs.map (fun f => (f.name == "_", f.type, f.offset)) = [(false, ti, 0), (false, ti, 1)]) :
  (Op.eqFields (d+1) #[.int .i64 x1,.int .i64 x2] #[.int .i64 y1,.int .i64 y2] fs).run P w = .ok (x1==y1&&x2==y2) w:=by
 obtain⟨f,g,rfl⟩:∃ f g,fs=[f,g]:=by
  have hl:fs.length=2:=by simpa using congrArg List.length hf
  match fs with
  | []=>simp at hl
  | [_]=>simp at hl
  | [f,g]=>exact⟨f,g,rfl⟩
  | _::_::_::_=>simp at hl
 simp only[List.map_cons,List.map_nil,List.cons.injEq,Prod.mk.injEq,and_true] at hf
 obtain⟨⟨f1,f2,f3⟩,g1,g2,g3⟩:=hf
 have f1' : f.name ≠ "_" := by simpa using f1
 have g1' : g.name ≠ "_" := by simpa using g1
 simp only[Op.eqFields,f1',g1',f2,f3,g2,g3,ne_eq,not_false_eq_true,if_true]
 cases h1:x1==y1<;>cases h2:x2==y2<;>simp[go_sem,hi,h1,h2,part,isAgg,run_underlying hi]
end Go.Proofs.YtfikabecgaappaaGreat
namespace Go.Proofs.YtfikabecgaappaaGreat
open Go.RowKit
def badT (n t:Int):Bool:=!inB t 0 (n-1)
def Zcl {α:Type} (p:α→Bool) (xs:List α):Int:=if xs.any p then(xs.findIdx p:Int) else -1
theorem ZeH {α:Type} {p:α→Bool} {xs:List α} {k:Nat} {d:α} (hk:k<xs.length) (h:(xs.take k).any p=false) (hp:p (xs.getD k d)=true):Zcl p xs=k:=by
 have hp':p xs[k]=true:=by simpa [hk] using hp
 have h1:xs.any p=true:=List.any_eq_true.2 ⟨xs[k],List.getElem_mem hk,hp'⟩;unfold Zcl;rw[if_pos h1];have:xs.findIdx p=k:=by rw[List.findIdx_eq hk];refine⟨hp',fun j hj => ?_⟩;rw[List.any_eq_false] at h;have:=h xs[j] (by rw[List.mem_take_iff_getElem];exact⟨j,by omega,rfl⟩);simpa using this
 rw[this]
theorem ZdY {α:Type} {p:α→Bool} {xs:List α} {k:Nat} (hk:xs.length≤k) (h:(xs.take k).any p=false):Zcl p xs = -1:=by rw[List.take_of_length_le hk] at h;unfold Zcl;rw[h];rfl
theorem ZeI {α:Type} (p:α→Bool) (xs:List α):decide (0≤Zcl p xs)=xs.any p:=by unfold Zcl;cases h:xs.any p<;>simp
theorem ZjQ {α:Type} {p:α→Bool} {l:List α} {k:Nat} {d:α} (hk:k<l.length) (h:(l.take k).any p=false) (hp:p (l.getD k d)=false):(l.take (k+1)).any p=false:=by rw[List.take_succ_eq_append_getElem hk,List.any_append,h];simpa [hk] using hp
theorem Zd1 (x n:Int) (b:Nat) (w:World) (hn:0≤n∧n≤9223372036854775807) (hc:w.cell? ⟨b,0,none⟩=some (.int .i64 n)) (r:Bool) (hr:badT n x=r) :
  Calls Tryz.prog 103 #[.int .i64 x,.pointer (some ⟨b,0,none⟩)] w fun e w'=>e = .returned (.bool r)∧w=w':=by
 subst hr;obtain⟨h1,h2⟩:=hn
 go_enter Tryz.func103, Tryz.ntmps103
 go_wp2_with (go_at_call 48;refine(ZaZ _ _ _ _ _ rfl).mono ?_;rintro e w' ⟨rfl,rfl⟩);go_ret;exact⟨rfl,rfl⟩
theorem ZfF (xs:List Int) (v:Value) (n:Int) (b:Nat) (w:World) (hn:0≤n∧n≤9223372036854775807) (hc:w.cell? ⟨b,0,none⟩=some (.int .i64 n)) (h1:Ints 0 w v xs) :
  Calls Tryz.prog 140 #[v,.func (.func 103) #[] #[.pointer (some ⟨b,0,none⟩)]] w fun e w'=>e = .returned (.int .i64 (Zcl (badT n) xs))∧w=w':=by
 obtain⟨a1,c1,rfl,hc1,hm1,hr1⟩:=h1.form;clear h1
 go_enter Tryz.func140, Tryz.ntmps140
 go_wp2
 go_loop [4,8] (fun r i=>∃ k:Nat,k≤xs.length∧i = .int .i64 k∧(xs.take k).any (badT n)=false) (fun _ i=>xs.length-(intOf i).toNat)
 case atStart=>exact⟨0,Nat.zero_le _,rfl,rfl⟩
 case round =>
  obtain⟨k,hk,rfl,htk⟩:=hrel;replace htk:=qh htk;by_cases hlt:k<xs.length
  ·obtain⟨b1,o1,rfl,hB1,hbl1,hcs1⟩:=hr1 (by omega);have hx1:=hcs1 k hlt;obtain⟨x,hxx⟩:=eI (xs.getD k 0);rw[← hxx] at hx1;have Hhxx:=qh hxx;clear hxx;clear hcs1 hr1;cases hb:badT n x
   ·replace hb:=qh hb;go_wp2_with (go_at_call 103;refine(Zd1 x n b _ hn hc _ hb.out).mono ?_;rintro e w' ⟨rfl,rfl⟩)
    go_round
    case rel=>exact⟨k+1,by omega,by go_num,ZjQ (d:=0) hlt htk.out (by rw[← Hhxx.out];exact hb.out)⟩
    case measure=>simp[intOf];omega
   replace hb:=qh hb;go_wp2_with (go_at_call 103;refine(Zd1 x n b _ hn hc _ hb.out).mono ?_;rintro e w' ⟨rfl,rfl⟩);go_ret;exact⟨Zdz (by rw[ZeH (d:=0) hlt htk.out (by rw[← Hhxx.out];exact hb.out)]),rfl⟩
  clear hr1;go_wp2;go_ret;exact⟨Zdz (by rw[ZdY (by omega) htk.out]),rfl⟩
theorem Zcn (xs:List Int) (v:Value) (n:Int) (b:Nat) (w:World) (hn:0≤n∧n≤9223372036854775807) (hc:w.cell? ⟨b,0,none⟩=some (.int .i64 n)) (h1:Ints 0 w v xs) (r:Bool) (hr:xs.any (badT n)=r) :
  Calls Tryz.prog 100 #[v,.func (.func 103) #[] #[.pointer (some ⟨b,0,none⟩)]] w fun e w'=>e = .returned (.bool r)∧w=w':=by
 obtain⟨a1,c1,hv,-⟩:=h1.form;have H1:=qh h1;subst hv;clear h1;replace hr:=qh hr
 go_enter Tryz.func100, Tryz.ntmps100
 go_wp2_with (go_at_call 140;refine(ZfF xs _ n b _ hn hc H1.out).mono ?_;rintro e w' ⟨rfl,rfl⟩);go_ret;exact⟨Zdl (by rw[← hr.out,ZeI]),rfl⟩
theorem ZkY {n:Int} {row:List Int} (h:row.any (badT n)=true):ZcW n row=false:=by
 unfold ZcW;have:(row.all fun t=>inB t 0 (n-1))=false:=by rw[List.any_eq_true] at h;obtain⟨x,hx,hp⟩:=h;rw[List.all_eq_false];exact⟨x,hx,by simpa [badT] using hp⟩
 simp[this]
theorem ZkW {n:Int} {row:List Int} (hl:row.length=3) (h:row.any (badT n)=false):ZcW n row=true:=by unfold ZcW;rw[List.any_eq_false] at h;simp only[hl,decide_true,Bool.true_and,List.all_eq_true];intro x hx;have:=h x hx;simpa [badT] using this
theorem ZeP (d:DfaD) (v:Value) (w:World) (h:DfaR 0 w v d) (r:Bool) (hr:Zae d.next d.ends=r) :
  Calls Tryz.prog 57 #[v] w fun e w'=>e = .returned (.bool r)∧Below w.heap.size w w':=by
 obtain⟨next,ends⟩:=d;obtain⟨v1,v2,rfl,h1,h2⟩:=h;simp only at h1 h2 hr;obtain⟨a1,c1,rfl,hc1,hm1,hr1⟩:=h1.formI;obtain⟨a2,c2,rfl,hc2,hm2,hr2⟩:=h2.form;have Hr:=qh hr;clear h1 h2 hr hr2
 go_enter Tryz.func57, Tryz.ntmps57
 go_wp2
 go_loopw [2,12] (fun r i wr=>∃ k:Nat,k≤next.length∧i = .int .i64 k∧(next.take k).all (ZcW next.length)=true∧Below (w.heap.size+2) ((w.alloc (.cells #[.slice a1 next.length c1,.slice a2 ends.length c2] 37)).alloc (.cells #[.int .i64 next.length] 3)) wr)
  (fun _ i _=>next.length-(intOf i).toNat)
 case atStart=>exact⟨0,Nat.zero_le _,rfl,rfl,Below.refl _ _⟩
 case round =>
  obtain⟨k,hk,rfl,hall,hb⟩:=hrel;have hend:Below w.heap.size w wr:=(((Below.refl _ _).alloc (Nat.le_refl _) _).alloc (by simp) _).trans (hb.mono (by omega));have x0:=((Bx.new w _ _).alloc _).below hb (by omega);have x1:=(Bx.new (w.alloc _) _ _).below hb (by simp);have hx0:=x0.cell 0;have hx2:=x0.cell 1;have hx1:=x1.cell 0;simp only[List.getElem?_toArray,List.getElem?_cons_zero,List.getElem?_cons_succ,World.size_alloc] at hx0 hx1 hx2;have Hend:=qh hend;clear hend x0 x1;by_cases hlt:k<next.length
  ·obtain⟨b,off,rfl,hB,hbl,hcs⟩:=hr1 (by omega);obtain⟨row,hrw⟩:=eI (next.getD k []);have hcsk:=hcs k hlt;rw[← hrw] at hcsk;replace hrw:=qh hrw;obtain⟨a',cap',hcell,hcc,hcm,hrow⟩:=hcsk;have hx3:=(bcell Hend.out b (off+k) hbl).trans hcell;have Hrow:=qh (hrow.below Hend.out);replace hall:=qh hall;have Hhb:=qh hb;clear hb;clear hcs hr1 hcell hrow;by_cases hlen:row.length=3
   ·have hl3:((row.length:Int) != 3)=false:=by rw[hlen];rfl
    have Hhlen:=qh hlen;clear hlen;cases hany:row.any (badT next.length)
    ·have Hhany:=qh hany;clear hany;go_wp2_with (go_at_call 100;refine(Zcn row _ next.length _ _ (by omega) hx1 Hrow.out _ Hhany.out).mono ?_;rintro e w' ⟨rfl,rfl⟩);go_roundw
     case rel=>exact⟨k+1,by omega,by go_num,ZhB (d:=[]) hlt hall.out (by rw[← hrw.out];exact ZkW Hhlen.out Hhany.out),Hhb.out⟩
     case measure=>simp[intOf];omega
    have Hhany:=qh hany;clear hany;go_wp2_with (go_at_call 100;refine(Zcn row _ next.length _ _ (by omega) hx1 Hrow.out _ Hhany.out).mono ?_;rintro e w' ⟨rfl,rfl⟩);go_ret;exact⟨by rw[← Hr.out,Zd2 hlt (by rw[← hrw.out];exact ZkY Hhany.out)];rfl,Hend.out⟩
   have hl3:((row.length:Int) != 3)=true:=by rw[bne_iff_ne];omega
   have Hhlen:=qh hlen;clear hlen;go_wp2;go_ret;exact⟨by rw[← Hr.out,Zd2 hlt (by rw[← hrw.out];exact ZhH Hhlen.out)];rfl,Hend.out⟩
  have hfin:Zae next ends=(inB next.length 1 40&&decide (ends.length=next.length)):=by have h3:=hall;rw[List.take_of_length_le (by omega)] at h3;simp[Zae,h3]
  have Hhfin:=qh hfin;clear hfin;have Hhb:=qh hb;clear hb;clear hall hr1;cases hin:inB next.length 1 40
  ·have Hhin:=qh hin;clear hin;go_wp2_with (go_at_call 48;refine(ZaZ _ _ _ _ _ Hhin.out).mono ?_;rintro e w' ⟨rfl,rfl⟩);go_ret;exact⟨by rw[← Hr.out,Hhfin.out,Hhin.out];rfl,Hend.out⟩
  have Hhin:=qh hin;clear hin;go_wp2_with (go_at_call 48;refine(ZaZ _ _ _ _ _ Hhin.out).mono ?_;rintro e w' ⟨rfl,rfl⟩);go_ret;exact⟨Zdl (by rw[← Hr.out,Hhfin.out,Hhin.out,Zmi];rfl),Hend.out⟩
def Zav (a b:DfaD) (p:Int × Int) (c:Nat):Int × Int:=((a.next.getD p.1.toNat []).getD c 0,(b.next.getD p.2.toNat []).getD c 0)
def ZbV (a b:DfaD) (p:Int × Int):Bool:=inB p.1 0 ((a.next.length:Int)-1)&&inB p.2 0 ((b.next.length:Int)-1)
theorem ZdU {x lo hi:Int} (h:inB x lo hi=true):lo≤x∧x≤hi:=by simpa [inB] using h
theorem ZaD {next:List (List Int)} {ends:List Bool} (h:Zae next ends=true) {i:Nat} (hi:i<next.length) :
  (next.getD i []).length=3∧∀ c,c<3→0≤(next.getD i []).getD c 0∧(next.getD i []).getD c 0<next.length:=by
 simp only[Zae,Bool.and_eq_true,List.all_eq_true] at h;have hr:=h.1.1 _ (Zck (d:=[]) hi);simp only[ZcW,Bool.and_eq_true,decide_eq_true_eq,List.all_eq_true] at hr;refine⟨hr.1,fun c hc => ?_⟩;have:=ZdU (hr.2 _ (Zck (d:=0) (show c<(next.getD i []).length by omega)));omega
theorem Zac {next:List (List Int)} {ends:List Bool} (h:Zae next ends=true):1≤next.length∧next.length≤40∧ends.length=next.length:=by simp only[Zae,Bool.and_eq_true,decide_eq_true_eq] at h;have:=ZdU h.1.2;omega
end Go.Proofs.YtfikabecgaappaaGreat
namespace Go.Proofs.YtfikabecgaappaaGreat
structure Bs (α:Type) where
 met:List α
 words:List (List Nat)
section
variable {α:Type} [DecidableEq α]
def bvisit (nx:α→Nat→α) (x:α) (wd:List Nat) (s:Bs α) (c:Nat):Bs α :=
 if nx x c∈s.met then s else⟨s.met++[nx x c],s.words++[wd++[c]]⟩
def brow (nx:α→Nat→α) (x:α) (wd:List Nat) (s:Bs α):Nat→Bs α
 | 0=>s
 | n+1=>bvisit nx x wd (brow nx x wd s n) n
def bat (nx:α→Nat→α) (a:α):Nat→Bs α
 | 0=>⟨[a],[[]]⟩
 | k+1=>if k<(bat nx a k).met.length then brow nx ((bat nx a k).met.getD k a) ((bat nx a k).words.getD k []) (bat nx a k) 3 else bat nx a k
def bpart (nx:α→Nat→α) (a:α) (k n:Nat):Bs α:=brow nx ((bat nx a k).met.getD k a) ((bat nx a k).words.getD k []) (bat nx a k) n
variable {nx:α→Nat→α} {a:α}
theorem Zaq (k:Nat):bpart nx a k 0=bat nx a k:=rfl
theorem ZaH {k:Nat} (h:k<(bat nx a k).met.length):bat nx a (k+1)=bpart nx a k 3:=by simp only[bat,if_pos h];rfl
theorem Zbi {k:Nat} (h:(bat nx a k).met.length≤k):bat nx a (k+1)=bat nx a k:=by simp only[bat,if_neg (show ¬ k<(bat nx a k).met.length by omega)]
theorem ZgG (k n:Nat):bpart nx a k (n+1)=bvisit nx ((bat nx a k).met.getD k a) ((bat nx a k).words.getD k []) (bpart nx a k n) n:=rfl
theorem Zbw {k n:Nat} (h:nx ((bat nx a k).met.getD k a) n∈(bpart nx a k n).met):bpart nx a k (n+1)=bpart nx a k n:=by rw[ZgG,bvisit,if_pos h]
theorem Zbe {k n:Nat} (h:nx ((bat nx a k).met.getD k a) n ∉ (bpart nx a k n).met):bpart nx a k (n+1)=⟨(bpart nx a k n).met++[nx ((bat nx a k).met.getD k a) n],(bpart nx a k n).words++[(bat nx a k).words.getD k []++[n]]⟩:=by rw[ZgG,bvisit,if_neg h]
theorem Ze9 (Q:Bs α→Prop) {x:α} {wd:List Nat} {s:Bs α} (hs:Q s) (hv:∀ t c,c<3→Q t→Q (bvisit nx x wd t c)):∀ n,n≤3→Q (brow nx x wd s n)
 | 0,_=>hs
 | n+1,h=>hv _ n (by omega) (Ze9 Q hs hv n (by omega))
theorem Zex (Q:Bs α→Prop) (h0:Q ⟨[a],[[]]⟩) (hv:∀ s k,k<s.met.length→∀ t c,c<3→Q s→Q t→Q (bvisit nx (s.met.getD k a) (s.words.getD k []) t c)):∀ k,Q (bat nx a k)
 | 0=>h0
 | k+1=>by
  have ih:=Zex Q h0 hv k;by_cases h:k<(bat nx a k).met.length
  ·rw[ZaH h];exact Ze9 Q ih (fun t c hc ht=>hv _ k h t c hc ih ht) 3 (by omega)
  rw[Zbi (by omega)];exact ih
theorem Zik (Q:Bs α→Prop) (h0:Q ⟨[a],[[]]⟩) (hv:∀ s k,k<s.met.length→∀ t c,c<3→Q s→Q t→Q (bvisit nx (s.met.getD k a) (s.words.getD k []) t c)) {k n:Nat} (hk:k<(bat nx a k).met.length) (hn:n≤3):Q (bpart nx a k n) :=
 Ze9 Q (Zex Q h0 hv k) (fun t c hc ht=>hv _ k hk t c hc (Zex Q h0 hv k) ht) n hn
omit [DecidableEq α] in
theorem Zcw {l:List α} {x:α} (h:l.Nodup) (hx:x ∉ l):(l++[x]).Nodup:=by rw[List.nodup_append];refine⟨h,by simp,?_⟩;intro b hb c hc;simp only[List.mem_singleton] at hc;subst hc;intro e;subst e;exact hx hb
theorem ZfZ (x:α) (wd:List Nat) {t:Bs α} (c:Nat) (h:t.met.Nodup∧t.words.length=t.met.length∧t.met.head? = some a) :
  (bvisit nx x wd t c).met.Nodup∧(bvisit nx x wd t c).words.length=(bvisit nx x wd t c).met.length∧(bvisit nx x wd t c).met.head? = some a:=by
 unfold bvisit
 split
 ·exact h
 rename_i hx;obtain⟨h1,h2,h3⟩:=h;exact⟨Zcw h1 hx,by simp[h2],by simp[h3]⟩
theorem Za9 (k:Nat):(bat nx a k).met.Nodup∧(bat nx a k).words.length=(bat nx a k).met.length∧(bat nx a k).met.head? = some a :=
 Zex (fun s=>s.met.Nodup∧s.words.length=s.met.length∧s.met.head? = some a) (by simp) (fun s k _ t c _ _ ht=>ZfZ _ _ _ ht) k
theorem Zdp {k n:Nat} (hk:k<(bat nx a k).met.length) (hn:n≤3):(bpart nx a k n).met.Nodup∧(bpart nx a k n).words.length=(bpart nx a k n).met.length∧(bpart nx a k n).met.head? = some a :=
 Zik (fun s=>s.met.Nodup∧s.words.length=s.met.length∧s.met.head? = some a) (by simp) (fun s k _ t c _ _ ht=>ZfZ _ _ _ ht) hk hn
theorem Zdg (k:Nat):0<(bat nx a k).met.length:=by
 have:=(Za9 (nx:=nx) (a:=a) k).2.2;cases h:(bat nx a k).met with
 | nil=>rw[h] at this;simp at this
 | cons=>simp
theorem Zf0 (k:Nat):(bat nx a k).met.getD 0 a=a:=by
 have:=(Za9 (nx:=nx) (a:=a) k).2.2;cases h:(bat nx a k).met with
 | nil=>rw[h] at this;simp at this
 | cons=>rw[h] at this;simpa using this
theorem ZbF {Q:α→Prop} (h0:Q a) (hv:∀ x c,c<3→Q x→Q (nx x c)) (k:Nat):∀ x∈(bat nx a k).met,Q x:=by
 refine Zex (fun s=>∀ x∈s.met,Q x) (by simpa using h0) (fun s k hk t c hc hs ht => ?_) k;unfold bvisit
 split
 ·exact ht
 intro x hx;simp only[List.mem_append,List.mem_singleton] at hx;rcases hx with hx|rfl
 ·exact ht x hx
 refine hv _ c hc (hs _ ?_);rw[List.getD_eq_getElem?_getD,List.getElem?_eq_getElem hk];simp
theorem Zmg {Q:α→Prop} (h0:Q a) (hv:∀ x c,c<3→Q x→Q (nx x c)) {k n:Nat} (hk:k<(bat nx a k).met.length) (hn:n≤3):∀ x∈(bpart nx a k n).met,Q x:=by
 refine Zik (fun s=>∀ x∈s.met,Q x) (by simpa using h0) (fun s k hk t c hc hs ht => ?_) hk hn;unfold bvisit
 split
 ·exact ht
 intro x hx;simp only[List.mem_append,List.mem_singleton] at hx;rcases hx with hx|rfl
 ·exact ht x hx
 refine hv _ c hc (hs _ ?_);rw[List.getD_eq_getElem?_getD,List.getElem?_eq_getElem hk];simp
def Bs.le (s t:Bs α):Prop:=s.met <+: t.met∧s.words <+: t.words
omit [DecidableEq α] in
theorem Bs.le_refl (s:Bs α):s.le s:=⟨List.prefix_rfl,List.prefix_rfl⟩
omit [DecidableEq α] in
theorem Bs.le_trans {s t u:Bs α} (h:s.le t) (k:t.le u):s.le u:=⟨h.1.trans k.1,h.2.trans k.2⟩
theorem Zme (x:α) (wd:List Nat) (s:Bs α) (c:Nat):s.le (bvisit nx x wd s c):=by
 unfold bvisit
 split
 ·exact Bs.le_refl _
 exact⟨List.prefix_append _ _,List.prefix_append _ _⟩
theorem Zmf (x:α) (wd:List Nat) (s:Bs α) (n m:Nat) (h:n≤m):(brow nx x wd s n).le (brow nx x wd s m):=by
 induction m with
 | zero=>obtain rfl:n=0:=by omega
         exact Bs.le_refl _
 | succ m ih =>
  by_cases hn:n=m+1
  ·subst hn;exact Bs.le_refl _
  exact Bs.le_trans (ih (by omega)) (Zme _ _ _ _)
theorem Zbx {k n m:Nat} (h:n≤m):(bpart nx a k n).le (bpart nx a k m):=Zmf _ _ _ n m h
theorem Zi3 (k:Nat):(bat nx a k).le (bat nx a (k+1)):=by
 by_cases h:k<(bat nx a k).met.length
 ·rw[ZaH h];exact Zmf _ _ _ 0 3 (by omega)
 rw[Zbi (by omega)];exact Bs.le_refl _
theorem ZeK {k m:Nat} (h:k≤m):(bat nx a k).le (bat nx a m):=by
 induction m with
 | zero=>obtain rfl:k=0:=by omega
         exact Bs.le_refl _
 | succ m ih =>
  by_cases hn:k=m+1
  ·subst hn;exact Bs.le_refl _
  exact Bs.le_trans (ih (by omega)) (Zi3 _)
theorem ZaA {k n m:Nat} (hk:k<(bat nx a k).met.length) (hn:n≤3) (hm:k<m):(bpart nx a k n).le (bat nx a m):=by
 have h1:(bpart nx a k n).le (bat nx a (k+1)):=by rw[ZaH hk];exact Zbx hn
 exact Bs.le_trans h1 (ZeK hm)
theorem Zbj {k m:Nat} (h:(bat nx a k).met.length≤k) (hm:k≤m):bat nx a m=bat nx a k:=by
 induction m with
 | zero=>obtain rfl:k=0:=by omega
         rfl
 | succ m ih =>
  by_cases hn:k=m+1
  ·subst hn;rfl
  have e:=ih (by omega);rw[Zbi (by rw[e];omega),e]
def Zai (l:List α) (x:α):Nat:=l.idxOf x
theorem ZaK {l:List α} {x:α} (h:x∈l):Zai l x<l.length:=List.idxOf_lt_length_iff.2 h
omit [DecidableEq α] in
theorem Zay {l m:List α} (h:l <+: m) {k:Nat} (hk:k<l.length) (d:α):m.getD k d=l.getD k d:=by obtain⟨t,rfl⟩:=h;simp[List.getElem?_append_left hk]
theorem ZaR {l m:List α} (h:l <+: m) {x:α} (hx:x∈l):Zai m x=Zai l x:=by obtain⟨t,rfl⟩:=h;unfold Zai;rw[List.idxOf_append,if_pos hx]
theorem Ze6 {l m:List α} {x:α} (h:l++[x] <+: m) (hx:x ∉ l):Zai m x=l.length:=by rw[ZaR h (by simp)];unfold Zai;rw[List.idxOf_append,if_neg hx];simp
theorem ZdW {l:List α} {k:Nat} (hk:k<l.length) (hn:l.Nodup) (d:α):Zai l (l.getD k d)=k:=by unfold Zai;rw[List.getD_eq_getElem?_getD,List.getElem?_eq_getElem hk];simp[hn]
theorem Zhi {l:List α} {x:α} (hx:x∈l) (d:α):l.getD (Zai l x) d=x:=by unfold Zai;rw[List.getD_eq_getElem?_getD,List.getElem?_eq_getElem (List.idxOf_lt_length_iff.2 hx)];simp
theorem Zij {k n c:Nat} (hc:c<n):nx ((bat nx a k).met.getD k a) c∈(bpart nx a k n).met:=by
 have h1:nx ((bat nx a k).met.getD k a) c∈(bpart nx a k (c+1)).met:=by
  by_cases h:nx ((bat nx a k).met.getD k a) c∈(bpart nx a k c).met
  ·rw[Zbw h];exact h
  rw[Zbe h];simp
 exact(Zbx (nx:=nx) (a:=a) (k:=k) (show c+1≤n by omega)).1.subset h1
theorem Zdn {l m:List α} (hn:l.Nodup) (hs:∀ x∈l,x∈m):l.length≤m.length:=by
 induction l generalizing m with
 | nil=>simp
 | cons x l ih =>
  rw[List.nodup_cons] at hn;have h1:=ih (m:=m.erase x) hn.2 fun y hy=>(List.mem_erase_of_ne (fun e=>hn.1 (by rw[← e];exact hy))).2 (hs y (by simp[hy]))
  have h2:=List.length_erase_of_mem (hs x (by simp));have h3:=List.length_pos_of_mem (hs x (by simp));simp only[List.length_cons];omega
end
def Zbt {α:Type} [DecidableEq α] (nx:α→Nat→α) (a:α) (F:List α) (s:Int) (c:Nat):Int:=Zai F (nx (F.getD s.toNat a) c)
def ZaT (n:Nat):List Int:=(List.range n).map Int.ofNat
theorem Zir (n:Nat):ZaT (n+1)=ZaT n++[(n:Int)]:=by simp[ZaT,List.range_succ]
theorem Zb3 {n:Nat} {x:Nat}:(x:Int)∈ZaT n↔x<n:=by
 simp only[ZaT,List.mem_map,List.mem_range];constructor
 ·rintro⟨y,hy,e⟩;have e2:(y:Int)=(x:Int):=e;omega
 intro h;exact⟨x,h,rfl⟩
theorem Zfc {n k:Nat} (h:k<n):(ZaT n).getD k 0=(k:Int):=by simp[ZaT,h]
theorem Zb0 (n:Nat):(ZaT n).length=n:=by simp[ZaT]
theorem Zlc {α:Type} [DecidableEq α] (nx:α→Nat→α) (a:α) (K:Nat):∀ k,k≤K →
  bat (Zbt nx a (bat nx a K).met) 0 k=⟨ZaT (bat nx a k).met.length,(bat nx a k).words⟩
 | 0,_=>rfl
 | k+1,hK=>by
  have ih:=Zlc nx a K k (by omega);have hlen:(bat (Zbt nx a (bat nx a K).met) 0 k).met.length=(bat nx a k).met.length:=by rw[ih];exact Zb0 _
  by_cases h:k<(bat nx a k).met.length
  ·rw[ZaH h,ZaH (by rw[hlen];exact h)]
   have hrow:∀ n,n≤3→bpart (Zbt nx a (bat nx a K).met) 0 k n=⟨ZaT (bpart nx a k n).met.length,(bpart nx a k n).words⟩:=by
    intro n
    induction n with
    | zero=>intro _;rw[Zaq,Zaq];exact ih
    | succ n ihn =>
     intro hn;have e:=ihn (by omega);have hx:(bat (Zbt nx a (bat nx a K).met) 0 k).met.getD k 0=(k:Int):=by rw[ih];exact Zfc h
     have hF:(bat nx a K).met.getD k a=(bat nx a k).met.getD k a:=Zay (ZeK (show k≤K by omega)).1 h a;have hnx:Zbt nx a (bat nx a K).met (k:Int) n=(Zai (bat nx a K).met (nx ((bat nx a k).met.getD k a) n):Int):=by unfold Zbt;rw[show((k:Int).toNat)=k from rfl,hF]
     by_cases hm:nx ((bat nx a k).met.getD k a) n∈(bpart nx a k n).met
     ·rw[Zbw hm];have hi:=ZaR (ZaA (m:=K) h (show n≤3 by omega) (by omega)).1 hm;have hlt:Zai (bat nx a K).met (nx ((bat nx a k).met.getD k a) n)<(bpart nx a k n).met.length:=by rw[hi];exact ZaK hm
      rw[Zbw (by rw[hx,hnx,e];exact Zb3.2 hlt),e]
     have hb:=ZaA (nx:=nx) (a:=a) (m:=K) h hn (by omega);rw[Zbe hm] at hb;have hi:=Ze6 hb.1 hm;rw[Zbe (by rw[hx,hnx,e,hi];simp[Zb3]),Zbe hm,hx,hnx,hi,e,ih];simp[Zir]
   exact hrow 3 (by omega)
  rw[Zbi (k:=k) (a:=a) (by omega),Zbi (by rw[hlen];omega)];exact ih
end Go.Proofs.YtfikabecgaappaaGreat
namespace Go.Proofs.YtfikabecgaappaaGreat
open Go.RowKit
section
variable {α:Type} [DecidableEq α]
def numbered (l:List α):List (α × Value):=l.zipIdx.map fun p=>(p.1,Value.int .i64 (p.2:Int))
omit [DecidableEq α] in
theorem Zg4 (l:List α) (x:α):numbered (l++[x])=numbered l++[(x,Value.int .i64 (l.length:Int))]:=by simp[numbered,List.zipIdx_append]
omit [DecidableEq α] in
theorem ZcO (l:List α):(numbered l).map (·.1)=l:=by simp only[numbered,List.map_map];have:((fun x:α × Value=>x.1) ∘ fun p:α × Nat=>(p.1,Value.int .i64 (p.2:Int)))=Prod.fst:=rfl;rw[this,List.zipIdx_map_fst]
theorem Za6 {l:List α} (hn:l.Nodup) {x:α} (hx:x∈l):look x (numbered l)=some (.int .i64 (Zai l x:Int)):=by refine Zjp (by rw[ZcO];exact hn) (j:=Zai l x) ?_;have hlt:=List.idxOf_lt_length_iff.2 hx;unfold Zai;simp only[numbered,List.getElem?_map,List.getElem?_zipIdx,List.getElem?_eq_getElem hlt,Option.map_some,Nat.zero_add,List.getElem_idxOf]
theorem Zcg {l:List α} {x:α} (hx:x ∉ l):look x (numbered l)=none :=
 ZhV fun p hp e=>hx (by rw[← ZcO l,← e];exact List.mem_map.2 ⟨p,hp,rfl⟩)
theorem Zco {l:List α} {x:α} (hx:x ∉ l):upd x (.int .i64 (l.length:Int)) (numbered l)=numbered (l++[x]):=by rw[Zg4];exact Zi8 fun p hp e=>hx (by rw[← ZcO l,← e];exact List.mem_map.2 ⟨p,hp,rfl⟩)
end
end Go.Proofs.YtfikabecgaappaaGreat
namespace Go.Proofs.YtfikabecgaappaaGreat
open Go.RowKit
theorem memD {α:Type} {xs:List α} {k:Nat} {d:α} (h:k<xs.length):xs.getD k d∈xs:=by rw[List.getD_eq_getElem?_getD,List.getElem?_eq_getElem h];simp
theorem Za1 {α:Type} {xs:List α} {k:Nat} {d:α} (h:k<xs.length):xs.getD k d=xs[k]:=by simp[h]
def dnx (d:DfaD) (s:Int) (c:Nat):Int:=(d.next.getD s.toNat []).getD c 0
def den (d:DfaD) (s:Int):Bool:=d.ends.getD s.toNat false
def Zhl {α:Type} (en:α→Bool) (s:Bs α):Option (List Nat):=((s.met.zip s.words).find? fun p=>en p.1).map (·.2)
def fine (d:DfaD):Prop:=1≤d.next.length∧d.next.length≤100000∧d.ends.length=d.next.length∧∀ i,i<d.next.length→(d.next.getD i []).length=3∧∀ c,c<3→0≤(d.next.getD i []).getD c 0∧(d.next.getD i []).getD c 0<d.next.length
section
variable {α:Type} [DecidableEq α] {nx nx':α→Nat→α} {a:α}
theorem ZgF {x:α} {wd:List Nat} {s:Bs α} (h:∀ c,c<3→nx x c=nx' x c):∀ n,n≤3→brow nx x wd s n=brow nx' x wd s n
 | 0,_=>rfl
 | n+1,hn=>by show bvisit nx x wd (brow nx x wd s n) n=bvisit nx' x wd (brow nx' x wd s n) n;rw[ZgF h n (by omega)];unfold bvisit;rw[h n (by omega)]
theorem Zf1 {Q:α→Prop} (h0:Q a) (hv:∀ x c,c<3→Q x→Q (nx x c)) (he:∀ x c,c<3→Q x→nx x c=nx' x c):∀ k,bat nx a k=bat nx' a k
 | 0=>rfl
 | k+1=>by
  have ih:=Zf1 h0 hv he k;by_cases h:k<(bat nx a k).met.length
  ·rw[ZaH h,ZaH (by rw[← ih];exact h)];unfold bpart;rw[← ih];exact ZgF (fun c hc=>he _ c hc (ZbF h0 hv k _ (memD h))) 3 (by omega)
  rw[Zbi (by omega),Zbi (by rw[← ih];omega),ih]
theorem Zdq {K:Nat} (hK:(bat nx a K).met.length≤K) {x:α} (hx:x∈(bat nx a K).met) {c:Nat} (hc:c<3):nx x c∈(bat nx a K).met:=by
 obtain⟨k,hk,rfl⟩:=List.mem_iff_getElem.1 hx
 have hkk:k<(bat nx a k).met.length:=by
  by_cases h:k<(bat nx a k).met.length
  ·exact h
  have:=Zbj (nx:=nx) (a:=a) (k:=k) (m:=K) (by omega) (by omega);rw[this] at hk;omega
 have e:(bat nx a K).met[k]=(bat nx a k).met.getD k a:=by rw[← Zay (ZeK (nx:=nx) (a:=a) (show k≤K by omega)).1 hkk a,Za1 hk]
 rw[e];exact(ZaA (nx:=nx) (a:=a) hkk (Nat.le_refl 3) (show k<K by omega)).1.subset (Zij hc)
theorem ZjM:∀ k:Nat,∀ wd∈(bat nx a k).words,wd.length≤k
 | 0,wd,h=>by simp[bat] at h;simp[h]
 | k+1,wd,h=>by
  have ih:=ZjM k;by_cases hk:k<(bat nx a k).met.length
  ·rw[ZaH hk] at h;have hg:=(Za9 (nx:=nx) (a:=a) k).2.1;refine Ze9 (fun t=>∀ wd∈t.words,wd.length≤k+1) (fun wd h=>Nat.le_succ_of_le (ih wd h)) (fun t c _ ht => ?_) 3 (Nat.le_refl 3) wd h;unfold bvisit
   split
   ·exact ht
   intro v hv;simp only[List.mem_append,List.mem_singleton] at hv;rcases hv with hv|rfl
   ·exact ht v hv
   have:=ih _ (memD (d:=[]) (show k<(bat nx a k).words.length by omega));simpa using this
  rw[Zbi (by omega)] at h;exact Nat.le_succ_of_le (ih wd h)
theorem Zhz (K:Nat):a∈(bat nx a K).met:=by
 have h:=memD (d:=a) (Zdg (nx:=nx) (a:=a) K)
 rwa [Zf0] at h
def Zad (nx:α→Nat→α) (F:List α) (x:α):List Int:=(List.range 3).map fun c=>(Zai F (nx x c):Int)
def Zap (nx:α→Nat→α) (en:α→Bool) (F:List α):DfaD:=⟨F.map (Zad nx F),F.map en⟩
theorem ZaL (nx:α→Nat→α) (en:α→Bool) (F:List α):(Zap nx en F).next.length=F.length:=by simp[Zap]
theorem Zem {en:α→Bool} {F:List α} {i:Nat} (hi:i<F.length):(Zap nx en F).next.getD i []=Zad nx F (F.getD i a):=by simp[Zap,List.getElem?_eq_getElem hi]
theorem Zfs {F:List α} {x:α} {c:Nat} (hc:c<3):(Zad nx F x).getD c 0=(Zai F (nx x c):Int):=by simp[Zad,hc]
theorem ZiZ {en:α→Bool} {F:List α} {s:Int} {c:Nat} (h0:0≤s) (h1:s<F.length) (hc:c<3):dnx (Zap nx en F) s c=Zbt nx a F s c:=by unfold dnx Zbt;rw[Zem (a:=a) (by omega),Zfs hc]
theorem Zi0 {en:α→Bool} {F:List α} {i:Nat} (hi:i<F.length):den (Zap nx en F) (i:Int)=en F[i]:=by simp[den,Zap,hi]
theorem Ze7 {en:α→Bool} {K:Nat} (hK:(bat nx a K).met.length≤K) (hK2:K≤100000):fine (Zap nx en (bat nx a K).met):=by
 refine⟨?_,?_,?_,fun i hi => ?_⟩
 ·rw[ZaL];exact Zdg K
 ·rw[ZaL];omega
 ·simp[Zap]
 rw[ZaL] at hi;rw[Zem (a:=a) hi];refine⟨by simp[Zad],fun c hc => ?_⟩;rw[Zfs hc,ZaL];exact⟨by omega,by exact_mod_cast ZaK (Zdq hK (memD hi) hc)⟩
end
theorem Zjz {w:World} {v1:Value} {next:List (List Int)} {ends:List Bool} (h:IntSS 0 w v1 next) (hd:Zae next ends=true) {i c:Nat} (hi:i<next.length) (hc:c<3) :
  ∃ q o cap z t s,v1 = .slice (some ⟨q,o,none⟩) next.length cap∧next.length≤cap∧cap≤9223372036854775807∧w.cell? ⟨q,o+i,none⟩=some (.slice (some ⟨z,t,none⟩) 3 s)∧3≤s∧s≤9223372036854775807 ∧
   w.cell? ⟨z,t+c,none⟩=some (.int .i64 ((next.getD i []).getD c 0))∧q<w.heap.size∧z<w.heap.size:=by
 obtain⟨a,cap,rfl,h1,h2,h3⟩:=h.form;obtain⟨q,o,rfl,_,hq,hr⟩:=h3 (by omega);obtain⟨a',s,e1,e2,e3,e4⟩:=hr i hi;obtain⟨hl,_⟩:=ZaD hd hi;rw[hl] at e1 e2 e4;obtain⟨z,t,rfl,_,hz,e5⟩:=e4 (by omega);exact⟨q,o,cap,z,t,s,rfl,h1,h2,e1,e2,e3,e5 c hc,hq,hz⟩
theorem Zd9 {w:World} {v1:Value} {xs:List Bool} (h:Bools 0 w v1 xs) {i:Nat} (hi:i<xs.length) :
  ∃ q o cap,v1 = .slice (some ⟨q,o,none⟩) xs.length cap∧xs.length≤cap∧cap≤9223372036854775807∧w.cell? ⟨q,o+i,none⟩=some (.bool (xs.getD i false))∧q<w.heap.size:=by
 obtain⟨a,cap,rfl,h1,h2,h3⟩:=h.form;obtain⟨q,o,rfl,_,hq,hr⟩:=h3 (by omega);exact⟨q,o,cap,rfl,h1,h2,hr i hi,hq⟩
theorem Zb5 {a b:DfaD} {p:Int × Int} (h:ZbV a b p=true):∃ i j:Nat,p=((i:Int),(j:Int))∧i<a.next.length∧j<b.next.length:=by unfold ZbV at h;rw[Bool.and_eq_true] at h;obtain⟨x,y⟩:=p;obtain⟨h1,h2⟩:=ZdU h.1;obtain⟨h3,h4⟩:=ZdU h.2;simp only at h1 h2 h3 h4;obtain⟨i,rfl⟩:=Int.eq_ofNat_of_zero_le h1;obtain⟨j,rfl⟩:=Int.eq_ofNat_of_zero_le h3;exact⟨i,j,rfl,by omega,by omega⟩
def DfaAt (w:World) (b:Nat) (d:DfaD):Prop:=∃ v1 v2,Bx w b #[v1,v2] 37 ∧ IntSS 0 w v1 d.next∧Bools 0 w v2 d.ends
theorem DfaAt.below {w w':World} {b:Nat} {d:DfaD} (h:DfaAt w b d) (hb:Below w.heap.size w w'):DfaAt w' b d:=by obtain⟨v1,v2,h1,h2,h3⟩:=h;exact⟨v1,v2,h1.below hb h1.lt,h2.below hb,h3.below hb⟩
theorem ZhL (a b:DfaD) (x:Int × Int) (c ba bb:Nat) (w:World) (hda:Zae a.next a.ends=true) (hdb:Zae b.next b.ends=true) (h1:DfaAt w ba a) (h2:DfaAt w bb b) (hx:ZbV a b x=true) (hc:c<3) :
  Calls Tryz.prog 189 #[.agg #[.int .i64 x.1,.int .i64 x.2],.int .i64 c,.pointer (some ⟨ba,0,none⟩),.pointer (some ⟨bb,0,none⟩)] w fun e w'=>e = .returned (.agg #[.int .i64 (Zav a b x c).1,.int .i64 (Zav a b x c).2])∧Below w.heap.size w w':=by
 obtain⟨i,j,rfl,hi,hj⟩:=Zb5 hx;obtain⟨u1,u2,hB1,g1,-⟩:=h1;obtain⟨u3,u4,hB2,g2,-⟩:=h2;obtain⟨q1,o1,c1,z1,t1,s1,rfl,hc1,hm1,e1,l1,m1,e2,d1,d2⟩:=Zjz g1 hda hi hc;obtain⟨q2,o2,c2,z2,t2,s2,rfl,hc2,hm2,e3,l2,m2,e4,d3,d4⟩:=Zjz g2 hdb hj hc;obtain⟨ta,hta⟩:=eI ((Zav a b ((i:Int),(j:Int)) c).1);obtain⟨tb,htb⟩:=eI ((Zav a b ((i:Int),(j:Int)) c).2);have e2':w.cell? ⟨z1,t1+c,none⟩=some (.int .i64 ta):=by rw[hta];exact e2
 have e4':w.cell? ⟨z2,t2+c,none⟩=some (.int .i64 tb):=by rw[htb];exact e4
 rw[← hta,← htb];have hla:=Zac hda;have hlb:=Zac hdb;have ca:=hB1.cell 0;have cb:=hB2.cell 0;simp only[List.getElem?_toArray,List.getElem?_cons_zero] at ca cb;have d5:=hB1.lt;have d6:=hB2.lt;have hci:(c:Int)<3:=by omega
 have hii:(i:Int)<a.next.length:=by omega
 have hjj:(j:Int)<b.next.length:=by omega
 clear g1 g2 hB1 hB2 hta htb e2 e4 hx hda hdb;obtain⟨h41,h42,-⟩:=hla;obtain⟨h43,h44,-⟩:=hlb
 go_enter Tryz.func189, Tryz.ntmps189
 go_wp2
 go_region_held3 (fun w'=>w'.cell? ⟨w.heap.size,0,none⟩=some (.int .i64 i)∧w'.cell? ⟨w.heap.size,1,none⟩=some (.int .i64 j)∧w'.cell? ⟨ba,0,none⟩=some (.slice (some ⟨q1,o1,none⟩) a.next.length c1)∧w'.cell? ⟨bb,0,none⟩=some (.slice (some ⟨q2,o2,none⟩) b.next.length c2)∧w'.cell? ⟨q1,o1+i,none⟩=some (.slice (some ⟨z1,t1,none⟩) 3 s1)∧w'.cell? ⟨q2,o2+j,none⟩=some (.slice (some ⟨z2,t2,none⟩) 3 s2)∧w'.cell? ⟨z1,t1+c,none⟩=some (.int .i64 ta)∧w'.cell? ⟨z2,t2+c,none⟩=some (.int .i64 tb))
  (first|go_keep) (fail)
 go_wp2;refine bodyPost_ret (v:=.agg #[.int .i64 ta,.int .i64 tb]) (by simp[results,Tryz.results189,go_sem]) rfl ⟨rfl,?_⟩;exact(((Below.refl _ _).alloc (Nat.le_refl _) _).alloc (by simp) _).drew
def ZbP (f:Bool→Bool→Bool) (a b:DfaD) (p:Int × Int):Bool:=f (a.ends.getD p.1.toNat false) (b.ends.getD p.2.toNat false)
end Go.Proofs.YtfikabecgaappaaGreat
