/-
  The walks over the two checks of an automaton without choices: the program's and the reference's.
  Conditions: the argument reads as lists.
  Small laws for regions that draw their order and only read.
  No condition: this text speaks of no program.
  The walk over the reference's search for a pair in a list.
  Conditions: the list of pairs reads as a list.
  The walk over the program's check of an automaton without choices, and the walk over the reference's search for a pair in a list.
  Conditions: the argument reads as an automaton; a list of pairs reads as a list.
-/
import Derived.Test.YtfgpkadhegdffaaGreatPc01KeysS
set_option maxHeartbeats 1600000
set_option maxRecDepth 100000
namespace Go.Proofs.YtfgpkadhegdffaaGreat
open Go.RowKit
def inB (x lo hi:Int):Bool:=decide (lo≤x)&&decide (x≤hi)
theorem ZbZ (x lo hi:Int) (w:World) (r:Bool) (hr:inB x lo hi=r) :
  Calls Tryz.prog 44 #[.int .i64 x,.int .i64 lo,.int .i64 hi] w fun e w'=>e = .returned (.bool r)∧w=w':=by
 subst hr;unfold inB
 go_enter Tryz.func44,Tryz.ntmps44
 go_wp2
 all_goals (go_ret;exact⟨by simp[*]<;>omega,rfl⟩)
theorem Zbl (x lo hi:Int) (w:World) (r:Bool) (hr:inB x lo hi=r) :
  Calls Tryz.prog 62 #[.int .i64 x,.int .i64 lo,.int .i64 hi] w fun e w'=>e = .returned (.bool r)∧w=w':=by
 subst hr;unfold inB
 go_enter Tryz.func62,Tryz.ntmps62
 go_wp2
 all_goals (go_ret;exact⟨by simp[*]<;>omega,rfl⟩)
def Zdd (n:Int) (row:List Int):Bool:=decide (row.length=3)&&row.all fun t=>inB t 0 (n-1)
def Zae (next:List (List Int)) (ends:List Bool):Bool :=
 next.all (Zdd next.length)&&inB next.length 1 40&&decide (ends.length=next.length)
theorem Zej {next:List (List Int)} {ends:List Bool} {k:Nat} (hk:k<next.length) (h:Zdd next.length (next.getD k [])=false):Zae next ends=false:=by
 unfold Zae;have:next.all (Zdd next.length)=false:=by rw[List.all_eq_false];refine⟨next[k],List.getElem_mem hk,?_⟩;simpa [hk] using h
 simp[this]
theorem Ziq {n:Int} {row:List Int} (h:row.length≠3):Zdd n row=false:=by simp[Zdd,h]
theorem Zlv {n:Int} {row:List Int} {c:Nat} (hc:c<row.length) (h:inB (row.getD c 0) 0 (n-1)=false):Zdd n row=false:=by
 unfold Zdd;have:(row.all fun t=>inB t 0 (n-1))=false:=by rw[List.all_eq_false];refine⟨row[c],List.getElem_mem hc,?_⟩;simpa [hc] using h
 simp[this]
theorem Zid {α:Type} {p:α→Bool} {l:List α} {k:Nat} {d:α} (hk:k<l.length) (h:(l.take k).all p=true) (hp:p (l.getD k d)=true):(l.take (k+1)).all p=true:=by rw[List.take_succ_eq_append_getElem hk,List.all_append,h];simpa [hk] using hp
theorem Zb9 (next:List (List Int)) (ends:List Bool) (v1 v2:Value) (w:World) (h1:IntSS 0 w v1 next) (h2:Bools 0 w v2 ends) (r:Bool) (hr:Zae next ends=r) :
  Calls Tryz.prog 86 #[.agg #[v1,v2]] w fun e w'=>e = .returned (.bool r)∧Below w.heap.size w w':=by
 obtain⟨a1,c1,rfl,hc1,hm1,hr1⟩:=h1.form;obtain⟨a2,c2,rfl,hc2,hm2,hr2⟩:=h2.form;have Hr:=qh hr;clear h1 h2 hr
 go_enter Tryz.func86,Tryz.ntmps86
 go_wp2
 go_loopw [2,3,4] (fun r i j wr=>∃ k:Nat,k≤next.length∧i = .int .i64 k∧(next.take k).all (Zdd next.length)=true∧Below (w.heap.size+1) (w.alloc (.cells #[.slice a1 next.length c1,.slice a2 ends.length c2] 25)) wr)
  (fun _ i _ _=>next.length-(intOf i).toNat)
 case atStart=>exact⟨0,Nat.zero_le _,rfl,rfl,Below.refl _ _⟩
 case round =>
  obtain⟨k,hk,rfl,hall,hb⟩:=hrel;have hend:Below w.heap.size w wr:=((Below.refl _ _).alloc (Nat.le_refl _) _).trans (hb.mono (by omega));have Hend:=qh hend;clear hend;have hx0:=Zh8 hb 0;have hx3:=Zh8 hb 1;simp only[List.getElem?_toArray,List.getElem?_cons_zero,List.getElem?_cons_succ] at hx0 hx3;by_cases hlt:k<next.length
  ·obtain⟨b,off,rfl,hB,hbl,hcs⟩:=hr1 (by omega);obtain⟨row,hrw⟩:=eI (next.getD k []);have hcsk:=hcs k hlt;rw[← hrw] at hcsk;have Hrw:=qh hrw;clear hrw hcs hr1 hr2;obtain⟨a',cap',hcell,hcc,hcm,hrow⟩:=hcsk;have hx1:=(ZjK hb b (off+k) hbl).trans hcell;have hbx:=ZoE hb;replace hall:=qh hall;by_cases hlen:row.length=3
   ·have Hlen:=qh hlen;have hl3:((row.length:Int) != 3)=false:=by rw[hlen];rfl
    obtain⟨b',off',rfl,hB',hbl',hcs'⟩:=hrow (by omega);clear hlen hx3;go_wp2
    go_loopw [2,4] (fun r j wi=>∃ c:Nat,c≤3∧j = .int .i64 c∧(row.take c).all (fun t=>inB t 0 ((next.length:Int)-1))=true∧Below (w.heap.size+1) (w.alloc (.cells #[.slice (some ⟨b,off,none⟩) next.length c1,.slice a2 ends.length c2] 25)) wi)
     (fun _ j _=>3-(intOf j).toNat)
    case atStart=>exact⟨0,by omega,rfl,rfl,hb⟩
    case round =>
     obtain⟨c,hc,rfl,hall',hbi⟩:=hrel;have Hall':=qh hall';clear hall';have Hbi:=qh hbi;by_cases hc3:c<3
     ·have hx0:=Zh8 hbi 0;have hx1:=(ZjK hbi b (off+k) hbl).trans hcell;have hx2:=(ZjK hbi b' (off'+c) hbl').trans (hcs' c (by have:=Hlen.out;omega));simp only[List.getElem?_toArray,List.getElem?_cons_zero] at hx0;obtain⟨t,ht⟩:=eI (row.getD c 0);rw[← ht] at hx2;have Ht:=qh ht;clear ht hbi;have hr3:(c:Int)<row.length:=by have:=Hlen.out;omega
      have hwn:IntKind.i64.wrap ((next.length:Int)-1)=(next.length:Int)-1:=IntWalk.i64_in _ (by omega);clear hcs';cases hin:inB t 0 ((next.length:Int)-1)
      all_goals
       have Hin:=qh hin;clear hin;go_wp2
       go_region_held3 (fun w'=>w'.cell? ⟨w.heap.size,0,none⟩=some (.slice (some ⟨b,off,none⟩) next.length c1)∧w'.cell? ⟨b,off+k,none⟩=some (.slice (some ⟨b',off',none⟩) row.length cap')∧w'.cell? ⟨b',off'+c,none⟩=some (.int .i64 t))
        (go_keep)
        (first|(go_at_call 44;refine(ZbZ _ _ _ _ _ Hin.out).mono ?_;rintro e w' ⟨rfl,rfl⟩))
       go_wp2
      ·go_ret;have hfin:Zae next ends=false:=Zej hlt (by rw[← Hrw.out];exact Zlv (c:=c) (by have:=Hlen.out;omega) (by rw[← Ht.out];exact Hin.out));exact⟨by rw[← Hr.out,hfin];rfl,(((Below.refl _ _).alloc (Nat.le_refl _) _).trans (Hbi.out.mono (by omega))).drew⟩
      go_roundw
      case rel=>exact⟨c+1,by omega,by go_num,Zid (d:=0) (by have:=Hlen.out;omega) Hall'.out (by rw[← Ht.out];exact Hin.out),Hbi.out.drew⟩
      case measure=>simp[intOf];omega
     obtain rfl:c=3:=by omega
     clear hbi hcs';go_wp2;go_roundw
     case rel =>
      have hok:Zdd next.length (next.getD k [])=true:=by rw[← Hrw.out];unfold Zdd;have h3:=Hall'.out;rw[List.take_of_length_le (by have:=Hlen.out;omega)] at h3;simp[Hlen.out,h3]
      exact⟨k+1,by omega,by go_num,Zid (d:=[]) hlt hall.out hok,Hbi.out⟩
     case measure=>simp[intOf];omega
   have hl3:((row.length:Int) != 3)=true:=by rw[bne_iff_ne];omega
   go_wp2;go_ret;have hfin:Zae next ends=false:=Zej hlt (by rw[← Hrw.out];exact Ziq hlen);exact⟨by rw[← Hr.out,hfin];rfl,Hend.out⟩
  have hfin:Zae next ends=(inB next.length 1 40&&decide (ends.length=next.length)):=by have h3:=hall;rw[List.take_of_length_le (by omega)] at h3;simp[Zae,h3]
  have Hfin:=qh hfin;clear hfin hall hr1 hr2;cases hin:inB next.length 1 40
  ·have Hin:=qh hin;clear hin;go_wp2_with (go_at_call 44;refine(ZbZ _ _ _ _ _ Hin.out).mono ?_;rintro e w' ⟨rfl,rfl⟩);go_ret;exact⟨by rw[← Hr.out,Hfin.out,Hin.out];rfl,Hend.out⟩
  have Hin:=qh hin;clear hin;go_wp2_with (go_at_call 44;refine(ZbZ _ _ _ _ _ Hin.out).mono ?_;rintro e w' ⟨rfl,rfl⟩);go_ret;refine⟨?_,Hend.out⟩;rw[← Hr.out,Hfin.out,Hin.out];exact Zdz (by rw[ZmF];rfl)
end Go.Proofs.YtfgpkadhegdffaaGreat
namespace Go.Proofs.YtfgpkadhegdffaaGreat
open Go.RowKit
theorem Zfr {P:Program} {f:FuncId} {args:Array Value} {w:World} {n:Nat} {v:Value}
  (h:Calls P f args (w.drewN n) fun e w'=>e = .returned v∧w.drewN n=w'):Calls P f args (w.drewN n) fun e w''=>e = .returned v∧∃ m,w''=w.drewN m :=
 h.mono fun _ _ ⟨he,hm⟩=>⟨he,n,hm.symm⟩
end Go.Proofs.YtfgpkadhegdffaaGreat
namespace Go.Proofs.YtfgpkadhegdffaaGreat
open Go.RowKit
theorem Zcz {α:Type} {l:List α} {k:Nat} {d:α} (hk:k<l.length):l.getD k d∈l:=by simp[hk]
theorem Zmq {P:Program} {ti:TypeId} {fs:List Field} (d:Nat) (x1 x2 y1 y2:Int) (w:World) (hi:P.underlying ti=some (.int .i64))
  (hf : fs.map (fun f => (f.name == "_", f.type, f.offset)) = [(false, ti, 0), (false, ti, 1)]) :
  (Op.eqFields (d+1) #[.int .i64 x1,.int .i64 x2] #[.int .i64 y1,.int .i64 y2] fs).run P w = .ok (x1==y1&&x2==y2) w:=by
 obtain⟨f,g,rfl⟩:∃ f g,fs=[f,g]:=by
  have hl:fs.length=2:=by simpa using congrArg List.length hf
  match fs with
  | []=>simp at hl
  | [_]=>simp at hl
  | [f,g]=>exact⟨f,g,rfl⟩
  | _::_::_::_=>simp at hl
 simp only[List.map_cons,List.map_nil,List.cons.injEq,Prod.mk.injEq,and_true] at hf
 obtain⟨⟨f1,f2,f3⟩,g1,g2,g3⟩:=hf
 have f1' : f.name ≠ "_" := by simpa using f1
 have g1' : g.name ≠ "_" := by simpa using g1
 simp only[Op.eqFields,f1',g1',f2,f3,g2,g3,ne_eq,not_false_eq_true,if_true]
 cases h1:x1==y1<;>cases h2:x2==y2<;>simp[go_sem,hi,h1,h2,part,isAgg,run_underlying hi]
end Go.Proofs.YtfgpkadhegdffaaGreat
namespace Go.Proofs.YtfgpkadhegdffaaGreat
open Go.RowKit
def badT (n t:Int):Bool:=!inB t 0 (n-1)
def ZcB {α:Type} (p:α→Bool) (xs:List α):Int:=if xs.any p then(xs.findIdx p:Int) else -1
theorem Ze4 {α:Type} {p:α→Bool} {xs:List α} {k:Nat} {d:α} (hk:k<xs.length) (h:(xs.take k).any p=false) (hp:p (xs.getD k d)=true):ZcB p xs=k:=by
 have hp':p xs[k]=true:=by simpa [hk] using hp
 have h1:xs.any p=true:=List.any_eq_true.2 ⟨xs[k],List.getElem_mem hk,hp'⟩;unfold ZcB;rw[if_pos h1];have:xs.findIdx p=k:=by rw[List.findIdx_eq hk];refine⟨hp',fun j hj => ?_⟩;rw[List.any_eq_false] at h;have:=h xs[j] (by rw[List.mem_take_iff_getElem];exact⟨j,by omega,rfl⟩);simpa using this
 rw[this]
theorem Zeg {α:Type} {p:α→Bool} {xs:List α} {k:Nat} (hk:xs.length≤k) (h:(xs.take k).any p=false):ZcB p xs = -1:=by rw[List.take_of_length_le hk] at h;unfold ZcB;rw[h];rfl
theorem Ze5 {α:Type} (p:α→Bool) (xs:List α):decide (0≤ZcB p xs)=xs.any p:=by unfold ZcB;cases h:xs.any p<;>simp
theorem Zkx {α:Type} {p:α→Bool} {l:List α} {k:Nat} {d:α} (hk:k<l.length) (h:(l.take k).any p=false) (hp:p (l.getD k d)=false):(l.take (k+1)).any p=false:=by rw[List.take_succ_eq_append_getElem hk,List.any_append,h];simpa [hk] using hp
theorem Zei (x n:Int) (b:Nat) (w:World) (hn:0≤n∧n≤9223372036854775807) (hc:w.cell? ⟨b,0,none⟩=some (.int .i64 n)) (r:Bool) (hr:badT n x=r) :
  Calls Tryz.prog 61 #[.int .i64 x,.pointer (some ⟨b,0,none⟩)] w fun e w'=>e = .returned (.bool r)∧w=w':=by
 subst hr;obtain⟨h1,h2⟩:=hn
 go_enter Tryz.func61, Tryz.ntmps61
 go_wp2_with (go_at_call 62;refine(Zbl _ _ _ _ _ rfl).mono ?_;rintro e w' ⟨rfl,rfl⟩);go_ret;exact⟨rfl,rfl⟩
theorem Zga (xs:List Int) (v:Value) (n:Int) (b:Nat) (w:World) (hn:0≤n∧n≤9223372036854775807) (hc:w.cell? ⟨b,0,none⟩=some (.int .i64 n)) (h1:Ints 0 w v xs) :
  Calls Tryz.prog 102 #[v,.func (.func 61) #[] #[.pointer (some ⟨b,0,none⟩)]] w fun e w'=>e = .returned (.int .i64 (ZcB (badT n) xs))∧w=w':=by
 obtain⟨a1,c1,rfl,hc1,hm1,hr1⟩:=h1.form;clear h1
 go_enter Tryz.func102, Tryz.ntmps102
 go_wp2
 go_loop [4,8] (fun r i=>∃ k:Nat,k≤xs.length∧i = .int .i64 k∧(xs.take k).any (badT n)=false) (fun _ i=>xs.length-(intOf i).toNat)
 case atStart=>exact⟨0,Nat.zero_le _,rfl,rfl⟩
 case round =>
  obtain⟨k,hk,rfl,htk⟩:=hrel;replace htk:=qh htk;by_cases hlt:k<xs.length
  ·obtain⟨b1,o1,rfl,hB1,hbl1,hcs1⟩:=hr1 (by omega);have hx1:=hcs1 k hlt;obtain⟨x,hxx⟩:=eI (xs.getD k 0);rw[← hxx] at hx1;have Hhxx:=qh hxx;clear hxx;clear hcs1 hr1;cases hb:badT n x
   ·replace hb:=qh hb;go_wp2_with (go_at_call 61;refine(Zei x n b _ hn hc _ hb.out).mono ?_;rintro e w' ⟨rfl,rfl⟩)
    go_round
    case rel=>exact⟨k+1,by omega,by go_num,Zkx (d:=0) hlt htk.out (by rw[← Hhxx.out];exact hb.out)⟩
    case measure=>simp[intOf];omega
   replace hb:=qh hb;go_wp2_with (go_at_call 61;refine(Zei x n b _ hn hc _ hb.out).mono ?_;rintro e w' ⟨rfl,rfl⟩);go_ret;exact⟨Zey (by rw[Ze4 (d:=0) hlt htk.out (by rw[← Hhxx.out];exact hb.out)]),rfl⟩
  clear hr1;go_wp2;go_ret;exact⟨Zey (by rw[Zeg (by omega) htk.out]),rfl⟩
theorem ZcD (xs:List Int) (v:Value) (n:Int) (b:Nat) (w:World) (hn:0≤n∧n≤9223372036854775807) (hc:w.cell? ⟨b,0,none⟩=some (.int .i64 n)) (h1:Ints 0 w v xs) (r:Bool) (hr:xs.any (badT n)=r) :
  Calls Tryz.prog 60 #[v,.func (.func 61) #[] #[.pointer (some ⟨b,0,none⟩)]] w fun e w'=>e = .returned (.bool r)∧w=w':=by
 obtain⟨a1,c1,hv,-⟩:=h1.form;have H1:=qh h1;subst hv;clear h1;replace hr:=qh hr
 go_enter Tryz.func60, Tryz.ntmps60
 go_wp2_with (go_at_call 102;refine(Zga xs _ n b _ hn hc H1.out).mono ?_;rintro e w' ⟨rfl,rfl⟩);go_ret;exact⟨Zdz (by rw[← hr.out,Ze5]),rfl⟩
theorem Zlw {n:Int} {row:List Int} (h:row.any (badT n)=true):Zdd n row=false:=by
 unfold Zdd;have:(row.all fun t=>inB t 0 (n-1))=false:=by rw[List.any_eq_true] at h;obtain⟨x,hx,hp⟩:=h;rw[List.all_eq_false];exact⟨x,hx,by simpa [badT] using hp⟩
 simp[this]
theorem Zlu {n:Int} {row:List Int} (hl:row.length=3) (h:row.any (badT n)=false):Zdd n row=true:=by unfold Zdd;rw[List.any_eq_false] at h;simp only[hl,decide_true,Bool.true_and,List.all_eq_true];intro x hx;have:=h x hx;simpa [badT] using this
theorem Zc9 (d:DfaD) (v:Value) (w:World) (h:DfaR 0 w v d) (r:Bool) (hr:Zae d.next d.ends=r) :
  Calls Tryz.prog 26 #[v] w fun e w'=>e = .returned (.bool r)∧Below w.heap.size w w':=by
 obtain⟨next,ends⟩:=d;obtain⟨v1,v2,rfl,h1,h2⟩:=h;simp only at h1 h2 hr;obtain⟨a1,c1,rfl,hc1,hm1,hr1⟩:=h1.formI;obtain⟨a2,c2,rfl,hc2,hm2,hr2⟩:=h2.form;have Hr:=qh hr;clear h1 h2 hr hr2
 go_enter Tryz.func26, Tryz.ntmps26
 go_wp2
 go_loopw [2,12] (fun r i wr=>∃ k:Nat,k≤next.length∧i = .int .i64 k∧(next.take k).all (Zdd next.length)=true∧Below (w.heap.size+2) ((w.alloc (.cells #[.slice a1 next.length c1,.slice a2 ends.length c2] 25)).alloc (.cells #[.int .i64 next.length] 3)) wr)
  (fun _ i _=>next.length-(intOf i).toNat)
 case atStart=>exact⟨0,Nat.zero_le _,rfl,rfl,Below.refl _ _⟩
 case round =>
  obtain⟨k,hk,rfl,hall,hb⟩:=hrel;have hend:Below w.heap.size w wr:=(((Below.refl _ _).alloc (Nat.le_refl _) _).alloc (by simp) _).trans (hb.mono (by omega));have x0:=((Bx.new w _ _).alloc _).below hb (by omega);have x1:=(Bx.new (w.alloc _) _ _).below hb (by simp);have hx0:=x0.cell 0;have hx2:=x0.cell 1;have hx1:=x1.cell 0;simp only[List.getElem?_toArray,List.getElem?_cons_zero,List.getElem?_cons_succ,World.size_alloc] at hx0 hx1 hx2;have Hend:=qh hend;clear hend x0 x1;by_cases hlt:k<next.length
  ·obtain⟨b,off,rfl,hB,hbl,hcs⟩:=hr1 (by omega);obtain⟨row,hrw⟩:=eI (next.getD k []);have hcsk:=hcs k hlt;rw[← hrw] at hcsk;replace hrw:=qh hrw;obtain⟨a',cap',hcell,hcc,hcm,hrow⟩:=hcsk;have hx3:=(bcell Hend.out b (off+k) hbl).trans hcell;have Hrow:=qh (hrow.below Hend.out);replace hall:=qh hall;have Hhb:=qh hb;clear hb;clear hcs hr1 hcell hrow;by_cases hlen:row.length=3
   ·have hl3:((row.length:Int) != 3)=false:=by rw[hlen];rfl
    have Hhlen:=qh hlen;clear hlen;cases hany:row.any (badT next.length)
    ·have Hhany:=qh hany;clear hany;go_wp2_with (go_at_call 60;refine(ZcD row _ next.length _ _ (by omega) hx1 Hrow.out _ Hhany.out).mono ?_;rintro e w' ⟨rfl,rfl⟩);go_roundw
     case rel=>exact⟨k+1,by omega,by go_num,Zid (d:=[]) hlt hall.out (by rw[← hrw.out];exact Zlu Hhlen.out Hhany.out),Hhb.out⟩
     case measure=>simp[intOf];omega
    have Hhany:=qh hany;clear hany;go_wp2_with (go_at_call 60;refine(ZcD row _ next.length _ _ (by omega) hx1 Hrow.out _ Hhany.out).mono ?_;rintro e w' ⟨rfl,rfl⟩);go_ret;exact⟨by rw[← Hr.out,Zej hlt (by rw[← hrw.out];exact Zlw Hhany.out)];rfl,Hend.out⟩
   have hl3:((row.length:Int) != 3)=true:=by rw[bne_iff_ne];omega
   have Hhlen:=qh hlen;clear hlen;go_wp2;go_ret;exact⟨by rw[← Hr.out,Zej hlt (by rw[← hrw.out];exact Ziq Hhlen.out)];rfl,Hend.out⟩
  have hfin:Zae next ends=(inB next.length 1 40&&decide (ends.length=next.length)):=by have h3:=hall;rw[List.take_of_length_le (by omega)] at h3;simp[Zae,h3]
  have Hhfin:=qh hfin;clear hfin;have Hhb:=qh hb;clear hb;clear hall hr1;cases hin:inB next.length 1 40
  ·have Hhin:=qh hin;clear hin;go_wp2_with (go_at_call 62;refine(Zbl _ _ _ _ _ Hhin.out).mono ?_;rintro e w' ⟨rfl,rfl⟩);go_ret;exact⟨by rw[← Hr.out,Hhfin.out,Hhin.out];rfl,Hend.out⟩
  have Hhin:=qh hin;clear hin;go_wp2_with (go_at_call 62;refine(Zbl _ _ _ _ _ Hhin.out).mono ?_;rintro e w' ⟨rfl,rfl⟩);go_ret;exact⟨Zdz (by rw[← Hr.out,Hhfin.out,Hhin.out,ZmF];rfl),Hend.out⟩
theorem ZbW (d:DfaD) (v:Value) (w:World) (h:DfaR 0 w v d) (r:Bool) (hr:Zae d.next d.ends=r) :
  Calls Tryz.prog 86 #[v] w fun e w'=>e = .returned (.bool r)∧Below w.heap.size w w':=by
 obtain⟨v1,v2,rfl,h1,h2⟩:=h;exact Zb9 d.next d.ends v1 v2 w h1 h2 r hr
def Zal (a b:DfaD) (p:Int × Int) (c:Nat):Int × Int:=((a.next.getD p.1.toNat []).getD c 0,(b.next.getD p.2.toNat []).getD c 0)
def Zbp (a b:DfaD) (p:Int × Int):Bool:=inB p.1 0 ((a.next.length:Int)-1)&&inB p.2 0 ((b.next.length:Int)-1)
theorem Zec {x lo hi:Int} (h:inB x lo hi=true):lo≤x∧x≤hi:=by simpa [inB] using h
theorem ZaI {next:List (List Int)} {ends:List Bool} (h:Zae next ends=true) {i:Nat} (hi:i<next.length) :
  (next.getD i []).length=3∧∀ c,c<3→0≤(next.getD i []).getD c 0∧(next.getD i []).getD c 0<next.length:=by
 simp only[Zae,Bool.and_eq_true,List.all_eq_true] at h;have hr:=h.1.1 _ (Zcz (d:=[]) hi);simp only[Zdd,Bool.and_eq_true,decide_eq_true_eq,List.all_eq_true] at hr;refine⟨hr.1,fun c hc => ?_⟩;have:=Zec (hr.2 _ (Zcz (d:=0) (show c<(next.getD i []).length by omega)));omega
theorem Zah {next:List (List Int)} {ends:List Bool} (h:Zae next ends=true):1≤next.length∧next.length≤40∧ends.length=next.length:=by simp only[Zae,Bool.and_eq_true,decide_eq_true_eq] at h;have:=Zec h.1.2;omega
theorem Zki {w:World} {v1:Value} {next:List (List Int)} {ends:List Bool} (h:IntSS 0 w v1 next) (hd:Zae next ends=true) {i c:Nat} (hi:i<next.length) (hc:c<3) :
  ∃ q o cap z t s,v1 = .slice (some ⟨q,o,none⟩) next.length cap∧next.length≤cap∧cap≤9223372036854775807∧w.cell? ⟨q,o+i,none⟩=some (.slice (some ⟨z,t,none⟩) 3 s)∧3≤s∧s≤9223372036854775807 ∧
   w.cell? ⟨z,t+c,none⟩=some (.int .i64 ((next.getD i []).getD c 0))∧q<w.heap.size∧z<w.heap.size:=by
 obtain⟨a,cap,rfl,h1,h2,h3⟩:=h.form;obtain⟨q,o,rfl,_,hq,hr⟩:=h3 (by omega);obtain⟨a',s,e1,e2,e3,e4⟩:=hr i hi;obtain⟨hl,_⟩:=ZaI hd hi;rw[hl] at e1 e2 e4;obtain⟨z,t,rfl,_,hz,e5⟩:=e4 (by omega);exact⟨q,o,cap,z,t,s,rfl,h1,h2,e1,e2,e3,e5 c hc,hq,hz⟩
theorem Zb8 {w:World} {v1:Value} {xs:List Bool} (h:Bools 0 w v1 xs) {i:Nat} (hi:i<xs.length) :
  ∃ q o cap,v1 = .slice (some ⟨q,o,none⟩) xs.length cap∧xs.length≤cap∧cap≤9223372036854775807∧w.cell? ⟨q,o+i,none⟩=some (.bool (xs.getD i false))∧q<w.heap.size:=by
 obtain⟨a,cap,rfl,h1,h2,h3⟩:=h.form;obtain⟨q,o,rfl,_,hq,hr⟩:=h3 (by omega);exact⟨q,o,cap,rfl,h1,h2,hr i hi,hq⟩
theorem Za2 {a b:DfaD} {p:Int × Int} (h:Zbp a b p=true):∃ i j:Nat,p=((i:Int),(j:Int))∧i<a.next.length∧j<b.next.length:=by unfold Zbp at h;rw[Bool.and_eq_true] at h;obtain⟨x,y⟩:=p;obtain⟨h1,h2⟩:=Zec h.1;obtain⟨h3,h4⟩:=Zec h.2;simp only at h1 h2 h3 h4;obtain⟨i,rfl⟩:=Int.eq_ofNat_of_zero_le h1;obtain⟨j,rfl⟩:=Int.eq_ofNat_of_zero_le h3;exact⟨i,j,rfl,by omega,by omega⟩
def DfaAt (w:World) (b:Nat) (d:DfaD):Prop:=∃ v1 v2,Bx w b #[v1,v2] 25 ∧ IntSS 0 w v1 d.next∧Bools 0 w v2 d.ends
theorem DfaAt.below {w w':World} {b:Nat} {d:DfaD} (h:DfaAt w b d) (hb:Below w.heap.size w w'):DfaAt w' b d:=by obtain⟨v1,v2,h1,h2,h3⟩:=h;exact⟨v1,v2,h1.below hb h1.lt,h2.below hb,h3.below hb⟩
theorem ZeX (a b:DfaD) (x:Int × Int) (c ba bb:Nat) (w:World) (hda:Zae a.next a.ends=true) (hdb:Zae b.next b.ends=true) (h1:DfaAt w ba a) (h2:DfaAt w bb b) (hx:Zbp a b x=true) (hc:c<3) :
  Calls Tryz.prog 159 #[.agg #[.int .i64 x.1,.int .i64 x.2],.int .i64 c,.pointer (some ⟨ba,0,none⟩),.pointer (some ⟨bb,0,none⟩)] w fun e w'=>e = .returned (.agg #[.int .i64 (Zal a b x c).1,.int .i64 (Zal a b x c).2])∧Below w.heap.size w w':=by
 obtain⟨i,j,rfl,hi,hj⟩:=Za2 hx;obtain⟨u1,u2,hB1,g1,-⟩:=h1;obtain⟨u3,u4,hB2,g2,-⟩:=h2;obtain⟨q1,o1,c1,z1,t1,s1,rfl,hc1,hm1,e1,l1,m1,e2,d1,d2⟩:=Zki g1 hda hi hc;obtain⟨q2,o2,c2,z2,t2,s2,rfl,hc2,hm2,e3,l2,m2,e4,d3,d4⟩:=Zki g2 hdb hj hc;obtain⟨ta,hta⟩:=eI ((Zal a b ((i:Int),(j:Int)) c).1);obtain⟨tb,htb⟩:=eI ((Zal a b ((i:Int),(j:Int)) c).2);have e2':w.cell? ⟨z1,t1+c,none⟩=some (.int .i64 ta):=by rw[hta];exact e2
 have e4':w.cell? ⟨z2,t2+c,none⟩=some (.int .i64 tb):=by rw[htb];exact e4
 rw[← hta,← htb];have hla:=Zah hda;have hlb:=Zah hdb;have ca:=hB1.cell 0;have cb:=hB2.cell 0;simp only[List.getElem?_toArray,List.getElem?_cons_zero] at ca cb;have d5:=hB1.lt;have d6:=hB2.lt;have hci:(c:Int)<3:=by omega
 have hii:(i:Int)<a.next.length:=by omega
 have hjj:(j:Int)<b.next.length:=by omega
 clear g1 g2 hB1 hB2 hta htb e2 e4 hx hda hdb;obtain⟨h41,h42,-⟩:=hla;obtain⟨h43,h44,-⟩:=hlb
 go_enter Tryz.func159, Tryz.ntmps159
 go_wp2
 go_region_held3 (fun w'=>w'.cell? ⟨w.heap.size,0,none⟩=some (.int .i64 i)∧w'.cell? ⟨w.heap.size,1,none⟩=some (.int .i64 j)∧w'.cell? ⟨ba,0,none⟩=some (.slice (some ⟨q1,o1,none⟩) a.next.length c1)∧w'.cell? ⟨bb,0,none⟩=some (.slice (some ⟨q2,o2,none⟩) b.next.length c2)∧w'.cell? ⟨q1,o1+i,none⟩=some (.slice (some ⟨z1,t1,none⟩) 3 s1)∧w'.cell? ⟨q2,o2+j,none⟩=some (.slice (some ⟨z2,t2,none⟩) 3 s2)∧w'.cell? ⟨z1,t1+c,none⟩=some (.int .i64 ta)∧w'.cell? ⟨z2,t2+c,none⟩=some (.int .i64 tb))
  (first|go_keep) (fail)
 go_wp2;refine bodyPost_ret (v:=.agg #[.int .i64 ta,.int .i64 tb]) (by simp[results,Tryz.results159,go_sem]) rfl ⟨rfl,?_⟩;exact(((Below.refl _ _).alloc (Nat.le_refl _) _).alloc (by simp) _).drew
theorem ZjH (x y r:Bool) (hr:(x != y)=r) (w:World):Calls Tryz.prog 89 #[.bool x,.bool y] w fun e w'=>e = .returned (.bool r)∧w=w':=by
 subst hr
 go_enter Tryz.func89, Tryz.ntmps89
 go_wp2;go_ret;exact⟨rfl,rfl⟩
def ZaS (f:Bool→Bool→Bool) (a b:DfaD) (p:Int × Int):Bool:=f (a.ends.getD p.1.toNat false) (b.ends.getD p.2.toNat false)
theorem ZfO (a b:DfaD) (x:Int × Int) (bf ba bb:Nat) (w:World) (hda:Zae a.next a.ends=true) (hdb:Zae b.next b.ends=true) (hf:Bx w bf #[.func (.func 89) #[] #[]] 100) (h1:DfaAt w ba a) (h2:DfaAt w bb b) (hx:Zbp a b x=true) :
  Calls Tryz.prog 160 #[.agg #[.int .i64 x.1,.int .i64 x.2],.pointer (some ⟨bf,0,none⟩),.pointer (some ⟨ba,0,none⟩),.pointer (some ⟨bb,0,none⟩)] w fun e w'=>e = .returned (.bool (ZaS (fun x y=>x != y) a b x))∧Below w.heap.size w w':=by
 obtain⟨i,j,rfl,hi,hj⟩:=Za2 hx;have hla:=Zah hda;have hlb:=Zah hdb;obtain⟨u1,u2,hB1,-,g1⟩:=h1;obtain⟨u3,u4,hB2,-,g2⟩:=h2;obtain⟨q1,o1,c1,rfl,hc1,hm1,e1,d1⟩:=Zb8 g1 (i:=i) (by omega);obtain⟨q2,o2,c2,rfl,hc2,hm2,e2,d2⟩:=Zb8 g2 (i:=j) (by omega);obtain⟨ta,hta⟩:=eI (a.ends.getD i false);obtain⟨tb,htb⟩:=eI (b.ends.getD j false);rw[← hta] at e1;rw[← htb] at e2;obtain⟨r,hr⟩:=eJ ((ta != tb));have hres:ZaS (fun x y=>x != y) a b ((i:Int),(j:Int))=r:=by rw[← hr,hta,htb];rfl
 rw[hres];have ca:=hB1.cell 1;have cb:=hB2.cell 1;have cf:=hf.cell 0;simp only[List.getElem?_toArray,List.getElem?_cons_zero,List.getElem?_cons_succ] at ca cb cf;have d5:=hB1.lt;have d6:=hB2.lt;have d7:=hf.lt;obtain⟨l1,l2,l3⟩:=hla;obtain⟨l4,l5,l6⟩:=hlb;have hii:(i:Int)<a.ends.length:=by omega
 have hjj:(j:Int)<b.ends.length:=by omega
 have Hr:=qh hr;clear g1 g2 hB1 hB2 hta htb hx hda hdb hf hres hr l3 l6
 go_enter Tryz.func160, Tryz.ntmps160
 go_wp2
 go_quiet ((go_at_call 89;with_reducible exact Zfr (ZjH _ _ _ Hr.out _)))
 go_wp2;go_ret;exact⟨rfl,below_drewN ((Below.refl _ _).alloc (Nat.le_refl _) _) _⟩
end Go.Proofs.YtfgpkadhegdffaaGreat
