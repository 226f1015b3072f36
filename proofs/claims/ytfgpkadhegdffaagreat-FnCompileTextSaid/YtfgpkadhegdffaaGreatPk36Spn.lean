/-
  The walks over the two checks of an automaton without choices: the program's and the reference's.
  Conditions: the argument reads as lists.
  Small laws for regions that draw their order and only read.
  No condition: this text speaks of no program.
  The walk over the reference's search for a pair in a list.
  Conditions: the list of pairs reads as a list.
  The walk over the program's check of an automaton without choices, and the walk over the reference's search for a pair in a list.
  Conditions: the argument reads as an automaton; a list of pairs reads as a list.
-/
import Derived.Test.YtfgpkadhegdffaaGreatPk03Ivp
set_option maxHeartbeats 8000000
set_option maxRecDepth 100000
namespace Go.Proofs.YtfgpkadhegdffaaGreat
open Go.RowKit
end Go.Proofs.YtfgpkadhegdffaaGreat
namespace Go.Proofs.YtfgpkadhegdffaaGreat
open Go.RowKit
end Go.Proofs.YtfgpkadhegdffaaGreat
namespace Go.Proofs.YtfgpkadhegdffaaGreat
open Go.RowKit
end Go.Proofs.YtfgpkadhegdffaaGreat
namespace Go.Proofs.YtfgpkadhegdffaaGreat
open Go.RowKit
def badT (n t:Int):Bool:=!inB t 0 (n-1)
theorem Zfk (x n:Int) (b:Nat) (w:World) (hn:0≤n∧n≤9223372036854775807) (hc:w.cell? ⟨b,0,none⟩=some (.int .i64 n)) (r:Bool) (hr:badT n x=r) :
  Calls Tryz.prog 61 #[.int .i64 x,.pointer (some ⟨b,0,none⟩)] w fun e w'=>e = .returned (.bool r)∧w=w':=by
 subst hr;obtain⟨h1,h2⟩:=hn
 go_enter Tryz.func61, Tryz.ntmps61
 go_wp2_with (go_at_call 62;refine(ZaN _ _ _ _ _ rfl).mono ?_;rintro e w' ⟨rfl,rfl⟩);go_ret;exact⟨rfl,rfl⟩
theorem Zhh (xs:List Int) (v:Value) (n:Int) (b:Nat) (w:World) (hn:0≤n∧n≤9223372036854775807) (hc:w.cell? ⟨b,0,none⟩=some (.int .i64 n)) (h1:Ints 0 w v xs) :
  Calls Tryz.prog 102 #[v,.func (.func 61) #[] #[.pointer (some ⟨b,0,none⟩)]] w fun e w'=>e = .returned (.int .i64 (ZcY (badT n) xs))∧w=w':=by
 obtain⟨a1,c1,rfl,hc1,hm1,hr1⟩:=h1.form;clear h1
 go_enter Tryz.func102, Tryz.ntmps102
 go_wp2
 go_loop [4,8] (fun r i=>∃ k:Nat,k≤xs.length∧i = .int .i64 k∧(xs.take k).any (badT n)=false) (fun _ i=>xs.length-(intOf i).toNat)
 case atStart=>exact⟨0,Nat.zero_le _,rfl,rfl⟩
 case round =>
  obtain⟨k,hk,rfl,htk⟩:=hrel;replace htk:=qh htk;by_cases hlt:k<xs.length
  ·obtain⟨b1,o1,rfl,hB1,hbl1,hcs1⟩:=hr1 (by omega);have hx1:=hcs1 k hlt;obtain⟨x,hxx⟩:=eI (xs.getD k 0);rw[← hxx] at hx1;have Hhxx:=qh hxx;clear hxx;clear hcs1 hr1;cases hb:badT n x
   ·replace hb:=qh hb;go_wp2_with (go_at_call 61;refine(Zfk x n b _ hn hc _ hb.out).mono ?_;rintro e w' ⟨rfl,rfl⟩)
    go_round
    case rel=>exact⟨k+1,by omega,by go_num,Zmq (d:=0) hlt htk.out (by rw[← Hhxx.out];exact hb.out)⟩
    case measure=>simp[intOf];omega
   replace hb:=qh hb;go_wp2_with (go_at_call 61;refine(Zfk x n b _ hn hc _ hb.out).mono ?_;rintro e w' ⟨rfl,rfl⟩);go_ret;exact⟨ZeD (by rw[Zf9 (d:=0) hlt htk.out (by rw[← Hhxx.out];exact hb.out)]),rfl⟩
  clear hr1;go_wp2;go_ret;exact⟨ZeD (by rw[Zfg (by omega) htk.out]),rfl⟩
theorem Zc0 (xs:List Int) (v:Value) (n:Int) (b:Nat) (w:World) (hn:0≤n∧n≤9223372036854775807) (hc:w.cell? ⟨b,0,none⟩=some (.int .i64 n)) (h1:Ints 0 w v xs) (r:Bool) (hr:xs.any (badT n)=r) :
  Calls Tryz.prog 60 #[v,.func (.func 61) #[] #[.pointer (some ⟨b,0,none⟩)]] w fun e w'=>e = .returned (.bool r)∧w=w':=by
 obtain⟨a1,c1,hv,-⟩:=h1.form;have H1:=qh h1;subst hv;clear h1;replace hr:=qh hr
 go_enter Tryz.func60, Tryz.ntmps60
 go_wp2_with (go_at_call 102;refine(Zhh xs _ n b _ hn hc H1.out).mono ?_;rintro e w' ⟨rfl,rfl⟩);go_ret;exact⟨Zeh (by rw[← hr.out,Zga]),rfl⟩
theorem ZnM {n:Int} {row:List Int} (h:row.any (badT n)=true):ZdK n row=false:=by
 unfold ZdK;have:(row.all fun t=>inB t 0 (n-1))=false:=by rw[List.any_eq_true] at h;obtain⟨x,hx,hp⟩:=h;rw[List.all_eq_false];exact⟨x,hx,by simpa [badT] using hp⟩
 simp[this]
theorem ZnK {n:Int} {row:List Int} (hl:row.length=3) (h:row.any (badT n)=false):ZdK n row=true:=by unfold ZdK;rw[List.any_eq_false] at h;simp only[hl,decide_true,Bool.true_and,List.all_eq_true];intro x hx;have:=h x hx;simpa [badT] using this
theorem ZaK (d:DfaD) (v:Value) (w:World) (h:DfaR 0 w v d) (r:Bool) (hr:Zag d.next d.ends=r) :
  Calls Tryz.prog 26 #[v] w fun e w'=>e = .returned (.bool r)∧Below w.heap.size w w':=by
 obtain⟨next,ends⟩:=d;obtain⟨v1,v2,rfl,h1,h2⟩:=h;simp only at h1 h2 hr;obtain⟨a1,c1,rfl,hc1,hm1,hr1⟩:=h1.formI;obtain⟨a2,c2,rfl,hc2,hm2,hr2⟩:=h2.form;have Hr:=qh hr;clear h1 h2 hr hr2
 go_enter Tryz.func26, Tryz.ntmps26
 go_wp2
 go_loopw [2,12] (fun r i wr=>∃ k:Nat,k≤next.length∧i = .int .i64 k∧(next.take k).all (ZdK next.length)=true∧Below (w.heap.size+2) ((w.alloc (.cells #[.slice a1 next.length c1,.slice a2 ends.length c2] 25)).alloc (.cells #[.int .i64 next.length] 3)) wr)
  (fun _ i _=>next.length-(intOf i).toNat)
 case atStart=>exact⟨0,Nat.zero_le _,rfl,rfl,Below.refl _ _⟩
 case round =>
  obtain⟨k,hk,rfl,hall,hb⟩:=hrel;have hend:Below w.heap.size w wr:=(((Below.refl _ _).alloc (Nat.le_refl _) _).alloc (by simp) _).trans (hb.mono (by omega));have x0:=((Bx.new w _ _).alloc _).below hb (by omega);have x1:=(Bx.new (w.alloc _) _ _).below hb (by simp);have hx0:=x0.cell 0;have hx2:=x0.cell 1;have hx1:=x1.cell 0;simp only[List.getElem?_toArray,List.getElem?_cons_zero,List.getElem?_cons_succ,World.size_alloc] at hx0 hx1 hx2;have Hend:=qh hend;clear hend x0 x1;by_cases hlt:k<next.length
  ·obtain⟨b,off,rfl,hB,hbl,hcs⟩:=hr1 (by omega);obtain⟨row,hrw⟩:=eI (next.getD k []);have hcsk:=hcs k hlt;rw[← hrw] at hcsk;replace hrw:=qh hrw;obtain⟨a',cap',hcell,hcc,hcm,hrow⟩:=hcsk;have hx3:=(bcell Hend.out b (off+k) hbl).trans hcell;have Hrow:=qh (hrow.below Hend.out);replace hall:=qh hall;have Hhb:=qh hb;clear hb;clear hcs hr1 hcell hrow;by_cases hlen:row.length=3
   ·have hl3:((row.length:Int) != 3)=false:=by rw[hlen];rfl
    have Hhlen:=qh hlen;clear hlen;cases hany:row.any (badT next.length)
    ·have Hhany:=qh hany;clear hany;go_wp2_with (go_at_call 60;refine(Zc0 row _ next.length _ _ (by omega) hx1 Hrow.out _ Hhany.out).mono ?_;rintro e w' ⟨rfl,rfl⟩);go_roundw
     case rel=>exact⟨k+1,by omega,by go_num,Zjv (d:=[]) hlt hall.out (by rw[← hrw.out];exact ZnK Hhlen.out Hhany.out),Hhb.out⟩
     case measure=>simp[intOf];omega
    have Hhany:=qh hany;clear hany;go_wp2_with (go_at_call 60;refine(Zc0 row _ next.length _ _ (by omega) hx1 Hrow.out _ Hhany.out).mono ?_;rintro e w' ⟨rfl,rfl⟩);go_ret;exact⟨by rw[← Hr.out,Zfl hlt (by rw[← hrw.out];exact ZnM Hhany.out)];rfl,Hend.out⟩
   have hl3:((row.length:Int) != 3)=true:=by rw[bne_iff_ne];omega
   have Hhlen:=qh hlen;clear hlen;go_wp2;go_ret;exact⟨by rw[← Hr.out,Zfl hlt (by rw[← hrw.out];exact ZjK Hhlen.out)];rfl,Hend.out⟩
  have hfin:Zag next ends=(inB next.length 1 40&&decide (ends.length=next.length)):=by have h3:=hall;rw[List.take_of_length_le (by omega)] at h3;simp[Zag,h3]
  have Hhfin:=qh hfin;clear hfin;have Hhb:=qh hb;clear hb;clear hall hr1;cases hin:inB next.length 1 40
  ·have Hhin:=qh hin;clear hin;go_wp2_with (go_at_call 62;refine(ZaN _ _ _ _ _ Hhin.out).mono ?_;rintro e w' ⟨rfl,rfl⟩);go_ret;exact⟨by rw[← Hr.out,Hhfin.out,Hhin.out];rfl,Hend.out⟩
  have Hhin:=qh hin;clear hin;go_wp2_with (go_at_call 62;refine(ZaN _ _ _ _ _ Hhin.out).mono ?_;rintro e w' ⟨rfl,rfl⟩);go_ret;exact⟨Zeh (by rw[← Hr.out,Hhfin.out,Hhin.out,Zpp];rfl),Hend.out⟩
end Go.Proofs.YtfgpkadhegdffaaGreat
namespace Go.Proofs.YtfgpkadhegdffaaGreat
def seg (w:List Nat) (i j:Nat):List Nat:=(w.drop i).take (j-i)
theorem ZeA {w:List Nat} {i j:Nat} (hij:i≤j) (hj:j≤w.length):(seg w i j).length=j-i:=by unfold seg;rw[List.length_take,List.length_drop];omega
theorem ZlG (w:List Nat) (i:Nat):seg w i i=[]:=by unfold seg;simp
theorem Zrc (w:List Nat):seg w 0 w.length=w:=by unfold seg;simp
theorem ZeV {w:List Nat} {i k j:Nat} (h1:i≤k) (h2:k≤j):seg w i j=seg w i k++seg w k j:=by
 unfold seg;have e:j-i=(k-i)+(j-k):=by omega
 rw[e,List.take_add,List.drop_drop];congr 3;omega
theorem ZgS {w u v:List Nat} {i j:Nat} (hij:i≤j) (hj:j≤w.length) (h:seg w i j=u++v):i+u.length≤j∧u=seg w i (i+u.length)∧v=seg w (i+u.length) j:=by
 have hl:=ZeA hij hj;rw[h,List.length_append] at hl;have hk:i+u.length≤j:=by omega
 have hs:=ZeV (w:=w) (i:=i) (k:=i+u.length) (j:=j) (by omega) hk;rw[h] at hs;have hul:u.length=(seg w i (i+u.length)).length:=by rw[ZeA (by omega) (by omega)];omega
 obtain⟨e1,e2⟩:=List.append_inj hs hul;exact⟨hk,e1,e2⟩
theorem ZnD {w:List Nat} {i c:Nat} (hi:i<w.length):seg w i (i+1)=[c]↔w.getD i 0=c:=by
 have e:seg w i (i+1)=[w.getD i 0]:=by unfold seg;rw[Nat.add_sub_cancel_left,List.drop_eq_getElem_cons hi,List.take_succ_cons,List.take_zero];simp[hi]
 rw[e];simp
def memS (t:Ex) (w:List Nat) (i j:Nat):Prop:=memE t (seg w i j)
theorem Zoi (w:List Nat) (i j:Nat):¬ memS .zero w i j:=fun h=>h
theorem Zp9 {w:List Nat} {i j:Nat} (hij:i≤j) (hj:j≤w.length):memS .one w i j↔i=j:=by
 show seg w i j=[]↔_;have hl:=ZeA hij hj;constructor
 ·intro h;rw[h] at hl;simp at hl;omega
 rintro rfl;exact ZlG w i
theorem Zqa {w:List Nat} {i j:Nat} {c:Fin 3} (hij:i≤j) (hj:j≤w.length):memS (.ltr c) w i j↔j=i+1∧w.getD i 0=c.val:=by
 show seg w i j=[c.val]↔_;have hl:=ZeA hij hj;constructor
 ·intro h;have e:j=i+1:=by rw[h] at hl;simp at hl;omega
  subst e;exact⟨rfl,(ZnD (by omega)).1 h⟩
 rintro⟨rfl,h⟩;exact(ZnD (by omega)).2 h
theorem Zok {a b:Ex} {w:List Nat} {i j:Nat} (hij:i≤j) (hj:j≤w.length):memS (.join a b) w i j↔∃ k,i≤k∧k≤j∧memS a w i k∧memS b w k j:=by
 constructor
 ·rintro⟨u,v,h,h1,h2⟩;obtain⟨hk,e1,e2⟩:=ZgS hij hj h;exact⟨i+u.length,by omega,hk,by unfold memS;rw[← e1];exact h1,by unfold memS;rw[← e2];exact h2⟩
 rintro⟨k,h1,h2,h3,h4⟩;exact⟨_,_,ZeV h1 h2,h3,h4⟩
theorem StarL.snoc {L:List Nat→Prop} {u w:List Nat} (h:StarL L w) (h':L u):StarL L (w++u):=by
 obtain⟨ws,rfl,hw⟩:=h;refine⟨ws++[u],by simp,fun x hx => ?_⟩;rcases List.mem_append.1 hx with hx|hx
 ·exact hw x hx
 simp at hx;subst hx;exact h'
theorem StarL.last {L:List Nat→Prop} {w:List Nat} (h:StarL L w):w=[]∨∃ u v,v≠[]∧w=u++v∧StarL L u∧L v:=by
 obtain⟨ws,rfl,hs⟩:=h;obtain⟨rs,rfl⟩:∃ rs:List (List Nat),ws=rs.reverse:=⟨ws.reverse,by simp⟩
 induction rs with
 | nil=>exact .inl rfl
 | cons u rs ih =>
  have hu:L u:=hs u (by simp);have hr:∀ x∈rs.reverse,L x:=fun x hx=>hs x (by simp at hx ⊢;exact .inl hx)
  rw[List.reverse_cons,List.flatten_append];by_cases hn:u=[]
  ·subst hn;simpa using ih hr
  exact .inr ⟨rs.reverse.flatten,u,hn,by simp,⟨rs.reverse,rfl,hr⟩,hu⟩
theorem Zoj {a:Ex} {w:List Nat} {i j:Nat} (hij:i≤j) (hj:j≤w.length):memS (.star a) w i j↔i=j∨∃ k,i+1≤k∧k≤j∧memS a w i k∧memS (.star a) w k j:=by
 constructor
 ·intro h;rcases StarL.first h with h|⟨u,v,hu,h,h1,h2⟩
  ·have hl:=ZeA hij hj;rw[h] at hl;simp at hl;exact .inl (by omega)
  obtain⟨hk,e1,e2⟩:=ZgS hij hj h;have hpos:=List.length_pos_iff.2 hu;exact .inr ⟨i+u.length,by omega,hk,by unfold memS;rw[← e1];exact h1,by unfold memS;rw[← e2];exact h2⟩
 rintro(rfl|⟨k,h1,h2,h3,h4⟩)
 ·unfold memS;rw[ZlG];exact StarL.nil
 unfold memS;rw[ZeV (show i≤k by omega) h2];exact StarL.cons h3 h4
def stR (A:Nat→Nat→Prop):Nat→Nat→Nat→Prop
 | 0,i,j=>i=j
 | m+1,i,j=>stR A m i j∨∃ k,i≤k∧k≤j∧stR A m i k∧A k j
theorem ZpR {A:Nat→Nat→Prop} {i j:Nat}:∀ {m n:Nat},m≤n→stR A m i j→stR A n i j
 | m,n,h,hm=>by
  induction n with
  | zero=>obtain rfl:m=0:=by omega
          exact hm
  | succ n ih =>
   by_cases he:m=n+1
   ·subst he;exact hm
   exact .inl (ih (by omega))
theorem ZiE {a:Ex} {w:List Nat}:∀ (m:Nat) {i j:Nat},i≤j→j≤w.length→stR (memS a w) m i j→memS (.star a) w i j
 | 0,i,j,hij,hj,h=>(Zoj hij hj).2 (.inl h)
 | m+1,i,j,hij,hj,h=>by
  rcases h with h|⟨k,h1,h2,h3,h4⟩
  ·exact ZiE m hij hj h
  have hs:=ZiE m h1 (by omega) h3;unfold memS at hs h4 ⊢;rw[ZeV h1 h2];exact StarL.snoc hs h4
theorem ZpP {a:Ex} {w:List Nat}:∀ (d:Nat) {i j:Nat},i≤j→j≤w.length→j-i≤d→memS (.star a) w i j→stR (memS a w) d i j:=by
 intro d
 induction d with
 | zero =>intro i j hij hj hd h;exact(show i=j by omega)
 | succ d ih =>
  intro i j hij hj hd h;rcases StarL.last h with h|⟨u,v,hv,h,h1,h2⟩
  ·have hl:=ZeA hij hj;rw[h] at hl;simp at hl;exact ZpR (Nat.zero_le _) (show i=j by omega)
  obtain⟨hk,e1,e2⟩:=ZgS hij hj h;have hl:=ZeA hij hj;rw[h,List.length_append] at hl;have hpos:=List.length_pos_iff.2 hv;exact .inr ⟨i+u.length,by omega,hk,ih (by omega) (by omega) (by omega) (by unfold memS;rw[← e1];exact h1),by unfold memS;rw[← e2];exact h2⟩
theorem Zra {a:Ex} {w:List Nat} {i j:Nat} (hij:i≤j) (hj:j≤w.length):stR (memS a w) w.length i j↔memS (.star a) w i j :=
 ⟨ZiE _ hij hj,ZpP _ hij hj (by omega)⟩
end Go.Proofs.YtfgpkadhegdffaaGreat
namespace Go.Proofs.YtfgpkadhegdffaaGreat
open Go.RowKit
variable {P:Program}
theorem Zbm {w:World} {b:Nat} {cs cs':Array Value} {T:TypeId} (h:Bx w b cs T) (hn:cs'.size=cs.size) (h1:∀ v∈cs'.toList,v.oneCell'=true):(storeCells ⟨b,0,none⟩ cs'.toList 0).run P w = .ok () (w.setRow b cs'):=by have:=run_storeCells_from (P:=P) b T cs'.toList 0 cs w h (by simpa using hn) h1;simpa using this
theorem St.setAll {w0 w:World} {L:List Ent} (h:St w0 w L) (i:Nat) {b:Nat} {cs:Array Value} {T:TypeId} (hx:L[i]? = some (Ent.box b cs T)) (cs':Array Value):St w0 (w.setRow b cs') (L.set i (Ent.box b cs' T)):=by have hb:Bx w b cs T:=(h.has i _ hx).1;have hb':Bx (w.setRow b cs') b cs' T:=setRow_heap w b cs cs' T (0,0) hb;exact h.turn i hx _ rfl rfl rfl (by simp[World.setRow]) (fun k _ hk=>setRow_other w b k cs' hk) hb' fun k hk=>by have hk:k=b:=hk;subst hk;exact⟨hb'.lt,Or.inl rfl⟩
theorem Zeq {ops:Array Oper} {rest:List Oper} {op:Oper} {a:Act} {w:World} {Q:Exit→Act→World→Prop} (hgd:op.guard=none) (ty:TypeId) (x:Operand) (ho:op.op = .load ty x) (b:Nat) (hx:a.eval x = .pointer (some ⟨b,0,none⟩)) (T:TypeId) (cs:Array Value) (d:TypeDesc) (hb:Bx w b cs T)
  (hu:P.underlying ty=some d) (hd:d.isRow=true) (hi:(P.info? ty).map (·.size)=some cs.size) (h:wpList P ops Q rest (a.put op.dst (.agg cs)) w):wpList P ops Q (op::rest) a w:=by
 have hc:w.rangeAt b 0 cs.toList:=fun j v hv=>by rw[Nat.zero_add,hb.cell j];simpa using hv
 exact wpList_load_mid hgd ty x ho b 0 hx cs.toList d hc hu hd (by simpa using hi) (by simpa using h)
theorem ZdL {ops:Array Oper} {rest:List Oper} {op:Oper} {a:Act} {w:World} {Q:Exit→Act→World→Prop} (hgd:op.guard=none) (ty:TypeId) (x y:Operand) (ho:op.op = .store ty x y) (b:Nat) (T:TypeId) (cs cs':Array Value) (hx:a.eval x = .pointer (some ⟨b,0,none⟩)) (hy:a.eval y = .agg cs')
  (hb:Bx w b cs T) (hi:(P.info? ty).map (·.size)=some cs'.size) (hl:cs.size=cs'.size) (h1:∀ v∈cs'.toList,v.oneCell'=true) (h:wpList P ops Q rest (a.put op.dst undef) (w.setRow b cs')):wpList P ops Q (op::rest) a w :=
 wpList_plain hgd fun K hK=>by have hr:=run_storeVar_row (P:=P) w b T ty cs cs' hb hi hl (Array.all_eq_true_iff_forall_mem.2 fun v hv=>h1 v (by simpa using hv));unfold Oper.wp execOp;simp only[ho,hx,hy,Instr.storeAt,Instr.sureAddr,Sem.run_bind,Sem.run_pure,Result.andThen_ok,hr];exact hK _ _ h
theorem ZiP {fn:Func} {p:Tmp} {ty:TypeId} (h:fn.results=#[.cell p ty]) (tmps:Array Value) (P:Program) (w:World) :
  (results fn tmps).run P w=((asAddr (tmps.getD p undef)).run P w).andThen fun a w₁=>(loadVar ty a).run P w₁:=by
 simp only[results,h];simp[Sem.run_bind,Result.andThen]
theorem Zbp {fn:Func} {p:Tmp} {ty:TypeId} (h:fn.results=#[.cell p ty]) (tmps:Array Value) (P:Program) (w:World) (b:Nat) (T:TypeId) (cs:Array Value) (d:TypeDesc) (hp:tmps.getD p undef = .pointer (some ⟨b,0,none⟩)) (hb:Bx w b cs T) (hu:P.underlying ty=some d) (hd:d.isRow=true) (hi:(P.info? ty).map (·.size)=some cs.size) :
  (results fn tmps).run P w = .ok (.agg cs) w:=by
 rw[ZiP h,hp];have hl:(loadVar ty ⟨b,0,none⟩).run P w = .ok (.agg cs) w:=run_loadVar_row w b T ty cs (0,0) d hb hu (by cases d<;>simp_all [TypeDesc.isRow]) hi;simp[asAddr,Result.andThen,hl]
theorem St.rangeR {w0 w:World} {L:List Ent} (h:St w0 w L) (i:Nat) {e size g n cap:Nat} {cs:List Value} (hx:L[i]? = some (Ent.row e size (.slice (some ⟨g,0,none⟩) n cap) n cs)) (o:Nat) (xs:List Value) (hxs:∀ k v,xs[k]? = some v→o+k<n*size∧cs[o+k]? = some v):w.rangeAt g o xs:=fun k v hv=>h.rcell i (o+k) hx (hxs k v hv).1 (hxs k v hv).2
theorem St.rangeB {w0 w:World} {L:List Ent} (h:St w0 w L) (i:Nat) {b:Nat} {cs:Array Value} {T:TypeId} (hx:L[i]? = some (Ent.box b cs T)):w.rangeAt b 0 cs.toList:=fun k v hv=>by rw[Nat.zero_add];exact h.cell i k hx (by simpa using hv)
theorem Zpy {op:Oper} {a:Act} {w:World} {K:Act→World→Prop} {Q:Exit→Act→World→Prop} (ty:TypeId) (x:Operand) (ho:op.op = .load ty x) (b off:Nat) (hx:a.eval x = .pointer (some ⟨b,off,none⟩)) (cs:Array Value) (d:TypeDesc) (hc:w.rangeAt b off cs.toList)
  (hu:P.underlying ty=some d) (hd:d.isRow=true) (hi:(P.info? ty).map (·.size)=some cs.size) (h:K (a.put op.dst (.agg cs)) w):op.wp P a w K Q :=
 wp_load_mid ty x ho b off hx cs.toList d hc hu hd (by simpa using hi) (by simpa using h)
theorem Zfy {ops:Array Oper} {o:Oper} {a:Act} {w:World} {K:Act→World→Prop} {Q:Exit→Act→World→Prop} {E:Prop} (hgd:o.guard=none) (ty:TypeId) (x:Operand) (ho:o.op = .load ty x) (b off:Nat) (hx:a.eval x = .pointer (some ⟨b,off,none⟩)) (cs:Array Value) (d:TypeDesc) (hc:w.rangeAt b off cs.toList)
  (hu:P.underlying ty=some d) (hd:d.isRow=true) (hi:(P.info? ty).map (·.size)=some cs.size) (h:K (a.put o.dst (.agg cs)) w):if Region.wanted o (yielded ops a.tmps)=true then Oper.wp P o a w K Q else E:=by
 have hw:Region.wanted o (yielded ops a.tmps)=true:=by simp[Region.wanted,hgd]
 rw[if_pos hw];exact wp_load_mid ty x ho b off hx cs.toList d hc hu hd (by simpa using hi) (by simpa using h)
theorem ZkK {ops:Array Oper} {o:Oper} {a:Act} {w:World} {K:Act→World→Prop} {Q:Exit→Act→World→Prop} {E:Prop} (hgd:o.guard=none) (t e:TypeId) (x:Operand) (ho:o.op = .buildSlice t 1 #[(0,x)]) (cs:Array Value) (hx:a.eval x = .agg cs) (ie:TypeInfo) (z:Value) (s:Nat)
  (hu:P.underlying t=some (.slice e)) (hie:P.info? e=some ie) (hz:ie.zero=some z) (hs:ie.size=s) (hcs:cs.size=s) (h0:0<s) (hsm:s≤16777216) (h:K (a.put o.dst (.slice (some ⟨w.heap.size,0,none⟩) 1 1)) (w.alloc (.cells cs e))):if Region.wanted o (yielded ops a.tmps)=true then Oper.wp P o a w K Q else E:=by
 have hw:Region.wanted o (yielded ops a.tmps)=true:=by simp[Region.wanted,hgd]
 rw[if_pos hw];refine wp_buildSlice t e 1 _ ho cs ie z hu hie hz (by rw[hs];omega) (by rw[hs];omega) ?_ h;rw[hs];have hf:=Great.fill_whole h0 [.agg cs] ((Array.range (1*s)).map (z.cells[· % z.cells.size]!)) (by intro v hv;rw[List.mem_singleton] at hv;subst hv;exact hcs) (by simp);simpa [Value.cells,hx] using hf
theorem ZgM {ops:Array Oper} {o:Oper} {a:Act} {w:World} {K:Act→World→Prop} {Q:Exit→Act→World→Prop} {E:Prop} (hgd:o.guard=none) (ty:TypeId) (x y:Operand) (ho:o.op = .store ty x y) (b:Nat) (T:TypeId) (cs cs':Array Value) (hx:a.eval x = .pointer (some ⟨b,0,none⟩)) (hy:a.eval y = .agg cs')
  (hb:Bx w b cs T) (hi:(P.info? ty).map (·.size)=some cs'.size) (hl:cs.size=cs'.size) (h1:∀ v∈cs'.toList,v.oneCell'=true) (h:K (a.put o.dst undef) (w.setRow b cs')):if Region.wanted o (yielded ops a.tmps)=true then Oper.wp P o a w K Q else E:=by
 have hw:Region.wanted o (yielded ops a.tmps)=true:=by simp[Region.wanted,hgd]
 rw[if_pos hw];have hr:=run_storeVar_row (P:=P) w b T ty cs cs' hb hi hl (Array.all_eq_true_iff_forall_mem.2 fun v hv=>h1 v (by simpa using hv));unfold Oper.wp execOp;simp only[ho,hx,hy,Instr.storeAt,Instr.sureAddr,Sem.run_bind,Sem.run_pure,Result.andThen_ok,hr];exact h
def spC (T:Nat→Nat→Bool):Array Value:=((List.range 81).map fun k=>Value.bool (T (k / 9) (k % 9))).toArray
theorem Zai (T:Nat→Nat→Bool):(spC T).size=81:=by simp[spC]
theorem ZnC (T:Nat→Nat→Bool) {i j:Nat} (hi:i<9) (hj:j<9):(spC T)[i*9+j]? = some (.bool (T i j)):=by unfold spC;rw[List.getElem?_toArray,List.getElem?_map,List.getElem?_range (by omega)];rw[Option.map_some,show(i*9+j) / 9=i by omega,show(i*9+j) % 9=j by omega]
theorem Zrb (T:Nat→Nat→Bool) {i j:Nat} (hi:i<9) (hj:j<9) (v:Bool):(spC T).setIfInBounds (i*9+j) (.bool v)=spC (fun a b=>if a=i∧b=j then v else T a b):=by
 unfold spC;rw[List.setIfInBounds_toArray];congr 1;apply List.ext_getElem?;intro k;rw[List.getElem?_set,List.getElem?_map,List.getElem?_map];by_cases hk:k<81
 ·rw[List.getElem?_range hk];by_cases he:i*9+j=k
  ·subst he;rw[if_pos rfl,if_pos (by simp;omega),Option.map_some];exact congrArg (fun x=>some (Value.bool x)) (if_pos ⟨by omega,by omega⟩).symm
  rw[if_neg he,Option.map_some,Option.map_some];exact congrArg (fun x=>some (Value.bool x)) (if_neg (fun h=>he (by have:=h.1;have:=h.2;omega))).symm
 rw[List.getElem?_eq_none (by simp;omega)];by_cases he:i*9+j=k
 ·omega
 rw[if_neg he];rfl
theorem Zbk (T:Nat→Nat→Bool):∀ v∈(spC T).toList,v.oneCell'=true:=fun v hv=>by simp only[spC,List.mem_map] at hv;obtain⟨k,-,rfl⟩:=hv;rfl
theorem Zdd {T U:Nat→Nat→Bool} (h:∀ i j,i<9→j<9→T i j=U i j):spC T=spC U:=by unfold spC;congr 1;apply List.map_congr_left;intro k hk;rw[List.mem_range] at hk;rw[h (k / 9) (k % 9) (by omega) (by omega)]
def Zap (n:Nat) (F:Nat→Nat→Bool) (a b:Nat):Bool:=decide (a≤b∧b≤n)&&F a b
def ZdB (n:Nat) (F:Nat→Nat→Bool) (i j a b:Nat):Bool:=decide (a≤b∧b≤n∧(a<i∨a=i∧b<j))&&F a b
theorem ZmZ (n:Nat) (F:Nat→Nat→Bool):spC (ZdB n F 0 0)=spC (fun _ _=>false):=Zdd fun a b _ _=>by unfold ZdB;rw[decide_eq_false (by omega)];rfl
theorem ZoS (n:Nat) (F:Nat→Nat→Bool) (i:Nat):spC (ZdB n F i 0)=spC (ZdB n F i i):=Zdd fun a b _ _=>by unfold ZdB;congr 1;exact decide_eq_decide.2 (by omega)
theorem Zm1 (n:Nat) (F:Nat→Nat→Bool) (i:Nat):spC (ZdB n F i (n+1))=spC (ZdB n F (i+1) 0):=Zdd fun a b _ _=>by unfold ZdB;congr 1;exact decide_eq_decide.2 (by omega)
theorem ZoT (n:Nat) (F:Nat→Nat→Bool):spC (ZdB n F (n+1) 0)=spC (Zap n F):=Zdd fun a b _ _=>by unfold ZdB Zap;congr 1;exact decide_eq_decide.2 (by omega)
theorem Zm0 (n:Nat) (F:Nat→Nat→Bool) {i j:Nat} (hij:i≤j) (hj:j≤n) (hn:n≤8):(spC (ZdB n F i j)).setIfInBounds (i*9+j) (.bool (F i j))=spC (ZdB n F i (j+1)):=by
 rw[Zrb _ (by omega) (by omega)];refine Zdd fun a b _ _ => ?_
 unfold ZdB;by_cases h:a=i∧b=j
 ·obtain⟨rfl,rfl⟩:=h;rw[if_pos ⟨rfl,rfl⟩,decide_eq_true (by omega),Bool.true_and]
 rw[if_neg h];congr 1;exact decide_eq_decide.2 (by omega)
theorem ZbU (fn:Nat) (caps:Array Value) (n:Nat) (F:Nat→Nat→Bool) (w:World) (hn:n≤8) (hrun:∀ args u,(callFunc fn args).run Tryz.prog u = .ok (.enter fn args) u)
  (hF:∀ (i j:Nat),i≤j→j≤n→∀ u:World,Below w.heap.size w u→Calls Tryz.prog fn (#[.int .i64 (i:Int),.int .i64 (j:Int)]++caps) u fun e w'=>e = .returned (.bool (F i j))∧Below u.heap.size u w') :
  Calls Tryz.prog 135 #[.int .i64 (n:Int),.func (.func fn) #[] caps] w fun e w'=>e = .returned (.agg (spC (Zap n F)))∧Below w.heap.size w w':=by
 have HF:=qh hF;have HRUN:=qh hrun;clear hF hrun;have hz:Tryz.zeroCells120 = spC fun _ _=>false:=by rfl
 have HS0:=qh (show St w _ [Ent.box w.heap.size (spC fun _ _=>false) 120,Ent.box (w.heap.size+1) (spC (ZdB n F 0 0)) 120] from by rw[ZmZ];exact((St.start w).alloc w.heap.size rfl (spC fun _ _=>false) 120).alloc (w.heap.size+1) (by simp) (spC fun _ _=>false) 120);rw[← hz] at HS0;clear hz
 go_enter Tryz.func135, Tryz.ntmps135
 go_wp2
 go_loopw [6,7] (fun vi vj wr=>∃ i:Nat,vi = .int .i64 (i:Int)∧i≤n+1∧St w wr [Ent.box w.heap.size (spC fun _ _=>false) 120,Ent.box (w.heap.size+1) (spC (ZdB n F i 0)) 120]) (fun vi _ _=>n+1-(intOf vi).toNat)
 case atStart=>exact⟨0,rfl,Nat.zero_le _,HS0.out⟩
 case round =>
  obtain⟨i,rfl,hi,hS⟩:=hrel;have HS:=qh hS;clear hS HS0;by_cases hlt:i≤n
  ·have hi1:(i:Int)≤(n:Int):=by omega
   have hw1:IntKind.i64.wrap ((i:Int)+1)=(i:Int)+1:=IntWalk.i64_in _ (by omega);go_wp2
   go_loopw [7] (fun vj wr=>∃ j:Nat,vj = .int .i64 (j:Int)∧i≤j∧j≤n+1∧St w wr [Ent.box w.heap.size (spC fun _ _=>false) 120,Ent.box (w.heap.size+1) (spC (ZdB n F i j)) 120]) (fun vj _=>n+1-(intOf vj).toNat)
   case atStart=>exact⟨i,rfl,Nat.le_refl _,by omega,ZoS n F i ▸ HS.out⟩
   case round =>
    obtain⟨j,rfl,hij,hj,hS⟩:=hrel;have HSj:=qh hS;clear hS;by_cases hlt2:j≤n
    ·have hj1:(j:Int)≤(n:Int):=by omega
     have hjn:=hlt2;have hi9:(i:Int)<9:=by omega
     have hj9:(j:Int)<9:=by omega
     have hw2:IntKind.i64.wrap ((j:Int)+1)=(j:Int)+1:=IntWalk.i64_in _ (by omega);go_wp2;refine wp_region_any (by kernel_rfl) ?_
     refine Zau (fun A listed a w'=>∃ (l0 l1 l2 l3 l4 l5 l6 l7 l8:Bool) ,listed=#[l0,l1,l2,l3,l4,l5,l6,l7,l8] ∧
       a=⟨((((((((A.tmps.setIfInBounds 19 (if l0=true then .int .i64 (i:Int) else A.tmps.getD 19 undef)).setIfInBounds 20 (if l1=true then .int .i64 (j:Int) else A.tmps.getD 20 undef)).setIfInBounds 21 (if l2=true then .func (.func fn) #[] caps else A.tmps.getD 21 undef)).setIfInBounds 22 (if l3=true then .int .i64 (i:Int) else A.tmps.getD 22 undef)).setIfInBounds 23 (if l4=true then .int .i64 (j:Int) else A.tmps.getD 23 undef)).setIfInBounds 24 (if l5=true then .bool (F i j) else A.tmps.getD 24 undef)).setIfInBounds 25 (if l6=true then .pointer (some ⟨(w.heap.size+1),i*9,none⟩) else A.tmps.getD 25 undef)).setIfInBounds 26 (if l7=true then .pointer (some ⟨(w.heap.size+1),i*9+j,none⟩) else A.tmps.getD 26 undef)),A.defers⟩ ∧
       St w w' [Ent.box w.heap.size (spC fun _ _=>false) 120,(if l8=true then Ent.box ((w.heap.size+1)) (spC (ZdB n F i (j+1))) 120 else Ent.box ((w.heap.size+1)) (spC (ZdB n F i j)) 120)]) ?_ ?_ ?_
     ·rintro listed a w' ⟨l0,l1,l2,l3,l4,l5,l6,l7,l8,rfl,rfl,hS⟩ i hi;obtain⟨hun,o,ho,hall⟩:=mem_ready.1 hi;have hlt:=(Array.getElem?_eq_some_iff.1 ho).1;refine wpOp_step ho (fun K hK => ?_);clear hi;have HS:=qh hS;clear hS;simp only[List.setIfInBounds_toArray,List.set_cons_zero,List.set_cons_succ,Array.getD_eq_getD_getElem?,List.getElem?_toArray,List.getElem?_cons_zero,List.getElem?_cons_succ,Option.getD_some];obtain h|h|h|h|h|h|h|h|h:i=0∨i=1∨i=2∨i=3∨i=4∨i=5∨i=6∨i=7∨i=8:=by simp at hlt;omega
      all_goals subst h
      all_goals simp only[List.getElem?_toArray,List.getElem?_cons_zero,List.getElem?_cons_succ,Option.some.injEq] at ho
      all_goals subst ho
      all_goals simp[Region.binds] at hun hall
      ·subst hun;go_simp;exact hK _ _ ⟨true,l1,l2,l3,l4,l5,l6,l7,l8,rfl,(by simp),HS.out⟩
      ·subst hun;go_simp;exact hK _ _ ⟨l0,true,l2,l3,l4,l5,l6,l7,l8,rfl,(by simp),HS.out⟩
      ·subst hun;go_simp;exact hK _ _ ⟨l0,l1,true,l3,l4,l5,l6,l7,l8,rfl,(by simp),HS.out⟩
      ·subst hun;go_simp;exact hK _ _ ⟨l0,l1,l2,true,l4,l5,l6,l7,l8,rfl,(by simp),HS.out⟩
      ·subst hun;go_simp;exact hK _ _ ⟨l0,l1,l2,l3,true,l5,l6,l7,l8,rfl,(by simp),HS.out⟩
      ·obtain⟨rfl,rfl,rfl⟩:=hall;subst hun;go_simp;rw[HRUN.out];go_simp;refine(HF.out i j hij hjn _ HS.out.bel).mono ?_;rintro e u1 ⟨rfl,hb⟩;have hS2:=HS.out.call hb;replace hS2:=qh hS2;go_simp;exact hK _ _ ⟨l0,l1,true,true,true,true,l6,l7,l8,rfl,(by simp),hS2.out⟩
      ·obtain rfl:=hall;subst hun;go_simp;exact hK _ _ ⟨true,l1,l2,l3,l4,l5,true,l7,l8,rfl,(by simp),HS.out⟩
      ·obtain⟨rfl,rfl,rfl,-,rfl,rfl,rfl,rfl⟩:=hall;subst hun;go_simp;exact hK _ _ ⟨true,true,true,true,true,true,true,true,l8,rfl,(by simp),HS.out⟩
      obtain⟨rfl,rfl,rfl,rfl,rfl,rfl,rfl,-⟩:=hall;subst hun;have f0:=HS.out.fr 1 (i*9+j) rfl;have k0:=HS.out.cell (v:=.bool (ZdB n F i j i j)) 1 (i*9+j) rfl (ZnC _ (by omega) (by omega));go_simp;exact hK _ _ ⟨true,true,true,true,true,true,l6,true,true,rfl,(by simp),(Zm0 n F hij hjn hn ▸ HS.out.set 1 rfl (i*9+j) (.bool (F i j)))⟩
     ·rintro listed a w' ⟨l0,l1,l2,l3,l4,l5,l6,l7,l8,rfl,rfl,hS⟩ hr;have hall:=ZaT (by kernel_rfl) rfl hr;obtain rfl:l0=true:=by simpa using hall 0 (by simp)
      obtain rfl:l1=true:=by simpa using hall 1 (by simp)
      obtain rfl:l2=true:=by simpa using hall 2 (by simp)
      obtain rfl:l3=true:=by simpa using hall 3 (by simp)
      obtain rfl:l4=true:=by simpa using hall 4 (by simp)
      obtain rfl:l5=true:=by simpa using hall 5 (by simp)
      obtain rfl:l6=true:=by simpa using hall 6 (by simp)
      obtain rfl:l7=true:=by simpa using hall 7 (by simp)
      obtain rfl:l8=true:=by simpa using hall 8 (by simp)
      clear hall hr ;simp only[↓reduceIte] at hS ⊢;simp only[List.setIfInBounds_toArray,List.set_cons_zero,List.set_cons_succ];have HSf:=qh hS;clear hS;go_wp2;go_roundw
      case rel=>exact⟨j+1,by simp,by omega,by omega,HSf.out⟩
      case measure=>simp[intOf];omega
     refine⟨false,false,false,false,false,false,false,false,false,rfl,(by simp),?_⟩;exact HSj.out.drew.pick [0,1] (by decide)
    have hj1:¬ (j:Int)≤(n:Int):=by omega
    obtain rfl:j=n+1:=by omega
    go_wp2;go_roundw
    case rel=>exact⟨i+1,by simp,by omega,Zm1 n F i ▸ HSj.out⟩
    case measure=>simp[intOf];omega
  have hi1:¬ (i:Int)≤(n:Int):=by omega
  have hin:i=n+1:=by omega
  have hS9:=HS.out;rw[hin,ZoT] at hS9;have HS9:=qh hS9;have Hhin:=qh hin;clear hin;clear hS9;rename_i hK0;have HK:=qh hK0;clear hK0;go_wp2;refine HK.out _ _ ?_;have hI:(Tryz.prog.info? 120).map (·.size)=some 81:=by kernel_rfl
  refine wp_seq ?_;refine wp_region_list ?_;refine Zeq rfl 120 _ rfl (w.heap.size+1) rfl 120 (spC (Zap n F)) _ (HS9.out.box 1 rfl) Tryz.underlying120 rfl (by rw[hI,Zai]) ?_;refine ZdL rfl 120 _ _ rfl w.heap.size 120 (spC fun _ _=>false) (spC (Zap n F)) rfl rfl (HS9.out.box 0 rfl) (by rw[hI,Zai]) (by rw[Zai,Zai]) (Zbk _) ?_;refine wpList_nil ?_;have HS8:=qh (HS9.out.setAll 0 rfl (spC (Zap n F)));show Code.wp Tryz.prog Code.ret _ _ _;go_wp2;refine bodyPost_ret (v:=.agg (spC (Zap n F))) (Zbp Tryz.results135 _ _ _ w.heap.size 120 (spC (Zap n F)) _ rfl (HS8.out.box 0 rfl) Tryz.underlying120 rfl (by rw[hI,Zai])) rfl ?_;exact⟨rfl,HS8.out.bel⟩
def TabAt (w:World) (b:Nat) (T:Nat→Nat→Bool):Prop:=∀ x y,x<9→y<9→w.cell? ⟨b,x*9+y,none⟩=some (.bool (T x y))
theorem TabAt.of_box {w:World} {b:Nat} {T:Nat→Nat→Bool} {t:TypeId} (h:Bx w b (spC T) t):TabAt w b T:=fun x y hx hy=>(h.cell (x*9+y)).trans (ZnC T hx hy)
theorem Zlc (A B:Nat→Nat→Bool) (b2 b3 i j:Nat) (u:World) (hij:i≤j) (hj:j≤8) (hA:TabAt u b2 A) (hB:TabAt u b3 B) (r:Bool) (hr:r=true↔∃ k,i≤k∧k≤j∧A i k=true∧B k j=true) :
  Calls Tryz.prog 166 #[.int .i64 (i:Int),.int .i64 (j:Int),.pointer (some ⟨b2,0,none⟩),.pointer (some ⟨b3,0,none⟩)] u fun e w'=>e = .returned (.bool r)∧Below u.heap.size u w':=by
 have HA:=qh hA;have HB:=qh hB;have HR:=qh hr;clear hA hB hr;have hi9:(i:Int)<9:=by omega
 have hj9:(j:Int)<9:=by omega
 go_enter Tryz.func166, Tryz.ntmps166
 go_wp2
 go_loopw [7] (fun vk wr=>∃ k:Nat,vk = .int .i64 (k:Int)∧i≤k∧k≤j+1∧(∀ m,i≤m→m<k→¬ (A i m=true∧B m j=true))∧wr=u) (fun vk _=>j+1-(intOf vk).toNat)
 case atStart=>exact⟨i,rfl,Nat.le_refl _,by omega,fun m h1 h2=>by omega,rfl⟩
 case round =>
  obtain⟨k,rfl,hik,hk,hno,rfl⟩:=hrel;have HNO:=qh hno;clear hno;by_cases hlt:k≤j
  ·have hk1:(k:Int)≤(j:Int):=by omega
   have hk9:(k:Int)<9:=by omega
   have hw1:IntKind.i64.wrap ((k:Int)+1)=(k:Int)+1:=IntWalk.i64_in _ (by omega);have k0:=HA.out i k (by omega) (by omega);have k1:=HB.out k j (by omega) (by omega);cases ha:A i k with
   | false =>
    rw[ha] at k0;have Ha:=qh ha;clear ha;go_wp2;go_roundw
    case rel=>exact⟨k+1,by simp,by omega,by omega,fun m h1 h2 h3=>by
     by_cases he:m=k
     ·subst he;rw[Ha.out] at h3;exact absurd h3.1 (by simp)
     exact HNO.out m h1 (by omega) h3,trivial⟩
    case measure=>simp[intOf];omega
   | true =>
    rw[ha] at k0;have Ha:=qh ha;clear ha;cases hb:B k j with
    | false =>
     rw[hb] at k1;have Hb:=qh hb;clear hb;go_wp2;go_roundw
     case rel=>exact⟨k+1,by simp,by omega,by omega,fun m h1 h2 h3=>by
      by_cases he:m=k
      ·subst he;rw[Hb.out] at h3;exact absurd h3.2 (by simp)
      exact HNO.out m h1 (by omega) h3,trivial⟩
     case measure=>simp[intOf];omega
    | true =>rw[hb] at k1;have hrt:r=true:=HR.out.2 ⟨k,hik,hlt,Ha.out,hb⟩;subst hrt;clear hb;go_wp2;go_ret;exact⟨rfl,Below.refl _ _⟩
  have hk1:¬ (k:Int)≤(j:Int):=by omega
  have hrf:r=false:=by
   cases hr:r with
   | false=>rfl
   | true =>obtain⟨m,h1,h2,h3,h4⟩:=HR.out.1 hr;exact absurd ⟨h3,h4⟩ (HNO.out m h1 (by omega))
  subst hrf;go_wp2;go_ret;exact⟨rfl,Below.refl _ _⟩
theorem Zbs {f : FuncId} {fn : Func} {c : Code} (hf : Tryz.prog.funcs[f]? = some fn) (hname : (fn.name == "runtime.NumGoroutine") = false) (hb : fn.body = some c) (args : Array Value) (w : World) :
  (callFunc f args).run Tryz.prog w = .ok (.enter f args) w:=by
 have h1 : fn.name ≠ "runtime.NumGoroutine" := by simpa using hname
 simp[callFunc,hf,h1,hb]
theorem Zd1 (n:Nat) (A B F:Nat→Nat→Bool) (w:World) (hn:n≤8) (hF:∀ i j,i≤j→j≤n→(F i j=true↔∃ k,i≤k∧k≤j∧A i k=true∧B k j=true)) :
  Calls Tryz.prog 138 #[.int .i64 (n:Int),.agg (spC A),.agg (spC B)] w fun e w'=>e = .returned (.agg (spC (Zap n F)))∧Below w.heap.size w w':=by
 have HF:=qh hF;clear hF;have hz:Tryz.zeroCells120 = spC fun _ _=>false:=by rfl
 have HS0:=qh (show St w _ [Ent.box w.heap.size (spC A) 120,Ent.box (w.heap.size+1) (spC B) 120,Ent.box (w.heap.size+1+1) (spC fun _ _=>false) 120] from((((St.start w).alloc w.heap.size rfl (spC A) 120).alloc (w.heap.size+1) (by simp) (spC B) 120)).alloc (w.heap.size+1+1) (by simp) (spC fun _ _=>false) 120);rw[← hz] at HS0;replace hz:=qh hz
 go_enter Tryz.func138, Tryz.ntmps138
 go_wp2_with (go_at_call 135;go_loud (refine(ZbU 166 #[.pointer (some ⟨w.heap.size,0,none⟩),.pointer (some ⟨w.heap.size+1,0,none⟩)] n F _ hn (Zbs Tryz.func166 (by kernel_rfl) rfl) (fun i j hij hj u hu=>Zlc A B _ _ i j u hij (by omega) (TabAt.of_box ((HS0.out.call hu).box 0 rfl)) (TabAt.of_box ((HS0.out.call hu).box 1 rfl)) (F i j) (HF.out i j hij hj))).mono ?_;rintro e w1 ⟨rfl,hb⟩;have HS1:=qh (HS0.out.call hb);have hst:=Zbm (P:=Tryz.prog) (HS1.out.box 2 rfl) (cs':=spC (Zap n F)) (by rw[Zai,hz.out,Zai]) (Zbk _);clear hb));have hI:(Tryz.prog.info? 120).map (·.size)=some 81:=by kernel_rfl
 have HS8:=qh (HS1.out.setAll 2 rfl (spC (Zap n F)));refine bodyPost_ret (v:=.agg (spC (Zap n F))) (Zbp Tryz.results138 _ _ _ (w.heap.size+1+1) 120 (spC (Zap n F)) _ rfl (HS8.out.box 2 rfl) Tryz.underlying120 rfl (by rw[hI,Zai])) rfl ?_;exact⟨rfl,HS8.out.bel⟩
theorem Znx (i j:Nat) (u:World) (r:Bool) (hr:r=true↔i=j) (_hi:i≤8) (hj:j≤8) :
  Calls Tryz.prog 167 #[.int .i64 (i:Int),.int .i64 (j:Int)] u fun e w'=>e = .returned (.bool r)∧Below u.heap.size u w':=by
 by_cases h:i=j
 ·have hr1:=hr.2 h;subst hr1 h;clear hr
  go_enter Tryz.func167, Tryz.ntmps167
  go_wp2;go_ret;exact⟨by simp,Below.refl _ _⟩
 have hr1:r=false:=by
  cases r with
  | false=>rfl
  | true=>exact absurd (hr.1 rfl) h
 subst hr1;have hn:((i:Int)==(j:Int))=false:=by simp;omega
 clear hr
 go_enter Tryz.func167, Tryz.ntmps167
 go_wp2;go_ret;exact⟨by simp,Below.refl _ _⟩
theorem Znw (A B:Nat→Nat→Bool) (b2 b3 i j:Nat) (u:World) (hij:i≤j) (hj:j≤8) (hA:TabAt u b2 A) (hB:TabAt u b3 B) (r:Bool) (hr:(A i j||B i j)=r) :
  Calls Tryz.prog 168 #[.int .i64 (i:Int),.int .i64 (j:Int),.pointer (some ⟨b2,0,none⟩),.pointer (some ⟨b3,0,none⟩)] u fun e w'=>e = .returned (.bool r)∧Below u.heap.size u w':=by
 have hi9:(i:Int)<9:=by omega
 have hj9:(j:Int)<9:=by omega
 have k0:=hA i j (by omega) (by omega);have k1:=hB i j (by omega) (by omega);cases ha:A i j with
 | true =>
  rw[ha] at k0 hr;subst hr;clear ha hA hB k1
  go_enter Tryz.func168, Tryz.ntmps168
  go_wp2;go_ret;exact⟨rfl,Below.refl _ _⟩
 | false =>
  rw[ha] at k0 hr;obtain⟨y,hy⟩:=eJ (B i j);rw[hy] at k1 hr;rw[Bool.false_or] at hr;subst hr;clear ha hA hB hy
  go_enter Tryz.func168, Tryz.ntmps168
  go_wp2;go_ret;exact⟨rfl,Below.refl _ _⟩
def ZhJ (A B:Nat→Nat→Bool) (i j:Nat):Bool:=(List.range 9).any fun k=>decide (i≤k∧k≤j)&&(A i k&&B k j)
theorem Zfa {A B:Nat→Nat→Bool} {n i j:Nat} (hn:n≤8) (hj:j≤n):ZhJ A B i j=true↔∃ k,i≤k∧k≤j∧A i k=true∧B k j=true:=by
 unfold ZhJ;rw[List.any_eq_true];constructor
 ·rintro⟨k,-,h⟩;rw[Bool.and_eq_true,Bool.and_eq_true,decide_eq_true_eq] at h;exact⟨k,h.1.1,h.1.2,h.2.1,h.2.2⟩
 rintro⟨k,h1,h2,h3,h4⟩;refine⟨k,List.mem_range.2 (by omega),?_⟩;rw[Bool.and_eq_true,Bool.and_eq_true,decide_eq_true_eq];exact⟨⟨h1,h2⟩,h3,h4⟩
def stB (n:Nat) (A:Nat→Nat→Bool):Nat→Nat→Nat→Bool
 | 0=>fun i j=>decide (i=j)
 | m+1=>fun i j=>stB n A m i j||ZhJ (Zap n (stB n A m)) A i j
theorem ZbJ {n i j:Nat} (F:Nat→Nat→Bool) (h1:i≤j) (h2:j≤n):Zap n F i j=F i j:=by unfold Zap;rw[decide_eq_true ⟨h1,h2⟩,Bool.true_and]
theorem ZkM {n:Nat} (hn:n≤8) (A:Nat→Nat→Bool):∀ (m:Nat) {i j:Nat},i≤j→j≤n→(stB n A m i j=true↔stR (fun a b=>A a b=true) m i j)
 | 0,i,j,_,_=>by simp[stB,stR]
 | m+1,i,j,hij,hj=>by show(stB n A m i j||ZhJ _ A i j)=true↔stR _ m i j∨_;rw[Bool.or_eq_true,ZkM hn A m hij hj,Zfa hn hj];refine or_congr Iff.rfl (exists_congr fun k=>and_congr_right fun h1=>and_congr_right fun h2 => ?_);rw[ZbJ _ h1 (by omega),ZkM hn A m h1 (by omega)]
theorem Zb8 {op:Oper} {a:Act} {w:World} {K:Act→World→Prop} {Q:Exit→Act→World→Prop} (ty:TypeId) (x:Operand) (ho:op.op = .load ty x) (b:Nat) (T:TypeId) (cs:Array Value) (d:TypeDesc) (hx:a.eval x = .pointer (some ⟨b,0,none⟩)) (hb:Bx w b cs T)
  (hu:Tryz.prog.underlying ty=some d) (hd:d.isRow=true) (hi:(Tryz.prog.info? ty).map (·.size)=some cs.size) (h:K (a.put op.dst (.agg cs)) w):op.wp Tryz.prog a w K Q:=by
 have hr:(loadVar ty ⟨b,0,none⟩).run Tryz.prog w = .ok (.agg cs) w:=run_loadVar_row w b T ty cs (0,0) d hb hu (by cases d<;>simp_all [TypeDesc.isRow]) hi;unfold Oper.wp execOp;simp only[ho,hx,Instr.loadAt,Instr.sureAddr,Sem.run_bind,Sem.run_pure,Result.andThen_ok,hr];exact h
end Go.Proofs.YtfgpkadhegdffaaGreat
