/-
  Small facts about slices in memory: what a slice value reads as, and that it still reads so in a later world.
  No condition: this text speaks of no program.
  What a call made for itself: slices in blocks of numbers from lo on and below hi, that may be written.
  No condition: this text speaks of no program.
  A map that a call makes, as a list of keys and values in the order in which the keys came: looking a key up, and storing.
  Conditions: the keys are encoded data that can be keys of the map's type; no key stands there twice.
  What a call made for itself, where one of its slices grows or one of its variables is written: blocks of different types are different blocks.
  No condition: this text speaks of no program.
-/
import Derived.Test.YtfanhfcamblghaaPq03Mk
set_option maxHeartbeats 4000000
set_option maxRecDepth 100000
namespace Go.Proofs.Ytfanhfcamblghaa
open Go.RowKit
theorem ZnB (a b:Nat):((a:Int)==b)=decide (a=b):=by rw[Bool.eq_iff_iff];simp;omega
theorem Zc3 (w:World) (o:Obj) (b j:Nat) (h:b<w.heap.size):(w.alloc o).cell? ⟨b,j,none⟩=w.cell? ⟨b,j,none⟩ :=
 World.cell?_of_block (Below.heap_alloc w o b h)
theorem IntSS.formI {B:Nat} {w:World} {v:Value} {xss:List (List Int)} (h:IntSS B w v xss):∃ a cap,v = .slice a xss.length cap∧xss.length≤cap∧cap≤9223372036854775807 ∧
  (0<xss.length→∃ b off,a=some ⟨b,off,none⟩∧B≤b∧b<w.heap.size∧∀ i,i<xss.length→∃ a' cap',w.cell? ⟨b,off+i,none⟩=some (.slice a' (xss.getD i []).length cap')∧(xss.getD i []).length≤cap'∧cap'≤9223372036854775807 ∧
   Ints B w (.slice a' (xss.getD i []).length cap') (xss.getD i [])):=by
 obtain⟨vs,⟨hl,a,cap,hv,h1,h2,h3⟩,hr⟩:=h;refine⟨a,cap,hv,h1,h2,fun hn => ?_⟩;obtain⟨b,off,ha,hb,hlt,hc⟩:=h3 hn;refine⟨b,off,ha,hb,hlt,fun i hi => ?_⟩;obtain⟨a',cap',hv',h1',h2',h3'⟩:=(hr i hi).form;refine⟨a',cap',?_,h1',h2',?_⟩
 ·rw[hc i (by omega),← hv'];simp at hl;simp[show i<vs.length by omega]
 rw[← hv'];exact hr i hi
/-! Slices of structs of ints -/
/-! Comparing lists place by place -/
end Go.Proofs.Ytfanhfcamblghaa
namespace Go.Proofs.Ytfanhfcamblghaa
open Go.RowKit
end Go.Proofs.Ytfanhfcamblghaa
namespace Go.Proofs.Ytfanhfcamblghaa
open Go.RowKit Go.Maps
section
variable {α:Type} [DecidableEq α]
variable {P:Program} {kt:TypeId} {enc:α→Value} {w:World} {b:Nat} {L:List (α × Value)}
theorem MapL.lookupOk (h:MapL P kt enc w b L) (K:Keyed P kt) (hi:∀ x y:α,enc x=enc y→x=y) {t e:TypeId} (ht:P.underlying t=some (.map kt e)) {z:Value} (hz:(zeroValue e).run P w = .ok z w)
  {a:α} {l:Lit} (ha:keyOf P kt (enc a)=some l):(Instr.lookup t (.map (some b)) (enc a) true).run P w = .ok (.tuple #[(look a L).getD z,.bool (look a L).isSome]) w:=by
 obtain⟨es,clock,hb,-⟩:=h.2.2;have hc:=K.check w es.isEmpty ha;rcases h.find K hi ha hb with⟨hr,hl,-⟩|⟨j,v,hr,-,hl⟩
 ·rw[hl];simp[Instr.lookup,run_underlying ht,getObj,hb,hc,hr,hz,Result.andThen,Sem.run]
 rw[hl];simp[Instr.lookup,run_underlying ht,getObj,hb,hc,hr,Result.andThen,Sem.run]
end
end Go.Proofs.Ytfanhfcamblghaa
namespace Go.Proofs.Ytfanhfcamblghaa
open Go.RowKit
theorem Zby {w:World} {base e size n:Nat} {v:Value} {cs:List Value} (h:w.ownsRow base e size v n cs):ZeT w v.ownBlock:=fun k hk=>by obtain⟨c,hc⟩:=Za4 h hk;exact⟨_,_,_,hc⟩
theorem Zhw {next:List (List Int)} {ends:List Bool} {k:Nat} (hk:k<next.length) (h:Zex next.length (next.getD k [])=false):Za2 next ends=false:=by
 unfold Za2;have:next.all (Zex next.length)=false:=by rw[List.all_eq_false];refine⟨next[k],List.getElem_mem hk,?_⟩;simpa [hk] using h
 simp[this]
theorem Zka {n:Int} {row:List Int} (h:row.length≠3):Zex n row=false:=by simp[Zex,h]
theorem Zmw {α:Type} {p:α→Bool} {l:List α} {k:Nat} {d:α} (hk:k<l.length) (h:(l.take k).all p=true) (hp:p (l.getD k d)=true):(l.take (k+1)).all p=true:=by rw[List.take_succ_eq_append_getElem hk,List.all_append,h];simpa [hk] using hp
end Go.Proofs.Ytfanhfcamblghaa
namespace Go.Proofs.Ytfanhfcamblghaa
open Go.RowKit
end Go.Proofs.Ytfanhfcamblghaa
namespace Go.Proofs.Ytfanhfcamblghaa
open Go.RowKit
end Go.Proofs.Ytfanhfcamblghaa
namespace Go.Proofs.Ytfanhfcamblghaa
open Go.RowKit
def badT (n t:Int):Bool:=!inB t 0 (n-1)
theorem ZdQ (x n:Int) (b:Nat) (w:World) (hn:0≤n∧n≤9223372036854775807) (hc:w.cell? ⟨b,0,none⟩=some (.int .i64 n)) (r:Bool) (hr:badT n x=r) :
  Calls Try.prog 108 #[.int .i64 x,.pointer (some ⟨b,0,none⟩)] w fun e w'=>e = .returned (.bool r)∧w=w':=by
 subst hr;obtain⟨h1,h2⟩:=hn
 go_enter Try.func108, Try.ntmps108
 go_wp2_with (go_at_call 48;refine(Zas _ _ _ _ _ rfl).mono ?_;rintro e w' ⟨rfl,rfl⟩);go_ret;exact⟨rfl,rfl⟩
theorem Zfv (xs:List Int) (v:Value) (n:Int) (b:Nat) (w:World) (hn:0≤n∧n≤9223372036854775807) (hc:w.cell? ⟨b,0,none⟩=some (.int .i64 n)) (h1:Ints 0 w v xs) :
  Calls Try.prog 129 #[v,.func (.func 108) #[] #[.pointer (some ⟨b,0,none⟩)]] w fun e w'=>e = .returned (.int .i64 (Zbn (badT n) xs))∧w=w':=by
 obtain⟨a1,c1,rfl,hc1,hm1,hr1⟩:=h1.form;clear h1
 go_enter Try.func129, Try.ntmps129
 go_wp2
 go_loop [4,8] (fun r i=>∃ k:Nat,k≤xs.length∧i = .int .i64 k∧(xs.take k).any (badT n)=false) (fun _ i=>xs.length-(intOf i).toNat)
 case atStart=>exact⟨0,Nat.zero_le _,rfl,rfl⟩
 case round =>
  obtain⟨k,hk,rfl,htk⟩:=hrel;replace htk:=qh htk;by_cases hlt:k<xs.length
  ·obtain⟨b1,o1,rfl,hB1,hbl1,hcs1⟩:=hr1 (by omega);have hx1:=hcs1 k hlt;obtain⟨x,hxx⟩:=eI (xs.getD k 0);rw[← hxx] at hx1;have Hhxx:=qh hxx;clear hxx;clear hcs1 hr1;cases hb:badT n x
   ·replace hb:=qh hb;go_wp2_with (go_at_call 108;refine(ZdQ x n b _ hn hc _ hb.out).mono ?_;rintro e w' ⟨rfl,rfl⟩)
    go_round
    case rel=>exact⟨k+1,by omega,by go_num,ZeS (d:=0) hlt htk.out (by rw[← Hhxx.out];exact hb.out)⟩
    case measure=>simp[intOf];omega
   replace hb:=qh hb;go_wp2_with (go_at_call 108;refine(ZdQ x n b _ hn hc _ hb.out).mono ?_;rintro e w' ⟨rfl,rfl⟩);go_ret;exact⟨ZcQ (by rw[ZbW (d:=0) hlt htk.out (by rw[← Hhxx.out];exact hb.out)]),rfl⟩
  clear hr1;go_wp2;go_ret;exact⟨ZcQ (by rw[ZbA (by omega) htk.out]),rfl⟩
theorem ZbZ (xs:List Int) (v:Value) (n:Int) (b:Nat) (w:World) (hn:0≤n∧n≤9223372036854775807) (hc:w.cell? ⟨b,0,none⟩=some (.int .i64 n)) (h1:Ints 0 w v xs) (r:Bool) (hr:xs.any (badT n)=r) :
  Calls Try.prog 98 #[v,.func (.func 108) #[] #[.pointer (some ⟨b,0,none⟩)]] w fun e w'=>e = .returned (.bool r)∧w=w':=by
 obtain⟨a1,c1,hv,-⟩:=h1.form;have H1:=qh h1;subst hv;clear h1;replace hr:=qh hr
 go_enter Try.func98, Try.ntmps98
 go_wp2_with (go_at_call 129;refine(Zfv xs _ n b _ hn hc H1.out).mono ?_;rintro e w' ⟨rfl,rfl⟩);go_ret;exact⟨Zcs (by rw[← hr.out,ZbX]),rfl⟩
theorem Zkb {n:Int} {row:List Int} (h:row.any (badT n)=true):Zex n row=false:=by
 unfold Zex;have:(row.all fun t=>inB t 0 (n-1))=false:=by rw[List.any_eq_true] at h;obtain⟨x,hx,hp⟩:=h;rw[List.all_eq_false];exact⟨x,hx,by simpa [badT] using hp⟩
 simp[this]
theorem Zj9 {n:Int} {row:List Int} (hl:row.length=3) (h:row.any (badT n)=false):Zex n row=true:=by unfold Zex;rw[List.any_eq_false] at h;simp only[hl,decide_true,Bool.true_and,List.all_eq_true];intro x hx;have:=h x hx;simpa [badT] using this
theorem ZcI (d:DfaD) (v:Value) (w:World) (h:DfaR 0 w v d) (r:Bool) (hr:Za2 d.next d.ends=r) :
  Calls Try.prog 64 #[v] w fun e w'=>e = .returned (.bool r)∧Below w.heap.size w w':=by
 obtain⟨next,ends⟩:=d;obtain⟨v1,v2,rfl,h1,h2⟩:=h;simp only at h1 h2 hr;obtain⟨a1,c1,rfl,hc1,hm1,hr1⟩:=h1.formI;obtain⟨a2,c2,rfl,hc2,hm2,hr2⟩:=h2.form;have Hr:=qh hr;clear h1 h2 hr hr2
 go_enter Try.func64, Try.ntmps64
 go_wp2
 go_loopw [2,12] (fun r i wr=>∃ k:Nat,k≤next.length∧i = .int .i64 k∧(next.take k).all (Zex next.length)=true∧Below (w.heap.size+2) ((w.alloc (.cells #[.slice a1 next.length c1,.slice a2 ends.length c2] 45)).alloc (.cells #[.int .i64 next.length] 3)) wr)
  (fun _ i _=>next.length-(intOf i).toNat)
 case atStart=>exact⟨0,Nat.zero_le _,rfl,rfl,Below.refl _ _⟩
 case round =>
  obtain⟨k,hk,rfl,hall,hb⟩:=hrel;have hend:Below w.heap.size w wr:=(((Below.refl _ _).alloc (Nat.le_refl _) _).alloc (by simp) _).trans (hb.mono (by omega));have x0:=((Bx.new w _ _).alloc _).below hb (by omega);have x1:=(Bx.new (w.alloc _) _ _).below hb (by simp);have hx0:=x0.cell 0;have hx2:=x0.cell 1;have hx1:=x1.cell 0;simp only[List.getElem?_toArray,List.getElem?_cons_zero,List.getElem?_cons_succ,World.size_alloc] at hx0 hx1 hx2;have Hend:=qh hend;clear hend x0 x1;by_cases hlt:k<next.length
  ·obtain⟨b,off,rfl,hB,hbl,hcs⟩:=hr1 (by omega);obtain⟨row,hrw⟩:=eI (next.getD k []);have hcsk:=hcs k hlt;rw[← hrw] at hcsk;replace hrw:=qh hrw;obtain⟨a',cap',hcell,hcc,hcm,hrow⟩:=hcsk;have hx3:=(bcell Hend.out b (off+k) hbl).trans hcell;have Hrow:=qh (hrow.below Hend.out);replace hall:=qh hall;have Hhb:=qh hb;clear hb;clear hcs hr1 hcell hrow;by_cases hlen:row.length=3
   ·have hl3:((row.length:Int) != 3)=false:=by rw[hlen];rfl
    have Hhlen:=qh hlen;clear hlen;cases hany:row.any (badT next.length)
    ·have Hhany:=qh hany;clear hany;go_wp2_with (go_at_call 98;refine(ZbZ row _ next.length _ _ (by omega) hx1 Hrow.out _ Hhany.out).mono ?_;rintro e w' ⟨rfl,rfl⟩);go_roundw
     case rel=>exact⟨k+1,by omega,by go_num,Zmw (d:=[]) hlt hall.out (by rw[← hrw.out];exact Zj9 Hhlen.out Hhany.out),Hhb.out⟩
     case measure=>simp[intOf];omega
    have Hhany:=qh hany;clear hany;go_wp2_with (go_at_call 98;refine(ZbZ row _ next.length _ _ (by omega) hx1 Hrow.out _ Hhany.out).mono ?_;rintro e w' ⟨rfl,rfl⟩);go_ret;exact⟨by rw[← Hr.out,Zhw hlt (by rw[← hrw.out];exact Zkb Hhany.out)];rfl,Hend.out⟩
   have hl3:((row.length:Int) != 3)=true:=by rw[bne_iff_ne];omega
   have Hhlen:=qh hlen;clear hlen;go_wp2;go_ret;exact⟨by rw[← Hr.out,Zhw hlt (by rw[← hrw.out];exact Zka Hhlen.out)];rfl,Hend.out⟩
  have hfin:Za2 next ends=(inB next.length 1 40&&decide (ends.length=next.length)):=by have h3:=hall;rw[List.take_of_length_le (by omega)] at h3;simp[Za2,h3]
  have Hhfin:=qh hfin;clear hfin;have Hhb:=qh hb;clear hb;clear hall hr1;cases hin:inB next.length 1 40
  ·have Hhin:=qh hin;clear hin;go_wp2_with (go_at_call 48;refine(Zas _ _ _ _ _ Hhin.out).mono ?_;rintro e w' ⟨rfl,rfl⟩);go_ret;exact⟨by rw[← Hr.out,Hhfin.out,Hhin.out];rfl,Hend.out⟩
  have Hhin:=qh hin;clear hin;go_wp2_with (go_at_call 48;refine(Zas _ _ _ _ _ Hhin.out).mono ?_;rintro e w' ⟨rfl,rfl⟩);go_ret;exact⟨Zcs (by rw[← Hr.out,Hhfin.out,Hhin.out,ZnB];rfl),Hend.out⟩
end Go.Proofs.Ytfanhfcamblghaa
namespace Go.Proofs.Ytfanhfcamblghaa
section
variable {α:Type} [DecidableEq α]
variable {nx:α→Nat→α} {a:α}
theorem ZbE (k:Nat):bpart nx a k 0=bat nx a k:=rfl
theorem Zgg (k n:Nat):bpart nx a k (n+1)=bvisit nx ((bat nx a k).met.getD k a) ((bat nx a k).words.getD k []) (bpart nx a k n) n:=rfl
theorem ZfL {k n:Nat} (h:nx ((bat nx a k).met.getD k a) n∈(bpart nx a k n).met):bpart nx a k (n+1)=bpart nx a k n:=by rw[Zgg,bvisit,if_pos h]
theorem ZfM {k n:Nat} (h:nx ((bat nx a k).met.getD k a) n ∉ (bpart nx a k n).met):bpart nx a k (n+1)=⟨(bpart nx a k n).met++[nx ((bat nx a k).met.getD k a) n],(bpart nx a k n).words++[(bat nx a k).words.getD k []++[n]]⟩:=by rw[Zgg,bvisit,if_neg h]
theorem Zlg (Q:Bs α→Prop) (h0:Q ⟨[a],[[]]⟩) (hv:∀ s k,k<s.met.length→∀ t c,c<3→Q s→Q t→Q (bvisit nx (s.met.getD k a) (s.words.getD k []) t c)) {k n:Nat} (hk:k<(bat nx a k).met.length) (hn:n≤3):Q (bpart nx a k n) :=
 ZeP Q (Zek Q h0 hv k) (fun t c hc ht=>hv _ k hk t c hc (Zek Q h0 hv k) ht) n hn
theorem Zgh {k n:Nat} (hk:k<(bat nx a k).met.length) (hn:n≤3):(bpart nx a k n).met.Nodup∧(bpart nx a k n).words.length=(bpart nx a k n).met.length∧(bpart nx a k n).met.head? = some a :=
 Zlg (fun s=>s.met.Nodup∧s.words.length=s.met.length∧s.met.head? = some a) (by simp) (fun s k _ t c _ _ ht=>ZfK _ _ _ ht) hk hn
theorem ZgW (k:Nat):0<(bat nx a k).met.length:=by
 have:=(Zb3 (nx:=nx) (a:=a) k).2.2;cases h:(bat nx a k).met with
 | nil=>rw[h] at this;simp at this
 | cons=>simp
theorem ZhE (k:Nat):(bat nx a k).met.getD 0 a=a:=by
 have:=(Zb3 (nx:=nx) (a:=a) k).2.2;cases h:(bat nx a k).met with
 | nil=>rw[h] at this;simp at this
 | cons=>rw[h] at this;simpa using this
theorem Zds {Q:α→Prop} (h0:Q a) (hv:∀ x c,c<3→Q x→Q (nx x c)) (k:Nat):∀ x∈(bat nx a k).met,Q x:=by
 refine Zek (fun s=>∀ x∈s.met,Q x) (by simpa using h0) (fun s k hk t c hc hs ht => ?_) k;unfold bvisit
 split
 ·exact ht
 intro x hx;simp only[List.mem_append,List.mem_singleton] at hx;rcases hx with hx|rfl
 ·exact ht x hx
 refine hv _ c hc (hs _ ?_);rw[List.getD_eq_getElem?_getD,List.getElem?_eq_getElem hk];simp
theorem Zld (x:α) (wd:List Nat) (s:Bs α) (c:Nat):s.le (bvisit nx x wd s c):=by
 unfold bvisit
 split
 ·exact Bs.le_refl _
 exact⟨List.prefix_append _ _,List.prefix_append _ _⟩
theorem Zle (x:α) (wd:List Nat) (s:Bs α) (n m:Nat) (h:n≤m):(brow nx x wd s n).le (brow nx x wd s m):=by
 induction m with
 | zero=>obtain rfl:n=0:=by omega
         exact Bs.le_refl _
 | succ m ih =>
  by_cases hn:n=m+1
  ·subst hn;exact Bs.le_refl _
  exact Bs.le_trans (ih (by omega)) (Zld _ _ _ _)
theorem ZeQ {k n m:Nat} (h:n≤m):(bpart nx a k n).le (bpart nx a k m):=Zle _ _ _ n m h
theorem Zih (k:Nat):(bat nx a k).le (bat nx a (k+1)):=by
 by_cases h:k<(bat nx a k).met.length
 ·rw[Zb2 h];exact Zle _ _ _ 0 3 (by omega)
 rw[Zdb (by omega)];exact Bs.le_refl _
theorem Zlk {k m:Nat} (h:k≤m):(bat nx a k).le (bat nx a m):=by
 induction m with
 | zero=>obtain rfl:k=0:=by omega
         exact Bs.le_refl _
 | succ m ih =>
  by_cases hn:k=m+1
  ·subst hn;exact Bs.le_refl _
  exact Bs.le_trans (ih (by omega)) (Zih _)
theorem Zc2 {k n m:Nat} (hk:k<(bat nx a k).met.length) (hn:n≤3) (hm:k<m):(bpart nx a k n).le (bat nx a m):=by
 have h1:(bpart nx a k n).le (bat nx a (k+1)):=by rw[Zb2 hk];exact ZeQ hn
 exact Bs.le_trans h1 (Zlk hm)
theorem ZeR {k m:Nat} (h:(bat nx a k).met.length≤k) (hm:k≤m):bat nx a m=bat nx a k:=by
 induction m with
 | zero=>obtain rfl:k=0:=by omega
         rfl
 | succ m ih =>
  by_cases hn:k=m+1
  ·subst hn;rfl
  have e:=ih (by omega);rw[Zdb (by rw[e];omega),e]
theorem Zc6 {l m:List α} (h:l <+: m) {x:α} (hx:x∈l):Zat m x=Zat l x:=by obtain⟨t,rfl⟩:=h;unfold Zat;rw[List.idxOf_append,if_pos hx]
theorem Zlf {k n c:Nat} (hc:c<n):nx ((bat nx a k).met.getD k a) c∈(bpart nx a k n).met:=by
 have h1:nx ((bat nx a k).met.getD k a) c∈(bpart nx a k (c+1)).met:=by
  by_cases h:nx ((bat nx a k).met.getD k a) c∈(bpart nx a k c).met
  ·rw[ZfL h];exact h
  rw[ZfM h];simp
 exact(ZeQ (nx:=nx) (a:=a) (k:=k) (show c+1≤n by omega)).1.subset h1
end
def Zh0 {α:Type} [DecidableEq α] (nx:α→Nat→α) (a:α) (F:List α) (s:Int) (c:Nat):Int:=Zat F (nx (F.getD s.toNat a) c)
end Go.Proofs.Ytfanhfcamblghaa
namespace Go.Proofs.Ytfanhfcamblghaa
open Go.RowKit
section
variable {α:Type} [DecidableEq α]
omit [DecidableEq α] in
theorem ZgE (l:List α) (x:α):numbered (l++[x])=numbered l++[(x,Value.int .i64 (l.length:Int))]:=by simp[numbered,List.zipIdx_append]
omit [DecidableEq α] in
theorem Zcx (l:List α):(numbered l).map (·.1)=l:=by simp only[numbered,List.map_map];have:((fun x:α × Value=>x.1) ∘ fun p:α × Nat=>(p.1,Value.int .i64 (p.2:Int)))=Prod.fst:=rfl;rw[this,List.zipIdx_map_fst]
theorem Zbz {l:List α} (hn:l.Nodup) {x:α} (hx:x∈l):look x (numbered l)=some (.int .i64 (Zat l x:Int)):=by refine ZiC (by rw[Zcx];exact hn) (j:=Zat l x) ?_;have hlt:=List.idxOf_lt_length_iff.2 hx;unfold Zat;simp only[numbered,List.getElem?_map,List.getElem?_zipIdx,List.getElem?_eq_getElem hlt,Option.map_some,Nat.zero_add,List.getElem_idxOf]
theorem ZcW {l:List α} {x:α} (hx:x ∉ l):look x (numbered l)=none :=
 Zhd fun p hp e=>hx (by rw[← Zcx l,← e];exact List.mem_map.2 ⟨p,hp,rfl⟩)
theorem Zdc {l:List α} {x:α} (hx:x ∉ l):upd x (.int .i64 (l.length:Int)) (numbered l)=numbered (l++[x]):=by rw[ZgE];exact Zij fun p hp e=>hx (by rw[← Zcx l,← e];exact List.mem_map.2 ⟨p,hp,rfl⟩)
end
end Go.Proofs.Ytfanhfcamblghaa
namespace Go.Proofs.Ytfanhfcamblghaa
open Go.RowKit
def fine (d:DfaD):Prop:=1≤d.next.length∧d.next.length≤100000∧d.ends.length=d.next.length∧∀ i,i<d.next.length→(d.next.getD i []).length=3∧∀ c,c<3→0≤(d.next.getD i []).getD c 0∧(d.next.getD i []).getD c 0<d.next.length
section
variable {α:Type} [DecidableEq α] {nx nx':α→Nat→α} {a:α}
theorem Zgi {K:Nat} (hK:(bat nx a K).met.length≤K) {x:α} (hx:x∈(bat nx a K).met) {c:Nat} (hc:c<3):nx x c∈(bat nx a K).met:=by
 obtain⟨k,hk,rfl⟩:=List.mem_iff_getElem.1 hx
 have hkk:k<(bat nx a k).met.length:=by
  by_cases h:k<(bat nx a k).met.length
  ·exact h
  have:=ZeR (nx:=nx) (a:=a) (k:=k) (m:=K) (by omega) (by omega);rw[this] at hk;omega
 have e:(bat nx a K).met[k]=(bat nx a k).met.getD k a:=by rw[← Zbh (Zlk (nx:=nx) (a:=a) (show k≤K by omega)).1 hkk a,ZcB hk]
 rw[e];exact(Zc2 (nx:=nx) (a:=a) hkk (Nat.le_refl 3) (show k<K by omega)).1.subset (Zlf hc)
theorem ZgX (K:Nat):a∈(bat nx a K).met:=by
 have h:=memD (d:=a) (ZgW (nx:=nx) (a:=a) K)
 rwa [ZhE] at h
def Zav (nx:α→Nat→α) (F:List α) (x:α):List Int:=(List.range 3).map fun c=>(Zat F (nx x c):Int)
def ZaM (nx:α→Nat→α) (en:α→Bool) (F:List α):DfaD:=⟨F.map (Zav nx F),F.map en⟩
theorem ZbC (nx:α→Nat→α) (en:α→Bool) (F:List α):(ZaM nx en F).next.length=F.length:=by simp[ZaM]
theorem Zf5 {en:α→Bool} {F:List α} {i:Nat} (hi:i<F.length):(ZaM nx en F).next.getD i []=Zav nx F (F.getD i a):=by simp[ZaM,List.getElem?_eq_getElem hi]
theorem Zha {F:List α} {x:α} {c:Nat} (hc:c<3):(Zav nx F x).getD c 0=(Zat F (nx x c):Int):=by simp[Zav,hc]
theorem Znt {en:α→Bool} {F:List α} {s:Int} {c:Nat} (h0:0≤s) (h1:s<F.length) (hc:c<3):dnx (ZaM nx en F) s c=Zh0 nx a F s c:=by unfold dnx Zh0;rw[Zf5 (a:=a) (by omega),Zha hc]
theorem Znw {en:α→Bool} {F:List α} {i:Nat} (hi:i<F.length):den (ZaM nx en F) (i:Int)=en F[i]:=by simp[den,ZaM,hi]
theorem Zme {en:α→Bool} {K:Nat} (hK:(bat nx a K).met.length≤K) (hK2:K≤100000):fine (ZaM nx en (bat nx a K).met):=by
 refine⟨?_,?_,?_,fun i hi => ?_⟩
 ·rw[ZbC];exact ZgW K
 ·rw[ZbC];omega
 ·simp[ZaM]
 rw[ZbC] at hi;rw[Zf5 (a:=a) hi];refine⟨by simp[Zav],fun c hc => ?_⟩;rw[Zha hc,ZbC];exact⟨by omega,by exact_mod_cast Zcc (Zgi hK (memD hi) hc)⟩
end
section
variable {w0 w w':World} {L:List Ent}
theorem St.rowlt (h:St w0 w L) (i:Nat) {e size g n cap:Nat} {cs:List Value} (hx:L[i]? = some (Ent.row e size (.slice (some ⟨g,0,none⟩) n cap) n cs)):w0.heap.size≤g∧g<w.heap.size:=(h.has i _ hx).2 g rfl
end
/-! Many things as one. -/
/-! What is read above a block stays where a block below is written. -/
end Go.Proofs.Ytfanhfcamblghaa
namespace Go.Proofs.Ytfanhfcamblghaa
open Go.RowKit
section
variable {P:Program} {ops:Array Oper} {Q:Exit→Act→World→Prop} {md:Region.Mode}
def ZiQ (ops:Array Oper):Bool:=(List.range ops.size).all fun i=>match ops[i]? with
 | some o=>o.after.all fun e=>decide (e.on<i)
 | none=>true
theorem Zg6 {listed:Array Bool} (hd:ZiQ ops=true) (hs:listed.size=ops.size) (hr:Region.ready md ops listed=[]):∀ i,i<ops.size→listed.getD i true=true:=by
 intro i
 induction i using Nat.strongRecOn with
 | ind i ih =>
  intro hi;cases h:listed.getD i true with
  | true=>rfl
  | false =>
   exfalso
   have hmem:i∈Region.ready md ops listed:=by
    refine mem_ready.2 ⟨h,ops[i],by simp[hi],fun e he _ => ?_⟩;simp only[ZiQ,List.all_eq_true,List.mem_range] at hd;have h1:=hd i hi;simp only[Array.getElem?_eq_getElem hi] at h1;have h2:e.on<i:=by have:=(Array.all_eq_true_iff_forall_mem.1 h1) e he;simpa using this
    have h3:=ih e.on h2 (by omega);have h4:e.on<listed.size:=by omega
    simpa [h4] using h3
   rw[hr] at hmem;cases hmem
end
end Go.Proofs.Ytfanhfcamblghaa
namespace Go.Proofs.Ytfanhfcamblghaa
open Go.RowKit
section
variable {ops:Array Oper} {md:Region.Mode}
end
end Go.Proofs.Ytfanhfcamblghaa
namespace Go.Proofs.Ytfanhfcamblghaa
section
variable (n:Nat) (nx:Nat→Nat→Nat)
def Zbs (cl:Nat→Nat) (t s:Nat):Bool:=decide (cl t=cl s)&&(List.range 3).all fun c=>decide (cl (nx t c)=cl (nx s c))
theorem ZaG {cl:Nat→Nat} {t s:Nat}:Zbs nx cl t s=true↔cl t=cl s∧∀ c,c<3→cl (nx t c)=cl (nx s c):=by simp[Zbs]
theorem ZhT (cl:Nat→Nat) (s:Nat):Zbs nx cl s s=true:=(ZaG nx).2 ⟨rfl,fun _ _=>rfl⟩
theorem Ze8 {cl:Nat→Nat} {t s:Nat} (h:Zbs nx cl t s=true):Zbs nx cl s t=true:=by obtain⟨h1,h2⟩:=(ZaG nx).1 h;exact(ZaG nx).2 ⟨h1.symm,fun c hc=>(h2 c hc).symm⟩
theorem ZcP {cl:Nat→Nat} {t s r:Nat} (h:Zbs nx cl t s=true) (h':Zbs nx cl s r=true):Zbs nx cl t r=true:=by obtain⟨h1,h2⟩:=(ZaG nx).1 h;obtain⟨h3,h4⟩:=(ZaG nx).1 h';exact(ZaG nx).2 ⟨h1.trans h3,fun c hc=>(h2 c hc).trans (h4 c hc)⟩
def ZaN (p:Nat→Bool):Nat→Nat
 | 0=>0
 | k+1=>if p (ZaN p k)&&decide (ZaN p k<k) then ZaN p k else if p k then k else k+1
end
theorem Zf7 (p:Nat→Bool):∀ k,(ZaN p k<k∧p (ZaN p k)=true∧∀ j,j<ZaN p k→p j=false)∨(ZaN p k=k∧∀ j,j<k→p j=false)
 | 0=>Or.inr ⟨rfl,fun j hj=>absurd hj (by omega)⟩
 | k+1=>by
  rcases Zf7 p k with⟨h1,h2,h3⟩|⟨h1,h2⟩
  ·left;have e:ZaN p (k+1)=ZaN p k:=by simp[ZaN,h1,h2]
   rw[e];exact⟨by omega,h2,h3⟩
  by_cases hp:p k=true
  ·left;have e:ZaN p (k+1)=k:=by simp[ZaN,h1,hp]
   rw[e];exact⟨by omega,hp,h2⟩
  right;have e:ZaN p (k+1)=k+1:=by simp[ZaN,h1,hp]
  refine⟨e,fun j hj => ?_⟩;by_cases hjk:j=k
  ·subst hjk;simpa using hp
  exact h2 j (by omega)
theorem ZiD {p:Nat→Bool} {k s:Nat} (hs:s<k) (hp:p s=true):ZaN p k≤s∧p (ZaN p k)=true∧∀ j,j<ZaN p k→p j=false:=by
 rcases Zf7 p k with⟨h1,h2,h3⟩|⟨h1,h2⟩
 ·refine⟨?_,h2,h3⟩;rcases Nat.lt_or_ge s (ZaN p k) with h|h
  ·rw[h3 s h] at hp;cases hp
  exact h
 rw[h2 s hs] at hp;cases hp
section
variable {n:Nat} {nx:Nat→Nat→Nat}
structure GoodC (n:Nat) (cl:Nat→Nat):Prop where
 le:∀ s,s<n→cl s≤s
 id:∀ s,s<n→cl (cl s)=cl s
def ZaD (n:Nat) (nx:Nat→Nat→Nat) (cl:Nat→Nat) (s:Nat):Nat:=ZaN (fun t=>Zbs nx cl t s) n
theorem ZaR {cl:Nat→Nat} {s:Nat} (hs:s<n):ZaD n nx cl s≤s∧Zbs nx cl (ZaD n nx cl s) s=true∧∀ j,j<ZaD n nx cl s→Zbs nx cl j s=false :=
 ZiD hs (ZhT nx cl s)
theorem Zdy {cl:Nat→Nat} {s t:Nat} (hs:s<n) (ht:t<n):ZaD n nx cl s=ZaD n nx cl t↔Zbs nx cl s t=true:=by
 obtain⟨a1,a2,a3⟩:=ZaR (nx:=nx) (cl:=cl) hs;obtain⟨b1,b2,b3⟩:=ZaR (nx:=nx) (cl:=cl) ht;constructor
 ·intro h;rw[h] at a2;exact ZcP nx (Ze8 nx a2) b2
 intro h;have h1:¬ ZaD n nx cl s<ZaD n nx cl t:=fun hlt=>by have:=b3 _ hlt;rw[ZcP nx a2 h] at this;cases this
 have h2:¬ ZaD n nx cl t<ZaD n nx cl s:=fun hlt=>by have:=a3 _ hlt;rw[ZcP nx b2 (Ze8 nx h)] at this;cases this
 omega
theorem Zfc {cl:Nat→Nat}:GoodC n (ZaD n nx cl):=by refine⟨fun s hs=>(ZaR hs).1,fun s hs => ?_⟩;obtain⟨a1,a2,a3⟩:=ZaR (nx:=nx) (cl:=cl) hs;exact(Zdy (by omega) hs).2 a2
theorem Zi7 {cl:Nat→Nat} (hg:GoodC n cl) {s:Nat} (hs:s<n) (h:cl s=s):ZaD n nx cl s=s:=by obtain⟨a1,a2,a3⟩:=ZaR (nx:=nx) (cl:=cl) hs;have e:=((ZaG nx).1 a2).1;have:=hg.le (ZaD n nx cl s) (by omega);omega
def reps (n:Nat) (cl:Nat→Nat):Nat:=((List.range n).filter fun s=>decide (cl s=s)).length
theorem Zfb {cl:Nat→Nat} (hg:GoodC n cl) {s:Nat} (hs:s<n) (hne:ZaD n nx cl s≠cl s):reps n cl<reps n (ZaD n nx cl):=by
 obtain⟨a1,a2,a3⟩:=ZaR (nx:=nx) (cl:=cl) hs;have e:=((ZaG nx).1 a2).1;have hr:ZaD n nx cl s<n:=by omega
 refine ZdO (a:=ZaD n nx cl s) ?_ ?_ (List.mem_range.2 hr) fun x hx h => ?_
 ·have:cl (ZaD n nx cl s)≠ZaD n nx cl s:=by rw[e];exact fun h=>hne h.symm
  simpa using this
 ·simpa using Zfc.id s hs
 simp only[decide_eq_true_eq] at h ⊢;exact Zi7 hg (List.mem_range.1 hx) h
theorem ZhU (n:Nat) (cl:Nat→Nat):reps n cl≤n:=by have:=List.length_filter_le (fun s=>decide (cl s=s)) (List.range n);simpa [reps] using this
def clAt (n:Nat) (nx:Nat→Nat→Nat) (en:Nat→Bool):Nat→Nat→Nat
 | 0=>fun s=>ZaN (fun t=>en t==en s) n
 | i+1=>ZaD n nx (clAt n nx en i)
theorem Zc1 {en:Nat→Bool} {s:Nat} (hs:s<n):clAt n nx en 0 s≤s∧en (clAt n nx en 0 s)=en s∧∀ j,j<clAt n nx en 0 s→en j≠en s:=by
 obtain⟨a,b,c⟩:=ZiD (p:=fun t=>en t==en s) hs (by simp);have b':en (ZaN (fun t=>en t==en s) n)=en s:=by simpa using b
 exact⟨a,b',fun j hj=>by simpa using c j hj⟩
theorem Zlc {en:Nat→Bool} {s t:Nat} (hs:s<n) (ht:t<n):clAt n nx en 0 s=clAt n nx en 0 t↔en s=en t:=by
 obtain⟨a1,a2,a3⟩:=Zc1 (nx:=nx) (en:=en) hs;obtain⟨b1,b2,b3⟩:=Zc1 (nx:=nx) (en:=en) ht;constructor
 ·intro h;rw[← a2,← b2,h]
 intro h;have h1:¬ clAt n nx en 0 s<clAt n nx en 0 t:=fun hlt=>b3 _ hlt (a2.trans h)
 have h2:¬ clAt n nx en 0 t<clAt n nx en 0 s:=fun hlt=>a3 _ hlt (b2.trans h.symm)
 omega
theorem ZfH (en:Nat→Bool):∀ i,GoodC n (clAt n nx en i)
 | 0=>⟨fun s hs=>(Zc1 hs).1,fun s hs=>by obtain⟨a1,a2,a3⟩:=Zc1 (nx:=nx) (en:=en) hs;exact(Zlc (by omega) hs).2 a2⟩
 | _+1=>Zfc
def stays (n:Nat) (nx:Nat→Nat→Nat) (en:Nat→Bool) (i:Nat):Prop:=∀ s,s<n→clAt n nx en (i+1) s=clAt n nx en i s
theorem Zil (en:Nat→Bool):∃ i,i≤n∧stays n nx en i∧∀ j,j<i→¬ stays n nx en j:=by
 have key:∀ k,(∀ j,j<k→¬ stays n nx en j)→k≤reps n (clAt n nx en k):=by
  intro k
  induction k with
  | zero=>intro _;exact Nat.zero_le _
  | succ k ih =>
   intro h;have h1:=ih fun j hj=>h j (by omega)
   have h2:=h k (by omega);have h3:∃ s,s<n∧clAt n nx en (k+1) s≠clAt n nx en k s:=Classical.byContradiction fun hn=>h2 fun s hs=>Classical.byContradiction fun hne=>hn ⟨s,hs,hne⟩
   obtain⟨s,hs,hne⟩:=h3;have:=Zfb (nx:=nx) (ZfH (nx:=nx) en k) hs hne;show k+1≤reps n (ZaD n nx (clAt n nx en k));omega
 have hex:∃ i,i≤n∧stays n nx en i:=Classical.byContradiction fun hn=>by
  have:=key (n+1) fun j hj hs=>hn ⟨j,by omega,hs⟩
  have:=ZhU n (clAt n nx en (n+1));omega
 obtain⟨i,hi,hs⟩:=hex
 have key2:∀ k,(∃ j,j<k∧stays n nx en j)→∃ i,i<k∧stays n nx en i∧∀ j,j<i→¬ stays n nx en j:=by
  intro k
  induction k with
  | zero=>rintro⟨j,hj,-⟩;omega
  | succ k ih =>
   rintro⟨j,hj,hs⟩;by_cases h:∃ j,j<k∧stays n nx en j
   ·obtain⟨i,h1,h2⟩:=ih h;exact⟨i,by omega,h2⟩
   have:j=k:=Classical.byContradiction fun hne=>h ⟨j,by omega,hs⟩
   subst this;exact⟨j,by omega,hs,fun i hi hs'=>h ⟨i,hi,hs'⟩⟩
 obtain⟨i',h1,h2⟩:=key2 (n+1) ⟨i,by omega,hs⟩;exact⟨i',by omega,h2⟩
theorem Zep {p q:Nat→Bool}:∀ {k:Nat},(∀ t,t<k→p t=q t)→ZaN p k=ZaN q k
 | 0,_=>rfl
 | k+1,h=>by
  have ih:=Zep (k:=k) fun t ht=>h t (by omega)
  have hk:=h k (by omega);unfold ZaN;rw[← ih,← hk];by_cases hl:ZaN p k<k
  ·rw[h _ (by omega)]
  simp[hl]
theorem Zg5 (hnx:∀ s c,s<n→c<3→nx s c<n) {cl cl':Nat→Nat} (h:∀ s,s<n→cl s=cl' s) {s:Nat} (hs:s<n):ZaD n nx cl s=ZaD n nx cl' s:=by
 unfold ZaD;refine Zep fun t ht => ?_
 rw[Bool.eq_iff_iff,ZaG,ZaG,h t ht,h s hs];constructor
 ·rintro⟨h1,h2⟩;exact⟨h1,fun c hc=>by rw[← h _ (hnx t c ht hc),← h _ (hnx s c hs hc)];exact h2 c hc⟩
 rintro⟨h1,h2⟩;exact⟨h1,fun c hc=>by rw[h _ (hnx t c ht hc),h _ (hnx s c hs hc)];exact h2 c hc⟩
theorem Ze0 (hnx:∀ s c,s<n→c<3→nx s c<n) {en:Nat→Bool} {i:Nat} (h:stays n nx en i):∀ j,i≤j→∀ s,s<n→clAt n nx en j s=clAt n nx en i s:=by
 intro j
 induction j with
 | zero =>
  intro hj s _;obtain rfl:i=0:=by omega
  rfl
 | succ j ih =>
  intro hj s hs;by_cases hij:i=j+1
  ·subst hij;rfl
  have e:clAt n nx en (j+1) s=ZaD n nx (clAt n nx en j) s:=rfl;rw[e,Zg5 hnx (ih (by omega)) hs];exact h s hs
def ZfV (n:Nat) (nx:Nat→Nat→Nat) (en:Nat→Bool):Nat→Nat:=clAt n nx en n
theorem Zmu (hnx:∀ s c,s<n→c<3→nx s c<n) {en:Nat→Bool} {i:Nat} (hi:i≤n) (h:stays n nx en i) {s:Nat} (hs:s<n):ZfV n nx en s=clAt n nx en i s:=Ze0 hnx h n hi s hs
theorem Zie (hnx:∀ s c,s<n→c<3→nx s c<n) (en:Nat→Bool):stays n nx en n:=by obtain⟨i,hi,hs,-⟩:=Zil (n:=n) (nx:=nx) en;intro s hsn;rw[Ze0 hnx hs (n+1) (by omega) s hsn,Ze0 hnx hs n hi s hsn]
theorem Zmt (hnx:∀ s c,s<n→c<3→nx s c<n) {en:Nat→Bool} {s t:Nat} (hs:s<n) (ht:t<n):ZfV n nx en s=ZfV n nx en t→∀ c,c<3→ZfV n nx en (nx s c)=ZfV n nx en (nx t c):=by
 intro h;have h1:=Zie hnx en;have h2:ZaD n nx (ZfV n nx en) s=ZaD n nx (ZfV n nx en) t:=by have a:=h1 s hs;have b:=h1 t ht;exact a.trans (h.trans b.symm)
 exact((ZaG nx).1 ((Zdy hs ht).1 h2)).2
theorem ZhB {en:Nat→Bool}:∀ (i:Nat) {s t:Nat},s<n→t<n→clAt n nx en i s=clAt n nx en i t→en s=en t
 | 0,_,_,hs,ht,h=>(Zlc hs ht).1 h
 | i+1,_,_,hs,ht,h=>ZhB i hs ht ((ZaG nx).1 ((Zdy hs ht).1 h)).1
theorem Zjy {en:Nat→Bool} {s t:Nat} (hs:s<n) (ht:t<n) (h:ZfV n nx en s=ZfV n nx en t):en s=en t:=ZhB n hs ht h
end
end Go.Proofs.Ytfanhfcamblghaa
namespace Go.Proofs.Ytfanhfcamblghaa
open Go.RowKit
theorem Zen {d:DfaD} (hd:fine d) {s c:Nat} (hs:s<d.next.length) (hc:c<3):nxD d s c<d.next.length∧dnx d (s:Int) c=((nxD d s c:Nat):Int):=by obtain⟨-,-,-,h⟩:=hd;obtain⟨-,h2⟩:=h s hs;obtain⟨a,b⟩:=h2 c hc;unfold nxD dnx;rw[Int.toNat_natCast];omega
theorem Zec {d:DfaD} (h:Za2 d.next d.ends=true):fine d:=by have:=Zcn h;exact⟨by omega,by omega,by omega,fun i hi=>ZdR h hi⟩
section
variable {α β:Type} [DecidableEq α] [DecidableEq β] {nx:α→Nat→α} {nx':β→Nat→β} {a:α} {f:α→β} {Q:α→Prop}
theorem ZhC (hv:∀ x c,c<3→Q x→Q (nx x c)) (hf:∀ x y,Q x→Q y→f x=f y→x=y) (hn:∀ x c,c<3→Q x→f (nx x c)=nx' (f x) c) {x:α} (hx:Q x) (wd:List Nat) {s:Bs α} (hs:∀ y∈s.met,Q y) :
  ∀ n,n≤3→brow nx' (f x) wd ⟨s.met.map f,s.words⟩ n=⟨(brow nx x wd s n).met.map f,(brow nx x wd s n).words⟩∧∀ y∈(brow nx x wd s n).met,Q y
 | 0,_=>⟨rfl,hs⟩
 | n+1,hn3=>by
  obtain⟨h1,h2⟩:=ZhC hv hf hn hx wd hs n (by omega);have hq:=hv x n (by omega) hx
  have hm:nx' (f x) n∈(brow nx x wd s n).met.map f↔nx x n∈(brow nx x wd s n).met:=by
   rw[← hn x n (by omega) hx];constructor
   ·intro h;obtain⟨y,hy,e⟩:=List.mem_map.1 h;rw[← hf _ _ (h2 y hy) hq e];exact hy
   exact fun h=>List.mem_map.2 ⟨_,h,rfl⟩
  have e:brow nx' (f x) wd ⟨s.met.map f,s.words⟩ (n+1)=bvisit nx' (f x) wd (brow nx' (f x) wd ⟨s.met.map f,s.words⟩ n) n:=rfl;have e2:brow nx x wd s (n+1)=bvisit nx x wd (brow nx x wd s n) n:=rfl;rw[e,e2,h1];unfold bvisit;by_cases h:nx x n∈(brow nx x wd s n).met
  ·rw[if_pos h,if_pos (hm.2 h)];exact⟨rfl,h2⟩
  rw[if_neg h,if_neg (fun h2=>h (hm.1 h2))];refine⟨by simp[hn x n (by omega) hx],fun y hy => ?_⟩;simp only[List.mem_append,List.mem_singleton] at hy;rcases hy with hy|rfl
  ·exact h2 y hy
  exact hq
theorem ZiW (h0:Q a) (hv:∀ x c,c<3→Q x→Q (nx x c)) (hf:∀ x y,Q x→Q y→f x=f y→x=y) (hn:∀ x c,c<3→Q x→f (nx x c)=nx' (f x) c):∀ k,bat nx' (f a) k=⟨(bat nx a k).met.map f,(bat nx a k).words⟩
 | 0=>rfl
 | k+1=>by
  have ih:=ZiW h0 hv hf hn k;have hl:(bat nx' (f a) k).met.length=(bat nx a k).met.length:=by rw[ih];simp
  by_cases h:k<(bat nx a k).met.length
  ·rw[Zb2 h,Zb2 (by rw[hl];exact h)];unfold bpart;rw[ih];have hx:((bat nx a k).met.map f).getD k (f a)=f ((bat nx a k).met.getD k a):=by simp[h]
   simp only[hx];exact(ZhC hv hf hn (Zds h0 hv k _ (memD h)) _ (Zds h0 hv k) 3 (by omega)).1
  rw[Zdb (by omega),Zdb (by omega),ih]
theorem ZhW {L:List α} {x:α} (hf:∀ y∈L,f y=f x→y=x):Zat (L.map f) (f x)=Zat L x:=by
 unfold Zat
 induction L with
 | nil=>rfl
 | cons y l ih =>
  have h1:=hf y (by simp);have h2:=ih fun z hz=>hf z (by simp[hz])
  simp only[List.map_cons,List.idxOf_cons];by_cases h:y=x
  ·subst h;simp
  have:f y≠f x:=fun e=>h (h1 e)
  have e1:(f y==f x)=false:=by simpa using this
  have e2:(y==x)=false:=by simpa using h
  rw[e1,e2];simp[h2]
theorem Zfj {en:α→Bool} {en':β→Bool} {K:Nat} (h0:Q a) (hv:∀ x c,c<3→Q x→Q (nx x c)) (hf:∀ x y,Q x→Q y→f x=f y→x=y) (hn:∀ x c,c<3→Q x→f (nx x c)=nx' (f x) c) (he:∀ x,Q x→en' (f x)=en x) :
  ZaM nx' en' (bat nx' (f a) K).met=ZaM nx en (bat nx a K).met:=by
 have hm:=congrArg Bs.met (ZiW h0 hv hf hn K);simp only at hm;have hq:=Zds h0 hv K;rw[hm];unfold ZaM
 have e1:((bat nx a K).met.map f).map (Zav nx' ((bat nx a K).met.map f))=(bat nx a K).met.map (Zav nx (bat nx a K).met):=by
  rw[List.map_map];refine List.map_congr_left fun x hx => ?_
  unfold Zav;refine List.map_congr_left fun c hc => ?_
  have hc3:c<3:=List.mem_range.1 hc;rw[← hn x c hc3 (hq x hx),ZhW fun y hy e=>hf _ _ (hq y hy) (hv x c hc3 (hq x hx)) e]
 have e2:((bat nx a K).met.map f).map en'=(bat nx a K).met.map en:=by rw[List.map_map];exact List.map_congr_left fun x hx=>he x (hq x hx)
 rw[e1,e2]
end
def clD (d:DfaD) (s:Nat):Nat:=ZfV d.next.length (nxD d) (enD d) s
def nxM (d:DfaD) (s:Int) (c:Nat):Int:=(clD d (nxD d s.toNat c):Nat)
def minD (d:DfaD):DfaD:=ZaM (nxM d) (den d) (bat (nxM d) ((clD d 0:Nat):Int) d.next.length).met
theorem ZcK {d:DfaD} (s:Nat) (hs:s<d.next.length):clD d s≤s∧clD d (clD d s)=clD d s:=by have h:=ZfH (n:=d.next.length) (nx:=nxD d) (enD d) d.next.length;exact⟨h.le s hs,h.id s hs⟩
theorem Zid {n s:Nat} (cl:Nat→Nat) (h:s<n):(clsL n cl).getD s 0=(cl s:Int):=by simp[clsL,h]
def Zgr (d:DfaD) (cl:Nat→Nat) (s o:Nat) (k:Nat):Bool:=(List.range k).all fun c=>decide (cl (nxD d s c)=cl (nxD d o c))
theorem Zi4 (d:DfaD) (cl:Nat→Nat) (s o k:Nat):Zgr d cl s o (k+1)=(Zgr d cl s o k&&decide (cl (nxD d s k)=cl (nxD d o k))):=by unfold Zgr;rw[List.range_succ,List.all_append];simp
theorem ZlA {d:DfaD} {cl:Nat→Nat} {s o k:Nat} (hk:k<3) (h:cl (nxD d s k)≠cl (nxD d o k)):Zgr d cl s o 3=false:=by
 cases he:Zgr d cl s o 3 with
 | false=>rfl
 | true =>have:=List.all_eq_true.1 he k (List.mem_range.2 hk);exact absurd (by simpa using this) h
theorem ZhR (d:DfaD) (cl:Nat→Nat) (s o:Nat) (dv cv:Value) (w:World) (hd:Za2 d.next d.ends=true) (hs:s<d.next.length) (ho:o<d.next.length) (hcl:∀ t,t<d.next.length→cl t<d.next.length) (h:DfaR 0 w dv d) (hc:Ints 0 w cv (clsL d.next.length cl)) (r:Bool) (hr:Zgr d cl s o 3=r) :
  Calls Try.prog 146 #[dv,cv,.int .i64 s,.int .i64 o] w fun e w'=>e = .returned (.bool r)∧Below w.heap.size w w':=by
 obtain⟨v1,v2,rfl,q1,q2⟩:=h;have hf:=Zec hd;obtain⟨L,hL⟩:=eI (d.next.length);obtain⟨hl1,hl2,-⟩:=Zcn hd;have hrow:=fun (i:Nat) (hi:i<d.next.length)=>(ZdR hd hi).1
 have hnx:=fun (i c:Nat) (hi:i<d.next.length) (h3:c<3)=>(Zen hf hi h3)
 obtain⟨av,cvv,rfl,hc1,hc2,hr1⟩:=q1.formI;obtain⟨b1,o1,rfl,-,hb1,hcs1⟩:=hr1 (by omega);obtain⟨ac,cc,rfl,hc3,hc4,hr2⟩:=hc.form;rw[Zb0] at hc3 hr2;rw[Zb0];obtain⟨b2,o2,rfl,-,hb2,hcs2⟩:=hr2 (by omega);have hcell:∀ t,t<d.next.length→w.cell? ⟨b2,o2+t,none⟩=some (.int .i64 (cl t:Nat)):=fun t ht=>by rw[hcs2 t ht,Zid cl ht]
 obtain⟨ax,cs,hks,-,-,hIs⟩:=hcs1 s hs;obtain⟨ao,co,hko,-,-,hIo⟩:=hcs1 o ho;rw[hrow s hs] at hks hIs;rw[hrow o ho] at hko hIo;obtain⟨_,_,hform,-,-,hrs⟩:=hIs.form;rw[hrow s hs] at hform hrs;simp only[Value.slice.injEq,true_and] at hform;obtain⟨rfl,rfl⟩:=hform;obtain⟨b3,o3,rfl,-,hb3,hcs3⟩:=hrs (by omega);obtain⟨_,_,hform,-,-,hro⟩:=hIo.form;rw[hrow o ho] at hform hro;simp only[Value.slice.injEq,true_and] at hform;obtain⟨rfl,rfl⟩:=hform;obtain⟨b4,o4,rfl,-,hb4,hcs4⟩:=hro (by omega)
 have hval:∀ i c,i<d.next.length→c<3→(d.next.getD i []).getD c 0=((nxD d i c:Nat):Int):=fun i c hi h3=>by
  have:=(hnx i c hi h3).2;unfold dnx at this
  rwa [Int.toNat_natCast] at this
 have hS0:=(St.start w).alloc _ rfl #[.slice (some ⟨b1,o1,none⟩) d.next.length cvv,v2] 45;have Hnx:=qh hnx;have Hval:=qh hval;have Hcell:=qh hcell;have Hks:=qh hks;have Hko:=qh hko;have Hcs3:=qh hcs3;have Hcs4:=qh hcs4;have Hcl:=qh hcl;rw[← hL] at hs ho hl1 hl2 hS0;rw[← hL];have hsI:(s:Int)<L:=by omega
 have hoI:(o:Int)<L:=by omega
 replace hS0:=qh hS0;have Hhr:=qh hr;clear hr;replace hL:=qh hL;clear hnx hval hcell hks hko hcs3 hcs4 hcl hcs1 hcs2 hr1 hr2 hrs hro hIs hIo q1 q2 hc hd hrow hf
 go_enter Try.func146, Try.ntmps146
 go_wp2
 go_loopw [10] (fun i wr=>∃ k:Nat,i = .int .i64 k∧k≤3∧Zgr d cl s o k=true∧St w wr [Ent.box w.heap.size #[.slice (some ⟨b1,o1,none⟩) L cvv,v2] 45]) (fun i _=>3-(intOf i).toNat)
 case atStart=>exact⟨0,rfl,by omega,rfl,hS0.out⟩
 case round =>
  obtain⟨k,rfl,hk,hsm,hS⟩:=hrel;by_cases hlt:k<3
  ·have hlt2:(k:Int)<3:=by omega
   have hsn:s<d.next.length:=by have:=hL.out;omega
   have hon:o<d.next.length:=by have:=hL.out;omega
   have h1:=(Hnx.out s k hsn hlt).1;have h2:=(Hnx.out o k hon hlt).1;have e0:=hS.cell (v:=.slice (some ⟨b1,o1,none⟩) L cvv) 0 0 rfl rfl;have e1:=(bcell hS.bel b1 _ hb1).trans Hks.out;have e2:=(bcell hS.bel b1 _ hb1).trans Hko.out;have e3:=(bcell hS.bel b3 _ hb3).trans (Hcs3.out k hlt);have e4:=(bcell hS.bel b4 _ hb4).trans (Hcs4.out k hlt);rw[Hval.out s k hsn hlt] at e3;rw[Hval.out o k hon hlt] at e4;have e5:=(bcell hS.bel b2 _ hb2).trans (Hcell.out _ h1);have e6:=(bcell hS.bel b2 _ hb2).trans (Hcell.out _ h2);have hsucc:=Zi4 d cl s o k;obtain⟨p,hp⟩:=eI (nxD d s k);obtain⟨q,hq⟩:=eI (nxD d o k);rw[← hp] at h1 e3 e5 hsucc;rw[← hq] at h2 e4 e6 hsucc;rw[hsm,Bool.true_and] at hsucc;rw[← hL.out] at h1 h2;have hpI:(p:Int)<L:=by omega
   have hqI:(q:Int)<L:=by omega
   have Hhp:=qh hp;clear hp;have Hhq:=qh hq;clear hq;have HhS:=qh hS;clear hS;have Hhsm:=qh hsm;clear hsm;have Hhsucc:=qh hsucc;clear hsucc;clear h1 h2 hsn hon;by_cases he:cl p=cl q
   ·have heI:((cl p:Int) != (cl q:Int))=false:=by rw[he];simp
    have heI2:((cl p:Int)=(cl q:Int))=True:=by simp[he]
    have heI3:(!((cl p:Int)==(cl q:Int)))=false:=by rw[he];simp
    have Hhe:=qh he;clear he;go_wp2
    go_quiet (fail)
    go_wp2;go_roundw
    case rel=>exact⟨k+1,by go_num,by omega,by rw[Hhsucc.out];simp[Hhe.out],HhS.out.drewN _⟩
    case measure=>simp[intOf];omega
   have heI:((cl p:Int) != (cl q:Int))=true:=by simp;omega
   have heI2:((cl p:Int)=(cl q:Int))=False:=by simp;omega
   have heI3:(!((cl p:Int)==(cl q:Int)))=true:=by simp;omega
   have Hhe:=qh he;clear he;go_wp2
   go_quiet (fail)
   go_wp2;go_ret;have hrf:false=r:=by rw[← Hhr.out];exact(ZlA hlt (by rw[← Hhp.out,← Hhq.out];exact Hhe.out)).symm
   subst hrf;exact⟨rfl,(HhS.out.drewN _).bel⟩
  obtain rfl:k=3:=by omega
  have hrt:true=r:=by rw[← Hhr.out,hsm]
  subst hrt;have HhS:=qh hS;clear hS;have Hhsm:=qh hsm;clear hsm;go_wp2;go_ret;exact⟨rfl,HhS.out.bel⟩
section
variable {n:Nat} {nx:Nat→Nat→Nat}
end
theorem Zgc {n:Nat} {cl cl':Nat→Nat} (h:∀ s,s<n→cl s=cl' s):clsL n cl=clsL n cl':=List.map_congr_left fun s hs=>by rw[h s (List.mem_range.1 hs)]
theorem ZlB (d:DfaD) (cl:Nat→Nat) (t s:Nat):Zbs (nxD d) cl t s=(decide (cl t=cl s)&&Zgr d cl t s 3):=rfl
end Go.Proofs.Ytfanhfcamblghaa
namespace Go.Proofs.Ytfanhfcamblghaa
open Go.RowKit Go.Maps
def RNfaS (n:NfaD) (w:World) (e:Ending) (w':World):Prop:=∃ a1 c1 a2 c2 a3 c3,e = .returned (.agg #[.int .i64 n.states,.slice a1 n.moves.length c1,.slice a2 n.firsts.length c2,.slice a3 n.ends.length c3]) ∧
 St w w' [Ent.row 34 3 (.slice a1 n.moves.length c1) n.moves.length (n.moves.flatMap Zab),Ent.row 3 1 (.slice a2 n.firsts.length c2) n.firsts.length (intCells n.firsts),Ent.row 3 1 (.slice a3 n.ends.length c3) n.ends.length (intCells n.ends)]
end Go.Proofs.Ytfanhfcamblghaa
namespace Go.Proofs.Ytfanhfcamblghaa
open Go.RowKit
section
variable {P:Program} (w:World)
end
theorem ZnO {xs:List (Int × Int × Int)}:∀ u∈xs.flatMap Zab,u.oneCell'=true:=fun u hu=>by obtain⟨x,-,hx⟩:=List.mem_flatMap.1 hu;simp only[Zab,List.mem_cons,List.not_mem_nil,or_false] at hx;rcases hx with rfl|rfl|rfl<;>simp[Value.oneCell']
end Go.Proofs.Ytfanhfcamblghaa
namespace Go.Proofs.Ytfanhfcamblghaa
open Go.RowKit Go.Maps
end Go.Proofs.Ytfanhfcamblghaa
namespace Go.Proofs.Ytfanhfcamblghaa
open Go.RowKit Go.Maps
theorem Zfr {P:Program} {t:TypeId} {D:Nat} {q:IntKind} {x:Int} (ht:P.underlying t=some (.int q)) (hx:(Lit.int q x).wf=true):P.keyLits (D+1) t [.int q x]=some [.int q x]:=by unfold Program.keyLits;rw[ht];simp[hx]
theorem ZkH {P:Program} {t e:TypeId} {q:IntKind} (hu:P.underlying t=some (.array 2 e)) (he:P.underlying e=some (.int q)) (hk:P.keyType t=true) (hc:P.cellsOf t=2) (hce:P.cellsOf e=1) (hrow:t<P.types.size)
  (x y:Int) (hx:(Lit.int q x).wf=true) (hy:(Lit.int q y).wf=true):∃ l,keyOf P t (.agg #[.int q x,.int q y])=some l:=by
 have hfm:(Value.agg #[.int q x,.int q y]).formed P t=true:=by simp[Value.formed,hu,hc]
 obtain⟨n,hn⟩:∃ n,P.types.size=n+1:=⟨P.types.size-1,(Nat.succ_pred_eq_of_pos (Nat.lt_of_le_of_lt (Nat.zero_le _) hrow)).symm⟩;have e1:=Zfr (D:=n) he hx;have e2:=Zfr (D:=n) he hy;have hlits:P.keyLits (P.types.size+1) t (Value.agg #[.int q x,.int q y]).cells.toList=some [.int q x,.int q y]:=by rw[hn];show P.keyLits (n+1+1) t [.int q x,.int q y]=_;unfold Program.keyLits;rw[hu];simp[hc,hce,List.range_succ,e1,e2]
 exact⟨_,by unfold keyOf;rw[hu];simp only[hk,hfm,Bool.and_self,if_true,hlits];rfl⟩
theorem ZnD {q:IntKind}:∀ x y:Int × Int,(Value.agg #[.int q x.1,.int q x.2]) = .agg #[.int q y.1,.int q y.2]→x=y:=by rintro⟨a,b⟩ ⟨c,d⟩ h;simp only[Value.agg.injEq] at h;have h1:=congrArg (fun (l:Array Value)=>l[0]?) h;have h2:=congrArg (fun (l:Array Value)=>l[1]?) h;simp at h1 h2;rw[h1,h2]
end Go.Proofs.Ytfanhfcamblghaa
namespace Go.Proofs.Ytfanhfcamblghaa
open Go.RowKit Go.Maps
def fitU (x:Int):Prop:=0≤x∧x≤18446744073709551615
theorem ZkV {x:Int} (h:fitU x):(Lit.int .u64 x).wf=true:=WalkArith.wf_u64 h
def ZbH (p:Int × Int):Value:=.agg #[.int .u64 p.1,.int .u64 p.2]
theorem ZbB:∀ x y:Int × Int,ZbH x=ZbH y→x=y:=ZnD
def ZaW (p:Int × Int):List Value:=[.int .u64 p.1,.int .u64 p.2]
def Zoa (e lo hi:Nat) (w:World) (v:Value) (xs:List (Int × Int)):Prop:=Own lo hi w e 2 v xs.length (xs.flatMap ZaW)
theorem Try.rowSet:(87:TypeId)<Try.prog.types.size:=of_decide_eq_true (by kernel_rfl)
theorem Try.wideSet:(match Try.prog.underlying 87 with|some (.array _ _)|some (.struct _)=>true|_=>false)=true:=by kernel_rfl
theorem Try.keySet:Try.prog.keyType 87 = true:=by kernel_rfl
theorem Try.keyAtSet:Try.prog.keyTypeAt 5 87 = true:=by kernel_rfl
theorem Try.cellsSet:Try.prog.cellsOf 87 = 2:=by kernel_rfl
theorem Try.cellsU64:Try.prog.cellsOf 85 = 1:=by kernel_rfl
theorem Try.kindSet:Try.prog.underlying 87 = some (.array 2 85):=by kernel_rfl
theorem Try.lawSet:Keyed Try.prog 87:=Keyed.of_law (deep_law_laid Try.laidOut Zgb Try.rowSet Try.keyAtSet Try.wideSet)
theorem Try.keyOfSet (p:Int × Int) (h1:fitU p.1) (h2:fitU p.2):∃ l,keyOf Try.prog 87 (ZbH p)=some l :=
 ZkH Try.kindSet Try.underlying85 Try.keySet Try.cellsSet Try.cellsU64 Try.rowSet _ _ (ZkV h1) (ZkV h2)
end Go.Proofs.Ytfanhfcamblghaa
