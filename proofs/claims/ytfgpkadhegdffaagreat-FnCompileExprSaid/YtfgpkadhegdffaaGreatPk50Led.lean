/-
  Small facts about slices in memory: what a slice value reads as, and that it still reads so in a later world.
  No condition: this text speaks of no program.
  What a call made for itself: slices in blocks of numbers from lo on and below hi, that may be written.
  No condition: this text speaks of no program.
  A map that a call makes, as a list of keys and values in the order in which the keys came: looking a key up, and storing.
  Conditions: the keys are encoded data that can be keys of the map's type; no key stands there twice.
  What a call made for itself, where one of its slices grows or one of its variables is written: blocks of different types are different blocks.
  No condition: this text speaks of no program.
-/
import Derived.Test.YtfgpkadhegdffaaGreatPk35Ry
set_option maxHeartbeats 16000000
set_option maxRecDepth 100000
namespace Go.Proofs.YtfgpkadhegdffaaGreat
open Go.RowKit
/-! Slices of structs of ints -/
/-! Comparing lists place by place -/
end Go.Proofs.YtfgpkadhegdffaaGreat
namespace Go.Proofs.YtfgpkadhegdffaaGreat
open Go.RowKit
theorem RowsTo.done {es e B:Nat} {xss:List (List Int)} {w:World} {cs:List Value} (h:RowsTo es e B xss.length xss xss.length w cs):OIntSS es e B w.heap.size w (.slice (some ⟨B,0,none⟩) xss.length xss.length) xss:=by obtain⟨h1,h2,h3⟩:=h;exact⟨cs,Zab h1,fun i hi=>Own.mono (h2 i hi) (by omega) (Nat.le_refl _),fun i j b=>h3 i j b⟩
end Go.Proofs.YtfgpkadhegdffaaGreat
namespace Go.Proofs.YtfgpkadhegdffaaGreat
open Go.RowKit Go.Maps
section
variable {α:Type} [DecidableEq α]
variable {P:Program} {kt:TypeId} {enc:α→Value} {w:World} {b:Nat} {L:List (α × Value)}
end
end Go.Proofs.YtfgpkadhegdffaaGreat
namespace Go.Proofs.YtfgpkadhegdffaaGreat
open Go.RowKit
variable {P:Program}
def Ent.inn (X y:Ent):Prop:=(∀ w,X.holds w→y.holds w)∧∀ k,y.foot k→X.foot k
theorem Ent.inn_refl (X:Ent):X.inn X:=⟨fun _ h=>h,fun _ h=>h⟩
theorem Ent.inn_all {R:List Ent} {x y:Ent} (hx:x∈R) (h:x.inn y):(Ent.all R).inn y:=⟨fun w hw=>h.1 w (hw x hx),fun k hk=>⟨x,hx,h.2 k hk⟩⟩
theorem St.innSt {w0 w:World} {L:List Ent} {X y:Ent} (h:St w0 w L) (i:Nat) (hx:L[i]? = some X) (hin:X.inn y):St w0 w (L.set i y):=h.same i hx y (hin.1 w) hin.2
theorem St.innRcell {w0 w:World} {L:List Ent} {X:Ent} (h:St w0 w L) (i j:Nat) (hx:L[i]? = some X) {e size g n cap:Nat} {cs:List Value} {v:Value} (hin:X.inn (Ent.row e size (.slice (some ⟨g,0,none⟩) n cap) n cs)) (hj:j<n*size) (hv:cs[j]? = some v):w.cell? ⟨g,j,none⟩=some v:=by have hl:i<L.length:=(List.getElem?_eq_some_iff.1 hx).1;exact(h.innSt i hx hin).rcell i j (List.getElem?_set_self hl) hj hv
theorem ZlJ (d:DfaD) (s:Int) (u w:List Nat):runD d s (u++w)=runD d (runD d s u) w:=by simp[runD]
theorem LOk.part {β:Type} [DecidableEq β] {key:List Nat→β} {s:List (List Nat)} (h:LOk s) {k:Nat} (hk:k<(Go.Proofs.YtfgpkadhegdffaaGreat.kat key s k).length) {n:Nat} (hn:n≤3):LOk (kpart key s k n):=((LOk.kat h k).row hk n hn).1
/-! The guesses in memory. -/
theorem GMem.snoc {X:Ent} {vals:List (Value × Value)} {gs:List DfaD} (h:GMem X vals gs) {g:DfaD} {a1 a2:Option Addr} {c1 c2:Nat} {vs:List Value} :
  GMem (Ent.all [X,Ent.rows 67 3 (.slice a1 g.next.length c1) vs (g.next.map intCells),Ent.row 4 1 (.slice a2 g.next.length c2) g.next.length (boolCells g.ends)]) (vals++[(.slice a1 g.next.length c1,.slice a2 g.next.length c2)]) (gs++[g]):=by
 refine⟨by simp[h.1],fun i hi => ?_⟩;simp only[List.length_append,List.length_singleton] at hi;by_cases hin:i<gs.length
 ·obtain⟨p1,q1,p2,q2,us,e,s1,s2⟩:=h.2 i hin;have e1:(gs++[g]).getD i ⟨[],[]⟩=gs.getD i ⟨[],[]⟩:=by simp only[List.getD_eq_getElem?_getD];rw[List.getElem?_append_left hin]
  have e2:(vals++[((Value.slice a1 g.next.length c1),(Value.slice a2 g.next.length c2))]).getD i (undef,undef)=vals.getD i (undef,undef):=by simp only[List.getD_eq_getElem?_getD];rw[List.getElem?_append_left (by rw[h.1];exact hin)]
  rw[e1,e2];exact⟨p1,q1,p2,q2,us,e,⟨fun w hw=>s1.1 w (hw X (by simp)),fun k hk=>⟨X,by simp,s1.2 k hk⟩⟩,⟨fun w hw=>s2.1 w (hw X (by simp)),fun k hk=>⟨X,by simp,s2.2 k hk⟩⟩⟩
 obtain rfl:i=gs.length:=by omega
 have e1:(gs++[g]).getD gs.length ⟨[],[]⟩=g:=by simp
 have e2:(vals++[((Value.slice a1 g.next.length c1),(Value.slice a2 g.next.length c2))]).getD gs.length (undef,undef)=((Value.slice a1 g.next.length c1),(Value.slice a2 g.next.length c2)):=by rw[← h.1];simp
 rw[e1,e2];exact⟨a1,c1,a2,c2,vs,rfl,⟨fun w hw=>hw _ (by simp),fun k hk=>⟨_,by simp,hk⟩⟩,⟨fun w hw=>hw _ (by simp),fun k hk=>⟨_,by simp,hk⟩⟩⟩
theorem DfaH.one {E:Ent} {v1 v2:Value} {vs:List Value} {D:DfaD} (h:DfaH E v1 v2 vs D) {es e m:Nat} {v rv:Value} {row:List Int} (hm:m=row.length):DfaH (Ent.all [E,Ent.row es 1 v 1 [rv],Ent.row e 1 rv m (intCells row)]) v v2 [rv] ⟨[row],D.ends⟩:=by
 subst hm;refine⟨fun w h1 h2 => ?_⟩;have g1:E.holds w:=h1 _ (by simp);have g2:(Ent.row es 1 v 1 [rv]).holds w:=h1 _ (by simp);have g3:(Ent.row e 1 rv row.length (intCells row)).holds w:=h1 _ (by simp);obtain⟨-,-,p3⟩:=h.rd w g1 fun k hk=>h2 k ⟨E,by simp,hk⟩
 refine⟨Sl.mono ((Zab g2).sl (by omega)) (Nat.zero_le _),fun i hi => ?_,p3⟩;have hi:i<1:=hi;obtain rfl:i=0:=by omega
 exact Sl.mono ((Zab g3).sl (by omega)) (Nat.zero_le _)
theorem ZpY (bs:List Nat) (vb:Value) (b p n:Nat) (w0 w:World) (X:Ent) (hb:Bytes 0 w0 vb bs) (hlen:bs.length≤2000) (hp:p≤900000) (hn1:n≤10000) (hS:St w0 w [RdE b vb p,X]) :
  Calls Tryz.prog 94 #[.pointer (some ⟨b,0,none⟩),.int .i64 ((n:Nat):Int)] w fun e w'=>∃ (k l:Int) (p':Nat),(-10≤k∧k≤10 ∧ -10≤l∧l≤10)∧p'≤p+10∧e = .returned (.agg #[.int .i64 k,.int .i64 l])∧St w0 w' [RdE b vb p',X]:=by
 have Hb:=qh hb;have hS0:St w0 _ ([RdE b vb p]++[X,Ent.box w.heap.size #[.int .i64 0,.int .i64 0] 59]):=hS.alloc _ rfl #[.int .i64 0,.int .i64 0] 59;have HS0:=qh hS0;clear hb hS hS0
 go_enter Tryz.func94, Tryz.ntmps94
 go_wp2_with fail;refine(ZaE bs vb b p 8 w0 _ _ Hb.out hlen (by omega) (by omega) (by omega) (St.pack (A:=[RdE b vb p]) (R:=[X,Ent.box w.heap.size #[.int .i64 0,.int .i64 0] 59]) HS0.out)).mono ?_;rintro e w1 ⟨k8,hk8,rfl,hSp⟩;have hS1:=St.unpack (A:=[RdE b vb p]) (A':=[RdE b vb (p+1)]) (R:=[X,Ent.box w.heap.size #[.int .i64 0,.int .i64 0] 59]) HS0.out hSp;obtain⟨kk,hkk⟩:∃ kk:Nat,(1:Int)+(k8:Int)=((kk:Nat):Int):=⟨k8+1,by omega⟩;have hkb:kk≤8:=by omega
 have hkw:IntKind.i64.wrap (kk:Int)=(kk:Int):=IntWalk.i64_in _ (by omega);have hS2:=hS1.alloc _ rfl #[.int .i64 ((kk:Nat):Int),.int .i64 0] 59;have e0:=hS2.cell (v:=.int .i64 ((kk:Nat):Int)) 3 0 rfl rfl;have HS2:=qh hS2;clear hSp hS1 hS2
 go_upto_if 12 with fail
 go_cut [] from 10 (fun wc=>∃ (l:Int) (po:Nat),0≤l∧l≤2∧po≤p+2∧St w0 wc ([RdE b vb po]++[X,Ent.box w.heap.size #[.int .i64 0,.int .i64 0] 59,Ent.box w1.heap.size #[.int .i64 ((kk:Nat):Int),.int .i64 l] 59]))
 case first =>
  by_cases h3:(kk:Int)=3
  ·obtain⟨x1,x2,x3⟩:=ZbV h3;replace h3:=qh h3;go_wp2_with fail;refine(ZaE bs vb b (p+1) 3 w0 _ _ Hb.out hlen (by omega) (by omega) (by omega) (St.pack (A:=[RdE b vb (p+1)]) (R:=[X,Ent.box w.heap.size #[.int .i64 0,.int .i64 0] 59,Ent.box w1.heap.size #[.int .i64 ((kk:Nat):Int),.int .i64 0] 59]) HS2.out)).mono ?_;rintro e w3 ⟨l3,hl3,rfl,hSp⟩;have hS3:=St.unpack (A:=[RdE b vb (p+1)]) (A':=[RdE b vb (p+1+1)]) (R:=[X,Ent.box w.heap.size #[.int .i64 0,.int .i64 0] 59,Ent.box w1.heap.size #[.int .i64 ((kk:Nat):Int),.int .i64 0] 59]) HS2.out hSp;have f1:=hS3.fr 3 1 rfl;have k1:=hS3.cell (v:=.int .i64 0) 3 1 rfl rfl;have HS3:=qh hS3;clear hSp hS3;go_wp2;go_meet;exact⟨((l3:Nat):Int),p+1+1,by omega,by omega,by omega,HS3.out.set 3 rfl 1 (.int .i64 ((l3:Nat):Int))⟩
  obtain⟨x1,x2,x3,x4⟩:=ZaF h3;replace h3:=qh h3;go_wp2;go_meet;exact⟨0,p+1,by omega,by omega,by omega,HS2.out⟩
 case rest =>
  obtain⟨l,po,hl0,hl2,hpo,hSc⟩:=hcut;have HSc:=qh hSc;clear hSc HS2 HS0 e0;go_wp2_with fail;refine(ZiT bs vb b po n w0 _ _ Hb.out hlen (by omega) hn1 (St.pack (A:=[RdE b vb po]) (R:=[X,Ent.box w.heap.size #[.int .i64 0,.int .i64 0] 59,Ent.box w1.heap.size #[.int .i64 ((kk:Nat):Int),.int .i64 l] 59]) HSc.out)).mono ?_;rintro e w3 ⟨q,pq,hpq,rfl,hSp⟩;have HS3:Hid (St w0 w3 ([RdE b vb pq]++[X,Ent.box w.heap.size #[.int .i64 0,.int .i64 0] 59,Ent.box w1.heap.size #[.int .i64 ((kk:Nat):Int),.int .i64 l] 59])):=qh (St.unpack (A:=[RdE b vb po]) (A':=[RdE b vb pq]) (R:=[X,Ent.box w.heap.size #[.int .i64 0,.int .i64 0] 59,Ent.box w1.heap.size #[.int .i64 ((kk:Nat):Int),.int .i64 l] 59]) HSc.out hSp);clear hSp HSc;cases q
  ·have r0:=HS3.out.cell (v:=.int .i64 ((kk:Nat):Int)) 3 0 rfl rfl;have r1:=HS3.out.cell (v:=.int .i64 l) 3 1 rfl rfl;have f0:=HS3.out.fr 2 0 rfl;have f1:=HS3.out.fr 2 1 rfl;have k0:=HS3.out.cell (v:=.int .i64 0) 2 0 rfl rfl;have k1:=HS3.out.cell (v:=.int .i64 0) 2 1 rfl rfl;go_wp2;have hq:=(HS3.out.set 2 rfl 0 (.int .i64 ((kk:Nat):Int))).set 2 rfl 1 (.int .i64 l);have q0:=hq.cell (v:=.int .i64 ((kk:Nat):Int)) 2 0 rfl rfl;have q1:=hq.cell (v:=.int .i64 l) 2 1 rfl rfl;refine bodyPost_ret (v:=.agg #[.int .i64 ((kk:Nat):Int),.int .i64 l]) (by simp[results,Tryz.results94,go_sem,q0,q1]) rfl ?_;exact⟨_,_,pq,⟨by omega,by omega,by omega,by omega⟩,by omega,rfl,hq.pick [0,1] (by decide)⟩
  go_wp2_with fail;refine(ZaE bs vb b pq 2 w0 _ _ Hb.out hlen (by omega) (by omega) (by omega) (St.pack (A:=[RdE b vb pq]) (R:=[X,Ent.box w.heap.size #[.int .i64 0,.int .i64 0] 59,Ent.box w1.heap.size #[.int .i64 ((kk:Nat):Int),.int .i64 l] 59]) HS3.out)).mono ?_;rintro e w4 ⟨z,hz,rfl,hSp⟩;have HS4:Hid (St w0 w4 ([RdE b vb (pq+1)]++[X,Ent.box w.heap.size #[.int .i64 0,.int .i64 0] 59,Ent.box w1.heap.size #[.int .i64 ((kk:Nat):Int),.int .i64 l] 59])):=qh (St.unpack (A:=[RdE b vb pq]) (A':=[RdE b vb (pq+1)]) (R:=[X,Ent.box w.heap.size #[.int .i64 0,.int .i64 0] 59,Ent.box w1.heap.size #[.int .i64 ((kk:Nat):Int),.int .i64 l] 59]) HS3.out hSp);clear hSp HS3;by_cases hz0:(z:Int)=0
  ·obtain⟨x1,x2,x3⟩:=ZbV hz0;have Hhz0:=qh hz0;clear hz0;have hS5:St w0 _ ([RdE b vb (pq+1)]++[X,Ent.box w.heap.size #[.int .i64 0,.int .i64 0] 59,Ent.box w1.heap.size #[.int .i64 ((kk:Nat):Int),.int .i64 l] 59,Ent.box w4.heap.size #[.int .i64 0,.int .i64 9] 3]):=HS4.out.alloc _ rfl #[.int .i64 0,.int .i64 9] 3;have HS5:=qh hS5;clear hS5;go_wp2_with fail;refine(ZaE bs vb b (pq+1) 2 w0 _ _ Hb.out hlen (by omega) (by omega) (by omega) (St.pack (A:=[RdE b vb (pq+1)]) (R:=[X,Ent.box w.heap.size #[.int .i64 0,.int .i64 0] 59,Ent.box w1.heap.size #[.int .i64 ((kk:Nat):Int),.int .i64 l] 59,Ent.box w4.heap.size #[.int .i64 0,.int .i64 9] 3]) HS5.out)).mono ?_;rintro e w6 ⟨k2,hk2,rfl,hSp⟩;have hS6:St w0 w6 ([RdE b vb (pq+1+1)]++[X,Ent.box w.heap.size #[.int .i64 0,.int .i64 0] 59,Ent.box w1.heap.size #[.int .i64 ((kk:Nat):Int),.int .i64 l] 59,Ent.box w4.heap.size #[.int .i64 0,.int .i64 9] 3]):=St.unpack (A:=[RdE b vb (pq+1)]) (A':=[RdE b vb (pq+1+1)]) (R:=[X,Ent.box w.heap.size #[.int .i64 0,.int .i64 0] 59,Ent.box w1.heap.size #[.int .i64 ((kk:Nat):Int),.int .i64 l] 59,Ent.box w4.heap.size #[.int .i64 0,.int .i64 9] 3]) HS5.out hSp
   obtain⟨kv,hkv,hk10,hk11⟩:∃ kv:Int,(#[.int .i64 0,.int .i64 9]:Array Value)[k2]? = some (.int .i64 kv) ∧ -10≤kv∧kv≤10:=by
    obtain rfl|rfl:k2=0∨k2=1:=by omega
    all_goals exact⟨_,rfl,by omega,by omega⟩
   have e5:=hS6.cell (v:=.int .i64 kv) 4 k2 rfl hkv;have hk2I:(k2:Int)<2:=by omega
   have f5:=hS6.fr 3 0 rfl;have k5:=hS6.cell (v:=.int .i64 ((kk:Nat):Int)) 3 0 rfl rfl;have HS7:=qh (hS6.set 3 rfl 0 (.int .i64 kv));clear hSp hS6 hkv HS5 HS4;have r0:=HS7.out.cell (v:=.int .i64 kv) 3 0 rfl rfl;have r1:=HS7.out.cell (v:=.int .i64 l) 3 1 rfl rfl;have f0:=HS7.out.fr 2 0 rfl;have f1:=HS7.out.fr 2 1 rfl;have k0:=HS7.out.cell (v:=.int .i64 0) 2 0 rfl rfl;have k1:=HS7.out.cell (v:=.int .i64 0) 2 1 rfl rfl;go_wp2;have hq:=(HS7.out.set 2 rfl 0 (.int .i64 kv)).set 2 rfl 1 (.int .i64 l);have q0:=hq.cell (v:=.int .i64 kv) 2 0 rfl rfl;have q1:=hq.cell (v:=.int .i64 l) 2 1 rfl rfl;refine bodyPost_ret (v:=.agg #[.int .i64 kv,.int .i64 l]) (by simp[results,Tryz.results94,go_sem,q0,q1]) rfl ?_;exact⟨_,_,pq+1+1,⟨by omega,by omega,by omega,by omega⟩,by omega,rfl,hq.pick [0,1] (by decide)⟩
  obtain⟨x1,x2,x3,x4⟩:=ZaF hz0;have Hhz0:=qh hz0;clear hz0;have hS5:St w0 _ ([RdE b vb (pq+1)]++[X,Ent.box w.heap.size #[.int .i64 0,.int .i64 0] 59,Ent.box w1.heap.size #[.int .i64 ((kk:Nat):Int),.int .i64 l] 59,Ent.box w4.heap.size #[.int .i64 (-1),.int .i64 3,.int .i64 1] 3]):=HS4.out.alloc _ rfl #[.int .i64 (-1),.int .i64 3,.int .i64 1] 3;have HS5:=qh hS5;clear hS5;go_wp2_with fail;refine(ZaE bs vb b (pq+1) 3 w0 _ _ Hb.out hlen (by omega) (by omega) (by omega) (St.pack (A:=[RdE b vb (pq+1)]) (R:=[X,Ent.box w.heap.size #[.int .i64 0,.int .i64 0] 59,Ent.box w1.heap.size #[.int .i64 ((kk:Nat):Int),.int .i64 l] 59,Ent.box w4.heap.size #[.int .i64 (-1),.int .i64 3,.int .i64 1] 3]) HS5.out)).mono ?_;rintro e w6 ⟨k2,hk2,rfl,hSp⟩;have hS6:St w0 w6 ([RdE b vb (pq+1+1)]++[X,Ent.box w.heap.size #[.int .i64 0,.int .i64 0] 59,Ent.box w1.heap.size #[.int .i64 ((kk:Nat):Int),.int .i64 l] 59,Ent.box w4.heap.size #[.int .i64 (-1),.int .i64 3,.int .i64 1] 3]):=St.unpack (A:=[RdE b vb (pq+1)]) (A':=[RdE b vb (pq+1+1)]) (R:=[X,Ent.box w.heap.size #[.int .i64 0,.int .i64 0] 59,Ent.box w1.heap.size #[.int .i64 ((kk:Nat):Int),.int .i64 l] 59,Ent.box w4.heap.size #[.int .i64 (-1),.int .i64 3,.int .i64 1] 3]) HS5.out hSp
  obtain⟨kv,hkv,hk10,hk11⟩:∃ kv:Int,(#[.int .i64 (-1),.int .i64 3,.int .i64 1]:Array Value)[k2]? = some (.int .i64 kv) ∧ -10≤kv∧kv≤10:=by
   obtain rfl|rfl|rfl:k2=0∨k2=1∨k2=2:=by omega
   all_goals exact⟨_,rfl,by omega,by omega⟩
  have e5:=hS6.cell (v:=.int .i64 kv) 4 k2 rfl hkv;have hk2I:(k2:Int)<3:=by omega
  have f5:=hS6.fr 3 1 rfl;have k5:=hS6.cell (v:=.int .i64 l) 3 1 rfl rfl;have HS7:=qh (hS6.set 3 rfl 1 (.int .i64 kv));clear hSp hS6 hkv HS5 HS4;have r0:=HS7.out.cell (v:=.int .i64 ((kk:Nat):Int)) 3 0 rfl rfl;have r1:=HS7.out.cell (v:=.int .i64 kv) 3 1 rfl rfl;have f0:=HS7.out.fr 2 0 rfl;have f1:=HS7.out.fr 2 1 rfl;have k0:=HS7.out.cell (v:=.int .i64 0) 2 0 rfl rfl;have k1:=HS7.out.cell (v:=.int .i64 0) 2 1 rfl rfl;go_wp2;have hq:=(HS7.out.set 2 rfl 0 (.int .i64 ((kk:Nat):Int))).set 2 rfl 1 (.int .i64 kv);have q0:=hq.cell (v:=.int .i64 ((kk:Nat):Int)) 2 0 rfl rfl;have q1:=hq.cell (v:=.int .i64 kv) 2 1 rfl rfl;refine bodyPost_ret (v:=.agg #[.int .i64 ((kk:Nat):Int),.int .i64 kv]) (by simp[results,Tryz.results94,go_sem,q0,q1]) rfl ?_;exact⟨_,_,pq+1+1,⟨by omega,by omega,by omega,by omega⟩,by omega,rfl,hq.pick [0,1] (by decide)⟩
theorem ZlO {g c:Nat} {p:Int × Int} {es:List (Int × Int)} (v:Value) (hv:v = .slice (some ⟨g,2,none⟩) es.length (c-1)∨(c=1∧v = .slice (some ⟨g,0,none⟩) es.length 0)):PtH (Zbf (some ⟨g,0,none⟩) c (p::es)) v es:=fun w h _=>by
 have h1:Pairs 0 w (.slice (some ⟨g,0,none⟩) (p::es).length c) (p::es):=((Zab h).sl (by omega)).mono (Nat.zero_le _);obtain⟨hl,a',c',e,g1,g2,g3⟩:=h1;simp only[Value.slice.injEq,true_and] at e;obtain⟨rfl,rfl⟩:=e;have hl2:(es.flatMap Zaa).length=es.length*2:=by simp only[List.flatMap_cons,List.length_append,List.length_cons] at hl;have:(Zaa p).length=2:=rfl;omega
 simp only[List.length_cons] at g1;rcases hv with rfl|⟨rfl,rfl⟩
 ·refine⟨hl2,_,_,rfl,by omega,by omega,fun hn => ?_⟩;obtain⟨b,off,hb,q1,q2,q3⟩:=g3 (by simp);simp only[Option.some.injEq,Addr.mk.injEq,and_true] at hb;obtain⟨rfl,rfl⟩:=hb;refine⟨g,2,rfl,q1,q2,fun j hj => ?_⟩;have:=q3 (j+2) (by simp only[List.length_cons];omega);rw[show 2+j=0+(j+2) by omega,this];rfl
 have:es=[]:=List.length_eq_zero_iff.1 (by omega);subst this;exact⟨rfl,_,_,rfl,Nat.le_refl _,Nat.zero_le _,fun hn=>absurd hn (by simp)⟩
theorem Zqy (bs:List Nat) (vb:Value) (b p n:Nat) (w0 w:World) (X:Ent) (hb:Bytes 0 w0 vb bs) (hlen:bs.length≤2000) (hp:p≤800000) (hn1:n≤10000) (hS:St w0 w [RdE b vb p,X]) :
  Calls Tryz.prog 55 #[.pointer (some ⟨b,0,none⟩),.int .i64 ((n:Nat):Int)] w fun e w'=>∃ (v:Value) (es:List (Int × Int)) (E:Ent) (p':Nat),es.length≤100∧p'≤p+100∧PtH E v es∧e = .returned v∧St w0 w' [RdE b vb p',X,E]:=by
 have Hb:=qh hb;obtain⟨i0,hi,hz0,hz1,hz2⟩:=info_parts Tryz.infoPt;replace hi:=qh hi;have Hhz0:=qh hz0;clear hz0;have Hhz1:=qh hz1;clear hz1;have Hhz2:=qh hz2;clear hz2;have HS0:=qh hS;clear hb hS
 go_enter Tryz.func55, Tryz.ntmps55
 go_wp2_with fail;refine(ZaE bs vb b p 3 w0 _ X Hb.out hlen (by omega) (by omega) (by omega) HS0.out).mono ?_;rintro e w1 ⟨k3,hk3,rfl,hS1⟩;obtain⟨d,hd⟩:∃ d:Nat,(1:Int)+(k3:Int)=((d:Nat):Int):=⟨k3+1,by omega⟩;have hd3:d≤3:=by omega
 have hdw:IntKind.i64.wrap (d:Int)=(d:Int):=IntWalk.i64_in _ (by omega);have hsm:=Zjw hd3;have HS1:=qh hS1;clear hS1;go_wp2_with fail;refine(ZlT bs vb b w0 Hb.out hlen d hd3 false (p+1) _ X (by omega) HS1.out).mono ?_;rintro e w2 ⟨a,c,es,p2,he1,hel,hp2,rfl,hS2⟩;have HS2:=qh hS2;clear hS2 HS1 HS0;go_wp2_with fail;refine(ZiT bs vb b p2 n w0 _ _ Hb.out hlen (by omega) hn1 (St.pack (A:=[RdE b vb p2]) (R:=[X,Zbf a c es]) HS2.out)).mono ?_;rintro e w3 ⟨q,p3,hp3,rfl,hSp⟩;have HS3:Hid (St w0 w3 [RdE b vb p3,X,Zbf a c es]):=qh (St.unpack (A:=[RdE b vb p2]) (A':=[RdE b vb p3]) (R:=[X,Zbf a c es]) HS2.out hSp);clear hSp HS2;cases q
 ·go_wp2;go_ret;exact⟨_,es,_,p3,by omega,by omega,ZgX a c es,rfl,HS3.out⟩
 go_wp2_with fail;refine(ZaE bs vb b p3 4 w0 _ _ Hb.out hlen (by omega) (by omega) (by omega) (St.pack (A:=[RdE b vb p3]) (R:=[X,Zbf a c es]) HS3.out)).mono ?_;rintro e w4 ⟨z,hz,rfl,hSp⟩;have HS4:Hid (St w0 w4 [RdE b vb (p3+1),X,Zbf a c es]):=qh (St.unpack (A:=[RdE b vb p3]) (A':=[RdE b vb (p3+1)]) (R:=[X,Zbf a c es]) HS3.out hSp);clear hSp HS3;obtain⟨g,c',hv⟩:=HS4.out.rowform 2 rfl he1;simp only[Value.slice.injEq,true_and] at hv;obtain⟨rfl,rfl⟩:=hv;obtain⟨hcc,hcm⟩:=HS4.out.rowcap 2 rfl;obtain⟨m,hm⟩:=eI (es.length);have HE:Hid (St w0 w4 [RdE b vb (p3+1),X,Ent.row 59 2 (.slice (some ⟨g,0,none⟩) m c) m (es.flatMap Zaa)]):=qh (by rw[hm];exact HS4.out);rw[← hm] at he1 hel hcc;rw[← hm];have Hhm:=qh hm;clear hm;have hel2:m≤15:=by omega
 clear hel;by_cases hy0:(z:Int)=0
 ·obtain⟨x1,x2,x3⟩:=ZbV hy0;have Hhy0:=qh hy0;clear hy0
  obtain⟨pp,et,het⟩:∃ pp et,es=pp::et:=by
   cases es with
   | nil=>have:=Hhm.out;simp at this;omega
   | cons pp et=>exact⟨pp,et,rfl⟩
  obtain⟨m1,hm1⟩:=eJ (m-1);have hmt:m1=et.length:=by have:=Hhm.out;rw[het,List.length_cons] at this;omega
  by_cases hc1:c=1
  ·subst hc1;have hq:m1=0:=by omega
   have hm0:m=1:=by omega
   subst hm0;clear HE;go_wp2;go_ret;rw[het] at HS4;exact⟨_,et,_,p3+1,by omega,by omega,ZlO (g:=g) (c:=1) (p:=pp) _ (.inr ⟨rfl,by rw[← hmt,hq];rfl⟩),rfl,HS4.out⟩
  have y1:(c=1)=False:=by simp[hc1]
  have y2:(1=c)=False:=by simp;omega
  replace hc1:=qh hc1;have Hhmt:=qh hmt;clear hmt;have Hhet:=qh het;clear het;clear HE;go_wp2;go_ret;have hx:=HS4.out;rw[Hhet.out] at hx;exact⟨_,et,_,p3+1,by have:=Hhmt.out;omega,by omega,ZlO (g:=g) (c:=c) (p:=pp) _ (.inl (by rw[← Hhmt.out,← hm1];rfl)),rfl,hx⟩
 obtain⟨x1,x2,x3,x4⟩:=ZaF hy0;have Hhy0:=qh hy0;clear hy0;by_cases hy1':(z:Int)=1
 ·obtain⟨y1,y2,y3⟩:=ZbV hy1';have Hhy1':=qh hy1';clear hy1';go_wp2_with fail;refine(ZpY bs vb b (p3+1) 1 w0 _ _ Hb.out hlen (by omega) (by omega) (St.pack (A:=[RdE b vb (p3+1)]) (R:=[X,Ent.row 59 2 (.slice (some ⟨g,0,none⟩) m c) m (es.flatMap Zaa)]) HE.out)).mono ?_;rintro e w5 ⟨k,l,p5,hkl,hp5,rfl,hSp⟩;have HS5:Hid (St w0 w5 [RdE b vb p5,X,Ent.row 59 2 (.slice (some ⟨g,0,none⟩) m c) m (es.flatMap Zaa)]):=qh (St.unpack (A:=[RdE b vb (p3+1)]) (A':=[RdE b vb p5]) (R:=[X,Ent.row 59 2 (.slice (some ⟨g,0,none⟩) m c) m (es.flatMap Zaa)]) HE.out hSp);clear hSp HE HS4;have HSa:=qh (HS5.out.alloc_ (.cells #[.int .i64 k,.int .i64 l] 59));have HRw:=qh (HSa.out.row 2 rfl);obtain⟨hc5,hc6⟩:=HSa.out.rowcap 2 rfl;go_wp2_with (at_builtin;refine wpList_append_lies _ rfl _ _ _ rfl _ 59 i0 (.agg #[.int .i64 0,.int .i64 0]) 2 16 Tryz.underlying40 hi.out Hhz0.out Hhz1.out Hhz2.out rfl (by omega) _ m _ rfl HRw.out ⟨w5.heap.size,0,none⟩ 1 1 [.int .i64 k,.int .i64 l] rfl rfl (World.news_of_block (heap_alloc_new w5 _)) ZdX (by omega) (by unfold maxLen;omega) (by omega) HSa.out.size _ rfl ?_;intro g6 c6 w6 hown6 hgrow6 hat6 hlt6;have HS6:=qh (HSa.out.app 2 rfl hown6 hgrow6 hat6);clear hown6 hgrow6 hat6 hlt6);go_ret;have hl:(es++[(k,l)]).length=m+1:=by rw[List.length_append,← Hhm.out];rfl
  refine⟨_,es++[(k,l)],Zbf (some ⟨g6,0,none⟩) c6 (es++[(k,l)]),p5,by omega,by omega,by rw[← hl];exact ZgX _ _ _,rfl,?_⟩;unfold Zbf;rw[hl,List.flatMap_append];exact HS6.out
 obtain⟨y1,y2,y3,y4⟩:=ZaF hy1';have Hhy1':=qh hy1';clear hy1';by_cases hy2':(z:Int)=2
 ·obtain⟨v1,v2,v3⟩:=ZbV hy2';have Hhy2':=qh hy2';clear hy2';obtain⟨p5,hp5⟩:=eJ (p3+1);rw[hp5] at HE HS4;have hp5':p5≤p+50:=by omega
  have Hhp5:=qh hp5;clear hp5;clear HS4;have HSa:=qh (HE.out.alloc_ (.cells #[.int .i64 2,.int .i64 0] 59));have HRw:=qh (HSa.out.row 2 rfl);obtain⟨hc5,hc6⟩:=HSa.out.rowcap 2 rfl;go_wp2_with (at_builtin;refine wpList_append_lies _ rfl _ _ _ rfl _ 59 i0 (.agg #[.int .i64 0,.int .i64 0]) 2 16 Tryz.underlying40 hi.out Hhz0.out Hhz1.out Hhz2.out rfl (by omega) _ m _ rfl HRw.out ⟨w4.heap.size,0,none⟩ 1 1 [.int .i64 2,.int .i64 0] rfl rfl (World.news_of_block (heap_alloc_new w4 _)) ZdX (by omega) (by unfold maxLen;omega) (by omega) HSa.out.size _ rfl ?_;intro g6 c6 w6 hown6 hgrow6 hat6 hlt6;have HS6:=qh (HSa.out.app 2 rfl hown6 hgrow6 hat6);clear hown6 hgrow6 hat6 hlt6);go_ret;have hl:(es++[(2,0)]).length=m+1:=by rw[List.length_append,← Hhm.out];rfl
  refine⟨_,es++[(2,0)],Zbf (some ⟨g6,0,none⟩) c6 (es++[(2,0)]),p5,by omega,by omega,by rw[← hl];exact ZgX _ _ _,rfl,?_⟩;unfold Zbf;rw[hl,List.flatMap_append];exact HS6.out
 obtain⟨v1,v2,v3,v4⟩:=ZaF hy2';have Hhy2':=qh hy2';clear hy2';clear HS4;obtain⟨p5,hp5⟩:=eJ (p3+1);rw[hp5] at HE;have hp5':p5≤p+50:=by omega
 have Hhp5:=qh hp5;clear hp5;obtain⟨wE,hwE⟩:∃ z,z=w4:=⟨_,rfl⟩;go_wp2
 go_loopg [5] (61-m) (fun gg sv wr=>∃ (j g c:Nat) (F:List (Int × Int)),gg+j=61∧sv = .slice (some ⟨g,0,none⟩) j c∧F.length=j∧St w0 wr [RdE b vb p5,X,Ent.row 59 2 (.slice (some ⟨g,0,none⟩) j c) j (F.flatMap Zaa)])
 case atStart=>exact⟨m,g,c,es,by omega,rfl,Hhm.out.symm,HE.out⟩
 case round =>
  obtain⟨j,gj,cj,F,hgj,rfl,hF,hSj⟩:=hrel;have HSj:=qh hSj;replace hF:=qh hF;clear hSj;by_cases hj60:j≤60
  ·have q1:(j:Int)≤60:=by omega
   clear hj60;have HSa:=qh (HSj.out.alloc_ (.cells #[.int .i64 8,.int .i64 0] 59));have HRw:=qh (HSa.out.row 2 rfl);obtain⟨hc5,hc6⟩:=HSa.out.rowcap 2 rfl;go_wp2_with (at_builtin;refine wpList_append_lies _ rfl _ _ _ rfl _ 59 i0 (.agg #[.int .i64 0,.int .i64 0]) 2 16 Tryz.underlying40 hi.out Hhz0.out Hhz1.out Hhz2.out rfl (by omega) _ j _ rfl HRw.out ⟨wr.heap.size,0,none⟩ 1 1 [.int .i64 8,.int .i64 0] rfl rfl (World.news_of_block (heap_alloc_new wr _)) ZdX (by omega) (by unfold maxLen;omega) (by omega) HSa.out.size _ rfl ?_;intro g6 c6 w6 hown6 hgrow6 hat6 hlt6;have HS6:=qh (HSa.out.app 2 rfl hown6 hgrow6 hat6);clear hown6 hgrow6 hat6 hlt6)
   go_roundg (61-(j+1))
   case measure=>omega
   case rel=>exact⟨j+1,g6,c6,F++[(8,0)],by omega,rfl,by rw[List.length_append,hF.out];rfl,by rw[List.flatMap_append];exact HS6.out⟩
  have q1:((j:Int)≤60)=False:=by simp;omega
  have hj1:j≤61:=by omega
  clear hj60;go_wp2;go_ret;exact⟨_,F,Zbf (some ⟨gj,0,none⟩) cj F,p5,by have:=hF.out;omega,by omega,by rw[← hF.out];exact ZgX _ _ _,rfl,by unfold Zbf;rw[hF.out];exact HSj.out⟩
theorem Zn1 (bs:List Nat) (v:Value) (w:World) (hb:Bytes 0 w v bs) (hlen:bs.length≤100000000) :
  Calls Tryz.prog 51 #[v] w fun e w'=>∃ vb bs',bs'.length≤2000∧(∀ u:World,Bytes 0 u v bs→Bytes 0 u vb bs')∧e = .returned (.pointer (some ⟨w.heap.size,0,none⟩))∧St w w' [RdE w.heap.size vb 0]:=by
 obtain⟨a,c,rfl,hc1,hc2,-⟩:=hb.form;have Hb:=qh hb;clear hb;by_cases h2:2000<bs.length
 ·have q1:(2000:Int)<bs.length:=by omega
  have q2:(2000:Int)≤c:=by omega
  have hS:=(St.start w).alloc _ rfl #[.slice a 2000 c,.int .i64 0] 104;have HS:=qh hS;clear hS
  go_enter Tryz.func51, Tryz.ntmps51
  go_wp2;go_ret;exact⟨_,bs.take 2000,by rw[List.length_take];omega,fun u h=>h.take (by omega),rfl,HS.out⟩
 have q1:(2000<(bs.length:Int))=False:=by simp;omega
 have hS:=(St.start w).alloc _ rfl #[.slice a bs.length c,.int .i64 0] 104;have HS:=qh hS;have h2:bs.length≤2000:=by omega
 clear hS
 go_enter Tryz.func51, Tryz.ntmps51
 go_wp2;go_ret;exact⟨_,bs,h2,fun u h=>h,rfl,HS.out⟩
def w3 (m:Nat):List Nat:=[97+m / 9,97+m / 3 % 3,97+m % 3]
theorem ZrP {m:Nat} (h:m<27):isT (w3 m):=fun b hb=>by simp[w3] at hb;omega
theorem ZrO {m:Nat} (h:m<27):wdOk (w3 m)=true:=by
 have:∀ m:Fin 27,wdOk (w3 m.val)=true:=by decide
 exact this ⟨m,h⟩
theorem ZlD:shF 0=0∧shF 1=1∧shF 2=4∧shF 3=13∧shF 4=40∧shF 9=9841:=by decide
theorem ZkC (m:Nat) (hm:m<27) (w:World):Calls Tryz.prog 68 #[.int .i64 (13+(m:Int))] w fun e w'=>e = .returned (.tuple #[.string (txB (w3 m)),.bool true])∧w=w':=by
 obtain⟨s0,s1,s2,s3,s4,s9⟩:=ZlD
 have h9:∀ u:World,Calls Tryz.prog 67 #[.int .i64 9] u fun e w'=>e = .returned (.int .i64 9841)∧u=w':=fun u=>by
  have:=ZcH 9 u (by omega)
  rwa [s9] at this
 have hk:∀ (k:Nat) (u:World),k≤9→Calls Tryz.prog 67 #[.int .i64 (k:Int)] u fun e w'=>e = .returned (.int .i64 ((shF k:Nat):Int))∧u=w':=fun k u h=>ZcH k u h
 have H9:=qh h9;have HK:=qh hk;have hin:inB (13+(m:Int)) 0 9840=true:=by unfold inB;simp;omega
 replace hin:=qh hin;clear h9 hk s0 s9
 go_enter Tryz.func68, Tryz.ntmps68
 go_wp2_with (first
  | (go_at_call 67;refine(H9.out _).mono ?_;rintro e w' ⟨rfl,rfl⟩)
  | (go_at_call 62;refine(ZaN _ _ _ _ _ hin.out).mono ?_;rintro e w' ⟨rfl,rfl⟩))
 go_loopw [4] (fun kv wr=>∃ k:Nat,kv = .int .i64 (k:Int)∧k≤3∧w=wr) (fun kv _=>3-(intOf kv).toNat)
 case atStart=>exact⟨0,rfl,by omega,rfl⟩
 case round =>
  obtain⟨k,rfl,hk3,rfl⟩:=hrel;have hw1:IntKind.i64.wrap ((k:Int)+1)=(k:Int)+1:=IntWalk.i64_in _ (by omega);by_cases hk:k<3
  ·have hge:((shF (k+1):Nat):Int)≤13+(m:Int):=by
    obtain rfl|rfl|rfl:k=0∨k=1∨k=2:=by omega
    ·rw[s1];omega
    ·rw[s2];omega
    rw[s3];omega
   have Hs1:=qh s1;clear s1;have Hs2:=qh s2;clear s2;have Hs3:=qh s3;clear s3;have Hs4:=qh s4;clear s4;go_wp2_with (go_at_call 67;refine(HK.out (k+1) _ (by omega)).mono ?_;rintro e w' ⟨rfl,rfl⟩);go_roundw
   case rel=>exact⟨k+1,rfl,by omega,trivial⟩
   case measure=>simp[intOf];omega
  obtain⟨z,hz⟩:∃ z:Nat,z=shF (k+1):=⟨_,rfl⟩;obtain⟨y,hy⟩:∃ y:Nat,y=shF k:=⟨_,rfl⟩;have e3:k=3:=by omega
  have hz40:z=40:=by rw[hz,e3];exact s4
  have hy13:y=13:=by rw[hy,e3];exact s3
  have hlt:13+(m:Int)<(z:Int):=by omega
  have hge:¬ (z:Int)≤13+(m:Int):=by omega
  have hk4:∀ u:World,Calls Tryz.prog 67 #[.int .i64 ((k+1:Nat):Int)] u fun e w'=>e = .returned (.int .i64 (z:Int))∧u=w':=fun u=>by
   have:=HK.out (k+1) u (by omega)
   rwa [← hz] at this
  have hk3':∀ u:World,Calls Tryz.prog 67 #[.int .i64 (k:Int)] u fun e w'=>e = .returned (.int .i64 (y:Int))∧u=w':=fun u=>by
   have:=HK.out k u (by omega)
   rwa [← hy] at this
  have H4:=qh hk4;have H3:=qh hk3';have hsub:13+(m:Int)-(y:Int)=(m:Int):=by omega
  have hwm:IntKind.i64.wrap (m:Int)=(m:Int):=IntWalk.i64_in _ (by omega);have hkI:(k:Int)≤3:=by omega
  have Hs1:=qh s1;clear s1;have Hs2:=qh s2;clear s2;have Hs3:=qh s3;clear s3;have Hs4:=qh s4;clear s4;replace e3:=qh e3;have Hhz:=qh hz;clear hz;have Hhy:=qh hy;clear hy;have Hhz40:=qh hz40;clear hz40;have Hhy13:=qh hy13;clear hy13;clear hk4 hk3' hge hk hk3
  go_wp2_with (first
   | (go_at_call 67;with_reducible refine(H3.out _).mono ?_;rintro e w' ⟨rfl,rfl⟩)
   | (go_loud (go_at_call 67;refine(H4.out _).mono ?_;rintro e w' ⟨rfl,rfl⟩)))
  go_loopw [0,5,23] (fun nv ov iv wr=>∃ (i q:Nat) (o:List Nat),iv = .int .i64 (i:Int)∧nv = .int .i64 (q:Int)∧ov = .string (txB o)∧((i=0∧q=m∧o=[])∨(i=1∧q=m / 3∧o=[97+m % 3])∨(i=2∧q=m / 9∧o=[97+m / 3 % 3,97+m % 3])∨(i=3∧q=0∧o=w3 m))∧w=wr) (fun _ _ iv _=>3-(intOf iv).toNat)
  case atStart=>exact⟨0,m,[],rfl,rfl,rfl,.inl ⟨rfl,rfl,rfl⟩,rfl⟩
  case round =>
   obtain⟨i,q,o,rfl,rfl,rfl,hio,rfl⟩:=hrel;have hi3:i≤3:=by omega
   by_cases hi:i<3
   ·have hiI:(i:Int)<(k:Int):=by have:=e3.out;omega
    obtain⟨c,hc⟩:∃ c:Nat,c=q % 3:=⟨_,rfl⟩;obtain⟨p,hp⟩:∃ p:Nat,p=q / 3:=⟨_,rfl⟩;have hq27:q≤27:=by omega
    have hc3:c<3:=by omega
    have hrem:(q:Int).tmod 3=(c:Int):=by rw[hc];exact(Int.ofNat_tmod q 3).symm
    have hquo:(q:Int).tdiv 3=(p:Int):=by rw[Int.tdiv_eq_ediv_of_nonneg (by omega)];omega
    have hol:o.length≤3:=by rcases hio with⟨-,-,rfl⟩|⟨-,-,rfl⟩|⟨-,-,rfl⟩|⟨-,-,rfl⟩<;>simp[w3]
    have hwdc:wdB [c]=txB [97+c]:=rfl;obtain⟨hadd,hnlt⟩:=ZkA [97+c] (txB o) (by simp) (by rw[Zax];omega);rw[Zdb] at hadd;have hwp:IntKind.i64.wrap (p:Int)=(p:Int):=IntWalk.i64_in _ (by omega);have hwi:IntKind.i64.wrap ((i:Int)+1)=(i:Int)+1:=IntWalk.i64_in _ (by omega);have HL:=qh (fun u:World=>show Calls Tryz.prog 107 #[.int .i64 (c:Int)] u fun e w'=>e = .returned (.string (txB [97+c]))∧u=w' from Zet c hc3 u)
    have hrel2:(i+1=0∧p=m∧[97+c]++o=[])∨(i+1=1∧p=m / 3∧[97+c]++o=[97+m % 3])∨(i+1=2∧p=m / 9∧[97+c]++o=[97+m / 3 % 3,97+m % 3])∨(i+1=3∧p=0∧[97+c]++o=w3 m):=by
     rcases hio with⟨h1,h2,h3⟩|⟨h1,h2,h3⟩|⟨h1,h2,h3⟩|⟨h1,h2,h3⟩
     ·exact .inr (.inl ⟨by omega,by omega,by rw[h3,hc,h2];rfl⟩)
     ·refine .inr (.inr (.inl ⟨by omega,by omega,?_⟩));rw[h3,hc,h2];rfl
     ·refine .inr (.inr (.inr ⟨by omega,by omega,?_⟩));rw[h3,show c=m / 9 by omega];rfl
     omega
    have Hhrel2:=qh hrel2;clear hrel2;have Hhc:=qh hc;clear hc;have Hhp:=qh hp;clear hp;clear hio;go_wp2_with (go_at_call 107;refine(HL.out _).mono ?_;rintro e w' ⟨rfl,rfl⟩);go_roundw
    case rel=>exact⟨i+1,p,[97+c]++o,by go_num,rfl,rfl,Hhrel2.out,trivial⟩
    case measure=>simp[intOf];omega
   have hi3':i=3:=by omega
   have hiI:¬ (i:Int)<(k:Int):=by have:=e3.out;omega
   have hkiI:(k:Int)≤(i:Int):=by have:=e3.out;omega
   have ho3:o=w3 m:=by
    rcases hio with⟨h1,h2,h3⟩|⟨h1,h2,h3⟩|⟨h1,h2,h3⟩|⟨h1,h2,h3⟩
    ·omega
    ·omega
    ·omega
    exact h3
   subst ho3;have Hhi3':=qh hi3';clear hi3';clear hio hi hi3;go_wp2;refine bodyPost_ret (v:=.tuple #[.string (txB (w3 m)),.bool true]) (by simp[results,Tryz.results68,go_sem]) rfl ⟨rfl,rfl⟩
def cntP:Nat→(List Nat→Bool)→Nat
 | 0,p=>if p []=true then 1 else 0
 | n+1,p=>cntP n (fun w=>p (0::w))+cntP n (fun w=>p (1::w))+cntP n (fun w=>p (2::w))
theorem Zjm:∀ (n:Nat) (p:List Nat→Bool),cntP n p≤3 ^ n
 | 0,p=>by
  show(if p []=true then 1 else 0)≤1
  split<;>omega
 | n+1,p=>by have h0:=Zjm n (fun w=>p (0::w));have h1:=Zjm n (fun w=>p (1::w));have h2:=Zjm n (fun w=>p (2::w));show cntP n (fun w=>p (0::w))+cntP n (fun w=>p (1::w))+cntP n (fun w=>p (2::w))≤_;rw[Nat.pow_succ];omega
def cntD (d:DfaD) (n:Nat) (s:Int):Nat:=cntP n fun w=>den d (runD d s w)
theorem Zo8 (d:DfaD) (s:Int):cntD d 0 s=if den d s=true then 1 else 0:=rfl
theorem Zo9 (d:DfaD) (n:Nat) (s:Int):cntD d (n+1) s=cntD d n (dnx d s 0)+cntD d n (dnx d s 1)+cntD d n (dnx d s 2):=rfl
theorem ZrC (d:DfaD) (n:Nat) (s:Int):cntD d n s≤3 ^ n:=Zjm n _
theorem Zm9 {d:DfaD} {n:Nat} {s:Int} (h:n≤30):cntD d n s≤205891132094649:=Nat.le_trans (ZrC d n s) (Nat.le_trans (Nat.pow_le_pow_right (by omega) h) (by decide))
def Zq5 (d:DfaD) (s:Nat):Prop:=∃ w,isW w∧den d (runD d (s:Int) w)=true
theorem ZjS {α:Type} [DecidableEq α]:∀ {l:List α},¬ l.Nodup→∃ (i j:Nat) (hj:j<l.length) (hi:i<j),l[i]'(Nat.lt_trans hi hj)=l[j]
 | [],h=>absurd List.nodup_nil h
 | x::l,h=>by
  rw[List.nodup_cons] at h;by_cases hx:x∈l
  ·obtain⟨j,hj,e⟩:=List.getElem_of_mem hx;exact⟨0,j+1,by simp only[List.length_cons];omega,by omega,by simpa using e.symm⟩
  obtain⟨i,j,hj,hi,e⟩:=ZjS (l:=l) fun hn=>h ⟨hx,hn⟩
  exact⟨i+1,j+1,by simp only[List.length_cons];omega,by omega,by simpa using e⟩
theorem Zh0 {d:DfaD} (hd:fine d) {s:Nat} (hs:s<d.next.length):∀ (n:Nat) (w:List Nat),w.length≤n→isW w→den d (runD d (s:Int) w)=true→∃ w',w'.length<d.next.length∧isW w'∧den d (runD d (s:Int) w')=true
 | n,w,hn,hw,he=>by
  by_cases hl:w.length<d.next.length
  ·exact⟨w,hl,hw,he⟩
  have key:∀ i,∃ t:Nat,t<d.next.length∧runD d (s:Int) (w.take i)=(t:Int):=fun i=>ZeW hd _ (Zi0 hw i) hs
  have hnd:¬ ((List.range (w.length+1)).map fun i=>runD d (s:Int) (w.take i)).Nodup:=fun h=>by
   have:=Zej (m:=(List.range d.next.length).map fun (i:Nat)=>(i:Int)) h fun x hx=>by obtain⟨i,-,rfl⟩:=List.mem_map.1 hx;obtain⟨t,ht,e⟩:=key i;rw[e];exact List.mem_map.2 ⟨t,List.mem_range.2 ht,rfl⟩
   simp only[List.length_map,List.length_range] at this;omega
  obtain⟨i,j,hj,hij,e⟩:=ZjS hnd;simp only[List.length_map,List.length_range] at hj;simp only[List.getElem_map,List.getElem_range] at e;have hr:runD d (s:Int) (w.take i++w.drop j)=runD d (s:Int) w:=by rw[ZlJ,e,← ZlJ,List.take_append_drop]
  have hlen:(w.take i++w.drop j).length<w.length:=by rw[List.length_append,List.length_take,List.length_drop];omega
  cases n with
  | zero=>omega
  | succ n=>exact Zh0 hd hs n (w.take i++w.drop j) (by omega) (Zek (Zi0 hw i) (Zi1 hw j)) (by rw[hr];exact he)
structure LdI (d:DfaD) (F:List Bool) (r s0 c0:Nat):Prop where
 len:F.length=d.next.length
 sound:∀ s,s<d.next.length→F.getD s false=true→Zq5 d s
 old:∀ s w,s<d.next.length→isW w→w.length≤r→den d (runD d (s:Int) w)=true→F.getD s false=true
 done:∀ s w,s<s0→s<d.next.length→isW w→w.length≤r+1→den d (runD d (s:Int) w)=true→F.getD s false=true
 now:∀ c w,c<c0→c<3→isW w→w.length≤r→den d (runD d (s0:Int) (c::w))=true→F.getD s0 false=true
theorem LdI.start {d:DfaD} (hd:Zag d.next d.ends=true):LdI d d.ends 0 0 0:=by have hl:=Zaf hd;refine⟨hl.2.2,fun s hs h=>⟨[],Zlf,by rw[Zeg,Za7];exact h⟩,fun s w hs hw hl h => ?_,fun s w hs=>absurd hs (by omega),fun c w hc=>absurd hc (by omega)⟩;have:w=[]:=List.length_eq_zero_iff.1 (by omega);subst this;rw[Zeg,Za7] at h;exact h
theorem LdI.round {d:DfaD} {F:List Bool} {r:Nat} (h:LdI d F r d.next.length 0):LdI d F (r+1) 0 0 :=
 ⟨h.len,h.sound,fun s w hs hw hl he=>h.done s w hs hs hw hl he,fun s w hs=>absurd hs (by omega),fun c w hc=>absurd hc (by omega)⟩
structure LdE (d:DfaD) (F:List Bool):Prop where
 len:F.length=d.next.length
 iff:∀ s,s<d.next.length→(F.getD s false=true↔Zq5 d s)
theorem LdI.all {d:DfaD} (hd:Zag d.next d.ends=true) {F:List Bool} (h:LdI d F d.next.length 0 0):LdE d F :=
 ⟨h.len,fun s hs=>⟨h.sound s hs,fun ⟨w,hw,he⟩=>by obtain⟨w',h1,h2,h3⟩:=Zh0 (ZaM hd) hs w.length w (Nat.le_refl _) hw he;exact h.old s w' hs h2 (by omega) h3⟩⟩
theorem Zrd {d:DfaD} {w:World} {b1 o1 cv b2 o2 cw:Nat} (h:DfaC w d b1 o1 cv b2 o2 cw) {u:World} (hb:Below w.heap.size w u) {i:Nat} (hi:i<d.next.length):∃ b3 o3 c3,3≤c3∧c3≤9223372036854775807∧u.cell? ⟨b1,o1+i,none⟩=some (.slice (some ⟨b3,o3,none⟩) 3 c3)∧∀ (u':World),Below w.heap.size w u'→∀ c,c<3→u'.cell? ⟨b3,o3+c,none⟩=some (.int .i64 (nxD d i c:Nat)):=by obtain⟨b3,o3,c3,h0,h1,h2,h3,h4⟩:=h.row i hi;exact⟨b3,o3,c3,h1,h2,(bcell hb b1 _ h.hb1).trans h3,fun u' hb' c hc=>(bcell hb' b3 _ h0).trans (h4 c hc)⟩
end Go.Proofs.YtfgpkadhegdffaaGreat
