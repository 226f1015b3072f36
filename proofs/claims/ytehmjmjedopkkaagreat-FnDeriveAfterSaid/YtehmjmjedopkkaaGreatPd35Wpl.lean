/-
  The walk over the program's small, for automata of up to N <= 128 states.
  Conditions: the automaton's numbers are in bounds; the arguments read as such data.
-/
import Derived.Test.YtehmjmjedopkkaaGreatPd34Wdet
set_option maxHeartbeats 4000000
set_option maxRecDepth 100000
namespace Go.Proofs.YtehmjmjedopkkaaGreat
open Go.RowKit
structure DetOkW (N:Nat) (n:NfaD):Prop where
 mv:mvIn N n.moves
 ml:n.moves.length≤1000
 f:inN N n.firsts
 fl:n.firsts.length≤1000
 e:inN N n.ends
 el:n.ends.length≤1000
def Zfb (N K:Nat) (n:NfaD):Option DfaD:=if (metW N n K).length≤K then some (Zar (nxW N n) (enW n) (metW N n K)) else none
theorem ZhQ {N K:Nat} (hK:K=40) {n:NfaD} {d:DfaD} (h:Zfb N K n=some d):Zai d.next d.ends=true:=by
 unfold Zfb at h
 split at h
 ·rename_i hle;simp only[Option.some.injEq] at h;subst h;obtain⟨h1,h2,h3,h4⟩:=Zej (en:=enW n) (nx:=nxW N n) (a:=pW (fstW N n)) hle (by omega);exact Zez ⟨h1,h2,h3,h4⟩ (by rw[ZaK];omega)
 cases h
theorem ZkU {N K:Nat} {n:NfaD} (h:(metW N n K).length≤K):Zfb N K n=some (Zar (nxW N n) (enW n) (metW N n K)):=if_pos h
theorem ZkV {N K:Nat} {n:NfaD} (h:¬ (metW N n K).length≤K):Zfb N K n=none:=if_neg h
theorem ZdE (N:Nat) (hN:N≤128) (n:NfaD) (K:Nat) (hK:K=40) (D:DfaD) (fb:Bool) (hD:((Zfb N K n).map minD).getD zeD=D) (hfb:((Zfb N K n).map minD).isSome=fb) (v1 v2 v3:Value) (w:World) (hdo:DetOkW N n) (h1:Moves 0 w v1 n.moves) (h2:Ints 0 w v2 n.firsts) (h3:Ints 0 w v3 n.ends) :
  Calls Tryz.prog 69 #[.agg #[.int .i64 n.states,v1,v2,v3]] w fun e w'=>RTt D fb w.heap.size e w'∧Below w.heap.size w w':=by
 have hS0:=((St.start w).alloc _ rfl #[.int .i64 n.states,v1,v2,v3] 91).alloc (w.heap.size+1) (by simp) #[.slice none 0 0,.slice none 0 0] 32;have hdet:=fun (W:World) (hb:Below w.heap.size w W)=>Zfa N hN n K hK v1 v2 v3 W hdo.mv (by have:=hdo.ml;omega) hdo.f (by have:=hdo.fl;omega) hdo.e (h1.below hb) (h2.below hb) (h3.below hb)
 have Hdet:=qh hdet;replace hS0:=qh hS0;have HhD:=qh hD;clear hD;have Hhfb:=qh hfb;clear hfb;clear hdet h1 h2 h3 hdo
 go_enter Tryz.func69, Tryz.ntmps69
 have e0:=hS0.out.cell (v:=.int .i64 n.states) 0 0 rfl rfl;have e1:=hS0.out.cell (v:=v1) 0 1 rfl rfl;have e2:=hS0.out.cell (v:=v2) 0 2 rfl rfl;have e3:=hS0.out.cell (v:=v3) 0 3 rfl rfl;go_wp2_with fail;refine(Hdet.out _ hS0.out.bel).mono ?_;rintro e w3 ⟨hr,hb3⟩;unfold ZnY at hr;by_cases hle:(metW N n K).length≤K
 ·rw[if_pos hle] at hr;obtain⟨an,cn,ae,ce,rfl,hown⟩:=hr;have htd:=ZkU hle;obtain⟨X,hX⟩:=eI (Zar (nxW N n) (enW n) (metW N n K));have hl1:X.next.length=(metW N n K).length:=by rw[hX];exact ZaK _ _ _
  have hl2:X.ends.length=(metW N n K).length:=by rw[hX];simp[Zar]
  rw[← hX] at hown htd;have hD:=HhD.out;have hfb:=Hhfb.out;rw[htd] at hD hfb;have hD:minD X=D:=hD;have hfb:true=fb:=hfb;subst hD;subst hfb;obtain⟨L,hL⟩:=eI ((metW N n K).length);rw[← hL] at hown hl1 hl2 hle;rw[← hL];have hL40:(L:Int)≤40:=by omega
  have hXo:Zai X.next X.ends=true:=ZhQ hK htd;have hS4:=(hS0.out.call hb3).alloc _ rfl #[.slice an L cn,.slice ae L ce] 32;have hDR:DfaR 0 (w3.alloc (.cells #[.slice an L cn,.slice ae L ce] 32)) (.agg #[.slice an L cn,.slice ae L ce]) X:=(hown.r.mono (Nat.zero_le _)).below ((Below.refl _ _).alloc (Nat.le_refl _) _);have d0:=hS4.cell (v:=.slice an L cn) 2 0 rfl rfl;have d1:=hS4.cell (v:=.slice ae L ce) 2 1 rfl rfl;have HS4:=qh hS4;have HDR:=qh hDR;have Hhl1:=qh hl1;clear hl1;have Hhl2:=qh hl2;clear hl2;have Hhtd:=qh htd;clear htd;have HhXo:=qh hXo;clear hXo;have HhX:=qh hX;clear hX;replace hL:=qh hL;clear hown hb3 hle hS4 hDR e0 e1 e2 e3;go_wp2_with fail;refine(Zbo X _ _ HhXo.out HDR.out).mono ?_;rintro e w5 ⟨a1,c1,a2,c2,rfl,hown,hb5⟩;obtain⟨M,hM⟩:=eI (minD X);rw[← hM] at hown;rw[← hM];have hS5:=HS4.out.call hb5;have f0:=hS5.fr 1 0 rfl;have f1:=hS5.fr 1 1 rfl;have k0:=hS5.cell (v:=.slice none 0 0) 1 0 rfl rfl;have k1:=hS5.cell (v:=.slice none 0 0) 1 1 rfl rfl;have hDM:=DMem.of hown HS4.out.size;have hb0:=hS5.box 1 rfl;have HS5:=qh hS5;have HDM:=qh hDM;have Hhb0:=qh hb0;clear hb0;have HhM:=qh hM;clear hM;clear hS5 hown hb5 hDM d0 d1;go_wp2;have hq:=(HS5.out.set 1 rfl 0 (.slice a1 M.next.length c1)).set 1 rfl 1 (.slice a2 M.ends.length c2);have q0:=hq.cell (v:=.slice a1 M.next.length c1) 1 0 rfl rfl;have q1:=hq.cell (v:=.slice a2 M.ends.length c2) 1 1 rfl rfl
  have hm:=(HDM.out.set Hhb0.out 0 (.slice a1 M.next.length c1)).set (Hhb0.out.set 0 _) 1 (.slice a2 M.ends.length c2);refine bodyPost_ret (v:=.tuple #[.agg #[.slice a1 M.next.length c1,.slice a2 M.ends.length c2],.bool true]) (by simp[results,Tryz.results69,go_sem,q0,q1]) rfl ⟨?_,hq.bel⟩;rw[← HhM.out];exact⟨a1,c1,a2,c2,rfl,_,_,rfl,hm.1,hm.2⟩
 rw[if_neg hle] at hr;subst hr;have hD:=HhD.out;have hfb:=Hhfb.out;rw[ZkV hle] at hD hfb;have hD:zeD=D:=hD;have hfb:false=fb:=hfb;subst hD;subst hfb;have hS4:=(hS0.out.call hb3).alloc _ rfl #[.slice none 0 0,.slice none 0 0] 32;have f0:=hS4.fr 1 0 rfl;have f1:=hS4.fr 1 1 rfl;have k0:=hS4.cell (v:=.slice none 0 0) 1 0 rfl rfl;have k1:=hS4.cell (v:=.slice none 0 0) 1 1 rfl rfl;have HS4:=qh hS4;clear hb3 hle hS4 e0 e1 e2 e3;go_wp2;have hq:=(HS4.out.set 1 rfl 0 (.slice none 0 0)).set 1 rfl 1 (.slice none 0 0);have q0:=hq.cell (v:=.slice none 0 0) 1 0 rfl rfl;have q1:=hq.cell (v:=.slice none 0 0) 1 1 rfl rfl;refine bodyPost_ret (v:=.tuple #[.agg #[.slice none 0 0,.slice none 0 0],.bool false]) (by simp[results,Tryz.results69,go_sem,q0,q1]) rfl ⟨?_,hq.bel⟩;exact⟨none,0,none,0,rfl,Zg6 _ _ _ _ _⟩
theorem Zf4 (a b:DfaD):Zdk (ZaY a) (ZaY b)=ZdI a b:=by
 unfold Zdk ZdI shN ZaY;simp only[List.map_cons,List.map_nil];congr 1
 ·show(b.next.length:Int)+(a.next.length:Int)=_;omega
 congr 1
 generalize eds a a.next.length=l
 induction l with
 | nil=>rfl
 | cons x l ih =>rw[List.flatMap_cons,List.map_cons,ih];simp
theorem Zfx (a:DfaD):Zct (ZaY a)=Zet a:=by unfold Zct Zet ZaY;simp
theorem Zn1 {u v:Nat} (h:pW u=pW v):u=v:=by rw[← Zm8 u,h,Zm8]
def nxV (N:Nat) (n:NfaD) (v c:Nat):Nat:=stV N n.moves v (c:Int)
theorem Zpf (N K:Nat) (n:NfaD):metW N n K=(bat (nxV N n) (fstW N n) K).met.map pW:=by have h:=Zjv (nx:=nxV N n) (nx':=nxW N n) (f:=pW) (a:=fstW N n) (fun x y h=>Zn1 h) (fun x c=>(ZlG N n x c).symm) K;show(bat (nxW N n) (pW (fstW N n)) K).met=_;rw[h]
def gS (v:Nat):Int × Int:=((v:Int),0)
theorem Zn5 {u v:Nat} (h:gS u=gS v):u=v:=Int.ofNat.inj (congrArg Prod.fst h)
theorem Zpe (N K:Nat) (n:NfaD):metSM N n K=(bat (nxV N n) (fstW N n) K).met.map gS:=by have h:=Zjv (nx:=nxV N n) (nx':=nxSM N n) (f:=gS) (a:=fstW N n) (fun x y h=>Zn5 h) (fun x c=>rfl) K;show(bat (nxSM N n) (gS (fstW N n)) K).met=_;rw[h]
theorem ZlI {α β:Type} [DecidableEq α] [DecidableEq β] {f:α→β} (hf:∀ x y,f x=f y→x=y) {nx:α→Nat→α} {nx':β→Nat→β} {en:α→Bool} {en':β→Bool} (hn:∀ x c,nx' (f x) c=f (nx x c)) (he:∀ x,en' (f x)=en x) (L:List α):Zar nx' en' (L.map f)=Zar nx en L:=by
 unfold Zar;rw[List.map_map,List.map_map];congr 1
 ·refine List.map_congr_left fun x _ => ?_
  show Zaf nx' (L.map f) (f x)=Zaf nx L x;unfold Zaf;refine List.map_congr_left fun c _ => ?_
  show((Zah (L.map f) (nx' (f x) c):Nat):Int)=_;rw[hn,ZfN fun y _ e=>hf _ _ e]
 exact List.map_congr_left fun x _=>he x
theorem Zkd (N K:Nat) (n:NfaD):Zfb N K n=detM N K n:=by
 unfold Zfb detM;rw[Zpf N K n,Zpe N K n];simp only[List.length_map]
 rw[ZlI (f:=pW) (nx:=nxV N n) (nx':=nxW N n) (en:=fun v=>endV n v) (en':=enW n) (fun x y h=>Zn1 h) (fun x c=>ZlG N n x c) (fun x=>Zn7 n x),
  ZlI (f:=gS) (nx:=nxV N n) (nx':=nxSM N n) (en:=fun v=>endV n v) (en':=enS n) (fun x y h=>Zn5 h) (fun x c=>rfl) (fun x=>rfl)]
end Go.Proofs.YtehmjmjedopkkaaGreat
