/-
  The walk over the program's small, for automata of up to N <= 128 states.
  Conditions: the automaton's numbers are in bounds; the arguments read as such data.
-/
import Derived.Test.YtehmjmjedopkkaaGreatPn26Wdet
set_option maxHeartbeats 4000000
set_option maxRecDepth 100000
namespace Go.Proofs.YtehmjmjedopkkaaGreat
open Go.RowKit
structure DetOkW (N:Nat) (n:NfaD):Prop where
 mv:mvIn N n.moves
 ml:n.moves.length≤1000
 f:inN N n.firsts
 fl:n.firsts.length≤1000
 e:inN N n.ends
 el:n.ends.length≤1000
def Zfb (N K:Nat) (n:NfaD):Option DfaD:=if (metW N n K).length≤K then some (Zat (nxW N n) (enW n) (metW N n K)) else none
theorem Zh0 {N K:Nat} (hK:K=40) {n:NfaD} {d:DfaD} (h:Zfb N K n=some d):Zaf d.next d.ends=true:=by
 unfold Zfb at h
 split at h
 ·rename_i hle;simp only[Option.some.injEq] at h;subst h;obtain⟨h1,h2,h3,h4⟩:=Zfl (en:=enW n) (nx:=nxW N n) (a:=pW (fstW N n)) hle (by omega);exact Zey ⟨h1,h2,h3,h4⟩ (by rw[ZaO];omega)
 cases h
theorem Zlw {N K:Nat} {n:NfaD} (h:(metW N n K).length≤K):Zfb N K n=some (Zat (nxW N n) (enW n) (metW N n K)):=if_pos h
theorem Zlx {N K:Nat} {n:NfaD} (h:¬ (metW N n K).length≤K):Zfb N K n=none:=if_neg h
theorem ZdE (N:Nat) (hN:N≤128) (n:NfaD) (K:Nat) (hK:K=40) (D:DfaD) (fb:Bool) (hD:((Zfb N K n).map minD).getD zeD=D) (hfb:((Zfb N K n).map minD).isSome=fb) (v1 v2 v3:Value) (w:World) (hdo:DetOkW N n) (h1:Moves 0 w v1 n.moves) (h2:Ints 0 w v2 n.firsts) (h3:Ints 0 w v3 n.ends) :
  Calls Tryz.prog 69 #[.agg #[.int .i64 n.states,v1,v2,v3]] w fun e w'=>RTt D fb w.heap.size e w'∧Below w.heap.size w w':=by
 have hS0:=((St.start w).alloc _ rfl #[.int .i64 n.states,v1,v2,v3] 91).alloc (w.heap.size+1) (by simp) #[.slice none 0 0,.slice none 0 0] 32;have hdet:=fun (W:World) (hb:Below w.heap.size w W)=>Zfa N hN n K hK v1 v2 v3 W hdo.mv (by have:=hdo.ml;omega) hdo.f (by have:=hdo.fl;omega) hdo.e (h1.below hb) (h2.below hb) (h3.below hb)
 have Hdet:=qh hdet;replace hS0:=qh hS0;have HhD:=qh hD;clear hD;have Hhfb:=qh hfb;clear hfb;clear hdet h1 h2 h3 hdo
 go_enter Tryz.func69, Tryz.ntmps69
 have e0:=hS0.out.cell (v:=.int .i64 n.states) 0 0 rfl rfl;have e1:=hS0.out.cell (v:=v1) 0 1 rfl rfl;have e2:=hS0.out.cell (v:=v2) 0 2 rfl rfl;have e3:=hS0.out.cell (v:=v3) 0 3 rfl rfl;go_wp2_with fail;refine(Hdet.out _ hS0.out.bel).mono ?_;rintro e w3 ⟨hr,hb3⟩;unfold Zou at hr;by_cases hle:(metW N n K).length≤K
 ·rw[if_pos hle] at hr;obtain⟨an,cn,ae,ce,rfl,hown⟩:=hr;have htd:=Zlw hle;obtain⟨X,hX⟩:=eI (Zat (nxW N n) (enW n) (metW N n K));have hl1:X.next.length=(metW N n K).length:=by rw[hX];exact ZaO _ _ _
  have hl2:X.ends.length=(metW N n K).length:=by rw[hX];simp[Zat]
  rw[← hX] at hown htd;have hD:=HhD.out;have hfb:=Hhfb.out;rw[htd] at hD hfb;have hD:minD X=D:=hD;have hfb:true=fb:=hfb;subst hD;subst hfb;obtain⟨L,hL⟩:=eI ((metW N n K).length);rw[← hL] at hown hl1 hl2 hle;rw[← hL];have hL40:(L:Int)≤40:=by omega
  have hXo:Zaf X.next X.ends=true:=Zh0 hK htd;have hS4:=(hS0.out.call hb3).alloc _ rfl #[.slice an L cn,.slice ae L ce] 32;have hDR:DfaR 0 (w3.alloc (.cells #[.slice an L cn,.slice ae L ce] 32)) (.agg #[.slice an L cn,.slice ae L ce]) X:=(hown.r.mono (Nat.zero_le _)).below ((Below.refl _ _).alloc (Nat.le_refl _) _);have d0:=hS4.cell (v:=.slice an L cn) 2 0 rfl rfl;have d1:=hS4.cell (v:=.slice ae L ce) 2 1 rfl rfl;have HS4:=qh hS4;have HDR:=qh hDR;have Hhl1:=qh hl1;clear hl1;have Hhl2:=qh hl2;clear hl2;have Hhtd:=qh htd;clear htd;have HhXo:=qh hXo;clear hXo;have HhX:=qh hX;clear hX;replace hL:=qh hL;clear hown hb3 hle hS4 hDR e0 e1 e2 e3;go_wp2_with fail;refine(Za6 X _ _ HhXo.out HDR.out).mono ?_;rintro e w5 ⟨a1,c1,a2,c2,rfl,hown,hb5⟩;obtain⟨M,hM⟩:=eI (minD X);rw[← hM] at hown;rw[← hM];have hS5:=HS4.out.call hb5;have f0:=hS5.fr 1 0 rfl;have f1:=hS5.fr 1 1 rfl;have k0:=hS5.cell (v:=.slice none 0 0) 1 0 rfl rfl;have k1:=hS5.cell (v:=.slice none 0 0) 1 1 rfl rfl;have hDM:=DMem.of hown HS4.out.size;have hb0:=hS5.box 1 rfl;have HS5:=qh hS5;have HDM:=qh hDM;have Hhb0:=qh hb0;clear hb0;have HhM:=qh hM;clear hM;clear hS5 hown hb5 hDM d0 d1;go_wp2;have hq:=(HS5.out.set 1 rfl 0 (.slice a1 M.next.length c1)).set 1 rfl 1 (.slice a2 M.ends.length c2);have q0:=hq.cell (v:=.slice a1 M.next.length c1) 1 0 rfl rfl;have q1:=hq.cell (v:=.slice a2 M.ends.length c2) 1 1 rfl rfl
  have hm:=(HDM.out.set Hhb0.out 0 (.slice a1 M.next.length c1)).set (Hhb0.out.set 0 _) 1 (.slice a2 M.ends.length c2);refine bodyPost_ret (v:=.tuple #[.agg #[.slice a1 M.next.length c1,.slice a2 M.ends.length c2],.bool true]) (by simp[results,Tryz.results69,go_sem,q0,q1]) rfl ⟨?_,hq.bel⟩;rw[← HhM.out];exact⟨a1,c1,a2,c2,rfl,_,_,rfl,hm.1,hm.2⟩
 rw[if_neg hle] at hr;subst hr;have hD:=HhD.out;have hfb:=Hhfb.out;rw[Zlx hle] at hD hfb;have hD:zeD=D:=hD;have hfb:false=fb:=hfb;subst hD;subst hfb;have hS4:=(hS0.out.call hb3).alloc _ rfl #[.slice none 0 0,.slice none 0 0] 32;have f0:=hS4.fr 1 0 rfl;have f1:=hS4.fr 1 1 rfl;have k0:=hS4.cell (v:=.slice none 0 0) 1 0 rfl rfl;have k1:=hS4.cell (v:=.slice none 0 0) 1 1 rfl rfl;have HS4:=qh hS4;clear hb3 hle hS4 e0 e1 e2 e3;go_wp2;have hq:=(HS4.out.set 1 rfl 0 (.slice none 0 0)).set 1 rfl 1 (.slice none 0 0);have q0:=hq.cell (v:=.slice none 0 0) 1 0 rfl rfl;have q1:=hq.cell (v:=.slice none 0 0) 1 1 rfl rfl;refine bodyPost_ret (v:=.tuple #[.agg #[.slice none 0 0,.slice none 0 0],.bool false]) (by simp[results,Tryz.results69,go_sem,q0,q1]) rfl ⟨?_,hq.bel⟩;exact⟨none,0,none,0,rfl,Zhe _ _ _ _ _⟩
end Go.Proofs.YtehmjmjedopkkaaGreat
namespace Go.Proofs.YtehmjmjedopkkaaGreat
open Go.RowKit Go.Maps
def hitK (K:Nat) (a b:DfaD):Option (List Nat):=ZhS (ZbY (fun x y=>x != y) a b) (bat (Zay a b) (0,0) K)
def ZoY:Nat:=1600
def hitP (a b:DfaD):Option (List Nat):=hitK ZoY a b
end Go.Proofs.YtehmjmjedopkkaaGreat
namespace Go.Proofs.YtehmjmjedopkkaaGreat
open Go.RowKit
section
variable {α β:Type} [DecidableEq α] [DecidableEq β] {nx:α→Nat→α} {nx':β→Nat→β} {a:α} {f:α→β}
theorem Zlz (hf:∀ x y,f x=f y→x=y) (hn:∀ x c,f (nx x c)=nx' (f x) c) (x:α) (wd:List Nat) (s:Bs α) (c:Nat):bvisit nx' (f x) wd ⟨s.met.map f,s.words⟩ c=⟨(bvisit nx x wd s c).met.map f,(bvisit nx x wd s c).words⟩:=by
 have hm:nx' (f x) c∈s.met.map f↔nx x c∈s.met:=by
  rw[← hn];constructor
  ·intro h;obtain⟨y,hy,e⟩:=List.mem_map.1 h;rw[← hf _ _ e];exact hy
  exact fun h=>List.mem_map.2 ⟨_,h,rfl⟩
 unfold bvisit;by_cases h:nx x c∈s.met
 ·rw[if_pos h,if_pos (hm.2 h)]
 rw[if_neg h,if_neg (fun h2=>h (hm.1 h2))];simp[hn]
theorem ZkJ (hf:∀ x y,f x=f y→x=y) (hn:∀ x c,f (nx x c)=nx' (f x) c) (x:α) (wd:List Nat) (s:Bs α):∀ n,brow nx' (f x) wd ⟨s.met.map f,s.words⟩ n=⟨(brow nx x wd s n).met.map f,(brow nx x wd s n).words⟩
 | 0=>rfl
 | n+1=>by show bvisit nx' (f x) wd (brow nx' (f x) wd ⟨s.met.map f,s.words⟩ n) n=_;rw[ZkJ hf hn x wd s n,Zlz hf hn];rfl
theorem ZjT (hf:∀ x y,f x=f y→x=y) (hn:∀ x c,f (nx x c)=nx' (f x) c):∀ k,bat nx' (f a) k=⟨(bat nx a k).met.map f,(bat nx a k).words⟩
 | 0=>rfl
 | k+1=>by
  have ih:=ZjT hf hn k;have hl:(bat nx' (f a) k).met.length=(bat nx a k).met.length:=by rw[ih];simp
  by_cases h:k<(bat nx a k).met.length
  ·rw[ZaK h,ZaK (by rw[hl];exact h)];unfold bpart;rw[ih];have hx:((bat nx a k).met.map f).getD k (f a)=f ((bat nx a k).met.getD k a):=by simp[h]
   simp only[hx];exact ZkJ hf hn _ _ _ 3
  rw[Zbq (by omega),Zbq (by omega),ih]
theorem Znv (k:Nat):∀ i,i<(bat nx a k).met.length→((bat nx a k).words.getD i []).foldl nx a=(bat nx a k).met.getD i a∧isW ((bat nx a k).words.getD i []):=by
 have h:=ZeM (nx:=nx) (a:=a) (fun s=>s.words.length=s.met.length∧∀ i,i<s.met.length→(s.words.getD i []).foldl nx a=s.met.getD i a∧isW (s.words.getD i [])) ⟨rfl,fun i hi=>by
  obtain rfl:i=0:=by simpa using hi
  exact⟨rfl,fun c hc=>by simp at hc⟩⟩ (fun s k hk t c hc hs ht=>by
   unfold bvisit
   split
   ·exact ht
   refine⟨by simp[ht.1],fun i hi => ?_⟩;simp only[List.length_append,List.length_singleton] at hi;by_cases hit:i<t.met.length
   ·have h1:=ht.2 i hit;have e1:(t.words++[s.words.getD k []++[c]]).getD i []=t.words.getD i []:=by simp only[List.getD_eq_getElem?_getD];rw[List.getElem?_append_left (by rw[ht.1];exact hit)]
    have e2:(t.met++[nx (s.met.getD k a) c]).getD i a=t.met.getD i a:=by simp only[List.getD_eq_getElem?_getD];rw[List.getElem?_append_left hit]
    show((t.words++[s.words.getD k []++[c]]).getD i []).foldl nx a=(t.met++[nx (s.met.getD k a) c]).getD i a∧isW ((t.words++[s.words.getD k []++[c]]).getD i []);rw[e1,e2];exact h1
   obtain rfl:i=t.met.length:=by omega
   have h2:=hs.2 k hk;have e1:(t.words++[s.words.getD k []++[c]]).getD t.met.length []=s.words.getD k []++[c]:=by simp[← ht.1]
   have e2:(t.met++[nx (s.met.getD k a) c]).getD t.met.length a=nx (s.met.getD k a) c:=by simp
   show((t.words++[s.words.getD k []++[c]]).getD t.met.length []).foldl nx a=(t.met++[nx (s.met.getD k a) c]).getD t.met.length a∧isW ((t.words++[s.words.getD k []++[c]]).getD t.met.length []);rw[e1,e2,List.foldl_append,h2.1];exact⟨rfl,Zdy h2.2 (ZjK hc)⟩) k
 exact h.2
end
theorem Zea {α:Type} {en:α→Bool} {s:Bs α} {w:List Nat} {d:α} (hl:s.words.length=s.met.length) (h:ZhS en s=some w):∃ i,i<s.met.length∧s.words.getD i []=w∧en (s.met.getD i d)=true:=by
 unfold ZhS at h;rw[Option.map_eq_some_iff] at h;obtain⟨p,hp,rfl⟩:=h;obtain⟨h1,i,hi,hpi,-⟩:=List.find?_eq_some_iff_getElem.1 hp;rw[List.length_zip] at hi;have him:i<s.met.length:=by omega
 have hiw:i<s.words.length:=by omega
 rw[List.getElem_zip] at hpi;refine⟨i,him,?_,?_⟩
 ·rw[Za4 hiw,← hpi]
 rw[Za4 him];rw[← hpi] at h1;exact h1
theorem ZgM (a b:DfaD):∀ (w:List Nat) (s t:Int),w.foldl (Zay a b) (s,t)=(runD a s w,runD b t w)
 | [],_,_=>rfl
 | c::w,s,t=>ZgM a b w (dnx a s c) (dnx b t c)
theorem Zoe {K:Nat} {a b:DfaD} {w:List Nat} (h:hitK K a b=some w):isW w∧accD a w≠accD b w:=by have hg:=(Zbd (nx:=Zay a b) (a:=((0,0):Int × Int)) K).2.1;obtain⟨i,hi,hw,he⟩:=Zea (d:=((0,0):Int × Int)) hg h;obtain⟨h1,h2⟩:=Znv (nx:=Zay a b) (a:=((0,0):Int × Int)) K i hi;rw[hw] at h1 h2;rw[ZgM] at h1;refine⟨h2,fun e => ?_⟩;unfold ZbY at he;rw[← h1] at he;unfold accD den at e;simp only at he;rw[e] at he;simp at he
def shM (d:Int) (m:Int × Int × Int):Int × Int × Int:=(m.1+d,m.2.1,m.2.2+d)
def shN (n:NfaD) (d:Int):NfaD:=⟨n.states+d,n.moves.map (shM d),n.firsts.map (·+d),n.ends.map (·+d)⟩
theorem Zby {α β:Type} (f:α→β) {l:List α} {k:Nat} {d x:α} (hk:k<l.length) (hx:x=l.getD k d):(l.take (k+1)).map f=(l.take k).map f++[f x]:=by rw[List.take_succ_eq_append_getElem hk,List.map_append,hx];simp[hk]
def Zco (n:NfaD):NfaD:=⟨n.states+1,n.moves++(n.firsts.map fun t=>(n.states,-1,t))++(n.ends.map fun s=>(s,-1,n.states)),[n.states],[n.states]⟩
def Zdh (p q:NfaD):NfaD:=⟨(shN q p.states).states,p.moves++(shN q p.states).moves++(p.ends.flatMap fun s=>(shN q p.states).firsts.map fun t=>(s,-1,t)),p.firsts,(shN q p.states).ends⟩
theorem Zf2 (a b:DfaD):Zdh (ZaD a) (ZaD b)=ZcR a b:=by
 unfold Zdh ZcR shN ZaD;simp only[List.map_cons,List.map_nil];congr 1
 ·show(b.next.length:Int)+(a.next.length:Int)=_;omega
 congr 1
 generalize eds a a.next.length=l
 induction l with
 | nil=>rfl
 | cons x l ih =>rw[List.flatMap_cons,List.map_cons,ih];simp
theorem Zfw (a:DfaD):Zco (ZaD a)=Zc8 a:=by unfold Zco Zc8 ZaD;simp
theorem ZoC {u v:Nat} (h:pW u=pW v):u=v:=by rw[← ZnP u,h,ZnP]
def nxV (N:Nat) (n:NfaD) (v c:Nat):Nat:=stV N n.moves v (c:Int)
theorem Zpr (N K:Nat) (n:NfaD):metW N n K=(bat (nxV N n) (fstW N n) K).met.map pW:=by have h:=ZjT (nx:=nxV N n) (nx':=nxW N n) (f:=pW) (a:=fstW N n) (fun x y h=>ZoC h) (fun x c=>(Zmj N n x c).symm) K;show(bat (nxW N n) (pW (fstW N n)) K).met=_;rw[h]
def gS (v:Nat):Int × Int:=((v:Int),0)
theorem ZoG {u v:Nat} (h:gS u=gS v):u=v:=Int.ofNat.inj (congrArg Prod.fst h)
theorem Zpq (N K:Nat) (n:NfaD):metSM N n K=(bat (nxV N n) (fstW N n) K).met.map gS:=by have h:=ZjT (nx:=nxV N n) (nx':=nxSM N n) (f:=gS) (a:=fstW N n) (fun x y h=>ZoG h) (fun x c=>rfl) K;show(bat (nxSM N n) (gS (fstW N n)) K).met=_;rw[h]
theorem Zmm {α β:Type} [DecidableEq α] [DecidableEq β] {f:α→β} (hf:∀ x y,f x=f y→x=y) {nx:α→Nat→α} {nx':β→Nat→β} {en:α→Bool} {en':β→Bool} (hn:∀ x c,nx' (f x) c=f (nx x c)) (he:∀ x,en' (f x)=en x) (L:List α):Zat nx' en' (L.map f)=Zat nx en L:=by
 unfold Zat;rw[List.map_map,List.map_map];congr 1
 ·refine List.map_congr_left fun x _ => ?_
  show Zae nx' (L.map f) (f x)=Zae nx L x;unfold Zae;refine List.map_congr_left fun c _ => ?_
  show((Zai (L.map f) (nx' (f x) c):Nat):Int)=_;rw[hn,ZfE fun y _ e=>hf _ _ e]
 exact List.map_congr_left fun x _=>he x
theorem ZkA (N K:Nat) (n:NfaD):Zfb N K n=detM N K n:=by
 unfold Zfb detM;rw[Zpr N K n,Zpq N K n];simp only[List.length_map]
 rw[Zmm (f:=pW) (nx:=nxV N n) (nx':=nxW N n) (en:=fun v=>endV n v) (en':=enW n) (fun x y h=>ZoC h) (fun x c=>Zmj N n x c) (fun x=>ZoH n x),
  Zmm (f:=gS) (nx:=nxV N n) (nx':=nxSM N n) (en:=fun v=>endV n v) (en':=enS n) (fun x y h=>ZoG h) (fun x c=>rfl) (fun x=>rfl)]
end Go.Proofs.YtehmjmjedopkkaaGreat
