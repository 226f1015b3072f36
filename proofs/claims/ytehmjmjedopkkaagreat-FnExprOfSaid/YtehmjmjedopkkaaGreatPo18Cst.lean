/-
  The walk over the program's small, for automata of up to N <= 128 states.
  Conditions: the automaton's numbers are in bounds; the arguments read as such data.
-/
import Derived.Test.YtehmjmjedopkkaaGreatPo17Wdet
set_option maxHeartbeats 4000000
set_option maxRecDepth 100000
namespace Go.Proofs.YtehmjmjedopkkaaGreat
open Go.RowKit
structure DetOkW (N:Nat) (n:NfaD):Prop where
 mv:mvIn N n.moves
 ml:n.moves.length≤1000
 f:inN N n.firsts
 fl:n.firsts.length≤1000
 e:inN N n.ends
 el:n.ends.length≤1000
def ZfD (N K:Nat) (n:NfaD):Option DfaD:=if (metW N n K).length≤K then some (Zav (nxW N n) (enW n) (metW N n K)) else none
theorem ZiH {N K:Nat} (hK:K=40) {n:NfaD} {d:DfaD} (h:ZfD N K n=some d):Zae d.next d.ends=true:=by
 unfold ZfD at h
 split at h
 ·rename_i hle;simp only[w_9] at h;subst h;obtain⟨h1,h2,h3,h4⟩:=ZfP (en:=enW n) (nx:=nxW N n) (a:=pW (fstW N n)) hle (by omega);exact ZeZ ⟨h1,h2,h3,h4⟩ (by rw[ZaQ];omega)
 cases h
theorem Zmw {N K:Nat} {n:NfaD} (h:(metW N n K).length≤K):ZfD N K n=some (Zav (nxW N n) (enW n) (metW N n K)):=if_pos h
theorem Zmx {N K:Nat} {n:NfaD} (h:¬ (metW N n K).length≤K):ZfD N K n=none:=if_neg h
theorem ZdY (N:Nat) (hN:N≤128) (n:NfaD) (K:Nat) (hK:K=40) (D:DfaD) (fb:Bool) (hD:((ZfD N K n).map minD).getD zeD=D) (hfb:((ZfD N K n).map minD).isSome=fb) (v1 v2 v3:Value) (w:World) (hdo:DetOkW N n) (h1:Moves 0 w v1 n.moves) (h2:Ints 0 w v2 n.firsts) (h3:Ints 0 w v3 n.ends) :
  Calls Tryz.prog 69 #[.agg #[.int .i64 n.states,v1,v2,v3]] w fun e w'=>RTt D fb w.heap.size e w'∧Below w.heap.size w w':=by
 have hS0:=((St.start w).alloc _ rfl #[.int .i64 n.states,v1,v2,v3] 91).alloc (w.heap.size+1) (by simp) #[.slice none 0 0,.slice none 0 0] 32;have hdet:=fun (W:World) (hb:Below w.heap.size w W)=>ZfC N hN n K hK v1 v2 v3 W hdo.mv (by have:=hdo.ml;omega) hdo.f (by have:=hdo.fl;omega) hdo.e (h1.below hb) (h2.below hb) (h3.below hb)
 have Hdet:=qh hdet;replace hS0:=qh hS0;have HhD:=qh hD;clear hD;have Hhfb:=qh hfb;clear hfb;clear hdet h1 h2 h3 hdo
 go_enter Tryz.func69, Tryz.ntmps69
 have e0:=hS0.out.cell (v:=.int .i64 n.states) 0 0 rfl rfl;have e1:=hS0.out.cell (v:=v1) 0 1 rfl rfl;have e2:=hS0.out.cell (v:=v2) 0 2 rfl rfl;have e3:=hS0.out.cell (v:=v3) 0 3 rfl rfl;go_wp2_with fail;refine(Hdet.out _ hS0.out.bel).mono ?_;rintro e w3 ⟨hr,hb3⟩;unfold ZpS at hr;by_cases hle:(metW N n K).length≤K
 ·rw[if_pos hle] at hr;obtain⟨an,cn,ae,ce,rfl,hown⟩:=hr;have htd:=Zmw hle;obtain⟨X,hX⟩:=eI (Zav (nxW N n) (enW n) (metW N n K));have hl1:X.next.length=(metW N n K).length:=by rw[hX];exact ZaQ _ _ _
  have hl2:X.ends.length=(metW N n K).length:=by rw[hX];simp[Zav]
  rw[← hX] at hown htd;have hD:=HhD.out;have hfb:=Hhfb.out;rw[htd] at hD hfb;have hD:minD X=D:=hD;have hfb:true=fb:=hfb;subst hD;subst hfb;obtain⟨L,hL⟩:=eI ((metW N n K).length);rw[← hL] at hown hl1 hl2 hle;rw[← hL];have hL40:(L:Int)≤40:=by omega
  have hXo:Zae X.next X.ends=true:=ZiH hK htd;have hS4:=(hS0.out.call hb3).alloc _ rfl #[.slice an L cn,.slice ae L ce] 32;have hDR:DfaR 0 (w3.alloc (.cells #[.slice an L cn,.slice ae L ce] 32)) (.agg #[.slice an L cn,.slice ae L ce]) X:=(hown.r.mono (Nat.zero_le _)).below ((Below.refl _ _).alloc (Nat.le_refl _) _);have d0:=hS4.cell (v:=.slice an L cn) 2 0 rfl rfl;have d1:=hS4.cell (v:=.slice ae L ce) 2 1 rfl rfl;have HS4:=qh hS4;have HDR:=qh hDR;have Hhl1:=qh hl1;clear hl1;have Hhl2:=qh hl2;clear hl2;have Hhtd:=qh htd;clear htd;have HhXo:=qh hXo;clear hXo;have HhX:=qh hX;clear hX;replace hL:=qh hL;clear hown hb3 hle hS4 hDR e0 e1 e2 e3;go_wp2_with fail;refine(Zbd X _ _ HhXo.out HDR.out).mono ?_;rintro e w5 ⟨a1,c1,a2,c2,rfl,hown,hb5⟩;obtain⟨M,hM⟩:=eI (minD X);rw[← hM] at hown;rw[← hM];have hS5:=HS4.out.call hb5;have f0:=hS5.fr 1 0 rfl;have f1:=hS5.fr 1 1 rfl;have k0:=hS5.cell (v:=.slice none 0 0) 1 0 rfl rfl;have k1:=hS5.cell (v:=.slice none 0 0) 1 1 rfl rfl;have hDM:=DMem.of hown HS4.out.size;have hb0:=hS5.box 1 rfl;have HS5:=qh hS5;have HDM:=qh hDM;have Hhb0:=qh hb0;clear hb0;have HhM:=qh hM;clear hM;clear hS5 hown hb5 hDM d0 d1;go_wp2;have hq:=(HS5.out.set 1 rfl 0 (.slice a1 M.next.length c1)).set 1 rfl 1 (.slice a2 M.ends.length c2);have q0:=hq.cell (v:=.slice a1 M.next.length c1) 1 0 rfl rfl;have q1:=hq.cell (v:=.slice a2 M.ends.length c2) 1 1 rfl rfl
  have hm:=(HDM.out.set Hhb0.out 0 (.slice a1 M.next.length c1)).set (Hhb0.out.set 0 _) 1 (.slice a2 M.ends.length c2);refine bodyPost_ret (v:=.tuple #[.agg #[.slice a1 M.next.length c1,.slice a2 M.ends.length c2],.bool true]) (by simp[results,Tryz.results69,go_sem,q0,q1]) rfl ⟨?_,hq.bel⟩;rw[← HhM.out];exact⟨a1,c1,a2,c2,rfl,_,_,rfl,hm.1,hm.2⟩
 rw[if_neg hle] at hr;subst hr;have hD:=HhD.out;have hfb:=Hhfb.out;rw[Zmx hle] at hD hfb;have hD:zeD=D:=hD;have hfb:false=fb:=hfb;subst hD;subst hfb;have hS4:=(hS0.out.call hb3).alloc _ rfl #[.slice none 0 0,.slice none 0 0] 32;have f0:=hS4.fr 1 0 rfl;have f1:=hS4.fr 1 1 rfl;have k0:=hS4.cell (v:=.slice none 0 0) 1 0 rfl rfl;have k1:=hS4.cell (v:=.slice none 0 0) 1 1 rfl rfl;have HS4:=qh hS4;clear hb3 hle hS4 e0 e1 e2 e3;go_wp2;have hq:=(HS4.out.set 1 rfl 0 (.slice none 0 0)).set 1 rfl 1 (.slice none 0 0);have q0:=hq.cell (v:=.slice none 0 0) 1 0 rfl rfl;have q1:=hq.cell (v:=.slice none 0 0) 1 1 rfl rfl;refine bodyPost_ret (v:=.tuple #[.agg #[.slice none 0 0,.slice none 0 0],.bool false]) (by simp[results,Tryz.results69,go_sem,q0,q1]) rfl ⟨?_,hq.bel⟩;exact⟨none,0,none,0,rfl,ZhN _ _ _ _ _⟩
end Go.Proofs.YtehmjmjedopkkaaGreat
namespace Go.Proofs.YtehmjmjedopkkaaGreat
open Go.RowKit Go.Maps
def hitK (K:Nat) (a b:DfaD):Option (List Nat):=Ziz (Zcc (fun x y=>x != y) a b) (bat (ZaA a b) (0,0) K)
def Zqn:Nat:=1600
def hitP (a b:DfaD):Option (List Nat):=hitK Zqn a b
end Go.Proofs.YtehmjmjedopkkaaGreat
namespace Go.Proofs.YtehmjmjedopkkaaGreat
open Go.RowKit
section
variable {α β:Type} [DecidableEq α] [DecidableEq β] {nx:α→Nat→α} {nx':β→Nat→β} {a:α} {f:α→β}
theorem Zmz (hf:∀ x y,f x=f y→x=y) (hn:∀ x c,f (nx x c)=nx' (f x) c) (x:α) (wd:List Nat) (s:Bs α) (c:Nat):bvisit nx' (f x) wd ⟨s.met.map f,s.words⟩ c=⟨(bvisit nx x wd s c).met.map f,(bvisit nx x wd s c).words⟩:=by
 have hm:nx' (f x) c∈s.met.map f↔nx x c∈s.met:=by
  rw[← hn];constructor
  ·intro h;obtain⟨y,hy,e⟩:=List.mem_map.1 h;rw[← hf _ _ e];exact hy
  exact fun h=>List.mem_map.2 ⟨_,h,rfl⟩
 unfold bvisit;by_cases h:nx x c∈s.met
 ·rw[if_pos h,if_pos (hm.2 h)]
 rw[if_neg h,if_neg (fun h2=>h (hm.1 h2))];simp[hn]
theorem ZlC (hf:∀ x y,f x=f y→x=y) (hn:∀ x c,f (nx x c)=nx' (f x) c) (x:α) (wd:List Nat) (s:Bs α):∀ n,brow nx' (f x) wd ⟨s.met.map f,s.words⟩ n=⟨(brow nx x wd s n).met.map f,(brow nx x wd s n).words⟩
 | 0=>rfl
 | n+1=>by show bvisit nx' (f x) wd (brow nx' (f x) wd ⟨s.met.map f,s.words⟩ n) n=_;rw[ZlC hf hn x wd s n,Zmz hf hn];rfl
theorem ZkK (hf:∀ x y,f x=f y→x=y) (hn:∀ x c,f (nx x c)=nx' (f x) c):∀ k,bat nx' (f a) k=⟨(bat nx a k).met.map f,(bat nx a k).words⟩
 | 0=>rfl
 | k+1=>by
  have ih:=ZkK hf hn k;have hl:(bat nx' (f a) k).met.length=(bat nx a k).met.length:=by rw[ih];simp
  by_cases h:k<(bat nx a k).met.length
  ·rw[ZaM h,ZaM (by rw[hl];exact h)];unfold bpart;rw[ih];have hx:((bat nx a k).met.map f).getD k (f a)=f ((bat nx a k).met.getD k a):=by simp[h]
   simp only[hx];exact ZlC hf hn _ _ _ 3
  rw[Zby (by omega),Zby (by omega),ih]
theorem ZoH (k:Nat):∀ i,i<(bat nx a k).met.length→((bat nx a k).words.getD i []).foldl nx a=(bat nx a k).met.getD i a∧isW ((bat nx a k).words.getD i []):=by
 have h:=Zfc (nx:=nx) (a:=a) (fun s=>s.words.length=s.met.length∧∀ i,i<s.met.length→(s.words.getD i []).foldl nx a=s.met.getD i a∧isW (s.words.getD i [])) ⟨rfl,fun i hi=>by
  obtain rfl:i=0:=by simpa using hi
  exact⟨rfl,fun c hc=>by simp at hc⟩⟩ (fun s k hk t c hc hs ht=>by
   unfold bvisit
   split
   ·exact ht
   refine⟨by simp[ht.1],fun i hi => ?_⟩;simp only[List.length_append,List.length_singleton] at hi;by_cases hit:i<t.met.length
   ·have h1:=ht.2 i hit;have e1:(t.words++[s.words.getD k []++[c]]).getD i []=t.words.getD i []:=by simp only[List.getD_eq_getElem?_getD];rw[List.getElem?_append_left (by rw[ht.1];exact hit)]
    have e2:(t.met++[nx (s.met.getD k a) c]).getD i a=t.met.getD i a:=by simp only[List.getD_eq_getElem?_getD];rw[List.getElem?_append_left hit]
    show((t.words++[s.words.getD k []++[c]]).getD i []).foldl nx a=(t.met++[nx (s.met.getD k a) c]).getD i a∧isW ((t.words++[s.words.getD k []++[c]]).getD i []);rw[e1,e2];exact h1
   obtain rfl:i=t.met.length:=by omega
   have h2:=hs.2 k hk;have e1:(t.words++[s.words.getD k []++[c]]).getD t.met.length []=s.words.getD k []++[c]:=by simp[← ht.1]
   have e2:(t.met++[nx (s.met.getD k a) c]).getD t.met.length a=nx (s.met.getD k a) c:=by simp
   show((t.words++[s.words.getD k []++[c]]).getD t.met.length []).foldl nx a=(t.met++[nx (s.met.getD k a) c]).getD t.met.length a∧isW ((t.words++[s.words.getD k []++[c]]).getD t.met.length []);rw[e1,e2,List.foldl_append,h2.1];exact⟨rfl,ZdS h2.2 (ZkA hc)⟩) k
 exact h.2
end
theorem ZeB {α:Type} {en:α→Bool} {s:Bs α} {w:List Nat} {d:α} (hl:s.words.length=s.met.length) (h:Ziz en s=some w):∃ i,i<s.met.length∧s.words.getD i []=w∧en (s.met.getD i d)=true:=by
 unfold Ziz at h;rw[Option.map_eq_some_iff] at h;obtain⟨p,hp,rfl⟩:=h;obtain⟨h1,i,hi,hpi,-⟩:=List.find?_eq_some_iff_getElem.1 hp;rw[List.length_zip] at hi;have him:i<s.met.length:=by omega
 have hiw:i<s.words.length:=by omega
 rw[List.getElem_zip] at hpi;refine⟨i,him,?_,?_⟩
 ·rw[Za5 hiw,← hpi]
 rw[Za5 him];rw[← hpi] at h1;exact h1
theorem Zhl (a b:DfaD):∀ (w:List Nat) (s t:Int),w.foldl (ZaA a b) (s,t)=(runD a s w,runD b t w)
 | [],_,_=>rfl
 | c::w,s,t=>Zhl a b w (dnx a s c) (dnx b t c)
theorem ZpB {K:Nat} {a b:DfaD} {w:List Nat} (h:hitK K a b=some w):isW w∧accD a w≠accD b w:=by have hg:=(Zbl (nx:=ZaA a b) (a:=((0,0):Int × Int)) K).2.1;obtain⟨i,hi,hw,he⟩:=ZeB (d:=((0,0):Int × Int)) hg h;obtain⟨h1,h2⟩:=ZoH (nx:=ZaA a b) (a:=((0,0):Int × Int)) K i hi;rw[hw] at h1 h2;rw[Zhl] at h1;refine⟨h2,fun e => ?_⟩;unfold Zcc at he;rw[← h1] at he;unfold accD den at e;simp only at he;rw[e] at he;simp at he
def shM (d:Int) (m:Int × Int × Int):Int × Int × Int:=(m.1+d,m.2.1,m.2.2+d)
def shN (n:NfaD) (d:Int):NfaD:=⟨n.states+d,n.moves.map (shM d),n.firsts.map (·+d),n.ends.map (·+d)⟩
theorem ZbH {α β:Type} (f:α→β) {l:List α} {k:Nat} {d x:α} (hk:k<l.length) (hx:x=l.getD k d):(l.take (k+1)).map f=(l.take k).map f++[f x]:=by rw[List.take_succ_eq_append_getElem hk,List.map_append,hx];simp[hk]
def ZcG (n:NfaD):NfaD:=⟨n.states+1,n.moves++(n.firsts.map fun t=>(n.states,-1,t))++(n.ends.map fun s=>(s,-1,n.states)),[n.states],[n.states]⟩
def Zdz (p q:NfaD):NfaD:=⟨(shN q p.states).states,p.moves++(shN q p.states).moves++(p.ends.flatMap fun s=>(shN q p.states).firsts.map fun t=>(s,-1,t)),p.firsts,(shN q p.states).ends⟩
theorem Zgy (a b:DfaD):Zdz (ZaF a) (ZaF b)=Zc6 a b:=by
 unfold Zdz Zc6 shN ZaF;simp only[List.map_cons,List.map_nil];congr 1
 ·show(b.next.length:Int)+(a.next.length:Int)=_;omega
 congr 1
 generalize eds a a.next.length=l
 induction l with
 | nil=>rfl
 | cons x l ih =>rw[List.flatMap_cons,List.map_cons,ih];simp
theorem Zf2 (a:DfaD):ZcG (ZaF a)=Zdn a:=by unfold ZcG Zdn ZaF;simp
theorem ZpY {u v:Nat} (h:pW u=pW v):u=v:=by rw[← Zpa u,h,Zpa]
def nxV (N:Nat) (n:NfaD) (v c:Nat):Nat:=stV N n.moves v (c:Int)
theorem ZqW (N K:Nat) (n:NfaD):metW N n K=(bat (nxV N n) (fstW N n) K).met.map pW:=by have h:=ZkK (nx:=nxV N n) (nx':=nxW N n) (f:=pW) (a:=fstW N n) (fun x y h=>ZpY h) (fun x c=>(Znp N n x c).symm) K;show(bat (nxW N n) (pW (fstW N n)) K).met=_;rw[h]
def gS (v:Nat):Int × Int:=((v:Int),0)
theorem Zp2 {u v:Nat} (h:gS u=gS v):u=v:=Int.ofNat.inj (congrArg Prod.fst h)
theorem ZqV (N K:Nat) (n:NfaD):metSM N n K=(bat (nxV N n) (fstW N n) K).met.map gS:=by have h:=ZkK (nx:=nxV N n) (nx':=nxSM N n) (f:=gS) (a:=fstW N n) (fun x y h=>Zp2 h) (fun x c=>rfl) K;show(bat (nxSM N n) (gS (fstW N n)) K).met=_;rw[h]
theorem Zns {α β:Type} [DecidableEq α] [DecidableEq β] {f:α→β} (hf:∀ x y,f x=f y→x=y) {nx:α→Nat→α} {nx':β→Nat→β} {en:α→Bool} {en':β→Bool} (hn:∀ x c,nx' (f x) c=f (nx x c)) (he:∀ x,en' (f x)=en x) (L:List α):Zav nx' en' (L.map f)=Zav nx en L:=by
 unfold Zav;rw[List.map_map,List.map_map];congr 1
 ·refine List.map_congr_left fun x _ => ?_
  show Zaf nx' (L.map f) (f x)=Zaf nx L x;unfold Zaf;refine List.map_congr_left fun c _ => ?_
  show((Zaj (L.map f) (nx' (f x) c):Nat):Int)=_;rw[hn,Zgc fun y _ e=>hf _ _ e]
 exact List.map_congr_left fun x _=>he x
theorem Zlt (N K:Nat) (n:NfaD):ZfD N K n=detM N K n:=by
 unfold ZfD detM;rw[ZqW N K n,ZqV N K n];simp only[List.length_map]
 rw[Zns (f:=pW) (nx:=nxV N n) (nx':=nxW N n) (en:=fun v=>endV n v) (en':=enW n) (fun x y h=>ZpY h) (fun x c=>Znp N n x c) (fun x=>Zp4 n x),
  Zns (f:=gS) (nx:=nxV N n) (nx':=nxSM N n) (en:=fun v=>endV n v) (en':=enS n) (fun x y h=>Zp2 h) (fun x c=>rfl) (fun x=>rfl)]
end Go.Proofs.YtehmjmjedopkkaaGreat
namespace Go.Proofs.YtehmjmjedopkkaaGreat
open Go.RowKit Go.Maps
def Zdt (p:Int × Int):List Int:=[p.1,p.2]
structure L16W (lo hi:Nat) (w:World) (s:Bs (Int × Int)) (vl vw:Value):Prop where
 li:OIntSS 59 3 lo hi w vl (s.met.map Zdt)
 wo:w.ownsRow lo 9 1 vw s.words.length (wdCells s.words)
theorem L16W.below {lo hi:Nat} {w w':World} {s:Bs (Int × Int)} {vl vw:Value} (h:L16W lo hi w s vl vw) (hb:Below w.heap.size w w'):L16W lo hi w' s vl vw :=
 ⟨h.li.below hb,(Own.below (Zaa h.wo) hb).1⟩
theorem L16W.up {lo hi hi':Nat} {w:World} {s:Bs (Int × Int)} {vl vw:Value} (h:L16W lo hi w s vl vw) (hh:hi≤hi'):L16W lo hi' w s vl vw:=⟨h.li.mono (Nat.le_refl _) hh,h.wo⟩
theorem L16W.row {lo hi:Nat} {w:World} {s:Bs (Int × Int)} {vl vw:Value} (h:L16W lo hi w s vl vw) (h0:0<s.met.length):∃ g off cap,vl = .slice (some ⟨g,off,none⟩) s.met.length cap∧s.met.length≤cap∧cap≤9223372036854775807∧g<w.heap.size ∧
  ∀ k,k<s.met.length→∃ rb ro rc,w.cell? ⟨g,off+k,none⟩=some (.slice (some ⟨rb,ro,none⟩) 2 rc)∧2≤rc∧rc≤9223372036854775807∧rb<w.heap.size∧w.cell? ⟨rb,ro,none⟩=some (.int .i64 (s.met.getD k (0,0)).1)∧w.cell? ⟨rb,ro+1,none⟩=some (.int .i64 (s.met.getD k (0,0)).2):=by
 obtain⟨a,cap,hv,h1,h2,h3⟩:=h.li.intSS.form;rw[List.length_map] at hv h1 h3;obtain⟨g,off,rfl,-,hg,hc⟩:=h3 h0;refine⟨g,off,cap,hv,h1,h2,hg,fun k hk => ?_⟩;obtain⟨a',cap',hc1,hl,hm,hr⟩:=hc k hk;have e:(s.met.map Zdt).getD k []=Zdt (s.met.getD k (0,0)):=by simp[hk]
 rw[e] at hc1 hl hr;obtain⟨b',off',rfl,-,hb',hcc⟩:=hr (by simp[Zdt]);exact⟨b',off',cap',hc1,hl,hm,hb',by simpa [Zdt] using hcc 0 (by simp[Zdt]),by simpa [Zdt] using hcc 1 (by simp[Zdt])⟩
theorem ZoN (w:World):(zeroValue 4).run Tryz.prog w = .ok (.bool false) w:=by kernel_rfl
end Go.Proofs.YtehmjmjedopkkaaGreat
namespace Go.Proofs.YtehmjmjedopkkaaGreat
open Go.RowKit
section
variable {α:Type} [DecidableEq α] {nx:α→Nat→α} {a:α} {en:α→Bool} {K:Nat}
theorem ZlY {F:List α} {x:α} (h:x∈F) (d:α):F.getD (Zaj F x) d=x:=by have h1:=ZaP h;rw[Za5 h1];exact List.getElem_idxOf h1
theorem Zka (hK:(bat nx a K).met.length≤K):∀ (w:List Nat),isW w→∀ x∈(bat nx a K).met,w.foldl nx x∈(bat nx a K).met∧runD (Zav nx en (bat nx a K).met) (Zaj (bat nx a K).met x:Nat) w=(Zaj (bat nx a K).met (w.foldl nx x):Nat)
 | [],_,x,hx=>⟨hx,rfl⟩
 | c::w,hw,x,hx=>by have hc:c<3:=hw c (by simp);have hx2:=ZdU hK hx hc;have h1:=ZaP hx;obtain⟨h2,h3⟩:=Zka hK w (fun b hb=>hw b (by simp[hb])) (nx x c) hx2;refine⟨h2,?_⟩;unfold runD at *;rw[List.foldl_cons,List.foldl_cons,← h3,ZkG (a:=a) (by omega) (by omega) hc];unfold ZbM;rw[Int.toNat_natCast,ZlY hx]
theorem ZeO (hK:(bat nx a K).met.length≤K) {w:List Nat} (hw:isW w):accD (Zav nx en (bat nx a K).met) w=en (w.foldl nx a):=by
 have h0:=ZiO (nx:=nx) (a:=a) K;obtain⟨h1,h2⟩:=Zka (en:=en) hK w hw a h0;have h3:Zaj (bat nx a K).met a=0:=by have hp:=ZdK (nx:=nx) (a:=a) K;have hf:=ZgV (nx:=nx) (a:=a) K;have hn:=(Zbl (nx:=nx) (a:=a) K).1;rw[Za5 hp] at hf;have:=List.Nodup.idxOf_getElem hn 0 hp;rw[hf] at this;exact this
 rw[h3] at h2;unfold accD;rw[show((0:Nat):Int)=0 from rfl] at h2;rw[h2,ZkH (ZaP h1)];congr 1;exact List.getElem_idxOf _
end
theorem ZdN (d:DfaD) (s:Int):runD d s []=s:=rfl
theorem ZaL (d:DfaD) (s:Int) (c:Nat) (w:List Nat):runD d s (c::w)=runD d (dnx d s c) w:=rfl
theorem Zk2 (d:DfaD) (s:Int) (u w:List Nat):runD d s (u++w)=runD d (runD d s u) w:=by simp[runD]
theorem Zb2 {c:Nat} {w:List Nat} (h:isW (c::w)):c<3∧isW w:=⟨h c (by simp),fun b hb=>h b (by simp[hb])⟩
theorem ZkB:isW []:=fun c hc=>by simp at hc
theorem Zp1 {c:Nat} {w:List Nat} (hc:c<3) (h:isW w):isW (c::w):=fun b hb=>by
 rcases List.mem_cons.1 hb with rfl|hb
 ·exact hc
 exact h b hb
theorem ZbC {d:DfaD} (hd:fine d) {s c:Nat} (hs:s<d.next.length) (hc:c<3):nxD d s c<d.next.length∧dnx d (s:Int) c=((nxD d s c:Nat):Int):=ZbT hd hs hc
theorem ZdO {d:DfaD} (hd:fine d):∀ (w:List Nat) {s:Nat},isW w→s<d.next.length→∃ t:Nat,t<d.next.length∧runD d (s:Int) w=(t:Int)
 | [],s,_,hs=>⟨s,hs,rfl⟩
 | c::w,s,hw,hs=>by obtain⟨h1,h2⟩:=Zb2 hw;obtain⟨h3,h4⟩:=ZbC hd hs h1;rw[ZaL,h4];exact ZdO hd w h2 h3
theorem Za6 (d:DfaD) (s:Nat):den d (s:Int)=enD d s:=by simp[den,enD]
theorem Zp5 {d:DfaD} (hd:fine d):∀ (w:List Nat) {s t:Nat},isW w→s<d.next.length→t<d.next.length→clD d s=clD d t→den d (runD d (s:Int) w)=den d (runD d (t:Int) w)
 | [],s,t,_,hs,ht,h=>by rw[ZdN,ZdN,Za6,Za6];exact Zc2 hs ht h
 | c::w,s,t,hw,hs,ht,h=>by obtain⟨h1,h2⟩:=Zb2 hw;obtain⟨h3,h4⟩:=ZbC hd hs h1;obtain⟨h5,h6⟩:=ZbC hd ht h1;rw[ZaL,ZaL,h4,h6];exact Zp5 hd w h2 h3 h5 (ZiJ (fun s c hs hc=>(ZbC hd hs hc).1) hs ht h c h1)
theorem Zh2 {d:DfaD} (hd:fine d):∀ (i:Nat) {s t:Nat},s<d.next.length→t<d.next.length→(∀ w,isW w→den d (runD d (s:Int) w)=den d (runD d (t:Int) w))→clAt d.next.length (nxD d) (enD d) i s=clAt d.next.length (nxD d) (enD d) i t
 | 0,s,t,hs,ht,h=>by
  refine(ZhH hs ht).2 ?_;have:=h [] ZkB
  rwa [ZdN,ZdN,Za6,Za6] at this
 | i+1,s,t,hs,ht,h=>by
  refine(ZbK hs ht).2 ((Zay _).2 ⟨Zh2 hd i hs ht h,fun c hc => ?_⟩);obtain⟨h3,h4⟩:=ZbC hd hs hc;obtain⟨h5,h6⟩:=ZbC hd ht hc;refine Zh2 hd i h3 h5 fun w hw => ?_
  have:=h (c::w) (Zp1 hc hw)
  rwa [ZaL,ZaL,h4,h6] at this
theorem Zm5 {d:DfaD} (hd:fine d) {s t:Nat} (hs:s<d.next.length) (ht:t<d.next.length) (h:∀ w,isW w→den d (runD d (s:Int) w)=den d (runD d (t:Int) w)):clD d s=clD d t:=Zh2 hd _ hs ht h
theorem Zdl {d:DfaD} {s:Nat} (hs:s<d.next.length):clD d s<d.next.length:=by have:=(Zbm (d:=d) s hs).1;omega
theorem ZgP {d:DfaD} (hd:fine d) {s:Nat} (hs:s<d.next.length) {w:List Nat} (hw:isW w):den d (runD d ((clD d s:Nat):Int) w)=den d (runD d (s:Int) w) :=
 Zp5 hd w hw (Zdl hs) hs (Zbm s hs).2
theorem Zcr {d:DfaD} (hf:fine d) (K:Nat):(∀ x∈(bat (nxM d) ((clD d 0:Nat):Int) K).met,∃ s:Nat,x=(s:Int)∧s<d.next.length∧clD d s=s)∧(bat (nxM d) ((clD d 0:Nat):Int) K).met.length≤d.next.length:=by
 have hl:1≤d.next.length:=hf.1
 have h1:∀ x∈(bat (nxM d) ((clD d 0:Nat):Int) K).met,∃ s:Nat,x=(s:Int)∧s<d.next.length∧clD d s=s:=by
  refine ZbZ (Q:=fun x=>∃ s:Nat,x=(s:Int)∧s<d.next.length∧clD d s=s) ?_ (fun x c hc hx => ?_) K
  ·exact⟨clD d 0,rfl,Zdl (by omega),(Zbm 0 (by omega)).2⟩
  obtain⟨s,rfl,hs,-⟩:=hx;have h2:=(ZbT hf hs hc).1;exact⟨clD d (nxD d s c),by simp[nxM],Zdl h2,(Zbm _ h2).2⟩
 refine⟨h1,?_⟩;have h2:=ZdQ (Zbl (nx:=nxM d) (a:=((clD d 0:Nat):Int)) K).1 (m:=Za1 d.next.length) (fun x hx=>by obtain⟨s,rfl,hs,-⟩:=h1 x hx;rw[Zcs];exact hs);rw[Zcp] at h2;exact h2
theorem ZnB {d:DfaD} (hd:fine d) {K:Nat} (hK:d.next.length≤K):minD d=Zav (nxM d) (den d) (bat (nxM d) ((clD d 0:Nat):Int) K).met:=by unfold minD;rw[Zbz (Zcr hd _).2 hK]
theorem Zlo {d:DfaD} (hd:fine d):fine (minD d):=ZfP (Zcr hd _).2 hd.2.1
theorem ZgI {d:DfaD} (hd:fine d):∀ (w:List Nat) {s:Nat},isW w→s<d.next.length→∃ t:Nat,t<d.next.length∧w.foldl (nxM d) ((clD d s:Nat):Int)=((clD d t:Nat):Int)∧runD d (s:Int) w=(t:Int)
 | [],s,_,hs=>⟨s,hs,rfl,rfl⟩
 | c::w,s,hw,hs=>by
  obtain⟨h1,h2⟩:=Zb2 hw;obtain⟨h3,h4⟩:=ZbC hd hs h1;obtain⟨t,ht,e1,e2⟩:=ZgI hd w h2 h3;refine⟨t,ht,?_,by rw[ZaL,h4];exact e2⟩;have e3:nxM d ((clD d s:Nat):Int) c=((clD d (nxD d s c):Nat):Int):=by unfold nxM;rw[Int.toNat_natCast];congr 1;exact ZiJ (fun s c hs hc=>(ZbC hd hs hc).1) (Zdl hs) hs (Zbm s hs).2 c h1
  rw[List.foldl_cons,e3];exact e1
theorem Zkq {d:DfaD} (hd:fine d) {w:List Nat} (hw:isW w):accD (minD d) w=accD d w:=by unfold minD;rw[ZeO (Zcr hd _).2 hw];obtain⟨t,ht,e1,e2⟩:=ZgI hd w hw (show 0<d.next.length from hd.1);rw[e1,Za6];unfold accD;rw[show(0:Int)=((0:Nat):Int) from rfl,e2,Za6];exact Zc2 (Zdl ht) ht (Zbm t ht).2
theorem ZoV {d:DfaD} (hd:fine d) {w:List Nat} (hw:isW w):accD (Za3 d) w=accD d w:=by unfold Za3;rw[ZeO (Zbq hd _).2 hw];rfl
theorem Zje {x y:DfaD} (hx:fine x) (hy:fine y) (h:∀ w,isW w→accD x w=accD y w):minD x=minD y:=by
 obtain⟨K,hK⟩:=eI (x.next.length+y.next.length);rw[ZnB hx (show x.next.length≤K by omega),ZnB hy (show y.next.length≤K by omega)];have lx:0<x.next.length:=hx.1;have ly:0<y.next.length:=hy.1
 let nq:Int × Int→Nat→Int × Int:=fun p c=>(nxM x p.1 c,nxM y p.2 c)
 let Q:Int × Int→Prop:=fun p=>∃ s t:Nat,p=((s:Int),(t:Int))∧s<x.next.length∧t<y.next.length∧clD x s=s∧clD y t=t∧∀ w,isW w→den x (runD x (s:Int) w)=den y (runD y (t:Int) w)
 let a:Int × Int:=(((clD x 0:Nat):Int),((clD y 0:Nat):Int))
 have h0:Q a:=⟨clD x 0,clD y 0,rfl,Zdl lx,Zdl ly,(Zbm 0 lx).2,(Zbm 0 ly).2,fun w hw=>by rw[ZgP hx lx hw,ZgP hy ly hw];exact h w hw⟩
 have hv:∀ p c,c<3→Q p→Q (nq p c):=by
  rintro p c hc ⟨s,t,rfl,hs,ht,-,-,hr⟩;obtain⟨h3,h4⟩:=ZbC hx hs hc;obtain⟨h5,h6⟩:=ZbC hy ht hc;refine⟨clD x (nxD x s c),clD y (nxD y t c),by simp[nq,nxM],Zdl h3,Zdl h5,(Zbm _ h3).2,(Zbm _ h5).2,fun w hw => ?_⟩;rw[ZgP hx h3 hw,ZgP hy h5 hw];have:=hr (c::w) (Zp1 hc hw)
  rwa [ZaL,ZaL,h4,h6] at this
 have f1:∀ p q,Q p→Q q→p.1=q.1→p=q:=by
  rintro p q ⟨s,t,rfl,hs,ht,-,e1,r1⟩ ⟨s',t',rfl,hs',ht',-,e2,r2⟩ he;simp only[Int.ofNat_inj] at he;subst he;have:=Zm5 hy ht ht' fun w hw=>(r1 w hw).symm.trans (r2 w hw)
  rw[e1,e2] at this;rw[this]
 have f2:∀ p q,Q p→Q q→p.2=q.2→p=q:=by
  rintro p q ⟨s,t,rfl,hs,ht,e1,-,r1⟩ ⟨s',t',rfl,hs',ht',e2,-,r2⟩ he;simp only[Int.ofNat_inj] at he;subst he;have:=Zm5 hx hs hs' fun w hw=>(r1 w hw).trans (r2 w hw).symm
  rw[e1,e2] at this;rw[this]
 have m1:=Zdd (nx:=nq) (nx':=nxM x) (a:=a) (f:=Prod.fst) (Q:=Q) (en:=fun p=>den x p.1) (en':=den x) (K:=K) h0 hv f1 (fun _ _ _ _=>rfl) (fun _ _=>rfl);have m2:=Zdd (nx:=nq) (nx':=nxM y) (a:=a) (f:=Prod.snd) (Q:=Q) (en:=fun p=>den x p.1) (en':=den y) (K:=K) h0 hv f2 (fun _ _ _ _=>rfl) (fun p hp=>by obtain⟨s,t,rfl,-,-,-,-,r⟩:=hp;exact(r [] ZkB).symm);exact m1.trans m2.symm
theorem Zqp {d:DfaD} (hd:fine d):minD (minD d)=minD d:=Zje (Zlo hd) hd fun _ hw=>Zkq hd hw
theorem Zpe {d:DfaD} (hd:fine d) (ht:Za3 d=d) (hr:∀ s t:Nat,s<d.next.length→t<d.next.length→(∀ w,isW w→den d (runD d (s:Int) w)=den d (runD d (t:Int) w))→s=t):minD d=d:=by
 have hc:∀ s,s<d.next.length→clD d s=s:=fun s hs=>hr _ _ (Zdl hs) hs fun w hw=>ZgP hd hs hw
 have h0:0<d.next.length:=hd.1
 have hb:=ZgW (nx:=dnx d) (nx':=nxM d) (a:=(0:Int)) (Q:=fun x=>∃ s:Nat,x=(s:Int)∧s<d.next.length) ⟨0,rfl,h0⟩ (by
  rintro x c hc ⟨s,rfl,hs⟩;obtain⟨h3,h4⟩:=ZbC hd hs hc;exact⟨_,h4,h3⟩) (by
  rintro x c hc' ⟨s,rfl,hs⟩;obtain⟨h3,h4⟩:=ZbC hd hs hc';unfold nxM;rw[Int.toNat_natCast,hc _ h3,h4]) d.next.length
 refine Eq.trans ?_ ht;unfold minD Za3;rw[hc 0 h0,show((0:Nat):Int)=0 from rfl,← hb];unfold Zav;congr 1;refine List.map_congr_left fun x hx => ?_
 unfold Zaf;refine List.map_congr_left fun c hc' => ?_
 obtain⟨h1,-⟩:=Zbq hd d.next.length;obtain⟨g1,g2⟩:=h1 x hx;obtain⟨s,rfl⟩:=Int.eq_ofNat_of_zero_le g1;obtain⟨h3,h4⟩:=ZbC hd (show s<d.next.length by omega) (List.mem_range.1 hc');unfold nxM;rw[Int.toNat_natCast,hc _ h3,h4]
theorem Zfg {α:Type} [DecidableEq α] {nx:α→Nat→α} {a:α} {en:α→Bool} {K:Nat} (hK:(bat nx a K).met.length≤K) {i:Nat} (hi:i<(bat nx a K).met.length) {w:List Nat} (hw:isW w) :
  den (Zav nx en (bat nx a K).met) (runD (Zav nx en (bat nx a K).met) (i:Int) w)=en (w.foldl nx ((bat nx a K).met.getD i a)):=by
 obtain⟨h1,h2⟩:=Zka (en:=en) hK w hw _ (memD (d:=a) hi);rw[Zey hi (Zbl K).1] at h2;rw[h2,ZkH (ZaP h1)];congr 1;exact List.getElem_idxOf _
theorem Zkp {d:DfaD} (hd:fine d) {s t:Nat} (hs:s<(minD d).next.length) (ht:t<(minD d).next.length) (h:∀ w,isW w→den (minD d) (runD (minD d) (s:Int) w)=den (minD d) (runD (minD d) (t:Int) w)):s=t:=by
 have hK:=(Zcr hd d.next.length).2;have hin:=(Zcr hd d.next.length).1;have hl:(minD d).next.length=(bat (nxM d) ((clD d 0:Nat):Int) d.next.length).met.length:=ZaQ _ _ _;rw[hl] at hs ht;have h1:=hin _ (memD (d:=((clD d 0:Nat):Int)) hs);have h2:=hin _ (memD (d:=((clD d 0:Nat):Int)) ht);obtain⟨p,hp,hpl,hpc⟩:=h1;obtain⟨q,hq,hql,hqc⟩:=h2
 have key:p=q:=by
  rw[← hpc,← hqc];refine Zm5 hd hpl hql fun w hw => ?_
  have h3:=h w hw;unfold minD at h3;rw[Zfg hK hs hw,Zfg hK ht hw,hp,hq] at h3;have e:=fun (r:Nat) (hr:r<d.next.length) (hc:clD d r=r)=>ZgI hd w hw hr
  obtain⟨u,hu,u1,u2⟩:=e p hpl hpc;obtain⟨v,hv,v1,v2⟩:=e q hql hqc;rw[hpc] at u1;rw[hqc] at v1;rw[u1,v1,Za6,Za6] at h3;rw[u2,v2,Za6,Za6,← Zc2 (Zdl hu) hu (Zbm u hu).2,h3];exact Zc2 (Zdl hv) hv (Zbm v hv).2
 have e1:=Zey hs (Zbl (nx:=nxM d) (a:=((clD d 0:Nat):Int)) d.next.length).1 ((clD d 0:Nat):Int);have e2:=Zey ht (Zbl (nx:=nxM d) (a:=((clD d 0:Nat):Int)) d.next.length).1 ((clD d 0:Nat):Int);rw[hp] at e1;rw[hq,← key] at e2;exact e1.symm.trans e2
theorem Zpd {d:DfaD} (hd:fine d):Za3 (minD d)=minD d:=ZoT (Zcr hd _).2
def vl (w:List Nat):Nat:=w.foldl (fun n c=>3*n+c+1) 0
section
variable {α:Type} [DecidableEq α] {nx:α→Nat→α} {a:α}
structure BI (s:Bs α) (B:Nat):Prop where
 len:s.words.length=s.met.length
 inc:∀ i j,i<j→j<s.met.length→vl (s.words.getD i [])<vl (s.words.getD j [])
 bnd:∀ j,j<s.met.length→vl (s.words.getD j [])≤B
omit [DecidableEq α] in
theorem BI.up {s:Bs α} {B B':Nat} (h:BI s B) (hB:B≤B'):BI s B':=⟨h.len,h.inc,fun j hj=>Nat.le_trans (h.bnd j hj) hB⟩
end
theorem ZqO {l:List Nat} {i:Nat} (hi:i<l.length) (hw:isW l) (h:i<(wdB l).size):(((wdB l)[i]'h).toNat:Int)=97+(l.getD i 0:Nat):=by
 have hc:l.getD i 0<3:=hw _ (memD hi);have e:(wdB l)[i]'h=UInt8.ofNat (97+l.getD i 0):=by show(wdB l).data[i]=_;simp[wdB,hi]
 rw[e,UInt8.toNat_ofNat'];omega
theorem Zl6 (l:List Nat) (i:Nat) (hi:i<l.length) (hw:isW l) (w:World):Calls Tryz.prog 30 #[.string (wdB l),.int .i64 i] w fun e w'=>e = .returned (.int .i64 (l.getD i 0:Nat))∧w=w':=by
 have hc:l.getD i 0<3:=hw _ (memD hi);have hs:(wdB l).size=l.length:=ZkS l;have hat:=fun h=>ZqO hi hw h
 obtain⟨c,hcc⟩:=eI (l.getD i 0);rw[← hcc] at hc hat;rw[← hcc];have hrun:∀ w':World,(Instr.index 9 (.string (wdB l)) (.int .i64 (i:Int))).run Tryz.prog w' = .ok (.int .u8 (97+(c:Int))) w':=fun w'=>by rw[run_index_string w' 9 (wdB l) .i64 i Tryz.underlying9,dif_pos (by omega)];congr 2;exact hat _
 have hw8:IntKind.u8.wrap (97+(c:Int)-97)=(c:Int):=by
  obtain rfl|rfl|rfl:c=0∨c=1∨c=2:=by omega
  all_goals rfl
 have hw9:IntKind.i64.wrap (c:Int)=(c:Int):=IntWalk.i64_in _ (by omega);replace hcc:=qh hcc;clear hat
 go_enter Tryz.func30, Tryz.ntmps30
 go_wp2;go_ret;exact⟨rfl,rfl⟩
theorem Zm7 (d:DfaD) (s:Int) {l:List Nat} {k:Nat} (hk:k<l.length):runD d s (l.take (k+1))=dnx d (runD d s (l.take k)) (l.getD k 0):=by rw[List.take_succ_eq_append_getElem hk,Zd3];simp[runD,hk]
theorem Zo4 (d:DfaD) (q:Nat) (l:List Nat) (v:Value) (w:World) (hd:Zae d.next d.ends=true) (hq:q<d.next.length) (hw:isW l) (hl:l.length≤1000000) (h:DfaR 0 w v d) :
  Calls Tryz.prog 39 #[v,.int .i64 q,.string (wdB l)] w fun e w'=>e = .returned (.int .i64 (runD d q l))∧Below w.heap.size w w':=by
 obtain⟨v1,v2,rfl,g1,g2⟩:=h;have hlen:=Zad hd;have hS0:=(St.start w).alloc _ rfl #[v1,v2] 32;have hs:(wdB l).size=l.length:=ZkS l;have G1:=qh g1;replace hd:=qh hd;have Hhw:=qh hw;clear hw;replace hS0:=qh hS0;clear g1 g2
 go_enter Tryz.func39, Tryz.ntmps39
 go_wp2
 go_loopw [1,10] (fun fr i wr=>∃ k p:Nat,fr = .int .i64 p∧i = .int .i64 k∧k≤l.length∧p<d.next.length∧(p:Int)=runD d q (l.take k)∧St w wr [Ent.box w.heap.size #[v1,v2] 32]) (fun _ i _=>l.length-(intOf i).toNat)
 case atStart=>exact⟨0,q,rfl,rfl,Nat.zero_le _,hq,rfl,hS0.out⟩
 case round =>
  obtain⟨k,p,rfl,rfl,hk,hp,hrun,hS⟩:=hrel;by_cases hlt:k<l.length
  ·have hc:l.getD k 0<3:=Hhw.out _ (memD hlt);obtain⟨b1,o1,cap1,z,t,s,rfl,hc1,hc2,k1,hs1,hs2,k2,hb1,hb2⟩:=ZiF (G1.out.below hS.bel) hd.out hp hc;have e0:=hS.cell (v:=.slice (some ⟨b1,o1,none⟩) d.next.length cap1) 0 0 rfl rfl;have hnx:=(ZaI hd.out hp).2 _ hc;have hsn:=Zm7 d q hlt;rw[← hrun] at hsn;obtain⟨x,hx⟩:=eI ((d.next.getD p []).getD (l.getD k 0) 0);have hdx:dnx d (p:Int) (l.getD k 0)=x:=by rw[hx];rfl
   rw[hdx] at hsn;rw[← hx] at k2 hnx;obtain⟨x0,x1⟩:=hnx;obtain⟨x,rfl⟩:=Int.eq_ofNat_of_zero_le x0;have hlet:=fun (w:World)=>Zl6 l k hlt Hhw.out w
   obtain⟨c,hcc⟩:=eI (l.getD k 0);rw[← hcc] at hc k2 hlet;have hp2:(p:Int)<d.next.length:=by omega
   have hc3:(c:Int)<3:=by omega
   have hkl:(k:Int)<l.length:=by omega
   have Hlet:=qh hlet;replace hS:=qh hS;have Hhx:=qh hx;clear hx;have Hhdx:=qh hdx;clear hdx;have Hhsn:=qh hsn;clear hsn;have Hhcc:=qh hcc;clear hcc;have Hhrun:=qh hrun;clear hrun;clear hlet;go_wp2
   go_quiet (((go_at_call 30;with_reducible exact ZfH (Hlet.out _))))
   go_wp2;go_roundw
   case rel=>exact⟨k+1,x,rfl,by go_num,by omega,by omega,Hhsn.out.symm,hS.out.drewN _⟩
   case measure=>simp[intOf];omega
  obtain rfl:k=l.length:=by omega
  rw[List.take_length] at hrun;replace hS:=qh hS;have Hhrun:=qh hrun;clear hrun;go_wp2;go_ret;exact⟨Zd4 Hhrun.out,hS.out.bel⟩
theorem ZkN (d:DfaD) (l:List Nat) (v:Value) (w:World) (hd:Zae d.next d.ends=true) (hw:isW l) (hl:l.length≤1000000) (h:DfaR 0 w v d) :
  Calls Tryz.prog 53 #[v,.string (wdB l)] w fun e w'=>e = .returned (.bool (accD d l))∧Below w.heap.size w w':=by
 have HD:=qh h;obtain⟨v1,v2,rfl,g1,g2⟩:=h;obtain⟨h1,h2,h3⟩:=Zad hd;obtain⟨q,hq⟩:=Int.eq_ofNat_of_zero_le (Zh5 hd hw (s:=0) (by omega) (by omega)).1;have hqn:q<d.ends.length:=by have:=(Zh5 hd hw (s:=0) (by omega) (by omega)).2;omega
 have hS0:=(St.start w).alloc _ rfl #[v1,v2] 32;obtain⟨b2,o2,cap2,rfl,hc1,hc2,k2,hb2⟩:=ZdI g2 hqn;have hacc:accD d l=d.ends.getD q false:=by unfold accD den;rw[hq,Int.toNat_natCast]
 have e0:=hS0.cell (v:=v1) 0 0 rfl rfl;have e1:=hS0.cell (v:=.slice (some ⟨b2,o2,none⟩) d.ends.length cap2) 0 1 rfl rfl;have hl0:=(hS0.boxlt 0 rfl).2;have hk2:=(bcell hS0.bel b2 (o2+q) hb2).trans k2;have hb2':=Nat.lt_of_lt_of_le hb2 hS0.size;obtain⟨W,hW⟩:=eI (w.alloc (.cells #[v1,.slice (some ⟨b2,o2,none⟩) d.ends.length cap2] 32));rw[← hW] at e0 e1 hl0 hk2 hb2' hS0;have hrun:∀ w':World,Below w.heap.size w w'→Calls Tryz.prog 39 #[.agg #[v1,.slice (some ⟨b2,o2,none⟩) d.ends.length cap2],.int .i64 0,.string (wdB l)] w' fun e w2=>e = .returned (.int .i64 (runD d 0 l))∧Below w'.heap.size w' w2:=fun w' hb=>Zo4 d 0 l (.agg #[v1,.slice (some ⟨b2,o2,none⟩) d.ends.length cap2]) w' hd (by omega) hw hl (HD.out.below hb)
 rw[hq] at hrun;have Hrun:=qh hrun;have Hk:=qh (fun (w':World) (h:Below W.drew.heap.size W.drew w')=>(show w'.cell? ⟨w.heap.size,0,none⟩=some v1∧w'.cell? ⟨w.heap.size,1,none⟩=some (.slice (some ⟨b2,o2,none⟩) d.ends.length cap2)∧w'.cell? ⟨b2,o2+q,none⟩=some (.bool (d.ends.getD q false)) from⟨(bcell h _ _ hl0).trans e0,(bcell h _ _ hl0).trans e1,(bcell h _ _ hb2').trans hk2⟩));obtain⟨r,hr⟩:=eI (d.ends.getD q false);rw[← hr] at hacc hk2 Hk;rw[hacc];have hqi:(q:Int)<d.ends.length:=by omega
 have HBd:=qh hS0.bel.drew;replace hS0:=qh hS0;have Hhd:=qh hd;clear hd;have Hhw:=qh hw;clear hw;have Hhq:=qh hq;clear hq;have Hhr:=qh hr;clear hr;have Hhacc:=qh hacc;clear hacc;have HW:=qh hW;clear hW g1 g2 k2 hrun h3
 go_enter Tryz.func53, Tryz.ntmps53
 go_wp2_with fail;rw[← HW.out]
 go_region_held3 (fun w'=>w'.cell? ⟨w.heap.size,0,none⟩=some v1∧w'.cell? ⟨w.heap.size,1,none⟩=some (.slice (some ⟨b2,o2,none⟩) d.ends.length cap2)∧w'.cell? ⟨b2,o2+q,none⟩=some (.bool r))
  (first|go_keep|exact Hk.out _ hq0)
  (first
   | (go_at_call 39;(with_reducible refine(Hrun.out _ HBd.out).mono ?_);rintro e u0 ⟨rfl,hq0⟩))
 go_wp2;go_ret;exact⟨rfl,HBd.out.trans (hq0.mono HBd.out.size)⟩
def Strs (B:Nat) (w:World) (v:Value) (ws:List (List Nat)):Prop:=Sl B w v ws.length 1 (wdCells ws)
theorem Strs.below {B:Nat} {w w':World} {v:Value} {ws:List (List Nat)} (h:Strs B w v ws) (he:Below w.heap.size w w'):Strs B w' v ws:=Sl.below h he
theorem Strs.form {B:Nat} {w:World} {v:Value} {ws:List (List Nat)} (h:Strs B w v ws):∃ a cap,v = .slice a ws.length cap∧ws.length≤cap∧cap≤9223372036854775807 ∧
  (0<ws.length→∃ b off,a=some ⟨b,off,none⟩∧b<w.heap.size∧∀ j,j<ws.length→w.cell? ⟨b,off+j,none⟩=some (.string (wdB (ws.getD j [])))):=by
 obtain⟨hl,a,cap,hv,h1,h2,h3⟩:=h;refine⟨a,cap,hv,h1,h2,fun hn => ?_⟩;obtain⟨b,off,ha,hb,hlt,hc⟩:=h3 hn;refine⟨b,off,ha,hlt,fun j hj => ?_⟩;rw[hc j (by omega)];simp[hj]
def okWs (ws:List (List Nat)):Prop:=∀ x∈ws,isW x∧x.length≤400000
def LOk (st:List (List Nat)):Prop:=(∀ x∈st,isW x)∧∀ i,i<st.length→(st.getD i []).length≤i
theorem LOk.visit {β:Type} [DecidableEq β] {key:List Nat→β} {s:List (List Nat)} (h:LOk s) {w:List Nat} (hw:isW w) (hl:w.length≤s.length):LOk (kvisit key s w):=by
 unfold kvisit
 split
 ·exact h
 refine⟨fun x hx => ?_,fun i hi => ?_⟩
 ·rcases List.mem_append.1 hx with hx|hx
  ·exact h.1 x hx
  simp only[List.mem_singleton] at hx;rw[hx];exact hw
 simp only[List.length_append,List.length_singleton] at hi;by_cases hin:i<s.length
 ·have:=h.2 i hin;simp only[List.getD_eq_getElem?_getD] at this ⊢;rw[List.getElem?_append_left hin];exact this
 obtain rfl:i=s.length:=by omega
 simpa using hl
theorem LOk.row {β:Type} [DecidableEq β] {key:List Nat→β} {s:List (List Nat)} (h:LOk s) {k:Nat} (hk:k<s.length):∀ n,n≤3→LOk (krow key s (s.getD k []) n)∧s.length≤(krow key s (s.getD k []) n).length
 | 0,_=>⟨h,Nat.le_refl _⟩
 | n+1,hn=>by obtain⟨h1,h2⟩:=h.row (key:=key) hk n (by omega);have h3:=(Zhz (key:=key) (krow key s (s.getD k []) n) (s.getD k []++[n])).length_le;refine⟨h1.visit (ZdS (h.1 _ (memD hk)) (ZkA (by omega))) ?_,Nat.le_trans h2 h3⟩;have:=h.2 k hk;rw[List.length_append,List.length_singleton];omega
theorem LOk.kat {β:Type} [DecidableEq β] {key:List Nat→β} {s:List (List Nat)} (h:LOk s):∀ k,LOk (kat key s k)
 | 0=>h
 | k+1=>by
  have ih:=LOk.kat (key:=key) h k;by_cases hk:k<(Go.Proofs.YtehmjmjedopkkaaGreat.kat key s k).length
  ·rw[Zes hk];exact(ih.row hk 3 (by omega)).1
  rw[Zet (by omega)];exact ih
theorem LOk.okWs {st:List (List Nat)} (h:LOk st) (hl:st.length≤1000):∀ x∈st,isW x∧x.length≤399999:=fun x hx=>by refine⟨h.1 x hx,?_⟩;obtain⟨i,hi,e⟩:=List.getElem_of_mem hx;have:=h.2 i hi;rw[Za5 hi,e] at this;omega
def hitD (d:DfaD) (g:DfaD):Option (List Nat):=hitP d g
theorem ZnY (d g:DfaD):hitD d g=hitK Zqn d g:=rfl
theorem Zpb:Zqn≤1600:=Nat.le_refl _
theorem Zju {d g:DfaD} {w:List Nat} (h:hitD d g=some w):isW w∧accD d w≠accD g w:=by rw[ZnY] at h;exact ZpB h
theorem ZnX (d:DfaD):Zq0 d (hitD d):=fun _ _ _ h=>Zju h
theorem ZpC {K:Nat} {a b:DfaD} {w:List Nat} (h:hitK K a b=some w):w.length≤K:=by have hg:=(Zbl (nx:=ZaA a b) (a:=((0,0):Int × Int)) K).2.1;obtain⟨i,hi,hw,-⟩:=ZeB (d:=((0,0):Int × Int)) hg h;rw[← hw];exact ZlG (nx:=ZaA a b) (a:=((0,0):Int × Int)) K _ (memD (by omega))
theorem ZpD {d g:DfaD} {w:List Nat} (h:hitD d g=some w):w.length≤1600:=by rw[ZnY] at h;have:=ZpC h;have:=Zpb;omega
def preW (d:DfaD):Nat→List (List Nat)
 | 0=>[[]]
 | j+1=>(tabW d (hitD d) j).1
def resW (d:DfaD) (j:Nat):List (List Nat):=(tabW d (hitD d) j).2
def staW (d:DfaD) (j:Nat):List (List Nat):=(tabW d (hitD d) j).1
def gueW (d:DfaD) (j:Nat):DfaD:=gssW d (hitD d) j
theorem Zl0 {α:Type} {l m:List α} (h:l <+: m) (hm:m.Nodup):l.Nodup:=by obtain⟨t,rfl⟩:=h;exact(List.nodup_append.1 hm).1
theorem Znf (d:DfaD) (j:Nat) {w:List Nat} (h:hitD d (gueW d j)=some w):resW d (j+1)=resW d j++[w.drop (cutW d (staW d j) (gueW d j) w+1)]:=by show(tabW d (hitD d) j).2++_=_;have h':hitD d (ZaC d (tabW d (hitD d) j).1 (tabW d (hitD d) j).2)=some w:=h;simp only[h',w_8];rfl
structure LTab (d:DfaD) (j:Nat):Prop where
 pre:LOk (preW d j)
 nd:((preW d j).map (rowW d (resW d j))).Nodup
 re:okWs (resW d j)
 rl:(resW d j).length≤j+1
 inv:LInv d (staW d j) (resW d j)
 st:LOk (staW d j)
theorem LTab.at {d:DfaD} (hd:Zae d.next d.ends=true):∀ j,(∀ i,i<j→(hitD d (gueW d i)).isSome=true)→LTab d j
 | 0,hy=>by
  have hinv:=(ZjY hd (ZnX d) 0 hy).1
  have h0:LOk [[]]:=⟨fun x hx=>by simp at hx;subst hx;intro c hc;simp at hc,fun i hi=>by
   obtain rfl:i=0:=by simpa using hi
   simp⟩
  exact⟨h0,by simp[preW],fun x hx=>by simp[resW,tabW] at hx;subst hx;exact⟨fun c hc=>by simp at hc,by simp⟩,by simp[resW,tabW],hinv,LOk.kat h0 _⟩
 | j+1,hy=>by
  have ih:=LTab.at hd j fun i hi=>hy i (by omega)
  have hinv:=(ZjY hd (ZnX d) (j+1) hy).1;obtain⟨w,hw⟩:=Option.isSome_iff_exists.1 (hy j (by omega));have hr:=Znf d j hw;have hww:=(Zju hw).1;have hpre:preW d (j+1) <+: staW d (j+1):=Zim (key:=rowW d (resW d (j+1))) (s0:=preW d (j+1)) (Nat.zero_le (d.next.length+1));refine⟨ih.st,?_,fun x hx => ?_,?_,hinv,LOk.kat (s:=preW d (j+1)) ih.st _⟩
  ·obtain⟨t,ht⟩:=hpre;have h1:=hinv.nd;refine Zl0 (m:=(staW d (j+1)).map (rowW d (resW d (j+1)))) ⟨t.map (rowW d (resW d (j+1))),?_⟩ h1;rw[← List.map_append,ht]
  ·rw[hr] at hx;rcases List.mem_append.1 hx with hx|hx
   ·exact ih.re x hx
   simp only[List.mem_singleton] at hx;subst hx;refine⟨Zio hww _,?_⟩;have:=ZpD hw;rw[List.length_drop];omega
  rw[hr,List.length_append,List.length_singleton];have:=ih.rl;omega
/-! The guesses in memory. -/
def Ent.sub (X y:Ent):Prop:=(∀ w,X.holds w→y.holds w)∧∀ k,y.foot k→X.foot k
def GMem (X:Ent) (vals:List (Value × Value)) (gs:List DfaD):Prop:=vals.length=gs.length∧∀ i,i<gs.length →
 ∃ a1 c1 a2 c2 vs,vals.getD i (undef,undef)=(.slice a1 (gs.getD i ⟨[],[]⟩).next.length c1,.slice a2 (gs.getD i ⟨[],[]⟩).next.length c2) ∧
  Ent.sub X (Ent.rows 59 3 (.slice a1 (gs.getD i ⟨[],[]⟩).next.length c1) vs ((gs.getD i ⟨[],[]⟩).next.map intCells))∧Ent.sub X (Ent.row 4 1 (.slice a2 (gs.getD i ⟨[],[]⟩).next.length c2) (gs.getD i ⟨[],[]⟩).next.length (boolCells (gs.getD i ⟨[],[]⟩).ends))
theorem GMem.nil (X:Ent):GMem X [] []:=⟨rfl,fun i hi=>absurd hi (by simp)⟩
theorem GMem.snoc {X:Ent} {vals:List (Value × Value)} {gs:List DfaD} (h:GMem X vals gs) {g:DfaD} {a1 a2:Option Addr} {c1 c2:Nat} {vs:List Value} :
  GMem (Ent.all [X,Ent.rows 59 3 (.slice a1 g.next.length c1) vs (g.next.map intCells),Ent.row 4 1 (.slice a2 g.next.length c2) g.next.length (boolCells g.ends)]) (vals++[(.slice a1 g.next.length c1,.slice a2 g.next.length c2)]) (gs++[g]):=by
 refine⟨by simp[h.1],fun i hi => ?_⟩;simp only[List.length_append,List.length_singleton] at hi;by_cases hin:i<gs.length
 ·obtain⟨p1,q1,p2,q2,us,e,s1,s2⟩:=h.2 i hin;have e1:(gs++[g]).getD i ⟨[],[]⟩=gs.getD i ⟨[],[]⟩:=by simp only[List.getD_eq_getElem?_getD];rw[List.getElem?_append_left hin]
  have e2:(vals++[((Value.slice a1 g.next.length c1),(Value.slice a2 g.next.length c2))]).getD i (undef,undef)=vals.getD i (undef,undef):=by simp only[List.getD_eq_getElem?_getD];rw[List.getElem?_append_left (by rw[h.1];exact hin)]
  rw[e1,e2];exact⟨p1,q1,p2,q2,us,e,⟨fun w hw=>s1.1 w (hw X (by simp)),fun k hk=>⟨X,by simp,s1.2 k hk⟩⟩,⟨fun w hw=>s2.1 w (hw X (by simp)),fun k hk=>⟨X,by simp,s2.2 k hk⟩⟩⟩
 obtain rfl:i=gs.length:=by omega
 have e1:(gs++[g]).getD gs.length ⟨[],[]⟩=g:=by simp
 have e2:(vals++[((Value.slice a1 g.next.length c1),(Value.slice a2 g.next.length c2))]).getD gs.length (undef,undef)=((Value.slice a1 g.next.length c1),(Value.slice a2 g.next.length c2)):=by rw[← h.1];simp
 rw[e1,e2];exact⟨a1,c1,a2,c2,vs,rfl,⟨fun w hw=>hw _ (by simp),fun k hk=>⟨_,by simp,hk⟩⟩,⟨fun w hw=>hw _ (by simp),fun k hk=>⟨_,by simp,hk⟩⟩⟩
theorem Tryz.infoDfa:(Tryz.prog.info? 32).map (fun i=>(i.zero,i.size,i.bytes))=some (some (.agg #[.slice none 0 0,.slice none 0 0]),2,48):=by kernel_rfl
theorem GMem.own {w0 w:World} {L:List Ent} (h:St w0 w L) (i:Nat) {X:Ent} (hx:L[i]? = some X) {vals:List (Value × Value)} {gs:List DfaD} (hG:GMem X vals gs) {k:Nat} (hk:k<gs.length) :
  ∃ a1 c1 a2 c2,vals.getD k (undef,undef)=(.slice a1 (gs.getD k ⟨[],[]⟩).next.length c1,.slice a2 (gs.getD k ⟨[],[]⟩).next.length c2)∧(gs.getD k ⟨[],[]⟩).ends.length=(gs.getD k ⟨[],[]⟩).next.length ∧
   DfaO 59 3 4 w0.heap.size w.heap.size w (.agg #[.slice a1 (gs.getD k ⟨[],[]⟩).next.length c1,.slice a2 (gs.getD k ⟨[],[]⟩).next.length c2]) (gs.getD k ⟨[],[]⟩):=by
 obtain⟨a1,c1,a2,c2,vs,e,s1,s2⟩:=hG.2 k hk;have hil:i<L.length:=(List.getElem?_eq_some_iff.1 hx).1;have h1:=h.same i hx _ (s1.1 w) s1.2;have h2:=h.same i hx _ (s2.1 w) s2.2;have g1:=h1.intSS i (by rw[List.getElem?_set,if_pos rfl,if_pos hil]);have g2:=h2.row i (by rw[List.getElem?_set,if_pos rfl,if_pos hil]);have hl:(gs.getD k ⟨[],[]⟩).ends.length=(gs.getD k ⟨[],[]⟩).next.length:=by have:=g2.1;simp at this;simpa using this
 refine⟨a1,c1,a2,c2,e,hl,_,_,rfl,g1,?_⟩;unfold OBools;rw[hl];exact Zaa g2
def xb (b x:Bool):Bool:=b != x
def flB (b:Bool) (g:DfaD):DfaD:=⟨g.next,g.ends.map (xb b)⟩
theorem ZkD (b:Bool) (g:DfaD) (s:Int) (w:List Nat):runD (flB b g) s w=runD g s w:=rfl
theorem Zp3 {b:Bool} {g:DfaD} (h:Zae g.next g.ends=true):Zae (flB b g).next (flB b g).ends=true:=by
 have hl:=Zad h;refine ZiG hl.1 hl.2.1 ?_ fun i hi=>ZaI h hi
 show(g.ends.map (xb b)).length=g.next.length;rw[List.length_map];exact hl.2.2
theorem ZqC {b:Bool} {g:DfaD} (h:Zae g.next g.ends=true) {w:List Nat} (hw:isW w):accD (flB b g) w=xb b (accD g w):=by have hl:=Zad h;obtain⟨t,ht,hr⟩:=ZdO (Zaz h) w (s:=0) hw (by omega);have hr:runD g 0 w=(t:Int):=hr;unfold accD;rw[ZkD,hr,Za6,Za6];show(g.ends.map (xb b)).getD t false=xb b (g.ends.getD t false);rw[List.getD_eq_getElem?_getD,List.getElem?_map,List.getD_eq_getElem?_getD,List.getElem?_eq_getElem (show t<g.ends.length by omega)];rfl
section
variable {key key':List Nat→List Bool} {f:List Bool→List Bool}
end
section
variable {b:Bool} {d M:DfaD}
end
def Zjh (p:Int × Int):DfaD:=if p.1=1 then Zel else if p.1=2 then oneD else minD ⟨[[2,2,2].set p.2.toNat 1,[2,2,2],[2,2,2]],[false,true,false]⟩
def oneQ (K:Nat) (k:Int) (a:DfaD):Option DfaD:=if k=8 then(ZfD 81 K (ZcG (ZaF a))).map minD else some (flB true a)
def twoQ (K:Nat) (k:Int) (a b:DfaD):Option DfaD :=
 if k=4 then(ZfD 81 K (Zdz (ZaF a) (ZaF b))).map minD else if k=5 then(ZbA K (fun p q=>p||q) a b).map minD else(ZbA K (fun p q=>p&&q) a b).map minD
def Zfr (K:Nat) (p:Int × Int) (st:List DfaD):Option (List DfaD) :=
 if Zag p=0 then some (Zjh p::st)
 else if Zag p=1 then
  match st with
  | a::r=>(oneQ K p.1 a).map (·::r)
  | []=>none
 else
  match st with
  | b::a::r=>(twoQ K p.1 a b).map (·::r)
  | _=>none
def runC (K:Nat):List (Int × Int)→List DfaD→Option (List DfaD)
 | [],st=>some st
 | p::ps,st=>(Zfr K p st).bind (runC K ps)
theorem ZoU {d:DfaD} (hd:fine d):Za3 (flB true d)=flB true (Za3 d):=by
 have hm:=(Zbq hd d.next.length).1;unfold Za3 Zav flB;show DfaD.mk _ _=DfaD.mk _ _;congr 1;rw[List.map_map];refine List.map_congr_left fun x hx => ?_
 obtain⟨h1,h2⟩:=hm x hx;have h3:=hd.2.2.1;have hlt:x.toNat<d.ends.length:=by omega
 simp[den,hlt]
theorem Zqq {d:DfaD} (hd:Zae d.next d.ends=true) (hm:minD d=d):minD (flB true d)=flB true d:=by
 have hf:=Zaz hd;have hF:=Zaz (Zp3 (b:=true) hd);have ht:Za3 d=d:=by have:=Zpd hf;rw[hm] at this;exact this
 refine Zpe hF (by rw[ZoU hf,ht]) fun s t hs ht' h => ?_
 have hs:s<d.next.length:=hs;have ht':t<d.next.length:=ht';refine Zkp hf (by rw[hm];exact hs) (by rw[hm];exact ht') fun w hw => ?_
 rw[hm];obtain⟨a,ha,hra⟩:=ZdO hf w hw hs;obtain⟨b,hb,hrb⟩:=ZdO hf w hw ht';have h1:=h w hw;rw[ZkD,ZkD,hra,hrb,Za6,Za6] at h1;rw[hra,hrb,Za6,Za6]
 have e:∀ i,i<d.next.length→enD (flB true d) i = !enD d i:=fun i hi=>by
  have h3:=(Zad hd).2.2;have hi2:i<d.ends.length:=by omega
  simp[enD,flB,hi2,xb]
 rw[e a ha,e b hb] at h1;simpa using h1
theorem ZfR {K:Nat} (hK:K=40) (t:Ex) {d:DfaD} (h:Zaq K t=some d):minD d=d:=by
 have key:∀ {y:DfaD},Zae y.next y.ends=true→Zak y=d→minD d=d:=fun {y} hy e=>by rw[← e,Zb4 (Zaz hy)];exact Zqp (Zaz hy)
 cases t with
 | zero=>simp only[Zaq,w_9] at h;exact key Zek h
 | one=>simp only[Zaq,w_9] at h;exact key Zgh h
 | ltr c=>simp only[Zaq,w_9] at h;exact key (Zd7 c) h
 | join a b =>simp only[Zaq,Option.bind_eq_some_iff,Option.map_eq_some_iff] at h;obtain⟨x,-,y,-,z,hz,e⟩:=h;exact key (ZcS hK hz) e
 | alt a b =>simp only[Zaq,Option.bind_eq_some_iff,Option.map_eq_some_iff] at h;obtain⟨x,-,y,-,z,hz,e⟩:=h;exact key (Zbt hK hz) e
 | both a b =>simp only[Zaq,Option.bind_eq_some_iff,Option.map_eq_some_iff] at h;obtain⟨x,-,y,-,z,hz,e⟩:=h;exact key (Zbt hK hz) e
 | neg a =>simp only[Zaq,Option.map_eq_some_iff] at h;obtain⟨x,hx,e⟩:=h;exact key (Zgk (Zbk hK a hx)) e
 | star a =>simp only[Zaq,Option.bind_eq_some_iff,Option.map_eq_some_iff] at h;obtain⟨x,-,z,hz,e⟩:=h;exact key (ZcS hK hz) e
theorem Zeo {o:Option DfaD} (h:∀ d,o=some d→Zae d.next d.ends=true):o.map Zak=o.map minD:=by
 cases o with
 | none=>rfl
 | some d=>exact congrArg some (Zb4 (Zaz (h d rfl)))
theorem Znv (d:DfaD):negD d=flB true d:=by unfold negD flB;congr 1;exact List.map_congr_left fun x _=>by cases x<;>rfl
theorem ZnJ:Zak Zel=Zel:=by decide +kernel
theorem Zpn:Zak oneD=oneD:=by decide +kernel
theorem Zm8 {K:Nat} (hK:K=40):∀ (t:Ex) (rest:List (Int × Int)) (st:List DfaD),runC K (t.post++rest) st=(Zaq K t).bind fun d=>runC K rest (d::st):=by
 intro t
 induction t with
 | zero =>intro rest st;show(some (Zel::st)).bind (runC K rest)=_;simp only[Zaq,ZnJ];rfl
 | one =>intro rest st;show(some (oneD::st)).bind (runC K rest)=_;simp only[Zaq,Zpn];rfl
 | ltr c =>
  intro rest st;have e:Zfr K (3,(c.val:Int)) st=some (Zjh (3,(c.val:Int))::st):=by unfold Zfr;rw[if_pos (ZfI c)]
  show(Zfr K (3,(c.val:Int)) st).bind (runC K rest)=_;rw[e];simp only[Zaq];rw[Zb4 (Zaz (Zd7 c))];rfl
 | join a b ha hb =>
  intro rest st;show runC K ((a.post++b.post++[(4,0)])++rest) st=_;rw[List.append_assoc,List.append_assoc,ha];simp only[Zaq];cases hx:Zaq K a with
  | none=>rfl
  | some x =>
   show runC K (b.post++([(4,0)]++rest)) (x::st)=_;rw[hb];show _=((Zaq K b).bind fun y=>(detM 81 K (Zc6 x y)).map Zak).bind _;cases hy:Zaq K b with
   | none=>rfl
   | some y =>show((twoQ K 4 x y).map (·::st)).bind (runC K rest)=((detM 81 K (Zc6 x y)).map Zak).bind _;rw[show twoQ K 4 x y=(detM 81 K (Zc6 x y)).map Zak by rw[Zeo fun d hd=>ZcS hK hd,← Zlt,← Zgy];rfl];cases (detM 81 K (Zc6 x y)).map Zak<;>rfl
 | alt a b ha hb =>
  intro rest st;show runC K ((a.post++b.post++[(5,0)])++rest) st=_;rw[List.append_assoc,List.append_assoc,ha];simp only[Zaq];cases hx:Zaq K a with
  | none=>rfl
  | some x =>
   show runC K (b.post++([(5,0)]++rest)) (x::st)=_;rw[hb];show _=((Zaq K b).bind fun y=>(ZbA K (fun p q=>p||q) x y).map Zak).bind _;cases hy:Zaq K b with
   | none=>rfl
   | some y =>show((twoQ K 5 x y).map (·::st)).bind (runC K rest)=((ZbA K (fun p q=>p||q) x y).map Zak).bind _;rw[show twoQ K 5 x y=(ZbA K (fun p q=>p||q) x y).map Zak by rw[Zeo fun d hd=>Zbt hK hd];rfl];cases (ZbA K (fun p q=>p||q) x y).map Zak<;>rfl
 | both a b ha hb =>
  intro rest st;show runC K ((a.post++b.post++[(6,0)])++rest) st=_;rw[List.append_assoc,List.append_assoc,ha];simp only[Zaq];cases hx:Zaq K a with
  | none=>rfl
  | some x =>
   show runC K (b.post++([(6,0)]++rest)) (x::st)=_;rw[hb];show _=((Zaq K b).bind fun y=>(ZbA K (fun p q=>p&&q) x y).map Zak).bind _;cases hy:Zaq K b with
   | none=>rfl
   | some y =>show((twoQ K 6 x y).map (·::st)).bind (runC K rest)=((ZbA K (fun p q=>p&&q) x y).map Zak).bind _;rw[show twoQ K 6 x y=(ZbA K (fun p q=>p&&q) x y).map Zak by rw[Zeo fun d hd=>Zbt hK hd];rfl];cases (ZbA K (fun p q=>p&&q) x y).map Zak<;>rfl
 | neg a ha =>
  intro rest st;show runC K ((a.post++[(7,0)])++rest) st=_;rw[List.append_assoc,ha];simp only[Zaq];cases hx:Zaq K a with
  | none=>rfl
  | some x =>have hok:=Zbk hK a hx;show runC K rest (flB true x::st)=runC K rest (Zak (negD x)::st);rw[Zb4 (Zaz (Zgk hok)),Znv,Zqq hok (ZfR hK a hx)]
 | star a ha =>
  intro rest st;show runC K ((a.post++[(8,0)])++rest) st=_;rw[List.append_assoc,ha];simp only[Zaq];cases hx:Zaq K a with
  | none=>rfl
  | some x =>show((oneQ K 8 x).map (·::st)).bind (runC K rest)=((detM 81 K (Zdn x)).map Zak).bind _;rw[show oneQ K 8 x=(detM 81 K (Zdn x)).map Zak by rw[Zeo fun d hd=>ZcS hK hd,← Zlt,← Zf2];rfl];cases (detM 81 K (Zdn x)).map Zak<;>rfl
theorem ZlS {K:Nat} (hK:K=40) (t:Ex):runC K t.post []=(Zaq K t).map fun d=>[d]:=by have h:=Zm8 hK t [] [];rw[List.append_nil] at h;rw[h];cases Zaq K t<;>rfl
theorem Zpo {p:Int × Int} (h:pOk p=true) (hn:Zag p=0):Zae (Zjh p).next (Zjh p).ends=true:=by
 unfold Zjh
 split
 ·exact Zek
 split
 ·exact Zgh
 rename_i h1 h2
 have h3:p.1=3∧0≤p.2∧p.2≤2:=by
  unfold Zag at hn;rw[if_pos h] at hn;simp only[pOk,inB,Bool.and_eq_true,Bool.or_eq_true,decide_eq_true_eq,Bool.not_eq_true',decide_eq_false_iff_not] at h
  split at hn
  ·omega
  split at hn<;>omega
 obtain⟨c,hc⟩:∃ c:Fin 3,p.2.toNat=c.val:=⟨⟨p.2.toNat,by omega⟩,rfl⟩;rw[hc];have:=Zb1 (Zd7 c);rw[Zb4 (Zaz (Zd7 c))] at this;exact this
theorem Zjd {d:DfaD} (h:Zae d.next d.ends=true):Zae (minD d).next (minD d).ends=true:=by rw[← Zb4 (Zaz h)];exact Zb1 h
end Go.Proofs.YtehmjmjedopkkaaGreat
