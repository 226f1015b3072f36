/-
  The walk over the program's small, for automata of up to N <= 128 states.
  Conditions: the automaton's numbers are in bounds; the arguments read as such data.
-/
import Derived.Test.YtncekbbhgipdlaaGreatPs12Wdet
set_option maxHeartbeats 4000000
set_option maxRecDepth 100000
namespace Go.Proofs.YtncekbbhgipdlaaGreat
open Go.RowKit
structure DetOkW (N:Nat) (n:NfaD):Prop where
 mv:mvIn N n.moves
 ml:n.moves.length≤1000
 f:inN N n.firsts
 fl:n.firsts.length≤1000
 e:inN N n.ends
 el:n.ends.length≤1000
def Zfy (N K:Nat) (n:NfaD):Option DfaD:=if (metW N n K).length≤K then some (Zat (nxW N n) (enW n) (metW N n K)) else none
theorem Ziv {N K:Nat} (hK:K=40) {n:NfaD} {d:DfaD} (h:Zfy N K n=some d):Zah d.next d.ends=true:=by
 unfold Zfy at h
 split at h
 ·rename_i hle;simp only[w_9] at h;subst h;obtain⟨h1,h2,h3,h4⟩:=ZfS (en:=enW n) (nx:=nxW N n) (a:=pW (fstW N n)) hle (by omega);exact ZeR ⟨h1,h2,h3,h4⟩ (by rw[ZaS];omega)
 cases h
theorem ZlQ {N K:Nat} {n:NfaD} (h:(metW N n K).length≤K):Zfy N K n=some (Zat (nxW N n) (enW n) (metW N n K)):=if_pos h
theorem ZlR {N K:Nat} {n:NfaD} (h:¬ (metW N n K).length≤K):Zfy N K n=none:=if_neg h
theorem ZdV (N:Nat) (hN:N≤128) (n:NfaD) (K:Nat) (hK:K=40) (D:DfaD) (fb:Bool) (hD:((Zfy N K n).map minD).getD zeD=D) (hfb:((Zfy N K n).map minD).isSome=fb) (v1 v2 v3:Value) (w:World) (hdo:DetOkW N n) (h1:Moves 0 w v1 n.moves) (h2:Ints 0 w v2 n.firsts) (h3:Ints 0 w v3 n.ends) :
  Calls Tryz.prog 61 #[.agg #[.int .i64 n.states,v1,v2,v3]] w fun e w'=>RTt D fb w.heap.size e w'∧Below w.heap.size w w':=by
 have hS0:=((St.start w).alloc _ rfl #[.int .i64 n.states,v1,v2,v3] 81).alloc (w.heap.size+1) (by simp) #[.slice none 0 0,.slice none 0 0] 44;have hdet:=fun (W:World) (hb:Below w.heap.size w W)=>Zfx N hN n K hK v1 v2 v3 W hdo.mv (by have:=hdo.ml;omega) hdo.f (by have:=hdo.fl;omega) hdo.e (h1.below hb) (h2.below hb) (h3.below hb)
 have Hdet:=qh hdet;replace hS0:=qh hS0;have HhD:=qh hD;clear hD;have Hhfb:=qh hfb;clear hfb;clear hdet h1 h2 h3 hdo
 go_enter Tryz.func61, Tryz.ntmps61
 have e0:=hS0.out.cell (v:=.int .i64 n.states) 0 0 rfl rfl;have e1:=hS0.out.cell (v:=v1) 0 1 rfl rfl;have e2:=hS0.out.cell (v:=v2) 0 2 rfl rfl;have e3:=hS0.out.cell (v:=v3) 0 3 rfl rfl;go_wp2_with fail;refine(Hdet.out _ hS0.out.bel).mono ?_;rintro e w3 ⟨hr,hb3⟩;unfold ZoU at hr;by_cases hle:(metW N n K).length≤K
 ·rw[if_pos hle] at hr;obtain⟨an,cn,ae,ce,rfl,hown⟩:=hr;have htd:=ZlQ hle;obtain⟨X,hX⟩:=eI (Zat (nxW N n) (enW n) (metW N n K));have hl1:X.next.length=(metW N n K).length:=by rw[hX];exact ZaS _ _ _
  have hl2:X.ends.length=(metW N n K).length:=by rw[hX];simp[Zat]
  rw[← hX] at hown htd;have hD:=HhD.out;have hfb:=Hhfb.out;rw[htd] at hD hfb;have hD:minD X=D:=hD;have hfb:true=fb:=hfb;subst hD;subst hfb;obtain⟨L,hL⟩:=eI ((metW N n K).length);rw[← hL] at hown hl1 hl2 hle;rw[← hL];have hL40:(L:Int)≤40:=by omega
  have hXo:Zah X.next X.ends=true:=Ziv hK htd;have hS4:=(hS0.out.call hb3).alloc _ rfl #[.slice an L cn,.slice ae L ce] 44;have hDR:DfaR 0 (w3.alloc (.cells #[.slice an L cn,.slice ae L ce] 44)) (.agg #[.slice an L cn,.slice ae L ce]) X:=(hown.r.mono (Nat.zero_le _)).below ((Below.refl _ _).alloc (Nat.le_refl _) _);have d0:=hS4.cell (v:=.slice an L cn) 2 0 rfl rfl;have d1:=hS4.cell (v:=.slice ae L ce) 2 1 rfl rfl;have HS4:=qh hS4;have HDR:=qh hDR;have Hhl1:=qh hl1;clear hl1;have Hhl2:=qh hl2;clear hl2;have Hhtd:=qh htd;clear htd;have HhXo:=qh hXo;clear hXo;have HhX:=qh hX;clear hX;replace hL:=qh hL;clear hown hb3 hle hS4 hDR e0 e1 e2 e3;go_wp2_with fail;refine(ZbC X _ _ HhXo.out HDR.out).mono ?_;rintro e w5 ⟨a1,c1,a2,c2,rfl,hown,hb5⟩;obtain⟨M,hM⟩:=eI (minD X);rw[← hM] at hown;rw[← hM];have hS5:=HS4.out.call hb5;have f0:=hS5.fr 1 0 rfl;have f1:=hS5.fr 1 1 rfl;have k0:=hS5.cell (v:=.slice none 0 0) 1 0 rfl rfl;have k1:=hS5.cell (v:=.slice none 0 0) 1 1 rfl rfl;have hDM:=DMem.of hown HS4.out.size;have hb0:=hS5.box 1 rfl;have HS5:=qh hS5;have HDM:=qh hDM;have Hhb0:=qh hb0;clear hb0;have HhM:=qh hM;clear hM;clear hS5 hown hb5 hDM d0 d1;go_wp2;have hq:=(HS5.out.set 1 rfl 0 (.slice a1 M.next.length c1)).set 1 rfl 1 (.slice a2 M.ends.length c2);have q0:=hq.cell (v:=.slice a1 M.next.length c1) 1 0 rfl rfl;have q1:=hq.cell (v:=.slice a2 M.ends.length c2) 1 1 rfl rfl
  have hm:=(HDM.out.set Hhb0.out 0 (.slice a1 M.next.length c1)).set (Hhb0.out.set 0 _) 1 (.slice a2 M.ends.length c2);refine bodyPost_ret (v:=.tuple #[.agg #[.slice a1 M.next.length c1,.slice a2 M.ends.length c2],.bool true]) (by simp[results,Tryz.results61,go_sem,q0,q1]) rfl ⟨?_,hq.bel⟩;rw[← HhM.out];exact⟨a1,c1,a2,c2,rfl,_,_,rfl,hm.1,hm.2⟩
 rw[if_neg hle] at hr;subst hr;have hD:=HhD.out;have hfb:=Hhfb.out;rw[ZlR hle] at hD hfb;have hD:zeD=D:=hD;have hfb:false=fb:=hfb;subst hD;subst hfb;have hS4:=(hS0.out.call hb3).alloc _ rfl #[.slice none 0 0,.slice none 0 0] 44;have f0:=hS4.fr 1 0 rfl;have f1:=hS4.fr 1 1 rfl;have k0:=hS4.cell (v:=.slice none 0 0) 1 0 rfl rfl;have k1:=hS4.cell (v:=.slice none 0 0) 1 1 rfl rfl;have HS4:=qh hS4;clear hb3 hle hS4 e0 e1 e2 e3;go_wp2;have hq:=(HS4.out.set 1 rfl 0 (.slice none 0 0)).set 1 rfl 1 (.slice none 0 0);have q0:=hq.cell (v:=.slice none 0 0) 1 0 rfl rfl;have q1:=hq.cell (v:=.slice none 0 0) 1 1 rfl rfl;refine bodyPost_ret (v:=.tuple #[.agg #[.slice none 0 0,.slice none 0 0],.bool false]) (by simp[results,Tryz.results61,go_sem,q0,q1]) rfl ⟨?_,hq.bel⟩;exact⟨none,0,none,0,rfl,ZjG _ _ _ _ _⟩
def Qs (lo:Nat) (w:World) (e:TypeId) (v:Value) (xs:List Value):Prop :=
 ∃ g off cap cur,v = .slice (some ⟨g,off,none⟩) xs.length cap∧lo≤g∧w.heap[g]? = some (.cells cur e (0,0))∧xs.length≤cap∧cap≤maxLen∧off+cap≤cur.size∧∀ j,j<xs.length→cur[off+j]? = xs[j]?
theorem Qs.obj {lo:Nat} {w:World} {e:TypeId} {v:Value} {xs:List Value} (h:Qs lo w e v xs) {k:Nat} (hk:v.ownBlock=some k):∃ cur,w.heap[k]? = some (.cells cur e (0,0)):=by
 obtain⟨g,off,cap,cur,rfl,_,hg,_⟩:=h;have:g=k:=by simpa [Value.ownBlock] using hk
 subst this;exact⟨cur,hg⟩
theorem Qs.kept {lo:Nat} {w w':World} {e:TypeId} {v:Value} {xs:List Value} (h:Qs lo w e v xs) (hk:∀ k,v.ownBlock=some k→w'.heap[k]? = w.heap[k]?):Qs lo w' e v xs:=by obtain⟨g,off,cap,cur,rfl,h1,hg,h2⟩:=h;exact⟨g,off,cap,cur,rfl,h1,(hk g rfl).trans hg,h2⟩
theorem Qs.grown {lo:Nat} {w w':World} {e:TypeId} {v:Value} {xs:List Value} {row:Option Nat} (h:Qs lo w e v xs) (hg:w.grownBy w' row) (ha:Zcc w row e):Qs lo w' e v xs :=
 h.kept fun k hk=>by obtain⟨cur,hc⟩:=h.obj hk;exact hg.block k (Array.getElem?_eq_some_iff.1 hc).1 fun hr=>ha k hr.symm _ _ hc
theorem Qs.below {lo:Nat} {w w':World} {e:TypeId} {v:Value} {xs:List Value} (h:Qs lo w e v xs) (hb:Below w.heap.size w w'):Qs lo w' e v xs :=
 h.kept fun k hk=>by obtain⟨cur,hc⟩:=h.obj hk;exact hb.block k (Array.getElem?_eq_some_iff.1 hc).1
theorem Qs.form {lo:Nat} {w:World} {e:TypeId} {v:Value} {xs:List Value} (h:Qs lo w e v xs):∃ g off cap,v = .slice (some ⟨g,off,none⟩) xs.length cap∧lo≤g∧g<w.heap.size∧xs.length≤cap∧cap≤9223372036854775807∧∀ j,j<xs.length→w.cell? ⟨g,off+j,none⟩=xs[j]?:=by obtain⟨g,off,cap,cur,rfl,h1,hg,h2,h3,h4,h5⟩:=h;exact⟨g,off,cap,rfl,h1,(Array.getElem?_eq_some_iff.1 hg).1,h2,h3,fun j hj=>(cell_of_row w g _ cur e (0,0) hg).trans (h5 j hj)⟩
theorem Qs.lo {lo:Nat} {w:World} {e:TypeId} {v:Value} {xs:List Value} (h:Qs lo w e v xs) {k:Nat} (hk:v.ownBlock=some k):lo≤k:=by
 obtain⟨g,off,cap,cur,rfl,h1,_⟩:=h;have:g=k:=by simpa [Value.ownBlock] using hk
 omega
def wdB (l:List Nat):ByteArray:=⟨(l.map fun c=>UInt8.ofNat (97+c)).toArray⟩
abbrev wdCells (ws:List (List Nat)):List Value:=ws.map fun l=>Value.string (wdB l)
theorem Zg5 (c:Nat) (hc:c<3) (w:World):Calls Tryz.prog 50 #[.int .i64 c] w fun e w'=>e = .returned (.string (wdB [c]))∧w=w':=by
 obtain rfl|rfl|rfl:c=0∨c=1∨c=2:=by omega
 all_goals
  go_enter Tryz.func50, Tryz.ntmps50
  go_wp2;go_ret;exact⟨rfl,rfl⟩
def knows (n:Nat) (s:Bs Int) (cs:List Value):Prop:=cs.length=n∧∀ j,j<s.met.length→cs[(s.met.getD j 0).toNat]? = some (.string (wdB (s.words.getD j [])))
def marks (n:Nat) (s:Bs Int) (bs:List Value):Prop:=bs.length=n∧∀ x:Nat,x<n→bs[x]? = some (.bool (decide ((x:Int)∈s.met)))
structure FwW (d:DfaD) (W0 bw bs:Nat) (bx:Array Value) (w:World) (s:Bs Int) (k:Nat) (vq:Value):Prop where
 wo:∃ cs,w.ownsRow W0 9 1 (.slice (some ⟨bw,0,none⟩) d.next.length d.next.length) d.next.length cs∧knows d.next.length s cs
 se:∃ ms,w.ownsRow W0 4 1 (.slice (some ⟨bs,0,none⟩) d.next.length d.next.length) d.next.length ms∧marks d.next.length s ms
 qu:Qs W0 w 3 vq ((s.met.drop k).map (Value.int .i64))
 bx:Bx w W0 bx 44
theorem FwW.below {d:DfaD} {W0 bw bs k:Nat} {bx:Array Value} {w w':World} {s:Bs Int} {vq:Value} (h:FwW d W0 bw bs bx w s k vq) (hb:Below w.heap.size w w'):FwW d W0 bw bs bx w' s k vq:=by obtain⟨⟨cs,h1,h2⟩,⟨ms,h3,h4⟩,h5,h6⟩:=h;exact⟨⟨cs,(Own.below (Zab h1) hb).1,h2⟩,⟨ms,(Own.below (Zab h3) hb).1,h4⟩,h5.below hb,h6.below hb h6.lt⟩
theorem FwW.cells {d:DfaD} {W0 bw bs k:Nat} {bx:Array Value} {w:World} {s:Bs Int} {vq:Value} (h:FwW d W0 bw bs bx w s k vq) {x:Nat} (hxn:x<d.next.length):(∃ u,w.cell? ⟨bw,x,none⟩=some u)∧w.frozen? ⟨bw,x,none⟩=false∧w.frozen? ⟨bs,x,none⟩=false:=by obtain⟨⟨cs,h1,h2⟩,⟨ms,h3,h4⟩,_⟩:=h;exact⟨Zc3 h1 x (by omega),h1.frozenAt x,h3.frozenAt x⟩
theorem FwW.lt {d:DfaD} {W0 bw bs k:Nat} {bx:Array Value} {w:World} {s:Bs Int} {vq:Value} (h:FwW d W0 bw bs bx w s k vq):W0≤bw∧W0≤bs∧bw<w.heap.size∧bs<w.heap.size∧bw≠bs∧W0≠bw∧W0≠bs:=by
 obtain⟨⟨cs,h1,h2⟩,⟨ms,h3,h4⟩,_,h6⟩:=h;refine⟨(h1.lt bw rfl).1,(h3.lt bs rfl).1,(h1.lt bw rfl).2,(h3.lt bs rfl).2,?_,?_,?_⟩
 ·intro e;obtain⟨cu,hcu⟩:=ZaZ (k:=bs) h3 rfl;exact Zam (e':=4) h1 (by decide) bs (by rw[e];rfl) _ _ hcu
 ·intro e;exact Zam (e':=44) h1 (by decide) bw rfl _ _ (by rw[← e];exact h6)
 intro e;exact Zam (e':=44) h3 (by decide) bs rfl _ _ (by rw[← e];exact h6)
theorem FwW.q2 {d:DfaD} {W0 bw bs k:Nat} {bx:Array Value} {w w4 w5:World} {s:Bs Int} {vq:Value} (h:FwW d W0 bw bs bx w s k vq) (x:Nat) {u v:Value} (_:bw≠bs)
  (h5:w5=(w4.setCell ⟨bw,x,none⟩ u).drew) (h4:w4=w.setCell ⟨bs,x,none⟩ v):Qs W0 w5 3 vq ((s.met.drop k).map (Value.int .i64)):=by
 obtain⟨⟨cs,h1,h2⟩,⟨ms,h3,h4'⟩,hq,h6⟩:=h;subst h4;subst h5;have a1:(w.setCell ⟨bs,x,none⟩ v).ownsRow W0 9 1 (.slice (some ⟨bw,0,none⟩) d.next.length d.next.length) d.next.length cs:=Zag h1 (ZaI w bs x _) (fun k hk=>by cases hk;exact Zam (e':=9) h3 (by decide) bs rfl);exact((hq.grown (ZaI w bs x v) (fun k hk=>by cases hk;exact Zam (e':=3) h3 (by decide) bs rfl)).grown (ZaI (w.setCell ⟨bs,x,none⟩ v) bw x u) (fun k hk=>by cases hk;exact Zam (e':=3) a1 (by decide) bw rfl)).below (Below.refl _ _).drew
end Go.Proofs.YtncekbbhgipdlaaGreat
namespace Go.Proofs.YtncekbbhgipdlaaGreat
open Go.RowKit Go.Maps
def hitK (K:Nat) (a b:DfaD):Option (List Nat):=Zip (Zca (fun x y=>x != y) a b) (bat (Zaz a b) (0,0) K)
def Zpn:Nat:=1600
def hitP (a b:DfaD):Option (List Nat):=hitK Zpn a b
end Go.Proofs.YtncekbbhgipdlaaGreat
namespace Go.Proofs.YtncekbbhgipdlaaGreat
open Go.RowKit
section
variable {α β:Type} [DecidableEq α] [DecidableEq β] {nx:α→Nat→α} {nx':β→Nat→β} {a:α} {f:α→β}
theorem ZlT (hf:∀ x y,f x=f y→x=y) (hn:∀ x c,f (nx x c)=nx' (f x) c) (x:α) (wd:List Nat) (s:Bs α) (c:Nat):bvisit nx' (f x) wd ⟨s.met.map f,s.words⟩ c=⟨(bvisit nx x wd s c).met.map f,(bvisit nx x wd s c).words⟩:=by
 have hm:nx' (f x) c∈s.met.map f↔nx x c∈s.met:=by
  rw[← hn];constructor
  ·intro h;obtain⟨y,hy,e⟩:=List.mem_map.1 h;rw[← hf _ _ e];exact hy
  exact fun h=>List.mem_map.2 ⟨_,h,rfl⟩
 unfold bvisit;by_cases h:nx x c∈s.met
 ·rw[if_pos h,if_pos (hm.2 h)]
 rw[if_neg h,if_neg (fun h2=>h (hm.1 h2))];simp[hn]
theorem Zk7 (hf:∀ x y,f x=f y→x=y) (hn:∀ x c,f (nx x c)=nx' (f x) c) (x:α) (wd:List Nat) (s:Bs α):∀ n,brow nx' (f x) wd ⟨s.met.map f,s.words⟩ n=⟨(brow nx x wd s n).met.map f,(brow nx x wd s n).words⟩
 | 0=>rfl
 | n+1=>by show bvisit nx' (f x) wd (brow nx' (f x) wd ⟨s.met.map f,s.words⟩ n) n=_;rw[Zk7 hf hn x wd s n,ZlT hf hn];rfl
theorem Zki (hf:∀ x y,f x=f y→x=y) (hn:∀ x c,f (nx x c)=nx' (f x) c):∀ k,bat nx' (f a) k=⟨(bat nx a k).met.map f,(bat nx a k).words⟩
 | 0=>rfl
 | k+1=>by
  have ih:=Zki hf hn k;have hl:(bat nx' (f a) k).met.length=(bat nx a k).met.length:=by rw[ih];simp
  by_cases h:k<(bat nx a k).met.length
  ·rw[ZaP h,ZaP (by rw[hl];exact h)];unfold bpart;rw[ih];have hx:((bat nx a k).met.map f).getD k (f a)=f ((bat nx a k).met.getD k a):=by simp[h]
   simp only[hx];exact Zk7 hf hn _ _ _ 3
  rw[Zbx (by omega),Zbx (by omega),ih]
theorem ZnH (k:Nat):∀ i,i<(bat nx a k).met.length→((bat nx a k).words.getD i []).foldl nx a=(bat nx a k).met.getD i a∧isW ((bat nx a k).words.getD i []):=by
 have h:=Ze6 (nx:=nx) (a:=a) (fun s=>s.words.length=s.met.length∧∀ i,i<s.met.length→(s.words.getD i []).foldl nx a=s.met.getD i a∧isW (s.words.getD i [])) ⟨rfl,fun i hi=>by
  obtain rfl:i=0:=by simpa using hi
  exact⟨rfl,fun c hc=>by simp at hc⟩⟩ (fun s k hk t c hc hs ht=>by
   unfold bvisit
   split
   ·exact ht
   refine⟨by simp[ht.1],fun i hi => ?_⟩;simp only[List.length_append,List.length_singleton] at hi;by_cases hit:i<t.met.length
   ·have h1:=ht.2 i hit;have e1:(t.words++[s.words.getD k []++[c]]).getD i []=t.words.getD i []:=by simp only[List.getD_eq_getElem?_getD];rw[List.getElem?_append_left (by rw[ht.1];exact hit)]
    have e2:(t.met++[nx (s.met.getD k a) c]).getD i a=t.met.getD i a:=by simp only[List.getD_eq_getElem?_getD];rw[List.getElem?_append_left hit]
    show((t.words++[s.words.getD k []++[c]]).getD i []).foldl nx a=(t.met++[nx (s.met.getD k a) c]).getD i a∧isW ((t.words++[s.words.getD k []++[c]]).getD i []);rw[e1,e2];exact h1
   obtain rfl:i=t.met.length:=by omega
   have h2:=hs.2 k hk;have e1:(t.words++[s.words.getD k []++[c]]).getD t.met.length []=s.words.getD k []++[c]:=by simp[← ht.1]
   have e2:(t.met++[nx (s.met.getD k a) c]).getD t.met.length a=nx (s.met.getD k a) c:=by simp
   show((t.words++[s.words.getD k []++[c]]).getD t.met.length []).foldl nx a=(t.met++[nx (s.met.getD k a) c]).getD t.met.length a∧isW ((t.words++[s.words.getD k []++[c]]).getD t.met.length []);rw[e1,e2,List.foldl_append,h2.1];exact⟨rfl,ZeW h2.2 (Zkb hc)⟩) k
 exact h.2
end
theorem Zex {α:Type} {en:α→Bool} {s:Bs α} {w:List Nat} {d:α} (hl:s.words.length=s.met.length) (h:Zip en s=some w):∃ i,i<s.met.length∧s.words.getD i []=w∧en (s.met.getD i d)=true:=by
 unfold Zip at h;rw[Option.map_eq_some_iff] at h;obtain⟨p,hp,rfl⟩:=h;obtain⟨h1,i,hi,hpi,-⟩:=List.find?_eq_some_iff_getElem.1 hp;rw[List.length_zip] at hi;have him:i<s.met.length:=by omega
 have hiw:i<s.words.length:=by omega
 rw[List.getElem_zip] at hpi;refine⟨i,him,?_,?_⟩
 ·rw[Zbm hiw,← hpi]
 rw[Zbm him];rw[← hpi] at h1;exact h1
theorem Zhg (a b:DfaD):∀ (w:List Nat) (s t:Int),w.foldl (Zaz a b) (s,t)=(runD a s w,runD b t w)
 | [],_,_=>rfl
 | c::w,s,t=>Zhg a b w (dnx a s c) (dnx b t c)
theorem ZoD {K:Nat} {a b:DfaD} {w:List Nat} (h:hitK K a b=some w):isW w∧accD a w≠accD b w:=by have hg:=(Zby (nx:=Zaz a b) (a:=((0,0):Int × Int)) K).2.1;obtain⟨i,hi,hw,he⟩:=Zex (d:=((0,0):Int × Int)) hg h;obtain⟨h1,h2⟩:=ZnH (nx:=Zaz a b) (a:=((0,0):Int × Int)) K i hi;rw[hw] at h1 h2;rw[Zhg] at h1;refine⟨h2,fun e => ?_⟩;unfold Zca at he;rw[← h1] at he;unfold accD den at e;simp only at he;rw[e] at he;simp at he
def shM (d:Int) (m:Int × Int × Int):Int × Int × Int:=(m.1+d,m.2.1,m.2.2+d)
def shN (n:NfaD) (d:Int):NfaD:=⟨n.states+d,n.moves.map (shM d),n.firsts.map (·+d),n.ends.map (·+d)⟩
theorem ZbF {α β:Type} (f:α→β) {l:List α} {k:Nat} {d x:α} (hk:k<l.length) (hx:x=l.getD k d):(l.take (k+1)).map f=(l.take k).map f++[f x]:=by rw[List.take_succ_eq_append_getElem hk,List.map_append,hx];simp[hk]
def ZhU (n:NfaD):NfaD:=⟨n.states+1,n.moves++(n.firsts.map fun t=>(n.states,-1,t))++(n.ends.map fun s=>(s,-1,n.states)),[n.states],[n.states]⟩
def Zif (p q:NfaD):NfaD:=⟨(shN q p.states).states,p.moves++(shN q p.states).moves++(p.ends.flatMap fun s=>(shN q p.states).firsts.map fun t=>(s,-1,t)),p.firsts,(shN q p.states).ends⟩
theorem Zjj (a b:DfaD):Zif (Za1 a) (Za1 b)=ZdP a b:=by
 unfold Zif ZdP shN Za1;simp only[List.map_cons,List.map_nil];congr 1
 ·show(b.next.length:Int)+(a.next.length:Int)=_;omega
 congr 1
 generalize eds a a.next.length=l
 induction l with
 | nil=>rfl
 | cons x l ih =>rw[List.flatMap_cons,List.map_cons,ih];simp
theorem ZiK (a:DfaD):ZhU (Za1 a)=Zeb a:=by unfold ZhU Zeb Za1;simp
theorem ZoX {u v:Nat} (h:pW u=pW v):u=v:=by rw[← Zod u,h,Zod]
def nxV (N:Nat) (n:NfaD) (v c:Nat):Nat:=stV N n.moves v (c:Int)
theorem ZpU (N K:Nat) (n:NfaD):metW N n K=(bat (nxV N n) (fstW N n) K).met.map pW:=by have h:=Zki (nx:=nxV N n) (nx':=nxW N n) (f:=pW) (a:=fstW N n) (fun x y h=>ZoX h) (fun x c=>(ZmH N n x c).symm) K;show(bat (nxW N n) (pW (fstW N n)) K).met=_;rw[h]
def gS (v:Nat):Int × Int:=((v:Int),0)
theorem Zo1 {u v:Nat} (h:gS u=gS v):u=v:=Int.ofNat.inj (congrArg Prod.fst h)
theorem ZpT (N K:Nat) (n:NfaD):metSM N n K=(bat (nxV N n) (fstW N n) K).met.map gS:=by have h:=Zki (nx:=nxV N n) (nx':=nxSM N n) (f:=gS) (a:=fstW N n) (fun x y h=>Zo1 h) (fun x c=>rfl) K;show(bat (nxSM N n) (gS (fstW N n)) K).met=_;rw[h]
theorem ZmK {α β:Type} [DecidableEq α] [DecidableEq β] {f:α→β} (hf:∀ x y,f x=f y→x=y) {nx:α→Nat→α} {nx':β→Nat→β} {en:α→Bool} {en':β→Bool} (hn:∀ x c,nx' (f x) c=f (nx x c)) (he:∀ x,en' (f x)=en x) (L:List α):Zat nx' en' (L.map f)=Zat nx en L:=by
 unfold Zat;rw[List.map_map,List.map_map];congr 1
 ·refine List.map_congr_left fun x _ => ?_
  show Zaf nx' (L.map f) (f x)=Zaf nx L x;unfold Zaf;refine List.map_congr_left fun c _ => ?_
  show((Zai (L.map f) (nx' (f x) c):Nat):Int)=_;rw[hn,Zgf fun y _ e=>hf _ _ e]
 exact List.map_congr_left fun x _=>he x
theorem ZkZ (N K:Nat) (n:NfaD):Zfy N K n=detM N K n:=by
 unfold Zfy detM;rw[ZpU N K n,ZpT N K n];simp only[List.length_map]
 rw[ZmK (f:=pW) (nx:=nxV N n) (nx':=nxW N n) (en:=fun v=>endV n v) (en':=enW n) (fun x y h=>ZoX h) (fun x c=>ZmH N n x c) (fun x=>Zo3 n x),
  ZmK (f:=gS) (nx:=nxV N n) (nx':=nxSM N n) (en:=fun v=>endV n v) (en':=enS n) (fun x y h=>Zo1 h) (fun x c=>rfl) (fun x=>rfl)]
end Go.Proofs.YtncekbbhgipdlaaGreat
namespace Go.Proofs.YtncekbbhgipdlaaGreat
open Go.RowKit Go.Maps
def Zdr (p:Int × Int):List Int:=[p.1,p.2]
structure L16W (lo hi:Nat) (w:World) (s:Bs (Int × Int)) (vl vw:Value):Prop where
 li:OIntSS 38 3 lo hi w vl (s.met.map Zdr)
 wo:w.ownsRow lo 9 1 vw s.words.length (wdCells s.words)
theorem L16W.below {lo hi:Nat} {w w':World} {s:Bs (Int × Int)} {vl vw:Value} (h:L16W lo hi w s vl vw) (hb:Below w.heap.size w w'):L16W lo hi w' s vl vw :=
 ⟨h.li.below hb,(Own.below (Zab h.wo) hb).1⟩
theorem L16W.row {lo hi:Nat} {w:World} {s:Bs (Int × Int)} {vl vw:Value} (h:L16W lo hi w s vl vw) (h0:0<s.met.length):∃ g off cap,vl = .slice (some ⟨g,off,none⟩) s.met.length cap∧s.met.length≤cap∧cap≤9223372036854775807∧g<w.heap.size ∧
  ∀ k,k<s.met.length→∃ rb ro rc,w.cell? ⟨g,off+k,none⟩=some (.slice (some ⟨rb,ro,none⟩) 2 rc)∧2≤rc∧rc≤9223372036854775807∧rb<w.heap.size∧w.cell? ⟨rb,ro,none⟩=some (.int .i64 (s.met.getD k (0,0)).1)∧w.cell? ⟨rb,ro+1,none⟩=some (.int .i64 (s.met.getD k (0,0)).2):=by
 obtain⟨a,cap,hv,h1,h2,h3⟩:=h.li.intSS.form;rw[List.length_map] at hv h1 h3;obtain⟨g,off,rfl,-,hg,hc⟩:=h3 h0;refine⟨g,off,cap,hv,h1,h2,hg,fun k hk => ?_⟩;obtain⟨a',cap',hc1,hl,hm,hr⟩:=hc k hk;have e:(s.met.map Zdr).getD k []=Zdr (s.met.getD k (0,0)):=by simp[hk]
 rw[e] at hc1 hl hr;obtain⟨b',off',rfl,-,hb',hcc⟩:=hr (by simp[Zdr]);exact⟨b',off',cap',hc1,hl,hm,hb',by simpa [Zdr] using hcc 0 (by simp[Zdr]),by simpa [Zdr] using hcc 1 (by simp[Zdr])⟩
theorem ZnM (w:World):(zeroValue 4).run Tryz.prog w = .ok (.bool false) w:=by kernel_rfl
end Go.Proofs.YtncekbbhgipdlaaGreat
namespace Go.Proofs.YtncekbbhgipdlaaGreat
open Go.RowKit
section
variable {α:Type} [DecidableEq α] {nx:α→Nat→α} {a:α} {en:α→Bool} {K:Nat}
theorem Zlq {F:List α} {x:α} (h:x∈F) (d:α):F.getD (Zai F x) d=x:=by have h1:=ZaR h;rw[Zbm h1];exact List.getElem_idxOf h1
theorem ZjR (hK:(bat nx a K).met.length≤K):∀ (w:List Nat),isW w→∀ x∈(bat nx a K).met,w.foldl nx x∈(bat nx a K).met∧runD (Zat nx en (bat nx a K).met) (Zai (bat nx a K).met x:Nat) w=(Zai (bat nx a K).met (w.foldl nx x):Nat)
 | [],_,x,hx=>⟨hx,rfl⟩
 | c::w,hw,x,hx=>by have hc:c<3:=hw c (by simp);have hx2:=ZdO hK hx hc;have h1:=ZaR hx;obtain⟨h2,h3⟩:=ZjR hK w (fun b hb=>hw b (by simp[hb])) (nx x c) hx2;refine⟨h2,?_⟩;unfold runD at *;rw[List.foldl_cons,List.foldl_cons,← h3,Zkd (a:=a) (by omega) (by omega) hc];unfold ZbK;rw[Int.toNat_natCast,Zlq hx]
theorem ZoS (hK:(bat nx a K).met.length≤K) {w:List Nat} (hw:isW w):accD (Zat nx en (bat nx a K).met) w=en (w.foldl nx a):=by
 have h0:=ZiC (nx:=nx) (a:=a) K;obtain⟨h1,h2⟩:=ZjR (en:=en) hK w hw a h0;have h3:Zai (bat nx a K).met a=0:=by have hp:=ZdE (nx:=nx) (a:=a) K;have hf:=ZgX (nx:=nx) (a:=a) K;have hn:=(Zby (nx:=nx) (a:=a) K).1;rw[Zbm hp] at hf;have:=List.Nodup.idxOf_getElem hn 0 hp;rw[hf] at this;exact this
 rw[h3] at h2;unfold accD;rw[show((0:Nat):Int)=0 from rfl] at h2;rw[h2,Zke (ZaR h1)];congr 1;exact List.getElem_idxOf _
end
theorem ZfE (d:DfaD) (s:Int):runD d s []=s:=rfl
theorem ZbG (d:DfaD) (s:Int) (c:Nat) (w:List Nat):runD d s (c::w)=runD d (dnx d s c) w:=rfl
theorem ZfO {c:Nat} {w:List Nat} (h:isW (c::w)):c<3∧isW w:=⟨h c (by simp),fun b hb=>h b (by simp[hb])⟩
theorem Zm6:isW []:=fun c hc=>by simp at hc
theorem Zo0 {c:Nat} {w:List Nat} (hc:c<3) (h:isW w):isW (c::w):=fun b hb=>by
 rcases List.mem_cons.1 hb with rfl|hb
 ·exact hc
 exact h b hb
theorem ZbY {d:DfaD} (hd:fine d) {s c:Nat} (hs:s<d.next.length) (hc:c<3):nxD d s c<d.next.length∧dnx d (s:Int) c=((nxD d s c:Nat):Int):=ZbV hd hs hc
theorem ZfF {d:DfaD} (hd:fine d):∀ (w:List Nat) {s:Nat},isW w→s<d.next.length→∃ t:Nat,t<d.next.length∧runD d (s:Int) w=(t:Int)
 | [],s,_,hs=>⟨s,hs,rfl⟩
 | c::w,s,hw,hs=>by obtain⟨h1,h2⟩:=ZfO hw;obtain⟨h3,h4⟩:=ZbY hd hs h1;rw[ZbG,h4];exact ZfF hd w h2 h3
theorem ZbQ (d:DfaD) (s:Nat):den d (s:Int)=enD d s:=by simp[den,enD]
theorem Zo5 {d:DfaD} (hd:fine d):∀ (w:List Nat) {s t:Nat},isW w→s<d.next.length→t<d.next.length→clD d s=clD d t→den d (runD d (s:Int) w)=den d (runD d (t:Int) w)
 | [],s,t,_,hs,ht,h=>by rw[ZfE,ZfE,ZbQ,ZbQ];exact ZcX hs ht h
 | c::w,s,t,hw,hs,ht,h=>by obtain⟨h1,h2⟩:=ZfO hw;obtain⟨h3,h4⟩:=ZbY hd hs h1;obtain⟨h5,h6⟩:=ZbY hd ht h1;rw[ZbG,ZbG,h4,h6];exact Zo5 hd w h2 h3 h5 (Zix (fun s c hs hc=>(ZbY hd hs hc).1) hs ht h c h1)
theorem ZhX {d:DfaD} (hd:fine d):∀ (i:Nat) {s t:Nat},s<d.next.length→t<d.next.length→(∀ w,isW w→den d (runD d (s:Int) w)=den d (runD d (t:Int) w))→clAt d.next.length (nxD d) (enD d) i s=clAt d.next.length (nxD d) (enD d) i t
 | 0,s,t,hs,ht,h=>by
  refine(ZhH hs ht).2 ?_;have:=h [] Zm6
  rwa [ZfE,ZfE,ZbQ,ZbQ] at this
 | i+1,s,t,hs,ht,h=>by
  refine(ZbH hs ht).2 ((Zax _).2 ⟨ZhX hd i hs ht h,fun c hc => ?_⟩);obtain⟨h3,h4⟩:=ZbY hd hs hc;obtain⟨h5,h6⟩:=ZbY hd ht hc;refine ZhX hd i h3 h5 fun w hw => ?_
  have:=h (c::w) (Zo0 hc hw)
  rwa [ZbG,ZbG,h4,h6] at this
theorem Zmk {d:DfaD} (hd:fine d) {s t:Nat} (hs:s<d.next.length) (ht:t<d.next.length) (h:∀ w,isW w→den d (runD d (s:Int) w)=den d (runD d (t:Int) w)):clD d s=clD d t:=ZhX hd _ hs ht h
theorem Zdh {d:DfaD} {s:Nat} (hs:s<d.next.length):clD d s<d.next.length:=by have:=(Zbl (d:=d) s hs).1;omega
theorem ZgR {d:DfaD} (hd:fine d) {s:Nat} (hs:s<d.next.length) {w:List Nat} (hw:isW w):den d (runD d ((clD d s:Nat):Int) w)=den d (runD d (s:Int) w) :=
 Zo5 hd w hw (Zdh hs) hs (Zbl s hs).2
theorem Zco {d:DfaD} (hf:fine d) (K:Nat):(∀ x∈(bat (nxM d) ((clD d 0:Nat):Int) K).met,∃ s:Nat,x=(s:Int)∧s<d.next.length∧clD d s=s)∧(bat (nxM d) ((clD d 0:Nat):Int) K).met.length≤d.next.length:=by
 have hl:1≤d.next.length:=hf.1
 have h1:∀ x∈(bat (nxM d) ((clD d 0:Nat):Int) K).met,∃ s:Nat,x=(s:Int)∧s<d.next.length∧clD d s=s:=by
  refine Zce (Q:=fun x=>∃ s:Nat,x=(s:Int)∧s<d.next.length∧clD d s=s) ?_ (fun x c hc hx => ?_) K
  ·exact⟨clD d 0,rfl,Zdh (by omega),(Zbl 0 (by omega)).2⟩
  obtain⟨s,rfl,hs,-⟩:=hx;have h2:=(ZbV hf hs hc).1;exact⟨clD d (nxD d s c),by simp[nxM],Zdh h2,(Zbl _ h2).2⟩
 refine⟨h1,?_⟩;have h2:=ZfK (Zby (nx:=nxM d) (a:=((clD d 0:Nat):Int)) K).1 (m:=Za2 d.next.length) (fun x hx=>by obtain⟨s,rfl,hs,-⟩:=h1 x hx;rw[Zcp];exact hs);rw[Zcm] at h2;exact h2
theorem ZmT {d:DfaD} (hd:fine d) {K:Nat} (hK:d.next.length≤K):minD d=Zat (nxM d) (den d) (bat (nxM d) ((clD d 0:Nat):Int) K).met:=by unfold minD;rw[ZbT (Zco hd _).2 hK]
theorem ZkR {d:DfaD} (hd:fine d):fine (minD d):=ZfS (Zco hd _).2 hd.2.1
theorem ZgJ {d:DfaD} (hd:fine d):∀ (w:List Nat) {s:Nat},isW w→s<d.next.length→∃ t:Nat,t<d.next.length∧w.foldl (nxM d) ((clD d s:Nat):Int)=((clD d t:Nat):Int)∧runD d (s:Int) w=(t:Int)
 | [],s,_,hs=>⟨s,hs,rfl,rfl⟩
 | c::w,s,hw,hs=>by
  obtain⟨h1,h2⟩:=ZfO hw;obtain⟨h3,h4⟩:=ZbY hd hs h1;obtain⟨t,ht,e1,e2⟩:=ZgJ hd w h2 h3;refine⟨t,ht,?_,by rw[ZbG,h4];exact e2⟩;have e3:nxM d ((clD d s:Nat):Int) c=((clD d (nxD d s c):Nat):Int):=by unfold nxM;rw[Int.toNat_natCast];congr 1;exact Zix (fun s c hs hc=>(ZbY hd hs hc).1) (Zdh hs) hs (Zbl s hs).2 c h1
  rw[List.foldl_cons,e3];exact e1
theorem ZmS {d:DfaD} (hd:fine d) {w:List Nat} (hw:isW w):accD (minD d) w=accD d w:=by unfold minD;rw[ZoS (Zco hd _).2 hw];obtain⟨t,ht,e1,e2⟩:=ZgJ hd w hw (show 0<d.next.length from hd.1);rw[e1,ZbQ];unfold accD;rw[show(0:Int)=((0:Nat):Int) from rfl,e2,ZbQ];exact ZcX (Zdh ht) ht (Zbl t ht).2
theorem ZmR {x y:DfaD} (hx:fine x) (hy:fine y) (h:∀ w,isW w→accD x w=accD y w):minD x=minD y:=by
 obtain⟨K,hK⟩:=eI (x.next.length+y.next.length);rw[ZmT hx (show x.next.length≤K by omega),ZmT hy (show y.next.length≤K by omega)];have lx:0<x.next.length:=hx.1;have ly:0<y.next.length:=hy.1
 let nq:Int × Int→Nat→Int × Int:=fun p c=>(nxM x p.1 c,nxM y p.2 c)
 let Q:Int × Int→Prop:=fun p=>∃ s t:Nat,p=((s:Int),(t:Int))∧s<x.next.length∧t<y.next.length∧clD x s=s∧clD y t=t∧∀ w,isW w→den x (runD x (s:Int) w)=den y (runD y (t:Int) w)
 let a:Int × Int:=(((clD x 0:Nat):Int),((clD y 0:Nat):Int))
 have h0:Q a:=⟨clD x 0,clD y 0,rfl,Zdh lx,Zdh ly,(Zbl 0 lx).2,(Zbl 0 ly).2,fun w hw=>by rw[ZgR hx lx hw,ZgR hy ly hw];exact h w hw⟩
 have hv:∀ p c,c<3→Q p→Q (nq p c):=by
  rintro p c hc ⟨s,t,rfl,hs,ht,-,-,hr⟩;obtain⟨h3,h4⟩:=ZbY hx hs hc;obtain⟨h5,h6⟩:=ZbY hy ht hc;refine⟨clD x (nxD x s c),clD y (nxD y t c),by simp[nq,nxM],Zdh h3,Zdh h5,(Zbl _ h3).2,(Zbl _ h5).2,fun w hw => ?_⟩;rw[ZgR hx h3 hw,ZgR hy h5 hw];have:=hr (c::w) (Zo0 hc hw)
  rwa [ZbG,ZbG,h4,h6] at this
 have f1:∀ p q,Q p→Q q→p.1=q.1→p=q:=by
  rintro p q ⟨s,t,rfl,hs,ht,-,e1,r1⟩ ⟨s',t',rfl,hs',ht',-,e2,r2⟩ he;simp only[Int.ofNat_inj] at he;subst he;have:=Zmk hy ht ht' fun w hw=>(r1 w hw).symm.trans (r2 w hw)
  rw[e1,e2] at this;rw[this]
 have f2:∀ p q,Q p→Q q→p.2=q.2→p=q:=by
  rintro p q ⟨s,t,rfl,hs,ht,e1,-,r1⟩ ⟨s',t',rfl,hs',ht',e2,-,r2⟩ he;simp only[Int.ofNat_inj] at he;subst he;have:=Zmk hx hs hs' fun w hw=>(r1 w hw).trans (r2 w hw).symm
  rw[e1,e2] at this;rw[this]
 have m1:=Zd4 (nx:=nq) (nx':=nxM x) (a:=a) (f:=Prod.fst) (Q:=Q) (en:=fun p=>den x p.1) (en':=den x) (K:=K) h0 hv f1 (fun _ _ _ _=>rfl) (fun _ _=>rfl);have m2:=Zd4 (nx:=nq) (nx':=nxM y) (a:=a) (f:=Prod.snd) (Q:=Q) (en:=fun p=>den x p.1) (en':=den y) (K:=K) h0 hv f2 (fun _ _ _ _=>rfl) (fun p hp=>by obtain⟨s,t,rfl,-,-,-,-,r⟩:=hp;exact(r [] Zm6).symm);exact m1.trans m2.symm
theorem Zpo {d:DfaD} (hd:fine d):minD (minD d)=minD d:=ZmR (ZkR hd) hd fun _ hw=>ZmS hd hw
theorem Zog {d:DfaD} (hd:fine d) (ht:Zbc d=d) (hr:∀ s t:Nat,s<d.next.length→t<d.next.length→(∀ w,isW w→den d (runD d (s:Int) w)=den d (runD d (t:Int) w))→s=t):minD d=d:=by
 have hc:∀ s,s<d.next.length→clD d s=s:=fun s hs=>hr _ _ (Zdh hs) hs fun w hw=>ZgR hd hs hw
 have h0:0<d.next.length:=hd.1
 have hb:=ZgY (nx:=dnx d) (nx':=nxM d) (a:=(0:Int)) (Q:=fun x=>∃ s:Nat,x=(s:Int)∧s<d.next.length) ⟨0,rfl,h0⟩ (by
  rintro x c hc ⟨s,rfl,hs⟩;obtain⟨h3,h4⟩:=ZbY hd hs hc;exact⟨_,h4,h3⟩) (by
  rintro x c hc' ⟨s,rfl,hs⟩;obtain⟨h3,h4⟩:=ZbY hd hs hc';unfold nxM;rw[Int.toNat_natCast,hc _ h3,h4]) d.next.length
 refine Eq.trans ?_ ht;unfold minD Zbc;rw[hc 0 h0,show((0:Nat):Int)=0 from rfl,← hb];unfold Zat;congr 1;refine List.map_congr_left fun x hx => ?_
 unfold Zaf;refine List.map_congr_left fun c hc' => ?_
 obtain⟨h1,-⟩:=Zb7 hd d.next.length;obtain⟨g1,g2⟩:=h1 x hx;obtain⟨s,rfl⟩:=Int.eq_ofNat_of_zero_le g1;obtain⟨h3,h4⟩:=ZbY hd (show s<d.next.length by omega) (List.mem_range.1 hc');unfold nxM;rw[Int.toNat_natCast,hc _ h3,h4]
theorem Zfc {α:Type} [DecidableEq α] {nx:α→Nat→α} {a:α} {en:α→Bool} {K:Nat} (hK:(bat nx a K).met.length≤K) {i:Nat} (hi:i<(bat nx a K).met.length) {w:List Nat} (hw:isW w) :
  den (Zat nx en (bat nx a K).met) (runD (Zat nx en (bat nx a K).met) (i:Int) w)=en (w.foldl nx ((bat nx a K).met.getD i a)):=by
 obtain⟨h1,h2⟩:=ZjR (en:=en) hK w hw _ (memD (d:=a) hi);rw[Zev hi (Zby K).1] at h2;rw[h2,Zke (ZaR h1)];congr 1;exact List.getElem_idxOf _
theorem ZjZ {d:DfaD} (hd:fine d) {s t:Nat} (hs:s<(minD d).next.length) (ht:t<(minD d).next.length) (h:∀ w,isW w→den (minD d) (runD (minD d) (s:Int) w)=den (minD d) (runD (minD d) (t:Int) w)):s=t:=by
 have hK:=(Zco hd d.next.length).2;have hin:=(Zco hd d.next.length).1;have hl:(minD d).next.length=(bat (nxM d) ((clD d 0:Nat):Int) d.next.length).met.length:=ZaS _ _ _;rw[hl] at hs ht;have h1:=hin _ (memD (d:=((clD d 0:Nat):Int)) hs);have h2:=hin _ (memD (d:=((clD d 0:Nat):Int)) ht);obtain⟨p,hp,hpl,hpc⟩:=h1;obtain⟨q,hq,hql,hqc⟩:=h2
 have key:p=q:=by
  rw[← hpc,← hqc];refine Zmk hd hpl hql fun w hw => ?_
  have h3:=h w hw;unfold minD at h3;rw[Zfc hK hs hw,Zfc hK ht hw,hp,hq] at h3;have e:=fun (r:Nat) (hr:r<d.next.length) (hc:clD d r=r)=>ZgJ hd w hw hr
  obtain⟨u,hu,u1,u2⟩:=e p hpl hpc;obtain⟨v,hv,v1,v2⟩:=e q hql hqc;rw[hpc] at u1;rw[hqc] at v1;rw[u1,v1,ZbQ,ZbQ] at h3;rw[u2,v2,ZbQ,ZbQ,← ZcX (Zdh hu) hu (Zbl u hu).2,h3];exact ZcX (Zdh hv) hv (Zbl v hv).2
 have e1:=Zev hs (Zby (nx:=nxM d) (a:=((clD d 0:Nat):Int)) d.next.length).1 ((clD d 0:Nat):Int);have e2:=Zev ht (Zby (nx:=nxM d) (a:=((clD d 0:Nat):Int)) d.next.length).1 ((clD d 0:Nat):Int);rw[hp] at e1;rw[hq,← key] at e2;exact e1.symm.trans e2
theorem Zof {d:DfaD} (hd:fine d):Zbc (minD d)=minD d:=ZnO (Zco hd _).2
def Strs (B:Nat) (w:World) (v:Value) (ws:List (List Nat)):Prop:=Sl B w v ws.length 1 (wdCells ws)
theorem Strs.below {B:Nat} {w w':World} {v:Value} {ws:List (List Nat)} (h:Strs B w v ws) (he:Below w.heap.size w w'):Strs B w' v ws:=Sl.below h he
theorem Strs.form {B:Nat} {w:World} {v:Value} {ws:List (List Nat)} (h:Strs B w v ws):∃ a cap,v = .slice a ws.length cap∧ws.length≤cap∧cap≤9223372036854775807 ∧
  (0<ws.length→∃ b off,a=some ⟨b,off,none⟩∧b<w.heap.size∧∀ j,j<ws.length→w.cell? ⟨b,off+j,none⟩=some (.string (wdB (ws.getD j [])))):=by
 obtain⟨hl,a,cap,hv,h1,h2,h3⟩:=h;refine⟨a,cap,hv,h1,h2,fun hn => ?_⟩;obtain⟨b,off,ha,hb,hlt,hc⟩:=h3 hn;refine⟨b,off,ha,hlt,fun j hj => ?_⟩;rw[hc j (by omega)];simp[hj]
def okWs (ws:List (List Nat)):Prop:=∀ x∈ws,isW x∧x.length≤400000
def LOk (st:List (List Nat)):Prop:=(∀ x∈st,isW x)∧∀ i,i<st.length→(st.getD i []).length≤i
theorem LOk.visit {β:Type} [DecidableEq β] {key:List Nat→β} {s:List (List Nat)} (h:LOk s) {w:List Nat} (hw:isW w) (hl:w.length≤s.length):LOk (kvisit key s w):=by
 unfold kvisit
 split
 ·exact h
 refine⟨fun x hx => ?_,fun i hi => ?_⟩
 ·rcases List.mem_append.1 hx with hx|hx
  ·exact h.1 x hx
  simp only[List.mem_singleton] at hx;rw[hx];exact hw
 simp only[List.length_append,List.length_singleton] at hi;by_cases hin:i<s.length
 ·have:=h.2 i hin;simp only[List.getD_eq_getElem?_getD] at this ⊢;rw[List.getElem?_append_left hin];exact this
 obtain rfl:i=s.length:=by omega
 simpa using hl
theorem LOk.row {β:Type} [DecidableEq β] {key:List Nat→β} {s:List (List Nat)} (h:LOk s) {k:Nat} (hk:k<s.length):∀ n,n≤3→LOk (krow key s (s.getD k []) n)∧s.length≤(krow key s (s.getD k []) n).length
 | 0,_=>⟨h,Nat.le_refl _⟩
 | n+1,hn=>by obtain⟨h1,h2⟩:=h.row (key:=key) hk n (by omega);have h3:=(Zhx (key:=key) (krow key s (s.getD k []) n) (s.getD k []++[n])).length_le;refine⟨h1.visit (ZeW (h.1 _ (memD hk)) (Zkb (by omega))) ?_,Nat.le_trans h2 h3⟩;have:=h.2 k hk;rw[List.length_append,List.length_singleton];omega
theorem LOk.kat {β:Type} [DecidableEq β] {key:List Nat→β} {s:List (List Nat)} (h:LOk s):∀ k,LOk (kat key s k)
 | 0=>h
 | k+1=>by
  have ih:=LOk.kat (key:=key) h k;by_cases hk:k<(Go.Proofs.YtncekbbhgipdlaaGreat.kat key s k).length
  ·rw[Zep hk];exact(ih.row hk 3 (by omega)).1
  rw[Zeq (by omega)];exact ih
theorem LOk.okWs {st:List (List Nat)} (h:LOk st) (hl:st.length≤1000):∀ x∈st,isW x∧x.length≤399999:=fun x hx=>by refine⟨h.1 x hx,?_⟩;obtain⟨i,hi,e⟩:=List.getElem_of_mem hx;have:=h.2 i hi;rw[Zbm hi,e] at this;omega
def hitD (d:DfaD) (g:DfaD):Option (List Nat):=hitP d g
theorem Znc (d g:DfaD):hitD d g=hitK Zpn d g:=rfl
theorem Zoe:Zpn≤1600:=Nat.le_refl _
theorem Zjl {d g:DfaD} {w:List Nat} (h:hitD d g=some w):isW w∧accD d w≠accD g w:=by rw[Znc] at h;exact ZoD h
theorem Znb (d:DfaD):ZpX d (hitD d):=fun _ _ _ h=>Zjl h
theorem ZoE {K:Nat} {a b:DfaD} {w:List Nat} (h:hitK K a b=some w):w.length≤K:=by have hg:=(Zby (nx:=Zaz a b) (a:=((0,0):Int × Int)) K).2.1;obtain⟨i,hi,hw,-⟩:=Zex (d:=((0,0):Int × Int)) hg h;rw[← hw];exact Zlb (nx:=Zaz a b) (a:=((0,0):Int × Int)) K _ (memD (by omega))
theorem ZoF {d g:DfaD} {w:List Nat} (h:hitD d g=some w):w.length≤1600:=by rw[Znc] at h;have:=ZoE h;have:=Zoe;omega
def preW (d:DfaD):Nat→List (List Nat)
 | 0=>[[]]
 | j+1=>(tabW d (hitD d) j).1
def resW (d:DfaD) (j:Nat):List (List Nat):=(tabW d (hitD d) j).2
def staW (d:DfaD) (j:Nat):List (List Nat):=(tabW d (hitD d) j).1
def gueW (d:DfaD) (j:Nat):DfaD:=gssW d (hitD d) j
theorem Zls {α:Type} {l m:List α} (h:l <+: m) (hm:m.Nodup):l.Nodup:=by obtain⟨t,rfl⟩:=h;exact(List.nodup_append.1 hm).1
theorem Zmu (d:DfaD) (j:Nat) {w:List Nat} (h:hitD d (gueW d j)=some w):resW d (j+1)=resW d j++[w.drop (cutW d (staW d j) (gueW d j) w+1)]:=by show(tabW d (hitD d) j).2++_=_;have h':hitD d (ZaB d (tabW d (hitD d) j).1 (tabW d (hitD d) j).2)=some w:=h;simp only[h',w_8];rfl
structure LTab (d:DfaD) (j:Nat):Prop where
 pre:LOk (preW d j)
 nd:((preW d j).map (rowW d (resW d j))).Nodup
 re:okWs (resW d j)
 rl:(resW d j).length≤j+1
 inv:LInv d (staW d j) (resW d j)
 st:LOk (staW d j)
theorem LTab.at {d:DfaD} (hd:Zah d.next d.ends=true):∀ j,(∀ i,i<j→(hitD d (gueW d i)).isSome=true)→LTab d j
 | 0,hy=>by
  have hinv:=(ZjJ hd (Znb d) 0 hy).1
  have h0:LOk [[]]:=⟨fun x hx=>by simp at hx;subst hx;intro c hc;simp at hc,fun i hi=>by
   obtain rfl:i=0:=by simpa using hi
   simp⟩
  exact⟨h0,by simp[preW],fun x hx=>by simp[resW,tabW] at hx;subst hx;exact⟨fun c hc=>by simp at hc,by simp⟩,by simp[resW,tabW],hinv,LOk.kat h0 _⟩
 | j+1,hy=>by
  have ih:=LTab.at hd j fun i hi=>hy i (by omega)
  have hinv:=(ZjJ hd (Znb d) (j+1) hy).1;obtain⟨w,hw⟩:=Option.isSome_iff_exists.1 (hy j (by omega));have hr:=Zmu d j hw;have hww:=(Zjl hw).1;have hpre:preW d (j+1) <+: staW d (j+1):=Zie (key:=rowW d (resW d (j+1))) (s0:=preW d (j+1)) (Nat.zero_le (d.next.length+1));refine⟨ih.st,?_,fun x hx => ?_,?_,hinv,LOk.kat (s:=preW d (j+1)) ih.st _⟩
  ·obtain⟨t,ht⟩:=hpre;have h1:=hinv.nd;refine Zls (m:=(staW d (j+1)).map (rowW d (resW d (j+1)))) ⟨t.map (rowW d (resW d (j+1))),?_⟩ h1;rw[← List.map_append,ht]
  ·rw[hr] at hx;rcases List.mem_append.1 hx with hx|hx
   ·exact ih.re x hx
   simp only[List.mem_singleton] at hx;subst hx;refine⟨ZkN hww _,?_⟩;have:=ZoF hw;rw[List.length_drop];omega
  rw[hr,List.length_append,List.length_singleton];have:=ih.rl;omega
/-! The guesses in memory. -/
def Ent.sub (X y:Ent):Prop:=(∀ w,X.holds w→y.holds w)∧∀ k,y.foot k→X.foot k
def GMem (X:Ent) (vals:List (Value × Value)) (gs:List DfaD):Prop:=vals.length=gs.length∧∀ i,i<gs.length →
 ∃ a1 c1 a2 c2 vs,vals.getD i (undef,undef)=(.slice a1 (gs.getD i ⟨[],[]⟩).next.length c1,.slice a2 (gs.getD i ⟨[],[]⟩).next.length c2) ∧
  Ent.sub X (Ent.rows 38 3 (.slice a1 (gs.getD i ⟨[],[]⟩).next.length c1) vs ((gs.getD i ⟨[],[]⟩).next.map intCells))∧Ent.sub X (Ent.row 4 1 (.slice a2 (gs.getD i ⟨[],[]⟩).next.length c2) (gs.getD i ⟨[],[]⟩).next.length (boolCells (gs.getD i ⟨[],[]⟩).ends))
theorem GMem.nil (X:Ent):GMem X [] []:=⟨rfl,fun i hi=>absurd hi (by simp)⟩
theorem GMem.snoc {X:Ent} {vals:List (Value × Value)} {gs:List DfaD} (h:GMem X vals gs) {g:DfaD} {a1 a2:Option Addr} {c1 c2:Nat} {vs:List Value} :
  GMem (Ent.all [X,Ent.rows 38 3 (.slice a1 g.next.length c1) vs (g.next.map intCells),Ent.row 4 1 (.slice a2 g.next.length c2) g.next.length (boolCells g.ends)]) (vals++[(.slice a1 g.next.length c1,.slice a2 g.next.length c2)]) (gs++[g]):=by
 refine⟨by simp[h.1],fun i hi => ?_⟩;simp only[List.length_append,List.length_singleton] at hi;by_cases hin:i<gs.length
 ·obtain⟨p1,q1,p2,q2,us,e,s1,s2⟩:=h.2 i hin;have e1:(gs++[g]).getD i ⟨[],[]⟩=gs.getD i ⟨[],[]⟩:=by simp only[List.getD_eq_getElem?_getD];rw[List.getElem?_append_left hin]
  have e2:(vals++[((Value.slice a1 g.next.length c1),(Value.slice a2 g.next.length c2))]).getD i (undef,undef)=vals.getD i (undef,undef):=by simp only[List.getD_eq_getElem?_getD];rw[List.getElem?_append_left (by rw[h.1];exact hin)]
  rw[e1,e2];exact⟨p1,q1,p2,q2,us,e,⟨fun w hw=>s1.1 w (hw X (by simp)),fun k hk=>⟨X,by simp,s1.2 k hk⟩⟩,⟨fun w hw=>s2.1 w (hw X (by simp)),fun k hk=>⟨X,by simp,s2.2 k hk⟩⟩⟩
 obtain rfl:i=gs.length:=by omega
 have e1:(gs++[g]).getD gs.length ⟨[],[]⟩=g:=by simp
 have e2:(vals++[((Value.slice a1 g.next.length c1),(Value.slice a2 g.next.length c2))]).getD gs.length (undef,undef)=((Value.slice a1 g.next.length c1),(Value.slice a2 g.next.length c2)):=by rw[← h.1];simp
 rw[e1,e2];exact⟨a1,c1,a2,c2,vs,rfl,⟨fun w hw=>hw _ (by simp),fun k hk=>⟨_,by simp,hk⟩⟩,⟨fun w hw=>hw _ (by simp),fun k hk=>⟨_,by simp,hk⟩⟩⟩
theorem Tryz.infoDfa:(Tryz.prog.info? 44).map (fun i=>(i.zero,i.size,i.bytes))=some (some (.agg #[.slice none 0 0,.slice none 0 0]),2,48):=by kernel_rfl
theorem GMem.own {w0 w:World} {L:List Ent} (h:St w0 w L) (i:Nat) {X:Ent} (hx:L[i]? = some X) {vals:List (Value × Value)} {gs:List DfaD} (hG:GMem X vals gs) {k:Nat} (hk:k<gs.length) :
  ∃ a1 c1 a2 c2,vals.getD k (undef,undef)=(.slice a1 (gs.getD k ⟨[],[]⟩).next.length c1,.slice a2 (gs.getD k ⟨[],[]⟩).next.length c2)∧(gs.getD k ⟨[],[]⟩).ends.length=(gs.getD k ⟨[],[]⟩).next.length ∧
   DfaO 38 3 4 w0.heap.size w.heap.size w (.agg #[.slice a1 (gs.getD k ⟨[],[]⟩).next.length c1,.slice a2 (gs.getD k ⟨[],[]⟩).next.length c2]) (gs.getD k ⟨[],[]⟩):=by
 obtain⟨a1,c1,a2,c2,vs,e,s1,s2⟩:=hG.2 k hk;have hil:i<L.length:=(List.getElem?_eq_some_iff.1 hx).1;have h1:=h.same i hx _ (s1.1 w) s1.2;have h2:=h.same i hx _ (s2.1 w) s2.2;have g1:=h1.intSS i (by rw[List.getElem?_set,if_pos rfl,if_pos hil]);have g2:=h2.row i (by rw[List.getElem?_set,if_pos rfl,if_pos hil]);have hl:(gs.getD k ⟨[],[]⟩).ends.length=(gs.getD k ⟨[],[]⟩).next.length:=by have:=g2.1;simp at this;simpa using this
 refine⟨a1,c1,a2,c2,e,hl,_,_,rfl,g1,?_⟩;unfold OBools;rw[hl];exact Zab g2
def xb (b x:Bool):Bool:=b != x
def flB (b:Bool) (g:DfaD):DfaD:=⟨g.next,g.ends.map (xb b)⟩
theorem Znn (b:Bool) (g:DfaD) (s:Int) (w:List Nat):runD (flB b g) s w=runD g s w:=rfl
theorem Zo2 {b:Bool} {g:DfaD} (h:Zah g.next g.ends=true):Zah (flB b g).next (flB b g).ends=true:=by
 have hl:=Zaj h;refine Ziu hl.1 hl.2.1 ?_ fun i hi=>ZaV h hi
 show(g.ends.map (xb b)).length=g.next.length;rw[List.length_map];exact hl.2.2
section
variable {key key':List Nat→List Bool} {f:List Bool→List Bool}
end
section
variable {b:Bool} {d M:DfaD}
end
def Zi8 (p:Int × Int):DfaD:=if p.1=1 then Zgm else if p.1=2 then oneD else minD ⟨[[2,2,2].set p.2.toNat 1,[2,2,2],[2,2,2]],[false,true,false]⟩
def oneQ (K:Nat) (k:Int) (a:DfaD):Option DfaD:=if k=8 then(Zfy 81 K (ZhU (Za1 a))).map minD else some (flB true a)
def twoQ (K:Nat) (k:Int) (a b:DfaD):Option DfaD :=
 if k=4 then(Zfy 81 K (Zif (Za1 a) (Za1 b))).map minD else if k=5 then(ZbJ K (fun p q=>p||q) a b).map minD else(ZbJ K (fun p q=>p&&q) a b).map minD
def Zfn (K:Nat) (p:Int × Int) (st:List DfaD):Option (List DfaD) :=
 if Zae p=0 then some (Zi8 p::st)
 else if Zae p=1 then
  match st with
  | a::r=>(oneQ K p.1 a).map (·::r)
  | []=>none
 else
  match st with
  | b::a::r=>(twoQ K p.1 a b).map (·::r)
  | _=>none
def runC (K:Nat):List (Int × Int)→List DfaD→Option (List DfaD)
 | [],st=>some st
 | p::ps,st=>(Zfn K p st).bind (runC K ps)
theorem ZnP {d:DfaD} (hd:fine d):Zbc (flB true d)=flB true (Zbc d):=by
 have hm:=(Zb7 hd d.next.length).1;unfold Zbc Zat flB;show DfaD.mk _ _=DfaD.mk _ _;congr 1;rw[List.map_map];refine List.map_congr_left fun x hx => ?_
 obtain⟨h1,h2⟩:=hm x hx;have h3:=hd.2.2.1;have hlt:x.toNat<d.ends.length:=by omega
 simp[den,hlt]
theorem Zpp {d:DfaD} (hd:Zah d.next d.ends=true) (hm:minD d=d):minD (flB true d)=flB true d:=by
 have hf:=ZaJ hd;have hF:=ZaJ (Zo2 (b:=true) hd);have ht:Zbc d=d:=by have:=Zof hf;rw[hm] at this;exact this
 refine Zog hF (by rw[ZnP hf,ht]) fun s t hs ht' h => ?_
 have hs:s<d.next.length:=hs;have ht':t<d.next.length:=ht';refine ZjZ hf (by rw[hm];exact hs) (by rw[hm];exact ht') fun w hw => ?_
 rw[hm];obtain⟨a,ha,hra⟩:=ZfF hf w hw hs;obtain⟨b,hb,hrb⟩:=ZfF hf w hw ht';have h1:=h w hw;rw[Znn,Znn,hra,hrb,ZbQ,ZbQ] at h1;rw[hra,hrb,ZbQ,ZbQ]
 have e:∀ i,i<d.next.length→enD (flB true d) i = !enD d i:=fun i hi=>by
  have h3:=(Zaj hd).2.2;have hi2:i<d.ends.length:=by omega
  simp[enD,flB,hi2,xb]
 rw[e a ha,e b hb] at h1;simpa using h1
theorem Zk2 {K:Nat} (hK:K=40) (t:Ex) {d:DfaD} (h:Zaq K t=some d):minD d=d:=by
 have key:∀ {y:DfaD},Zah y.next y.ends=true→Zak y=d→minD d=d:=fun {y} hy e=>by rw[← e,Zct (ZaJ hy)];exact Zpo (ZaJ hy)
 cases t with
 | zero=>simp only[Zaq,w_9] at h;exact key ZfJ h
 | one=>simp only[Zaq,w_9] at h;exact key Zh5 h
 | ltr c=>simp only[Zaq,w_9] at h;exact key (ZeV c) h
 | join a b =>simp only[Zaq,Option.bind_eq_some_iff,Option.map_eq_some_iff] at h;obtain⟨x,-,y,-,z,hz,e⟩:=h;exact key (Zdz hK hz) e
 | alt a b =>simp only[Zaq,Option.bind_eq_some_iff,Option.map_eq_some_iff] at h;obtain⟨x,-,y,-,z,hz,e⟩:=h;exact key (Zb2 hK hz) e
 | both a b =>simp only[Zaq,Option.bind_eq_some_iff,Option.map_eq_some_iff] at h;obtain⟨x,-,y,-,z,hz,e⟩:=h;exact key (Zb2 hK hz) e
 | neg a =>simp only[Zaq,Option.map_eq_some_iff] at h;obtain⟨x,hx,e⟩:=h;exact key (Zh8 (Zde hK a hx)) e
 | star a =>simp only[Zaq,Option.bind_eq_some_iff,Option.map_eq_some_iff] at h;obtain⟨x,-,z,hz,e⟩:=h;exact key (Zdz hK hz) e
theorem Zen {o:Option DfaD} (h:∀ d,o=some d→Zah d.next d.ends=true):o.map Zak=o.map minD:=by
 cases o with
 | none=>rfl
 | some d=>exact congrArg some (Zct (ZaJ (h d rfl)))
theorem Zpk (d:DfaD):negD d=flB true d:=by unfold negD flB;congr 1;exact List.map_congr_left fun x _=>by cases x<;>rfl
theorem ZmX:Zak Zgm=Zgm:=by decide +kernel
theorem Zoo:Zak oneD=oneD:=by decide +kernel
theorem Zmm {K:Nat} (hK:K=40):∀ (t:Ex) (rest:List (Int × Int)) (st:List DfaD),runC K (t.post++rest) st=(Zaq K t).bind fun d=>runC K rest (d::st):=by
 intro t
 induction t with
 | zero =>intro rest st;show(some (Zgm::st)).bind (runC K rest)=_;simp only[Zaq,ZmX];rfl
 | one =>intro rest st;show(some (oneD::st)).bind (runC K rest)=_;simp only[Zaq,Zoo];rfl
 | ltr c =>
  intro rest st;have e:Zfn K (3,(c.val:Int)) st=some (Zi8 (3,(c.val:Int))::st):=by unfold Zfn;rw[if_pos (ZdI c)]
  show(Zfn K (3,(c.val:Int)) st).bind (runC K rest)=_;rw[e];simp only[Zaq];rw[Zct (ZaJ (ZeV c))];rfl
 | join a b ha hb =>
  intro rest st;show runC K ((a.post++b.post++[(4,0)])++rest) st=_;rw[List.append_assoc,List.append_assoc,ha];simp only[Zaq];cases hx:Zaq K a with
  | none=>rfl
  | some x =>
   show runC K (b.post++([(4,0)]++rest)) (x::st)=_;rw[hb];show _=((Zaq K b).bind fun y=>(detM 81 K (ZdP x y)).map Zak).bind _;cases hy:Zaq K b with
   | none=>rfl
   | some y =>show((twoQ K 4 x y).map (·::st)).bind (runC K rest)=((detM 81 K (ZdP x y)).map Zak).bind _;rw[show twoQ K 4 x y=(detM 81 K (ZdP x y)).map Zak by rw[Zen fun d hd=>Zdz hK hd,← ZkZ,← Zjj];rfl];cases (detM 81 K (ZdP x y)).map Zak<;>rfl
 | alt a b ha hb =>
  intro rest st;show runC K ((a.post++b.post++[(5,0)])++rest) st=_;rw[List.append_assoc,List.append_assoc,ha];simp only[Zaq];cases hx:Zaq K a with
  | none=>rfl
  | some x =>
   show runC K (b.post++([(5,0)]++rest)) (x::st)=_;rw[hb];show _=((Zaq K b).bind fun y=>(ZbJ K (fun p q=>p||q) x y).map Zak).bind _;cases hy:Zaq K b with
   | none=>rfl
   | some y =>show((twoQ K 5 x y).map (·::st)).bind (runC K rest)=((ZbJ K (fun p q=>p||q) x y).map Zak).bind _;rw[show twoQ K 5 x y=(ZbJ K (fun p q=>p||q) x y).map Zak by rw[Zen fun d hd=>Zb2 hK hd];rfl];cases (ZbJ K (fun p q=>p||q) x y).map Zak<;>rfl
 | both a b ha hb =>
  intro rest st;show runC K ((a.post++b.post++[(6,0)])++rest) st=_;rw[List.append_assoc,List.append_assoc,ha];simp only[Zaq];cases hx:Zaq K a with
  | none=>rfl
  | some x =>
   show runC K (b.post++([(6,0)]++rest)) (x::st)=_;rw[hb];show _=((Zaq K b).bind fun y=>(ZbJ K (fun p q=>p&&q) x y).map Zak).bind _;cases hy:Zaq K b with
   | none=>rfl
   | some y =>show((twoQ K 6 x y).map (·::st)).bind (runC K rest)=((ZbJ K (fun p q=>p&&q) x y).map Zak).bind _;rw[show twoQ K 6 x y=(ZbJ K (fun p q=>p&&q) x y).map Zak by rw[Zen fun d hd=>Zb2 hK hd];rfl];cases (ZbJ K (fun p q=>p&&q) x y).map Zak<;>rfl
 | neg a ha =>
  intro rest st;show runC K ((a.post++[(7,0)])++rest) st=_;rw[List.append_assoc,ha];simp only[Zaq];cases hx:Zaq K a with
  | none=>rfl
  | some x =>have hok:=Zde hK a hx;show runC K rest (flB true x::st)=runC K rest (Zak (negD x)::st);rw[Zct (ZaJ (Zh8 hok)),Zpk,Zpp hok (Zk2 hK a hx)]
 | star a ha =>
  intro rest st;show runC K ((a.post++[(8,0)])++rest) st=_;rw[List.append_assoc,ha];simp only[Zaq];cases hx:Zaq K a with
  | none=>rfl
  | some x =>show((oneQ K 8 x).map (·::st)).bind (runC K rest)=((detM 81 K (Zeb x)).map Zak).bind _;rw[show oneQ K 8 x=(detM 81 K (Zeb x)).map Zak by rw[Zen fun d hd=>Zdz hK hd,← ZkZ,← ZiK];rfl];cases (detM 81 K (Zeb x)).map Zak<;>rfl
theorem Zlj {K:Nat} (hK:K=40) (t:Ex):runC K t.post []=(Zaq K t).map fun d=>[d]:=by have h:=Zmm hK t [] [];rw[List.append_nil] at h;rw[h];cases Zaq K t<;>rfl
theorem Zop {p:Int × Int} (h:pOk p=true) (hn:Zae p=0):Zah (Zi8 p).next (Zi8 p).ends=true:=by
 unfold Zi8
 split
 ·exact ZfJ
 split
 ·exact Zh5
 rename_i h1 h2
 have h3:p.1=3∧0≤p.2∧p.2≤2:=by
  unfold Zae at hn;rw[if_pos h] at hn;simp only[pOk,inB,Bool.and_eq_true,Bool.or_eq_true,decide_eq_true_eq,Bool.not_eq_true',decide_eq_false_iff_not] at h
  split at hn
  ·omega
  split at hn<;>omega
 obtain⟨c,hc⟩:∃ c:Fin 3,p.2.toNat=c.val:=⟨⟨p.2.toNat,by omega⟩,rfl⟩;rw[hc];have:=Zb1 (ZeV c);rw[Zct (ZaJ (ZeV c))] at this;exact this
theorem Zi5 {d:DfaD} (h:Zah d.next d.ends=true):Zah (minD d).next (minD d).ends=true:=by rw[← Zct (ZaJ h)];exact Zb1 h
end Go.Proofs.YtncekbbhgipdlaaGreat
